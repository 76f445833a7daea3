/- Contract of evaluate.power 74. Contract of evaluate.root 75. Contracts of Neg, Cmp, of their references, and of the reference's Sub. Contract of evaluate.negated 70. Contract of evaluate.same 71. Contract of evaluate.absolute 76. -/
import Derived.OrdersHeld
import Derived.Test.YtknpigdpepmimaaGreatDoorM14
import Derived.Test.YtknpigdpepmimaaGreatDoorM23
import Derived.Test.YtknpigdpepmimaaGreatDoorM11
namespace Go.Proofs.YtknpigdpepmimaaGreatDoor
open Go.RowKit
set_option maxRecDepth 100000 in
set_option maxHeartbeats 4000000 in
theorem pow_any' (x y : V) (hx : x.ok) (hy : y.ok) (b o c : Nat) (w : World) (h1 : C9 w b o x) (h2 : C9 w b (o + 9) y) : Calls Tryz.prog 74 #[.slice (some ⟨b, o, none⟩) 2 c] w fun r w' => r = .returned (.tuple #[.agg (powV x y).1.cells, .int .i64 (powV x y).2]) ∧ Below w.heap.size w w' := by
  have HX := Lib.hid hx.bnd
  have HY := Lib.hid hy.bnd
  have HNX := Lib.hid fun w => number_val x w
  have HPU := Lib.hid fun w => pure_any y w
  have HAD := Lib.hid fun w => Q.pow_any x.num x.den y.num w HX.out.1 HX.out.2.1 HX.out.2.2.1 HX.out.2.2.2 HY.out.1 HY.out.2.1
  have HDM := Lib.hid fun w => dpow_any x.dim y.num w
  have HE : Hid (powV x y = if y.dim = zD then (if y.den = 1 then (if x.num = 0 ∧ y.num < 0 then (zV, 10) else joinQ (Q.powQ x.num x.den y.num) (dpowQ x.dim y.num).1 (dpowQ x.dim y.num).2) else (zV, 17)) else (zV, 16)) := rfl
  generalize powV x y = R at *
  unfold Q.Res.val at HAD
  generalize Q.powQ x.num x.den y.num = q at *
  obtain ⟨qn, qd, qe⟩ := q
  generalize dpowQ x.dim y.num = g at *
  obtain ⟨gd, ge⟩ := g
  have HJ := Lib.hid fun w => join_any qn qd qe gd ge w
  have HB := Lib.hid (b1 w (.cells #[.int .i64 0, .int .i64 0, .int .i64 0, .int .i64 0, .int .i64 0, .int .i64 0, .int .i64 0, .int .i64 0, .int .i64 0] 44))
  have HK : Hid (K9 (w.alloc (.cells #[.int .i64 0, .int .i64 0, .int .i64 0, .int .i64 0, .int .i64 0, .int .i64 0, .int .i64 0, .int .i64 0, .int .i64 0] 44)) w.heap.size zV) := K9.new w zV
  have H1 := Lib.hid (h1.reach HB.out)
  have H2 := Lib.hid (h2.reach HB.out)
  clear h1 h2 hx hy HX HY
  unfold V.cells at HNX HPU
  unfold Dm.cells at HJ HDM
  go_enter Tryz.func74, Tryz.ntmps74
  go_upto_region 1 with (fail)
  generalize w.alloc (.cells #[.int .i64 0, .int .i64 0, .int .i64 0, .int .i64 0, .int .i64 0, .int .i64 0, .int .i64 0, .int .i64 0, .int .i64 0] 44) = w1 at *
  go_cut [4, 5] (fun s4 s5 wx => ∃ p q : Nat, s4 = .pointer (some ⟨p, 0, none⟩) ∧ s5 = .pointer (some ⟨q, 0, none⟩) ∧ Aside (P9 w1 wx p x) ∧ Aside (P9 w1 wx q y) ∧ Aside (Below w1.heap.size w1 wx))
  case first =>
    go_region_held_law (fun w' => (w'.cell? ⟨b, o, none⟩ = some (.int .i64 x.num) ∧ w'.cell? ⟨b, o + 1, none⟩ = some (.int .i64 x.den) ∧ w'.cell? ⟨b, o + 2, none⟩ = some (.int .i64 x.dim.a) ∧ w'.cell? ⟨b, o + 3, none⟩ = some (.int .i64 x.dim.b) ∧ w'.cell? ⟨b, o + 4, none⟩ = some (.int .i64 x.dim.c) ∧ w'.cell? ⟨b, o + 5, none⟩ = some (.int .i64 x.dim.d) ∧ w'.cell? ⟨b, o + 6, none⟩ = some (.int .i64 x.dim.e) ∧ w'.cell? ⟨b, o + 7, none⟩ = some (.int .i64 x.dim.f) ∧ w'.cell? ⟨b, o + 8, none⟩ = some (.int .i64 x.dim.g)) ∧ (w'.cell? ⟨b, o + 9, none⟩ = some (.int .i64 y.num) ∧ w'.cell? ⟨b, o + 9 + 1, none⟩ = some (.int .i64 y.den) ∧ w'.cell? ⟨b, o + 9 + 2, none⟩ = some (.int .i64 y.dim.a) ∧ w'.cell? ⟨b, o + 9 + 3, none⟩ = some (.int .i64 y.dim.b) ∧ w'.cell? ⟨b, o + 9 + 4, none⟩ = some (.int .i64 y.dim.c) ∧ w'.cell? ⟨b, o + 9 + 5, none⟩ = some (.int .i64 y.dim.d) ∧ w'.cell? ⟨b, o + 9 + 6, none⟩ = some (.int .i64 y.dim.e) ∧ w'.cell? ⟨b, o + 9 + 7, none⟩ = some (.int .i64 y.dim.f) ∧ w'.cell? ⟨b, o + 9 + 8, none⟩ = some (.int .i64 y.dim.g))) ((refine S18 H1.out H2.out ?_; repeat (first | with_reducible exact Below.refl _ _ | with_reducible apply bl_dr | with_reducible apply bl_al | with_reducible refine bl_st ?_ hk2 _ | with_reducible refine bl_tr ?_ (by assumption)))) (fail)
    · go_wp2_with fail
      go_meet
      case rel => exact ⟨_, _, rfl, rfl, P9.dr ((P9.new (Below.refl _ _) x).reach (b1 _ _)), by have := P9.new (b1 w1 (.cells x.cells 44)) y; rw [World.size_alloc] at this; exact this, bl_dr (b2 _ _ _)⟩
    · go_wp2_with fail
      go_meet
      case rel => exact ⟨_, _, rfl, rfl, by have := P9.new (b1 w1 (.cells y.cells 44)) x; rw [World.size_alloc] at this; exact this, P9.dr ((P9.new (Below.refl _ _) y).reach (b1 _ _)), bl_dr (b2 _ _ _)⟩
  case rest =>
    obtain ⟨p, q, rfl, rfl, HP, HQ, HBc⟩ := hcut
    rename World => wc
    have HBw := Lib.hid (bl_tr HB.out HBc.out)
    have HK1 := Lib.hid (HK.out.reach HBc.out)
    clear H1 H2
    obtain ⟨⟨⟨q0, q1⟩, q2, q3, q4, q5, q6, q7, q8⟩, _, _⟩ := HQ.out.1.cells
    go_wp2_with fail
    refine (HPU.out _).mono ?_
    rintro r w2 ⟨rfl, hb2⟩
    have HP2 := Lib.hid (HP.out.reach hb2)
    have HQ2 := Lib.hid (HQ.out.reach hb2)
    have HK2 := Lib.hid (HK1.out.reach hb2)
    have HB2 := Lib.hid (bl_tr HBw.out hb2)
    clear hb2 q0 q1 q2 q3 q4 q5 q6 q7 q8
    obtain ⟨⟨⟨p0, p1⟩, p2, p3, p4, p5, p6, p7, p8⟩, _, _⟩ := HP2.out.1.cells
    obtain ⟨⟨⟨q0, q1⟩, q2, q3, q4, q5, q6, q7, q8⟩, _, _⟩ := HQ2.out.1.cells
    obtain ⟨⟨⟨z0, z1⟩, z2, z3, z4, z5, z6, z7, z8⟩, zf, _⟩ := HK2.out.cells
    by_cases hd : y.dim = zD
    · replace HE := Lib.hid (HE.out.trans (if_pos hd))
      rw [decide_eq_true hd]
      clear hd
      by_cases hn : y.den = 1
      · replace HE := Lib.hid (HE.out.trans (if_pos hn))
        have hnb : (y.den != 1) = false := by simpa using hn
        rw [hn] at q1
        clear hn hnb
        by_cases h0 : x.num = 0 ∧ y.num < 0
        · have HR : Hid (R = (zV, 10)) := HE.out.trans (if_pos h0)
          obtain ⟨h0a, h0b⟩ := h0
          rw [h0a] at p0
          go_wp2_with fail
          rw [HR.out]
          refine bodyPost_ret (v := .tuple #[.agg zV.cells, .int .i64 10]) (by simp [results, Tryz.results74, go_sem, V.cells, zV, zD, z0, z1, z2, z3, z4, z5, z6, z7, z8]) rfl ⟨rfl, ?_⟩
          exact below9 HB2.out (b := w.heap.size) (Nat.le_refl _) zV
        · replace HE := Lib.hid (HE.out.trans (if_neg h0))
          rw [← HE.out] at HJ
          clear HE
          obtain ⟨jv, je⟩ := R
          unfold V.cells at HJ
          go_upto_region 6 with (fail)
          go_cut [26] (fun s26 wx => s26 = .bool false ∧ w2 = wx)
          case first =>
            by_cases hx0 : x.num = 0
            · have hy0 : ¬ y.num < 0 := fun h => h0 ⟨hx0, h⟩
              rw [hx0] at p0
              go_wp2_with fail
              go_meet
              case rel => exact ⟨rfl, rfl⟩
            · go_wp2_with fail
              go_meet
              case rel => exact ⟨rfl, rfl⟩
          case rest =>
            obtain ⟨rfl, rfl⟩ := hcut
            clear z0 z1 z2 z3 z4 z5 z6 z7 z8 zf
            go_upto_region 8 with (fail)
            go_cut [6, 7] (fun s6 s7 wx => ∃ m : Nat, s6 = .pointer (some ⟨m, 0, none⟩) ∧ s7 = .int .i64 qe ∧ Aside (P2 w2 wx m qn qd) ∧ Aside (Below w2.heap.size w2 wx))
            case first =>
              go_region_held_law (fun w' => (w'.cell? ⟨p, 0, none⟩ = some (.int .i64 x.num) ∧ w'.cell? ⟨p, 0 + 1, none⟩ = some (.int .i64 x.den) ∧ w'.cell? ⟨p, 0 + 2, none⟩ = some (.int .i64 x.dim.a) ∧ w'.cell? ⟨p, 0 + 3, none⟩ = some (.int .i64 x.dim.b) ∧ w'.cell? ⟨p, 0 + 4, none⟩ = some (.int .i64 x.dim.c) ∧ w'.cell? ⟨p, 0 + 5, none⟩ = some (.int .i64 x.dim.d) ∧ w'.cell? ⟨p, 0 + 6, none⟩ = some (.int .i64 x.dim.e) ∧ w'.cell? ⟨p, 0 + 7, none⟩ = some (.int .i64 x.dim.f) ∧ w'.cell? ⟨p, 0 + 8, none⟩ = some (.int .i64 x.dim.g)) ∧ (w'.cell? ⟨q, 0, none⟩ = some (.int .i64 y.num) ∧ w'.cell? ⟨q, 0 + 1, none⟩ = some (.int .i64 y.den) ∧ w'.cell? ⟨q, 0 + 2, none⟩ = some (.int .i64 y.dim.a) ∧ w'.cell? ⟨q, 0 + 3, none⟩ = some (.int .i64 y.dim.b) ∧ w'.cell? ⟨q, 0 + 4, none⟩ = some (.int .i64 y.dim.c) ∧ w'.cell? ⟨q, 0 + 5, none⟩ = some (.int .i64 y.dim.d) ∧ w'.cell? ⟨q, 0 + 6, none⟩ = some (.int .i64 y.dim.e) ∧ w'.cell? ⟨q, 0 + 7, none⟩ = some (.int .i64 y.dim.f) ∧ w'.cell? ⟨q, 0 + 8, none⟩ = some (.int .i64 y.dim.g))) ((refine T18 HP2.out.1 HQ2.out.1 ?_; repeat (first | with_reducible exact Below.refl _ _ | with_reducible apply bl_dr | with_reducible apply bl_al | with_reducible refine bl_st ?_ hk2 _ | with_reducible refine bl_tr ?_ (by assumption)))) (first | (go_at_call 49; (with_reducible refine (HNX.out _).mono ?_); rintro r wz ⟨rfl, hbz⟩; (first | (have hk := P2.reach (P2.new (w0 := w2) (by show Below _ _ _; repeat (first | with_reducible exact Below.refl _ _ | with_reducible apply bl_dr | with_reducible apply bl_al | with_reducible refine bl_st ?_ hk2 _ | with_reducible refine bl_tr ?_ (by assumption))) 0 0) hbz; obtain ⟨⟨k0, k1⟩, kf, _⟩ := hk.1.cells; have hk2 := hk.2) | (have hk := P2.reach (P2.dr (P2.new (w0 := w2) (by show Below _ _ _; repeat (first | with_reducible exact Below.refl _ _ | with_reducible apply bl_dr | with_reducible apply bl_al | with_reducible refine bl_st ?_ hk2 _ | with_reducible refine bl_tr ?_ (by assumption))) 0 0)) hbz; obtain ⟨⟨k0, k1⟩, kf, _⟩ := hk.1.cells; have hk2 := hk.2) | (have hk := P2.reach (by assumption) hbz; obtain ⟨⟨k0, k1⟩, kf, _⟩ := hk.1.cells; have hk2 := hk.2) | skip)) | (go_at_call 44; (with_reducible refine (HAD.out _).mono ?_); rintro r wz ⟨rfl, hbz⟩; (first | (have hk := P2.reach (P2.new (w0 := w2) (by show Below _ _ _; repeat (first | with_reducible exact Below.refl _ _ | with_reducible apply bl_dr | with_reducible apply bl_al | with_reducible refine bl_st ?_ hk2 _ | with_reducible refine bl_tr ?_ (by assumption))) 0 0) hbz; obtain ⟨⟨k0, k1⟩, kf, _⟩ := hk.1.cells; have hk2 := hk.2) | (have hk := P2.reach (P2.dr (P2.new (w0 := w2) (by show Below _ _ _; repeat (first | with_reducible exact Below.refl _ _ | with_reducible apply bl_dr | with_reducible apply bl_al | with_reducible refine bl_st ?_ hk2 _ | with_reducible refine bl_tr ?_ (by assumption))) 0 0)) hbz; obtain ⟨⟨k0, k1⟩, kf, _⟩ := hk.1.cells; have hk2 := hk.2) | (have hk := P2.reach (by assumption) hbz; obtain ⟨⟨k0, k1⟩, kf, _⟩ := hk.1.cells; have hk2 := hk.2) | skip)))
              all_goals
                go_wp2_with fail
                go_meet
                case rel => exact ⟨_, rfl, rfl, (by show P2 _ _ _ _ _; first | with_reducible exact P2.set hk _ _ | with_reducible exact P2.new (by show Below _ _ _; repeat (first | with_reducible exact Below.refl _ _ | with_reducible apply bl_dr | with_reducible apply bl_al | with_reducible refine bl_st ?_ hk2 _ | with_reducible refine bl_tr ?_ (by assumption))) _ _ | with_reducible exact P2.dr (P2.new (by show Below _ _ _; repeat (first | with_reducible exact Below.refl _ _ | with_reducible apply bl_dr | with_reducible apply bl_al | with_reducible refine bl_st ?_ hk2 _ | with_reducible refine bl_tr ?_ (by assumption))) _ _)), (by show Below _ _ _; repeat (first | with_reducible exact Below.refl _ _ | with_reducible apply bl_dr | with_reducible apply bl_al | with_reducible refine bl_st ?_ hk2 _ | with_reducible refine bl_tr ?_ (by assumption)))⟩
            case rest =>
              obtain ⟨m, rfl, rfl, HM, HBd⟩ := hcut
              rename World => wd
              have HK3 := Lib.hid (HK2.out.reach HBd.out)
              have HB3 := Lib.hid (bl_tr HB2.out HBd.out)
              have HP3 := Lib.hid (HP2.out.reach HBd.out)
              have HQ3 := Lib.hid (HQ2.out.reach HBd.out)
              clear p0 p1 p2 p3 p4 p5 p6 p7 p8 q0 q1 q2 q3 q4 q5 q6 q7 q8
              obtain ⟨⟨⟨p0, p1⟩, p2, p3, p4, p5, p6, p7, p8⟩, _, _⟩ := HP3.out.1.cells
              obtain ⟨⟨⟨q0, q1⟩, q2, q3, q4, q5, q6, q7, q8⟩, _, _⟩ := HQ3.out.1.cells
              go_wp2_with fail
              refine (HDM.out _).mono ?_
              rintro r w4 ⟨rfl, hb4⟩
              have HB5 := Lib.hid (bl_tr hb4 (b1 w4 (.cells #[.int .i64 gd.a, .int .i64 gd.b, .int .i64 gd.c, .int .i64 gd.d, .int .i64 gd.e, .int .i64 gd.f, .int .i64 gd.g] 42)))
              have HM7 := Lib.hid (P7.new (Below.refl w4.heap.size w4) gd)
              go_upto_region 10 with (fail)
              generalize w4.alloc (.cells #[.int .i64 gd.a, .int .i64 gd.b, .int .i64 gd.c, .int .i64 gd.d, .int .i64 gd.e, .int .i64 gd.f, .int .i64 gd.g] 42) = w5 at *
              have HK5 := Lib.hid (HK3.out.reach HB5.out)
              have HBw5 := Lib.hid (bl_tr HB3.out HB5.out)
              have HM5 := Lib.hid (HM.out.reach HB5.out)
              clear p0 p1 p2 p3 p4 p5 p6 p7 p8 q0 q1 q2 q3 q4 q5 q6 q7 q8 hb4
              obtain ⟨⟨m0, m1⟩, _, _⟩ := HM5.out.1.cells
              obtain ⟨⟨g0, g1, g2, g3, g4, g5, g6⟩, _, _⟩ := HM7.out.1.cells
              go_wp2_with fail
              refine (HJ.out _).mono ?_
              rintro r w7 ⟨rfl, hb7⟩
              have HK7 := Lib.hid (HK5.out.reach hb7)
              have HBw7 := Lib.hid (bl_tr HBw5.out hb7)
              clear hb7 m0 m1 g0 g1 g2 g3 g4 g5 g6
              obtain ⟨⟨⟨z0, z1⟩, z2, z3, z4, z5, z6, z7, z8⟩, zf, _⟩ := HK7.out.cells
              go_wp2_with fail
              refine bodyPost_ret (v := .tuple #[.agg jv.cells, .int .i64 je]) (by simp [results, Tryz.results74, go_sem, V.cells, z0, z1, z2, z3, z4, z5, z6, z7, z8]) rfl ⟨rfl, ?_⟩
              exact below9 HBw7.out (b := w.heap.size) (Nat.le_refl _) jv
      · have HR : Hid (R = (zV, 17)) := HE.out.trans (if_neg hn)
        have hnb : (y.den != 1) = true := by simpa using hn
        go_wp2_with fail
        rw [HR.out]
        refine bodyPost_ret (v := .tuple #[.agg zV.cells, .int .i64 17]) (by simp [results, Tryz.results74, go_sem, V.cells, zV, zD, z0, z1, z2, z3, z4, z5, z6, z7, z8]) rfl ⟨rfl, ?_⟩
        exact below9 HB2.out (b := w.heap.size) (Nat.le_refl _) zV
    · have HR : Hid (R = (zV, 16)) := HE.out.trans (if_neg hd)
      rw [decide_eq_false hd]
      go_wp2_with fail
      rw [HR.out]
      refine bodyPost_ret (v := .tuple #[.agg zV.cells, .int .i64 16]) (by simp [results, Tryz.results74, go_sem, V.cells, zV, zD, z0, z1, z2, z3, z4, z5, z6, z7, z8]) rfl ⟨rfl, ?_⟩
      exact below9 HB2.out (b := w.heap.size) (Nat.le_refl _) zV
end Go.Proofs.YtknpigdpepmimaaGreatDoor

namespace Go.Proofs.YtknpigdpepmimaaGreatDoor
open Go.RowKit
set_option maxRecDepth 100000 in
set_option maxHeartbeats 4000000 in
theorem roo_any (x : V) (hx : x.ok) (b o c : Nat) (w : World) (h1 : C9 w b o x) : Calls Tryz.prog 75 #[.slice (some ⟨b, o, none⟩) 1 c] w fun r w' => r = .returned (.tuple #[.agg (rooV x).1.cells, .int .i64 (rooV x).2]) ∧ Below w.heap.size w w' := by
  have HX := Lib.hid hx.bnd
  have HNX := Lib.hid fun w => number_val x w
  have HAD := Lib.hid fun w => Q.root_any x.num x.den w HX.out.1 HX.out.2.1 HX.out.2.2.1 HX.out.2.2.2
  have HDM := Lib.hid fun w => droot_any x.dim w
  have HE : Hid (rooV x = if (drootQ x.dim).2 = 0 then joinQ (Q.rootQ x.num x.den) (drootQ x.dim).1 0 else (zV, 16)) := rfl
  generalize rooV x = R at *
  unfold Q.Res.val at HAD
  generalize Q.rootQ x.num x.den = q at *
  obtain ⟨qn, qd, qe⟩ := q
  generalize drootQ x.dim = g at *
  obtain ⟨gd, ge⟩ := g
  have HJ := Lib.hid fun w => join_any qn qd qe gd 0 w
  have HB := Lib.hid (b1 w (.cells #[.int .i64 0, .int .i64 0, .int .i64 0, .int .i64 0, .int .i64 0, .int .i64 0, .int .i64 0, .int .i64 0, .int .i64 0] 44))
  have HK : Hid (K9 (w.alloc (.cells #[.int .i64 0, .int .i64 0, .int .i64 0, .int .i64 0, .int .i64 0, .int .i64 0, .int .i64 0, .int .i64 0, .int .i64 0] 44)) w.heap.size zV) := K9.new w zV
  have H1 := Lib.hid (h1.reach HB.out)
  clear h1 hx HX
  unfold V.cells at HNX
  unfold Dm.cells at HJ HDM
  go_enter Tryz.func75, Tryz.ntmps75
  go_upto_region 1 with (fail)
  generalize w.alloc (.cells #[.int .i64 0, .int .i64 0, .int .i64 0, .int .i64 0, .int .i64 0, .int .i64 0, .int .i64 0, .int .i64 0, .int .i64 0] 44) = w1 at *
  obtain ⟨⟨p0, p1⟩, p2, p3, p4, p5, p6, p7, p8⟩ := H1.out
  go_wp2_with fail
  refine (HDM.out _).mono ?_
  rintro r w2 ⟨rfl, hb2⟩
  have HB2 := Lib.hid (bl_tr hb2 (b1 w2 (.cells #[.int .i64 gd.a, .int .i64 gd.b, .int .i64 gd.c, .int .i64 gd.d, .int .i64 gd.e, .int .i64 gd.f, .int .i64 gd.g] 42)))
  have HM7 := Lib.hid (P7.new (Below.refl w2.heap.size w2) gd)
  go_upto_region 2 with (fail)
  generalize w2.alloc (.cells #[.int .i64 gd.a, .int .i64 gd.b, .int .i64 gd.c, .int .i64 gd.d, .int .i64 gd.e, .int .i64 gd.f, .int .i64 gd.g] 42) = w3 at *
  have H3 := Lib.hid (H1.out.reach HB2.out)
  have HK3 := Lib.hid (HK.out.reach HB2.out)
  have HBw3 := Lib.hid (bl_tr HB.out HB2.out)
  clear p0 p1 p2 p3 p4 p5 p6 p7 p8 hb2
  obtain ⟨⟨⟨z0, z1⟩, z2, z3, z4, z5, z6, z7, z8⟩, zf, _⟩ := HK3.out.cells
  by_cases hg : ge = 0
  · have HR : Hid (R = joinQ ⟨qn, qd, qe⟩ gd 0) := HE.out.trans (if_pos hg)
    rw [← HR.out] at HJ
    subst hg
    clear HE HR
    obtain ⟨jv, je⟩ := R
    obtain ⟨⟨p0, p1⟩, p2, p3, p4, p5, p6, p7, p8⟩ := H3.out
    unfold V.cells at HJ
    go_wp2_with fail
    refine (HNX.out _).mono ?_
    rintro r w4 ⟨rfl, hb4⟩
    go_wp2_with fail
    refine (HAD.out _).mono ?_
    rintro r w5 ⟨rfl, hb5⟩
    have HBx := Lib.hid (bl_tr hb4 hb5)
    have HM := Lib.hid (P2.new (Below.refl w5.heap.size w5) qn qd)
    have HB6 := Lib.hid (bl_tr HBx.out (b1 w5 (.cells #[.int .i64 qn, .int .i64 qd] 57)))
    go_upto_region 5 with (fail)
    generalize w5.alloc (.cells #[.int .i64 qn, .int .i64 qd] 57) = w6 at *
    have HK6 := Lib.hid (HK3.out.reach HB6.out)
    have HBw6 := Lib.hid (bl_tr HBw3.out HB6.out)
    have HM6 := Lib.hid (HM7.out.reach HB6.out)
    clear p0 p1 p2 p3 p4 p5 p6 p7 p8 hb4 hb5 z0 z1 z2 z3 z4 z5 z6 z7 z8 zf
    obtain ⟨⟨m0, m1⟩, _, _⟩ := HM.out.1.cells
    obtain ⟨⟨g0, g1, g2, g3, g4, g5, g6⟩, _, _⟩ := HM6.out.1.cells
    go_wp2_with fail
    refine (HJ.out _).mono ?_
    rintro r w7 ⟨rfl, hb7⟩
    have HK7 := Lib.hid (HK6.out.reach hb7)
    have HBw7 := Lib.hid (bl_tr HBw6.out hb7)
    clear hb7 m0 m1 g0 g1 g2 g3 g4 g5 g6
    obtain ⟨⟨⟨z0, z1⟩, z2, z3, z4, z5, z6, z7, z8⟩, zf, _⟩ := HK7.out.cells
    go_wp2_with fail
    refine bodyPost_ret (v := .tuple #[.agg jv.cells, .int .i64 je]) (by simp [results, Tryz.results75, go_sem, V.cells, z0, z1, z2, z3, z4, z5, z6, z7, z8]) rfl ⟨rfl, ?_⟩
    exact below9 HBw7.out (b := w.heap.size) (Nat.le_refl _) jv
  · have HR : Hid (R = (zV, 16)) := HE.out.trans (if_neg hg)
    have hgb : (ge != 0) = true := by simpa using hg
    go_wp2_with fail
    rw [HR.out]
    refine bodyPost_ret (v := .tuple #[.agg zV.cells, .int .i64 16]) (by simp [results, Tryz.results75, go_sem, V.cells, zV, zD, z0, z1, z2, z3, z4, z5, z6, z7, z8]) rfl ⟨rfl, ?_⟩
    exact below9 HBw3.out (b := w.heap.size) (Nat.le_refl _) zV
end Go.Proofs.YtknpigdpepmimaaGreatDoor

namespace Go.Proofs.YtknpigdpepmimaaGreatDoor.Q
open Go.RowKit
set_option maxHeartbeats 1000000 in
theorem neg_any (a b : Int) (w : World) (ha : -9223372036854775808 ≤ a) (hA : a ≤ 9223372036854775807) (hb : -9223372036854775808 ≤ b) (hB : b ≤ 9223372036854775807) :
    Calls Tryz.prog 119 #[.agg #[.int .i64 a, .int .i64 b]] w fun e w' => e = .returned (negQ a b).val ∧ Below w.heap.size w w' := by
  have hX := ((Two.new w (.int .i64 a) (.int .i64 b) 57).alloc (.cells #[.int .i64 0, .int .i64 0] 57))
  have hR := (Two.new1 w (.cells #[.int .i64 a, .int .i64 b] 57) (.int .i64 0) (.int .i64 0) 57)
  have h3 : Below w.heap.size w ((w.alloc (.cells #[.int .i64 a, .int .i64 b] 57)).alloc (.cells #[.int .i64 0, .int .i64 0] 57)) := ((Below.refl _ _).alloc (Nat.le_refl _) _).alloc (by simp) _
  have H := Lib.hid (And.intro hX (And.intro hR h3))
  clear hX hR h3
  cases hv : validQ a b with
  | false =>
    have HQ : Hid (negQ a b = ⟨0, 0, 1⟩) := by show negQ a b = _; unfold negQ; rw [hv]; rfl
    have HV := Lib.hid hv
    clear hv
    go_enter Tryz.func119, Tryz.ntmps119
    go_wp2_with fail
    refine (valid_any a b _ ha hA hb hB).mono ?_
    rw [HV.out]
    rintro e w1 ⟨rfl, hb1⟩
    obtain ⟨hX, hR, h3⟩ := H.out
    obtain ⟨r0, r1, rf, rlt⟩ := hR.below hb1
    have HB1 := Lib.hid (h3.trans (hb1.mono h3.size))
    clear hX hR h3 hb1
    go_wp2
    refine bodyPost_ret (v := .tuple #[.agg #[.int .i64 0, .int .i64 0], .int .i64 1]) (by simp [results, Tryz.results119, go_sem, r0, r1]) rfl ⟨?_, ?_⟩
    · rw [HQ.out]; rfl
    · exact (HB1.out.setCell (by simp) _).setCell (by simp) _
  | true =>
    obtain ⟨v1, v2, v3, v4, _⟩ := (valid_iff a b).1 hv
    have HQ : Hid (negQ a b = ⟨-a, b, 0⟩) := by show negQ a b = _; unfold negQ; rw [hv]; rfl
    have HV := Lib.hid hv
    clear hv
    go_enter Tryz.func119, Tryz.ntmps119
    go_wp2_with fail
    refine (valid_any a b _ ha hA hb hB).mono ?_
    rw [HV.out]
    rintro e w1 ⟨rfl, hb1⟩
    obtain ⟨hX, hR, h3⟩ := H.out
    obtain ⟨r0, r1, rf, rlt⟩ := hR.below hb1
    obtain ⟨x0, x1, _, _⟩ := hX.below hb1
    have HB1 := Lib.hid (h3.trans (hb1.mono h3.size))
    clear hX hR h3 hb1
    go_wp2
    refine bodyPost_ret (v := .tuple #[.agg #[.int .i64 (-a), .int .i64 b], .int .i64 0]) (by simp [results, Tryz.results119, go_sem, r0, r1]) rfl ⟨?_, ?_⟩
    · rw [HQ.out]; rfl
    · exact (HB1.out.setCell (by simp) _).setCell (by simp) _
end Go.Proofs.YtknpigdpepmimaaGreatDoor.Q

namespace Go.Proofs.YtknpigdpepmimaaGreatDoor
open Go.RowKit
set_option maxRecDepth 100000 in
set_option maxHeartbeats 4000000 in
theorem neg_any (x : V) (hx : x.ok) (b o c : Nat) (w : World) (h1 : C9 w b o x) : Calls Tryz.prog 70 #[.slice (some ⟨b, o, none⟩) 1 c] w fun r w' => r = .returned (.tuple #[.agg (negV x).1.cells, .int .i64 (negV x).2]) ∧ Below w.heap.size w w' := by
  have HX := Lib.hid hx.bnd
  have HNX := Lib.hid fun w => number_val x w
  have HAD := Lib.hid fun w => Q.neg_any x.num x.den w HX.out.1 HX.out.2.1 HX.out.2.2.1 HX.out.2.2.2
  have HE : Hid (negV x = joinQ (Q.negQ x.num x.den) x.dim 0) := rfl
  generalize negV x = R at *
  unfold Q.Res.val at HAD
  generalize Q.negQ x.num x.den = q at *
  obtain ⟨qn, qd, qe⟩ := q
  have HJ := Lib.hid fun w => join_any qn qd qe x.dim 0 w
  rw [← HE.out] at HJ
  clear HE
  obtain ⟨jv, je⟩ := R
  have HB := Lib.hid (b1 w (.cells #[.int .i64 0, .int .i64 0, .int .i64 0, .int .i64 0, .int .i64 0, .int .i64 0, .int .i64 0, .int .i64 0, .int .i64 0] 44))
  have HK : Hid (K9 (w.alloc (.cells #[.int .i64 0, .int .i64 0, .int .i64 0, .int .i64 0, .int .i64 0, .int .i64 0, .int .i64 0, .int .i64 0, .int .i64 0] 44)) w.heap.size zV) := K9.new w zV
  have HL := Lib.hid h1.lt
  have H1 := Lib.hid (h1.reach HB.out)
  clear h1 hx HX
  unfold V.cells at HNX HJ
  unfold Dm.cells at HJ
  go_enter Tryz.func70, Tryz.ntmps70
  go_upto_region 1 with (fail)
  generalize w.alloc (.cells #[.int .i64 0, .int .i64 0, .int .i64 0, .int .i64 0, .int .i64 0, .int .i64 0, .int .i64 0, .int .i64 0, .int .i64 0] 44) = w1 at *
  obtain ⟨⟨p0, p1⟩, p2, p3, p4, p5, p6, p7, p8⟩ := H1.out
  go_wp2_with fail
  refine (HNX.out _).mono ?_
  rintro r w2 ⟨rfl, hb2⟩
  go_wp2_with fail
  refine (HAD.out _).mono ?_
  rintro r w3 ⟨rfl, hb3⟩
  have HBx := Lib.hid (bl_tr hb2 hb3)
  go_upto_region 2 with (fail)
  have HM := Lib.hid (P2.new (Below.refl w3.heap.size w3) qn qd)
  have HB4 := Lib.hid (bl_tr HBx.out (b1 w3 (.cells #[.int .i64 qn, .int .i64 qd] 57)))
  generalize w3.alloc (.cells #[.int .i64 qn, .int .i64 qd] 57) = w4 at *
  have H4 := Lib.hid (H1.out.reach HB4.out)
  have HK4 := Lib.hid (HK.out.reach HB4.out)
  have HBw := Lib.hid (bl_tr HB.out HB4.out)
  clear p0 p1 p2 p3 p4 p5 p6 p7 p8 hb2 hb3
  have hneM : Hid (w3.heap.size ≠ w.heap.size) := by show _ ≠ _; have := HBx.out.size; have := HK.out.cells.2.2; omega
  have hneB : Hid (b ≠ w.heap.size) := by show _ ≠ _; have := HL.out; omega
  have hne : w.heap.size ≠ w3.heap.size := by have := HBx.out.size; have := HK.out.cells.2.2; omega
  obtain ⟨⟨p0, p1⟩, p2, p3, p4, p5, p6, p7, p8⟩ := H4.out
  obtain ⟨⟨m0, m1⟩, _, _⟩ := HM.out.1.cells
  obtain ⟨⟨⟨z0, z1⟩, z2, z3, z4, z5, z6, z7, z8⟩, zf, _⟩ := HK4.out.cells
  have HM1 := Lib.hid HM.out.1
  have HSd := Lib.hid (S27 HM.out.1 H4.out (bl_dr (Below.refl w4.heap.size w4)))
  go_region_held_law (fun w' => (w'.cell? ⟨w3.heap.size, 0, none⟩ = some (.int .i64 qn) ∧ w'.cell? ⟨w3.heap.size, 1, none⟩ = some (.int .i64 qd)) ∧ (w'.cell? ⟨b, o + 2, none⟩ = some (.int .i64 x.dim.a) ∧ w'.cell? ⟨b, o + 3, none⟩ = some (.int .i64 x.dim.b) ∧ w'.cell? ⟨b, o + 4, none⟩ = some (.int .i64 x.dim.c) ∧ w'.cell? ⟨b, o + 5, none⟩ = some (.int .i64 x.dim.d) ∧ w'.cell? ⟨b, o + 6, none⟩ = some (.int .i64 x.dim.e) ∧ w'.cell? ⟨b, o + 7, none⟩ = some (.int .i64 x.dim.f) ∧ w'.cell? ⟨b, o + 8, none⟩ = some (.int .i64 x.dim.g))) (first | with_reducible exact HSd.out | with_reducible exact HSZ.out | with_reducible exact S27s HM1.out H4.out HB5s.out hneM.out hneB.out) (first | (go_at_call 79; (with_reducible refine (HJ.out _).mono ?_); rintro r w5 ⟨rfl, hb5⟩; have hb5' := bl_tr (bl_dr (Below.refl w4.heap.size w4)) hb5; have HB5s := Lib.hid hb5'; have HB5 := Lib.hid (bl_tr HBw.out hb5'); have HK5 := Lib.hid (HK4.out.reach hb5'); clear z0 z1 z2 z3 z4 z5 z6 z7 z8 zf; obtain ⟨⟨⟨z0, z1⟩, z2, z3, z4, z5, z6, z7, z8⟩, zf, _⟩ := HK5.out.cells; have HSZ := Lib.hid (S27 HM.out.1 H4.out hb5'); clear hb5 hb5'))

  go_wp2_with fail
  refine bodyPost_ret (v := .tuple #[.agg jv.cells, .int .i64 je]) (by simp [results, Tryz.results70, go_sem, V.cells, z0, z1, z2, z3, z4, z5, z6, z7, z8]) rfl ⟨rfl, ?_⟩
  exact below9 HB5.out (b := w.heap.size) (Nat.le_refl _) jv
end Go.Proofs.YtknpigdpepmimaaGreatDoor

namespace Go.Proofs.YtknpigdpepmimaaGreatDoor
open Go.RowKit
set_option maxRecDepth 100000 in
set_option maxHeartbeats 4000000 in
theorem sam_any (x : V)  (b o c : Nat) (w : World) (h1 : C9 w b o x) : Calls Tryz.prog 71 #[.slice (some ⟨b, o, none⟩) 1 c] w fun r w' => r = .returned (.tuple #[.agg x.cells, .int .i64 0]) ∧ Below w.heap.size w w' := by
  have HB := Lib.hid (b1 w (.cells #[.int .i64 0, .int .i64 0, .int .i64 0, .int .i64 0, .int .i64 0, .int .i64 0, .int .i64 0, .int .i64 0, .int .i64 0] 44))
  have HK : Hid (K9 (w.alloc (.cells #[.int .i64 0, .int .i64 0, .int .i64 0, .int .i64 0, .int .i64 0, .int .i64 0, .int .i64 0, .int .i64 0, .int .i64 0] 44)) w.heap.size zV) := K9.new w zV
  have H1 := Lib.hid (h1.reach HB.out)
  clear h1
  go_enter Tryz.func71, Tryz.ntmps71
  go_upto_region 1 with (fail)
  generalize w.alloc (.cells #[.int .i64 0, .int .i64 0, .int .i64 0, .int .i64 0, .int .i64 0, .int .i64 0, .int .i64 0, .int .i64 0, .int .i64 0] 44) = w1 at *
  obtain ⟨⟨p0, p1⟩, p2, p3, p4, p5, p6, p7, p8⟩ := H1.out
  obtain ⟨⟨⟨z0, z1⟩, z2, z3, z4, z5, z6, z7, z8⟩, zf, _⟩ := HK.out.cells
  go_wp2_with fail
  refine bodyPost_ret (v := .tuple #[.agg x.cells, .int .i64 0]) (by simp [results, Tryz.results71, go_sem, V.cells, z0, z1, z2, z3, z4, z5, z6, z7, z8]) rfl ⟨rfl, ?_⟩
  exact below9 HB.out (b := w.heap.size) (Nat.le_refl _) x
end Go.Proofs.YtknpigdpepmimaaGreatDoor

namespace Go.Proofs.YtknpigdpepmimaaGreatDoor
open Go.RowKit
set_option maxRecDepth 100000 in
set_option maxHeartbeats 4000000 in
theorem abs_any (x : V) (hx : x.ok) (b o c : Nat) (w : World) (h1 : C9 w b o x) : Calls Tryz.prog 76 #[.slice (some ⟨b, o, none⟩) 1 c] w fun r w' => r = .returned (.tuple #[.agg (absV x).1.cells, .int .i64 (absV x).2]) ∧ Below w.heap.size w w' := by
  have hx := (Q.valid_iff _ _).1 hx.1
  have hw : IntKind.i64.wrap (-x.num) = -x.num := wrap64_small (by omega) (by omega)
  have HB := Lib.hid (b1 w (.cells #[.int .i64 0, .int .i64 0, .int .i64 0, .int .i64 0, .int .i64 0, .int .i64 0, .int .i64 0, .int .i64 0, .int .i64 0] 44))
  have HK : Hid (K9 (w.alloc (.cells #[.int .i64 0, .int .i64 0, .int .i64 0, .int .i64 0, .int .i64 0, .int .i64 0, .int .i64 0, .int .i64 0, .int .i64 0] 44)) w.heap.size zV) := K9.new w zV
  have H1 := Lib.hid (h1.reach HB.out)
  clear h1
  go_enter Tryz.func76, Tryz.ntmps76
  go_upto_region 1 with (fail)
  have HS : Hid ((w.alloc (.cells #[.int .i64 0, .int .i64 0, .int .i64 0, .int .i64 0, .int .i64 0, .int .i64 0, .int .i64 0, .int .i64 0, .int .i64 0] 44)).heap.size = w.heap.size + 1) := by show _ = _; simp
  generalize w.alloc (.cells #[.int .i64 0, .int .i64 0, .int .i64 0, .int .i64 0, .int .i64 0, .int .i64 0, .int .i64 0, .int .i64 0, .int .i64 0] 44) = w1 at *
  obtain ⟨⟨p0, p1⟩, p2, p3, p4, p5, p6, p7, p8⟩ := H1.out
  go_upto_region 2 with (fail)
  have HM := Lib.hid (P9.new (Below.refl w1.heap.size w1) x)
  have HB2 := Lib.hid (bl_tr HB.out (b1 w1 (.cells x.cells 44)))
  have HK2 := Lib.hid (HK.out.reach (b1 w1 (.cells x.cells 44)))
  unfold V.cells at HB2 HK2
  generalize w1.alloc (.cells #[.int .i64 x.num, .int .i64 x.den, .int .i64 x.dim.a, .int .i64 x.dim.b, .int .i64 x.dim.c, .int .i64 x.dim.d, .int .i64 x.dim.e, .int .i64 x.dim.f, .int .i64 x.dim.g] 44) = w2 at *
  clear p0 p1 p2 p3 p4 p5 p6 p7 p8
  obtain ⟨⟨⟨p0, p1⟩, p2, p3, p4, p5, p6, p7, p8⟩, pf, _⟩ := HM.out.1.cells
  obtain ⟨⟨⟨z0, z1⟩, z2, z3, z4, z5, z6, z7, z8⟩, zf, _⟩ := HK2.out.cells
  have hne : w1.heap.size ≠ w.heap.size := by have := HS.out; omega
  have HB3 := Lib.hid (HB2.out.setCell (p := ⟨w1.heap.size, 0, none⟩) HB.out.size (.int .i64 (-x.num)))
  have HB4 := Lib.hid (HB2.out.setCell (p := ⟨w1.heap.size, 0, none⟩) HB.out.size (.int .i64 x.num))
  have HA1 : Hid (x.num < -x.num → absV x = (⟨-x.num, x.den, x.dim⟩, 0)) := fun h => by unfold absV; rw [Int.max_eq_right (by omega)]
  have HA2 : Hid (-x.num ≤ x.num → absV x = (⟨x.num, x.den, x.dim⟩, 0)) := fun h => by unfold absV; rw [Int.max_eq_left h]
  by_cases h : x.num < -x.num
  · have HR := Lib.hid (HA1.out h)
    have hmx : max x.num (-x.num) = -x.num := Int.max_eq_right (by omega)
    go_wp2_with fail
    rw [HR.out]
    refine bodyPost_ret (v := .tuple #[.agg (V.mk (-x.num) x.den x.dim).cells, .int .i64 0]) (by simp [results, Tryz.results76, go_sem, V.cells, z0, z1, z2, z3, z4, z5, z6, z7, z8]) rfl ⟨rfl, ?_⟩
    exact below9 HB3.out (b := w.heap.size) (Nat.le_refl _) (V.mk (-x.num) x.den x.dim)
  · have HR := Lib.hid (HA2.out (by omega))
    have hmx : max x.num (-x.num) = x.num := Int.max_eq_left (by omega)
    go_wp2_with fail
    rw [HR.out]
    refine bodyPost_ret (v := .tuple #[.agg (V.mk x.num x.den x.dim).cells, .int .i64 0]) (by simp [results, Tryz.results76, go_sem, V.cells, z0, z1, z2, z3, z4, z5, z6, z7, z8]) rfl ⟨rfl, ?_⟩
    exact below9 HB4.out (b := w.heap.size) (Nat.le_refl _) (V.mk x.num x.den x.dim)
end Go.Proofs.YtknpigdpepmimaaGreatDoor
