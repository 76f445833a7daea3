/- Walk of RationalField. -/
import Derived.Test.YtaekhbhjgcmghaaDoorField2
import Derived.Test.YtaekhbhjgcmghaaDoorUndo
import Derived.Deep.LoopGhost
namespace Go.Proofs.YtaekhbhjgcmghaaDoor
open Go.RowKit

theorem op0_bnd (x y : Res) : -2147483647 ≤ (op0 x y).num ∧ (op0 x y).num ≤ 2147483647 ∧ 0 ≤ (op0 x y).den ∧ (op0 x y).den ≤ 2147483647 := by
  unfold op0
  split
  · exact addQ_bnd _ _ _ _
  · simp
theorem op2_bnd (x y : Res) : -2147483647 ≤ (op2 x y).num ∧ (op2 x y).num ≤ 2147483647 ∧ 0 ≤ (op2 x y).den ∧ (op2 x y).den ≤ 2147483647 := by
  unfold op2
  split
  · exact mulQ_bnd _ _ _ _
  · simp

set_option maxRecDepth 100000 in
set_option maxHeartbeats 8000000 in
theorem field_walk (a0 a1 a2 a3 a4 a5 : Int) (w : World) (h0 : -32768 ≤ a0 ∧ a0 ≤ 32767) (h1 : -32768 ≤ a1 ∧ a1 ≤ 32767) (h2 : -32768 ≤ a2 ∧ a2 ≤ 32767) (h3 : -32768 ≤ a3 ∧ a3 ≤ 32767) (h4 : -32768 ≤ a4 ∧ a4 ≤ 32767) (h5 : -32768 ≤ a5 ∧ a5 ≤ 32767) (ht : Tab w) :
    Calls Tryd.prog 4 #[.agg #[.int .i16 a0, .int .i16 a1, .int .i16 a2, .int .i16 a3, .int .i16 a4, .int .i16 a5]] w fun e w' => e = .returned (.bool true) ∧ Below w.heap.size w w' := by
  have HT := Lib.hid ht
  clear ht
  obtain ⟨ox, vx⟩ := num3_ok a0 a1 h0 h1
  obtain ⟨oy, vy⟩ := num3_ok a2 a3 h2 h3
  obtain ⟨oz, vz⟩ := num3_ok a4 a5 h4 h5
  obtain ⟨rx, hrx⟩ : ∃ r, r = num3 a0 a1 := ⟨_, rfl⟩
  obtain ⟨ry, hry⟩ : ∃ r, r = num3 a2 a3 := ⟨_, rfl⟩
  obtain ⟨rz, hrz⟩ : ∃ r, r = num3 a4 a5 := ⟨_, rfl⟩
  rw [← hrx] at ox vx
  rw [← hry] at oy vy
  rw [← hrz] at oz vz
  have HRX := Lib.hid hrx
  have HRY := Lib.hid hry
  have HRZ := Lib.hid hrz
  clear hrx hry hrz
  obtain ⟨xn, xd, xe⟩ := rx
  obtain ⟨yn, yd, ye⟩ := ry
  obtain ⟨zn, zd, ze⟩ := rz
  simp only at ox vx oy vy oz vz
  obtain ⟨bx1, bx2, bx3, bx4, _⟩ := (valid_iff _ _).1 vx
  obtain ⟨by1, by2, by3, by4, _⟩ := (valid_iff _ _).1 vy
  obtain ⟨bz1, bz2, bz3, bz4, _⟩ := (valid_iff _ _).1 vz
  clear vx vy vz ox oy oz
  have HS0 := Lib.hid (Six.new w (.int .i16 a0) (.int .i16 a1) (.int .i16 a2) (.int .i16 a3) (.int .i16 a4) (.int .i16 a5) 40)
  have HB0 : Hid (Below w.heap.size w (w.alloc (.cells #[.int .i16 a0, .int .i16 a1, .int .i16 a2, .int .i16 a3, .int .i16 a4, .int .i16 a5] 40))) := Lib.hid ((Below.refl _ _).alloc (Nat.le_refl _) _)
  go_enter Tryd.func4, Tryd.ntmps4
  go_wp2_with fail
  refine (awake_any _ (HT.out.below HB0.out)).mono ?_
  rintro e w1 ⟨rfl, hb1⟩
  have HB1 := Lib.hid (HB0.out.trans (hb1.mono HB0.out.size))
  obtain ⟨x0, x1, x2, x3, x4, x5, xf, xl⟩ := HS0.out.below hb1
  clear hb1 HS0 HB0
  go_wp2_with fail
  refine (numbers_any a0 a1 a2 a3 a4 a5 _ h0 h1 h2 h3 h4 h5).mono ?_
  rw [← HRX.out, ← HRY.out, ← HRZ.out]
  simp only
  rintro e w2 ⟨rfl, hb2⟩
  have HB2 := Lib.hid (HB1.out.trans (hb2.mono HB1.out.size))
  have hs2 := HB2.out.size
  clear hb2 x0 x1 x2 x3 x4 x5 xf xl
  go_upto_region 4 with (fail)
  have HS3 := Lib.hid (Six.new w2 (.int .i64 xn) (.int .i64 xd) (.int .i64 yn) (.int .i64 yd) (.int .i64 zn) (.int .i64 zd) 41)
  have HB3 := Lib.hid (HB2.out.alloc hs2 (.cells #[.int .i64 xn, .int .i64 xd, .int .i64 yn, .int .i64 yd, .int .i64 zn, .int .i64 zd] 41))
  obtain ⟨B3, hB3⟩ : ∃ B3, B3 = w2.heap.size := ⟨_, rfl⟩
  rw [← hB3] at HS3
  rw [← hB3]
  clear hB3
  generalize w2.alloc (.cells #[.int .i64 xn, .int .i64 xd, .int .i64 yn, .int .i64 yd, .int .i64 zn, .int .i64 zd] 41) = w3 at *
  obtain ⟨x0, x1, x2, x3, x4, x5, xf, xl⟩ := HS3.out
  have n0 : B3 ≠ w3.heap.size := by omega
  have n1 : B3 ≠ w3.heap.size + 1 := by omega
  have n2 : B3 ≠ w3.heap.size + 1 + 1 := by omega
  have l1 : B3 < w3.heap.size + 1 := by omega
  have l2 : B3 < w3.heap.size + 1 + 1 := by omega
  go_cut [4, 5, 6] (fun s4 s5 s6 wx => ∃ b4 b5 b6 : Nat, s4 = .pointer (some ⟨b4, 0, none⟩) ∧ s5 = .pointer (some ⟨b5, 0, none⟩) ∧ s6 = .pointer (some ⟨b6, 0, none⟩) ∧ Aside (Two wx b4 (.int .i64 xn) (.int .i64 xd)) ∧ Aside (Two wx b5 (.int .i64 yn) (.int .i64 yd)) ∧ Aside (Two wx b6 (.int .i64 zn) (.int .i64 zd)) ∧ Aside (Below w3.heap.size w3 wx))
  case first =>
    go_region
    all_goals
      go_wp2_with fail
      go_meet
      first
        | exact ⟨w3.heap.size, w3.heap.size + 1, w3.heap.size + 1 + 1, rfl, rfl, rfl, Two.drew (((Two.new _ _ _ _).alloc _).alloc _), Two.drew ((Two.new1 _ _ _ _ _).alloc _), Two.drew (Two.new2 _ _ _ _ _ _), (Below.three _ _ _ _).drew⟩
        | exact ⟨w3.heap.size, w3.heap.size + 1 + 1, w3.heap.size + 1, rfl, rfl, rfl, Two.drew (((Two.new _ _ _ _).alloc _).alloc _), Two.drew (Two.new2 _ _ _ _ _ _), Two.drew ((Two.new1 _ _ _ _ _).alloc _), (Below.three _ _ _ _).drew⟩
        | exact ⟨w3.heap.size + 1, w3.heap.size, w3.heap.size + 1 + 1, rfl, rfl, rfl, Two.drew ((Two.new1 _ _ _ _ _).alloc _), Two.drew (((Two.new _ _ _ _).alloc _).alloc _), Two.drew (Two.new2 _ _ _ _ _ _), (Below.three _ _ _ _).drew⟩
        | exact ⟨w3.heap.size + 1 + 1, w3.heap.size, w3.heap.size + 1, rfl, rfl, rfl, Two.drew (Two.new2 _ _ _ _ _ _), Two.drew (((Two.new _ _ _ _).alloc _).alloc _), Two.drew ((Two.new1 _ _ _ _ _).alloc _), (Below.three _ _ _ _).drew⟩
        | exact ⟨w3.heap.size + 1, w3.heap.size + 1 + 1, w3.heap.size, rfl, rfl, rfl, Two.drew ((Two.new1 _ _ _ _ _).alloc _), Two.drew (Two.new2 _ _ _ _ _ _), Two.drew (((Two.new _ _ _ _).alloc _).alloc _), (Below.three _ _ _ _).drew⟩
        | exact ⟨w3.heap.size + 1 + 1, w3.heap.size + 1, w3.heap.size, rfl, rfl, rfl, Two.drew (Two.new2 _ _ _ _ _ _), Two.drew ((Two.new1 _ _ _ _ _).alloc _), Two.drew (((Two.new _ _ _ _).alloc _).alloc _), (Below.three _ _ _ _).drew⟩
  case rest =>
    obtain ⟨b4, b5, b6, rfl, rfl, rfl, T4, T5, T6, BX⟩ := hcut
    have HB4 := Lib.hid (HB3.out.trans (BX.out.mono HB3.out.size))
    clear x0 x1 x2 x3 x4 x5 xf xl n0 n1 n2 l1 l2
    obtain ⟨w4, hw4⟩ : ∃ w4 : World, w4 = wc := ⟨_, rfl⟩
    rw [← hw4] at T4 T5 T6 HB4
    rw [← hw4]
    clear hw4 BX HB3
    have U4 := Lib.hid T4.out
    have U5 := Lib.hid T5.out
    have U6 := Lib.hid T6.out
    clear T4 T5 T6
    go_wp2
    go_loopg [7] 4 (fun gg s7 wr => ∃ kk : Nat, (kk = 0 ∨ kk = 2 ∨ kk = 4) ∧ 4 - kk ≤ gg ∧ s7 = .int .i64 kk ∧ Aside (Below w.heap.size w wr) ∧ Aside (Two wr b4 (.int .i64 xn) (.int .i64 xd)) ∧ Aside (Two wr b5 (.int .i64 yn) (.int .i64 yd)) ∧ Aside (Two wr b6 (.int .i64 zn) (.int .i64 zd)))
    case atStart => exact ⟨0, .inl rfl, by omega, rfl, HB4.out, U4.out, U5.out, U6.out⟩
    case round =>
      obtain ⟨kk, hkk, hg, rfl, HBL, T4, T5, T6⟩ := hrel
      clear HB4 U4 U5 U6
      have HB5 := Lib.hid HBL.out
      have B4 := Lib.hid T4.out
      have B5 := Lib.hid T5.out
      have B6 := Lib.hid T6.out
      clear HBL T4 T5 T6
      rcases hkk with rfl | rfl | rfl
      · skip
        obtain ⟨p0, q0, -, -⟩ := B4.out
        obtain ⟨p1, q1, -, -⟩ := B5.out
        go_wp2_with fail
        refine (op0_any xn xd 0 yn yd 0 _ (by omega) (by omega) (by omega) (by omega) (by omega) (by omega) (by omega) (by omega) ).mono ?_
        have hbda := op0_bnd ⟨xn, xd, 0⟩ ⟨yn, yd, 0⟩
        obtain ⟨r, hr⟩ : ∃ r, r = op0 ⟨xn, xd, 0⟩ ⟨yn, yd, 0⟩ := ⟨_, rfl⟩
        rw [← hr] at hbda
        rw [← hr]
        have HRa := Lib.hid hr
        clear hr
        obtain ⟨an, ad, ae⟩ := r
        simp only at hbda
        simp only [Res.val]
        rintro e v1 ⟨rfl, hb⟩
        have B41 := Lib.hid (((B4.out).below hb).alloc (.cells #[.int .i64 an, .int .i64 ad] 24))
        have B51 := Lib.hid (((B5.out).below hb).alloc (.cells #[.int .i64 an, .int .i64 ad] 24))
        have B61 := Lib.hid (((B6.out).below hb).alloc (.cells #[.int .i64 an, .int .i64 ad] 24))
        have K1 := Lib.hid ((HB5.out.trans (hb.mono HB5.out.size)).alloc (HB5.out.trans (hb.mono HB5.out.size)).size (.cells #[.int .i64 an, .int .i64 ad] 24))
        have N1 := Lib.hid (Two.new v1 (.int .i64 an) (.int .i64 ad) 24)
        clear hb B4 B5 B6 HB5
        clear p0 q0 p1 q1
        obtain ⟨p0, q0, -, -⟩ := B51.out
        obtain ⟨p1, q1, -, -⟩ := B41.out
        go_wp2_with fail
        refine (op0_any yn yd 0 xn xd 0 _ (by omega) (by omega) (by omega) (by omega) (by omega) (by omega) (by omega) (by omega) ).mono ?_
        rw [op0_comm ⟨yn, yd, 0⟩ ⟨xn, xd, 0⟩, ← HRa.out]
        simp only [Res.val]
        rintro e v2 ⟨rfl, hb⟩
        have B42 := Lib.hid (((B41.out).below hb).alloc (.cells #[.int .i64 an, .int .i64 ad] 24))
        have B52 := Lib.hid (((B51.out).below hb).alloc (.cells #[.int .i64 an, .int .i64 ad] 24))
        have B62 := Lib.hid (((B61.out).below hb).alloc (.cells #[.int .i64 an, .int .i64 ad] 24))
        have Na2 := Lib.hid (((N1.out).below hb).alloc (.cells #[.int .i64 an, .int .i64 ad] 24))
        have K2 := Lib.hid ((K1.out.trans (hb.mono K1.out.size)).alloc (K1.out.trans (hb.mono K1.out.size)).size (.cells #[.int .i64 an, .int .i64 ad] 24))
        have N2 := Lib.hid (Two.new v2 (.int .i64 an) (.int .i64 ad) 24)
        clear hb B41 B51 B61 N1 K1
        clear p0 q0 p1 q1
        obtain ⟨p0, q0, -, -⟩ := B52.out
        obtain ⟨p1, q1, -, -⟩ := B62.out
        go_wp2_with fail
        refine (op0_any yn yd 0 zn zd 0 _ (by omega) (by omega) (by omega) (by omega) (by omega) (by omega) (by omega) (by omega) ).mono ?_
        have hbdc := op0_bnd ⟨yn, yd, 0⟩ ⟨zn, zd, 0⟩
        obtain ⟨r, hr⟩ : ∃ r, r = op0 ⟨yn, yd, 0⟩ ⟨zn, zd, 0⟩ := ⟨_, rfl⟩
        rw [← hr] at hbdc
        rw [← hr]
        have HRc := Lib.hid hr
        clear hr
        obtain ⟨cn, cd, ce⟩ := r
        simp only at hbdc
        simp only [Res.val]
        rintro e v3 ⟨rfl, hb⟩
        have B43 := Lib.hid (((B42.out).below hb).alloc (.cells #[.int .i64 cn, .int .i64 cd] 24))
        have B53 := Lib.hid (((B52.out).below hb).alloc (.cells #[.int .i64 cn, .int .i64 cd] 24))
        have B63 := Lib.hid (((B62.out).below hb).alloc (.cells #[.int .i64 cn, .int .i64 cd] 24))
        have Na3 := Lib.hid (((Na2.out).below hb).alloc (.cells #[.int .i64 cn, .int .i64 cd] 24))
        have Nb3 := Lib.hid (((N2.out).below hb).alloc (.cells #[.int .i64 cn, .int .i64 cd] 24))
        have K3 := Lib.hid ((K2.out.trans (hb.mono K2.out.size)).alloc (K2.out.trans (hb.mono K2.out.size)).size (.cells #[.int .i64 cn, .int .i64 cd] 24))
        have N3 := Lib.hid (Two.new v3 (.int .i64 cn) (.int .i64 cd) 24)
        clear hb B42 B52 B62 Na2 N2 K2
        clear p0 q0 p1 q1
        obtain ⟨p0, q0, -, -⟩ := Na3.out
        obtain ⟨p1, q1, -, -⟩ := B63.out
        go_wp2_with fail
        refine (op0_any an ad ae zn zd 0 _ (by omega) (by omega) (by omega) (by omega) (by omega) (by omega) (by omega) (by omega) ).mono ?_
        have hbdl := op0_bnd ⟨an, ad, ae⟩ ⟨zn, zd, 0⟩
        obtain ⟨r, hr⟩ : ∃ r, r = op0 ⟨an, ad, ae⟩ ⟨zn, zd, 0⟩ := ⟨_, rfl⟩
        rw [← hr] at hbdl
        rw [← hr]
        have HRl := Lib.hid hr
        clear hr
        obtain ⟨ln, ld, le⟩ := r
        simp only at hbdl
        simp only [Res.val]
        rintro e v4 ⟨rfl, hb⟩
        have B44 := Lib.hid (((B43.out).below hb).alloc (.cells #[.int .i64 ln, .int .i64 ld] 24))
        have B54 := Lib.hid (((B53.out).below hb).alloc (.cells #[.int .i64 ln, .int .i64 ld] 24))
        have B64 := Lib.hid (((B63.out).below hb).alloc (.cells #[.int .i64 ln, .int .i64 ld] 24))
        have Na4 := Lib.hid (((Na3.out).below hb).alloc (.cells #[.int .i64 ln, .int .i64 ld] 24))
        have Nb4 := Lib.hid (((Nb3.out).below hb).alloc (.cells #[.int .i64 ln, .int .i64 ld] 24))
        have Nc4 := Lib.hid (((N3.out).below hb).alloc (.cells #[.int .i64 ln, .int .i64 ld] 24))
        have K4 := Lib.hid ((K3.out.trans (hb.mono K3.out.size)).alloc (K3.out.trans (hb.mono K3.out.size)).size (.cells #[.int .i64 ln, .int .i64 ld] 24))
        have N4 := Lib.hid (Two.new v4 (.int .i64 ln) (.int .i64 ld) 24)
        clear hb B43 B53 B63 Na3 Nb3 N3 K3
        clear p0 q0 p1 q1
        obtain ⟨p0, q0, -, -⟩ := B44.out
        obtain ⟨p1, q1, -, -⟩ := Nc4.out
        go_wp2_with fail
        refine (op0_any xn xd 0 cn cd ce _ (by omega) (by omega) (by omega) (by omega) (by omega) (by omega) (by omega) (by omega) ).mono ?_
        have hbdr := op0_bnd ⟨xn, xd, 0⟩ ⟨cn, cd, ce⟩
        obtain ⟨r, hr⟩ : ∃ r, r = op0 ⟨xn, xd, 0⟩ ⟨cn, cd, ce⟩ := ⟨_, rfl⟩
        rw [← hr] at hbdr
        rw [← hr]
        have HRr := Lib.hid hr
        clear hr
        obtain ⟨rn, rd, re⟩ := r
        simp only at hbdr
        simp only [Res.val]
        rintro e v5 ⟨rfl, hb⟩
        have B45 := Lib.hid (((B44.out).below hb).alloc (.cells #[.int .i64 rn, .int .i64 rd] 24))
        have B55 := Lib.hid (((B54.out).below hb).alloc (.cells #[.int .i64 rn, .int .i64 rd] 24))
        have B65 := Lib.hid (((B64.out).below hb).alloc (.cells #[.int .i64 rn, .int .i64 rd] 24))
        have Na5 := Lib.hid (((Na4.out).below hb).alloc (.cells #[.int .i64 rn, .int .i64 rd] 24))
        have Nb5 := Lib.hid (((Nb4.out).below hb).alloc (.cells #[.int .i64 rn, .int .i64 rd] 24))
        have Nc5 := Lib.hid (((Nc4.out).below hb).alloc (.cells #[.int .i64 rn, .int .i64 rd] 24))
        have Nl5 := Lib.hid (((N4.out).below hb).alloc (.cells #[.int .i64 rn, .int .i64 rd] 24))
        have K5 := Lib.hid ((K4.out.trans (hb.mono K4.out.size)).alloc (K4.out.trans (hb.mono K4.out.size)).size (.cells #[.int .i64 rn, .int .i64 rd] 24))
        have N5 := Lib.hid (Two.new v5 (.int .i64 rn) (.int .i64 rd) 24)
        clear hb B44 B54 B64 Na4 Nb4 Nc4 N4 K4
        clear p0 q0 p1 q1
        obtain ⟨p0, q0, -, -⟩ := Na5.out
        obtain ⟨p1, q1, -, -⟩ := Nb5.out
        obtain ⟨p2, q2, -, -⟩ := Nl5.out
        obtain ⟨p3, q3, -, -⟩ := N5.out
        go_wp2_with fail
        refine (agree_any ln ld le rn rd re _ (by rw [HRl.out, HRr.out, HRa.out, HRc.out]; exact add_assoc3 _ _ _)).mono ?_
        rintro e vv ⟨rfl, hb⟩
        have FB4 := Lib.hid (B45.out.below hb)
        have FB5 := Lib.hid (B55.out.below hb)
        have FB6 := Lib.hid (B65.out.below hb)
        have KK := Lib.hid (K5.out.trans (hb.mono K5.out.size))
        clear hb
        clear p0 q0 p1 q1 p2 q2 p3 q3
        go_wp2_with fail
        go_roundg (4 - 2)
        case rel => exact ⟨2, by omega, by omega, by go_num, KK.out, FB4.out, FB5.out, FB6.out⟩
        case measure => omega
      · skip
        obtain ⟨p0, q0, -, -⟩ := B4.out
        obtain ⟨p1, q1, -, -⟩ := B5.out
        go_wp2_with fail
        refine (op2_any xn xd 0 yn yd 0 _ (by omega) (by omega) (by omega) (by omega) (by omega) (by omega) (by omega) (by omega) ).mono ?_
        have hbda := op2_bnd ⟨xn, xd, 0⟩ ⟨yn, yd, 0⟩
        obtain ⟨r, hr⟩ : ∃ r, r = op2 ⟨xn, xd, 0⟩ ⟨yn, yd, 0⟩ := ⟨_, rfl⟩
        rw [← hr] at hbda
        rw [← hr]
        have HRa := Lib.hid hr
        clear hr
        obtain ⟨an, ad, ae⟩ := r
        simp only at hbda
        simp only [Res.val]
        rintro e v1 ⟨rfl, hb⟩
        have B41 := Lib.hid (((B4.out).below hb).alloc (.cells #[.int .i64 an, .int .i64 ad] 24))
        have B51 := Lib.hid (((B5.out).below hb).alloc (.cells #[.int .i64 an, .int .i64 ad] 24))
        have B61 := Lib.hid (((B6.out).below hb).alloc (.cells #[.int .i64 an, .int .i64 ad] 24))
        have K1 := Lib.hid ((HB5.out.trans (hb.mono HB5.out.size)).alloc (HB5.out.trans (hb.mono HB5.out.size)).size (.cells #[.int .i64 an, .int .i64 ad] 24))
        have N1 := Lib.hid (Two.new v1 (.int .i64 an) (.int .i64 ad) 24)
        clear hb B4 B5 B6 HB5
        clear p0 q0 p1 q1
        obtain ⟨p0, q0, -, -⟩ := B51.out
        obtain ⟨p1, q1, -, -⟩ := B41.out
        go_wp2_with fail
        refine (op2_any yn yd 0 xn xd 0 _ (by omega) (by omega) (by omega) (by omega) (by omega) (by omega) (by omega) (by omega) ).mono ?_
        rw [op2_comm ⟨yn, yd, 0⟩ ⟨xn, xd, 0⟩, ← HRa.out]
        simp only [Res.val]
        rintro e v2 ⟨rfl, hb⟩
        have B42 := Lib.hid (((B41.out).below hb).alloc (.cells #[.int .i64 an, .int .i64 ad] 24))
        have B52 := Lib.hid (((B51.out).below hb).alloc (.cells #[.int .i64 an, .int .i64 ad] 24))
        have B62 := Lib.hid (((B61.out).below hb).alloc (.cells #[.int .i64 an, .int .i64 ad] 24))
        have Na2 := Lib.hid (((N1.out).below hb).alloc (.cells #[.int .i64 an, .int .i64 ad] 24))
        have K2 := Lib.hid ((K1.out.trans (hb.mono K1.out.size)).alloc (K1.out.trans (hb.mono K1.out.size)).size (.cells #[.int .i64 an, .int .i64 ad] 24))
        have N2 := Lib.hid (Two.new v2 (.int .i64 an) (.int .i64 ad) 24)
        clear hb B41 B51 B61 N1 K1
        clear p0 q0 p1 q1
        obtain ⟨p0, q0, -, -⟩ := B52.out
        obtain ⟨p1, q1, -, -⟩ := B62.out
        go_wp2_with fail
        refine (op2_any yn yd 0 zn zd 0 _ (by omega) (by omega) (by omega) (by omega) (by omega) (by omega) (by omega) (by omega) ).mono ?_
        have hbdc := op2_bnd ⟨yn, yd, 0⟩ ⟨zn, zd, 0⟩
        obtain ⟨r, hr⟩ : ∃ r, r = op2 ⟨yn, yd, 0⟩ ⟨zn, zd, 0⟩ := ⟨_, rfl⟩
        rw [← hr] at hbdc
        rw [← hr]
        have HRc := Lib.hid hr
        clear hr
        obtain ⟨cn, cd, ce⟩ := r
        simp only at hbdc
        simp only [Res.val]
        rintro e v3 ⟨rfl, hb⟩
        have B43 := Lib.hid (((B42.out).below hb).alloc (.cells #[.int .i64 cn, .int .i64 cd] 24))
        have B53 := Lib.hid (((B52.out).below hb).alloc (.cells #[.int .i64 cn, .int .i64 cd] 24))
        have B63 := Lib.hid (((B62.out).below hb).alloc (.cells #[.int .i64 cn, .int .i64 cd] 24))
        have Na3 := Lib.hid (((Na2.out).below hb).alloc (.cells #[.int .i64 cn, .int .i64 cd] 24))
        have Nb3 := Lib.hid (((N2.out).below hb).alloc (.cells #[.int .i64 cn, .int .i64 cd] 24))
        have K3 := Lib.hid ((K2.out.trans (hb.mono K2.out.size)).alloc (K2.out.trans (hb.mono K2.out.size)).size (.cells #[.int .i64 cn, .int .i64 cd] 24))
        have N3 := Lib.hid (Two.new v3 (.int .i64 cn) (.int .i64 cd) 24)
        clear hb B42 B52 B62 Na2 N2 K2
        clear p0 q0 p1 q1
        obtain ⟨p0, q0, -, -⟩ := Na3.out
        obtain ⟨p1, q1, -, -⟩ := B63.out
        go_wp2_with fail
        refine (op2_any an ad ae zn zd 0 _ (by omega) (by omega) (by omega) (by omega) (by omega) (by omega) (by omega) (by omega) ).mono ?_
        have hbdl := op2_bnd ⟨an, ad, ae⟩ ⟨zn, zd, 0⟩
        obtain ⟨r, hr⟩ : ∃ r, r = op2 ⟨an, ad, ae⟩ ⟨zn, zd, 0⟩ := ⟨_, rfl⟩
        rw [← hr] at hbdl
        rw [← hr]
        have HRl := Lib.hid hr
        clear hr
        obtain ⟨ln, ld, le⟩ := r
        simp only at hbdl
        simp only [Res.val]
        rintro e v4 ⟨rfl, hb⟩
        have B44 := Lib.hid (((B43.out).below hb).alloc (.cells #[.int .i64 ln, .int .i64 ld] 24))
        have B54 := Lib.hid (((B53.out).below hb).alloc (.cells #[.int .i64 ln, .int .i64 ld] 24))
        have B64 := Lib.hid (((B63.out).below hb).alloc (.cells #[.int .i64 ln, .int .i64 ld] 24))
        have Na4 := Lib.hid (((Na3.out).below hb).alloc (.cells #[.int .i64 ln, .int .i64 ld] 24))
        have Nb4 := Lib.hid (((Nb3.out).below hb).alloc (.cells #[.int .i64 ln, .int .i64 ld] 24))
        have Nc4 := Lib.hid (((N3.out).below hb).alloc (.cells #[.int .i64 ln, .int .i64 ld] 24))
        have K4 := Lib.hid ((K3.out.trans (hb.mono K3.out.size)).alloc (K3.out.trans (hb.mono K3.out.size)).size (.cells #[.int .i64 ln, .int .i64 ld] 24))
        have N4 := Lib.hid (Two.new v4 (.int .i64 ln) (.int .i64 ld) 24)
        clear hb B43 B53 B63 Na3 Nb3 N3 K3
        clear p0 q0 p1 q1
        obtain ⟨p0, q0, -, -⟩ := B44.out
        obtain ⟨p1, q1, -, -⟩ := Nc4.out
        go_wp2_with fail
        refine (op2_any xn xd 0 cn cd ce _ (by omega) (by omega) (by omega) (by omega) (by omega) (by omega) (by omega) (by omega) ).mono ?_
        have hbdr := op2_bnd ⟨xn, xd, 0⟩ ⟨cn, cd, ce⟩
        obtain ⟨r, hr⟩ : ∃ r, r = op2 ⟨xn, xd, 0⟩ ⟨cn, cd, ce⟩ := ⟨_, rfl⟩
        rw [← hr] at hbdr
        rw [← hr]
        have HRr := Lib.hid hr
        clear hr
        obtain ⟨rn, rd, re⟩ := r
        simp only at hbdr
        simp only [Res.val]
        rintro e v5 ⟨rfl, hb⟩
        have B45 := Lib.hid (((B44.out).below hb).alloc (.cells #[.int .i64 rn, .int .i64 rd] 24))
        have B55 := Lib.hid (((B54.out).below hb).alloc (.cells #[.int .i64 rn, .int .i64 rd] 24))
        have B65 := Lib.hid (((B64.out).below hb).alloc (.cells #[.int .i64 rn, .int .i64 rd] 24))
        have Na5 := Lib.hid (((Na4.out).below hb).alloc (.cells #[.int .i64 rn, .int .i64 rd] 24))
        have Nb5 := Lib.hid (((Nb4.out).below hb).alloc (.cells #[.int .i64 rn, .int .i64 rd] 24))
        have Nc5 := Lib.hid (((Nc4.out).below hb).alloc (.cells #[.int .i64 rn, .int .i64 rd] 24))
        have Nl5 := Lib.hid (((N4.out).below hb).alloc (.cells #[.int .i64 rn, .int .i64 rd] 24))
        have K5 := Lib.hid ((K4.out.trans (hb.mono K4.out.size)).alloc (K4.out.trans (hb.mono K4.out.size)).size (.cells #[.int .i64 rn, .int .i64 rd] 24))
        have N5 := Lib.hid (Two.new v5 (.int .i64 rn) (.int .i64 rd) 24)
        clear hb B44 B54 B64 Na4 Nb4 Nc4 N4 K4
        clear p0 q0 p1 q1
        obtain ⟨p0, q0, -, -⟩ := Na5.out
        obtain ⟨p1, q1, -, -⟩ := Nb5.out
        obtain ⟨p2, q2, -, -⟩ := Nl5.out
        obtain ⟨p3, q3, -, -⟩ := N5.out
        go_wp2_with fail
        refine (agree_any ln ld le rn rd re _ (by rw [HRl.out, HRr.out, HRa.out, HRc.out]; exact mul_assoc3 _ _ _)).mono ?_
        rintro e vv ⟨rfl, hb⟩
        have FB4 := Lib.hid (B45.out.below hb)
        have FB5 := Lib.hid (B55.out.below hb)
        have FB6 := Lib.hid (B65.out.below hb)
        have KK := Lib.hid (K5.out.trans (hb.mono K5.out.size))
        clear hb
        clear p0 q0 p1 q1 p2 q2 p3 q3
        go_wp2_with fail
        go_roundg (4 - 4)
        case rel => exact ⟨4, by omega, by omega, by go_num, KK.out, FB4.out, FB5.out, FB6.out⟩
        case measure => omega
      · skip
        obtain ⟨p0, q0, -, -⟩ := B5.out
        obtain ⟨p1, q1, -, -⟩ := B6.out
        go_wp2_with fail
        refine (add_any yn yd zn zd _ (by omega) (by omega) (by omega) (by omega) (by omega) (by omega) (by omega) (by omega) ).mono ?_
        have hbds := addQ_bnd yn yd zn zd
        obtain ⟨r, hr⟩ : ∃ r, r = addQ yn yd zn zd := ⟨_, rfl⟩
        rw [← hr] at hbds
        rw [← hr]
        have HRs := Lib.hid hr
        clear hr
        obtain ⟨sn, sd, se⟩ := r
        simp only at hbds
        simp only [Res.val]
        rintro e v1 ⟨rfl, hb⟩
        have B41 := Lib.hid (((B4.out).below hb).alloc (.cells #[.int .i64 sn, .int .i64 sd] 24))
        have B51 := Lib.hid (((B5.out).below hb).alloc (.cells #[.int .i64 sn, .int .i64 sd] 24))
        have B61 := Lib.hid (((B6.out).below hb).alloc (.cells #[.int .i64 sn, .int .i64 sd] 24))
        have K1 := Lib.hid ((HB5.out.trans (hb.mono HB5.out.size)).alloc (HB5.out.trans (hb.mono HB5.out.size)).size (.cells #[.int .i64 sn, .int .i64 sd] 24))
        have N1 := Lib.hid (Two.new v1 (.int .i64 sn) (.int .i64 sd) 24)
        clear hb B4 B5 B6 HB5
        clear p0 q0 p1 q1
        obtain ⟨p0, q0, -, -⟩ := B41.out
        obtain ⟨p1, q1, -, -⟩ := N1.out
        go_wp2_with fail
        refine (op2_any xn xd 0 sn sd se _ (by omega) (by omega) (by omega) (by omega) (by omega) (by omega) (by omega) (by omega) ).mono ?_
        have hbda := op2_bnd ⟨xn, xd, 0⟩ ⟨sn, sd, se⟩
        obtain ⟨r, hr⟩ : ∃ r, r = op2 ⟨xn, xd, 0⟩ ⟨sn, sd, se⟩ := ⟨_, rfl⟩
        rw [← hr] at hbda
        rw [← hr]
        have HRa := Lib.hid hr
        clear hr
        obtain ⟨an, ad, ae⟩ := r
        simp only at hbda
        simp only [Res.val]
        rintro e v2 ⟨rfl, hb⟩
        have B42 := Lib.hid (((B41.out).below hb).alloc (.cells #[.int .i64 an, .int .i64 ad] 24))
        have B52 := Lib.hid (((B51.out).below hb).alloc (.cells #[.int .i64 an, .int .i64 ad] 24))
        have B62 := Lib.hid (((B61.out).below hb).alloc (.cells #[.int .i64 an, .int .i64 ad] 24))
        have Ns2 := Lib.hid (((N1.out).below hb).alloc (.cells #[.int .i64 an, .int .i64 ad] 24))
        have K2 := Lib.hid ((K1.out.trans (hb.mono K1.out.size)).alloc (K1.out.trans (hb.mono K1.out.size)).size (.cells #[.int .i64 an, .int .i64 ad] 24))
        have N2 := Lib.hid (Two.new v2 (.int .i64 an) (.int .i64 ad) 24)
        clear hb B41 B51 B61 N1 K1
        clear p0 q0 p1 q1
        obtain ⟨p0, q0, -, -⟩ := B42.out
        obtain ⟨p1, q1, -, -⟩ := B52.out
        go_wp2_with fail
        refine (mul_any xn xd yn yd _ (by omega) (by omega) (by omega) (by omega) (by omega) (by omega) (by omega) (by omega) ).mono ?_
        have hbdp := mulQ_bnd xn xd yn yd
        obtain ⟨r, hr⟩ : ∃ r, r = mulQ xn xd yn yd := ⟨_, rfl⟩
        rw [← hr] at hbdp
        rw [← hr]
        have HRp := Lib.hid hr
        clear hr
        obtain ⟨pn, pd, pe⟩ := r
        simp only at hbdp
        simp only [Res.val]
        rintro e v3 ⟨rfl, hb⟩
        have B43 := Lib.hid (((B42.out).below hb).alloc (.cells #[.int .i64 pn, .int .i64 pd] 24))
        have B53 := Lib.hid (((B52.out).below hb).alloc (.cells #[.int .i64 pn, .int .i64 pd] 24))
        have B63 := Lib.hid (((B62.out).below hb).alloc (.cells #[.int .i64 pn, .int .i64 pd] 24))
        have Ns3 := Lib.hid (((Ns2.out).below hb).alloc (.cells #[.int .i64 pn, .int .i64 pd] 24))
        have Na3 := Lib.hid (((N2.out).below hb).alloc (.cells #[.int .i64 pn, .int .i64 pd] 24))
        have K3 := Lib.hid ((K2.out.trans (hb.mono K2.out.size)).alloc (K2.out.trans (hb.mono K2.out.size)).size (.cells #[.int .i64 pn, .int .i64 pd] 24))
        have N3 := Lib.hid (Two.new v3 (.int .i64 pn) (.int .i64 pd) 24)
        clear hb B42 B52 B62 Ns2 N2 K2
        clear p0 q0 p1 q1
        obtain ⟨p0, q0, -, -⟩ := B43.out
        obtain ⟨p1, q1, -, -⟩ := B63.out
        go_wp2_with fail
        refine (mul_any xn xd zn zd _ (by omega) (by omega) (by omega) (by omega) (by omega) (by omega) (by omega) (by omega) ).mono ?_
        have hbdq := mulQ_bnd xn xd zn zd
        obtain ⟨r, hr⟩ : ∃ r, r = mulQ xn xd zn zd := ⟨_, rfl⟩
        rw [← hr] at hbdq
        rw [← hr]
        have HRq := Lib.hid hr
        clear hr
        obtain ⟨qn, qd, qe⟩ := r
        simp only at hbdq
        simp only [Res.val]
        rintro e v4 ⟨rfl, hb⟩
        have B44 := Lib.hid (((B43.out).below hb).alloc (.cells #[.int .i64 qn, .int .i64 qd] 24))
        have B54 := Lib.hid (((B53.out).below hb).alloc (.cells #[.int .i64 qn, .int .i64 qd] 24))
        have B64 := Lib.hid (((B63.out).below hb).alloc (.cells #[.int .i64 qn, .int .i64 qd] 24))
        have Ns4 := Lib.hid (((Ns3.out).below hb).alloc (.cells #[.int .i64 qn, .int .i64 qd] 24))
        have Na4 := Lib.hid (((Na3.out).below hb).alloc (.cells #[.int .i64 qn, .int .i64 qd] 24))
        have Np4 := Lib.hid (((N3.out).below hb).alloc (.cells #[.int .i64 qn, .int .i64 qd] 24))
        have K4 := Lib.hid ((K3.out.trans (hb.mono K3.out.size)).alloc (K3.out.trans (hb.mono K3.out.size)).size (.cells #[.int .i64 qn, .int .i64 qd] 24))
        have N4 := Lib.hid (Two.new v4 (.int .i64 qn) (.int .i64 qd) 24)
        clear hb B43 B53 B63 Ns3 Na3 N3 K3
        clear p0 q0 p1 q1
        obtain ⟨p0, q0, -, -⟩ := Np4.out
        obtain ⟨p1, q1, -, -⟩ := N4.out
        go_wp2_with fail
        refine (op0_any pn pd pe qn qd qe _ (by omega) (by omega) (by omega) (by omega) (by omega) (by omega) (by omega) (by omega) ).mono ?_
        have hbdb := op0_bnd ⟨pn, pd, pe⟩ ⟨qn, qd, qe⟩
        obtain ⟨r, hr⟩ : ∃ r, r = op0 ⟨pn, pd, pe⟩ ⟨qn, qd, qe⟩ := ⟨_, rfl⟩
        rw [← hr] at hbdb
        rw [← hr]
        have HRb := Lib.hid hr
        clear hr
        obtain ⟨bn, bd, be⟩ := r
        simp only at hbdb
        simp only [Res.val]
        rintro e v5 ⟨rfl, hb⟩
        have B45 := Lib.hid (((B44.out).below hb).alloc (.cells #[.int .i64 bn, .int .i64 bd] 24))
        have B55 := Lib.hid (((B54.out).below hb).alloc (.cells #[.int .i64 bn, .int .i64 bd] 24))
        have B65 := Lib.hid (((B64.out).below hb).alloc (.cells #[.int .i64 bn, .int .i64 bd] 24))
        have Ns5 := Lib.hid (((Ns4.out).below hb).alloc (.cells #[.int .i64 bn, .int .i64 bd] 24))
        have Na5 := Lib.hid (((Na4.out).below hb).alloc (.cells #[.int .i64 bn, .int .i64 bd] 24))
        have Np5 := Lib.hid (((Np4.out).below hb).alloc (.cells #[.int .i64 bn, .int .i64 bd] 24))
        have Nq5 := Lib.hid (((N4.out).below hb).alloc (.cells #[.int .i64 bn, .int .i64 bd] 24))
        have K5 := Lib.hid ((K4.out.trans (hb.mono K4.out.size)).alloc (K4.out.trans (hb.mono K4.out.size)).size (.cells #[.int .i64 bn, .int .i64 bd] 24))
        have N5 := Lib.hid (Two.new v5 (.int .i64 bn) (.int .i64 bd) 24)
        clear hb B44 B54 B64 Ns4 Na4 Np4 N4 K4
        clear p0 q0 p1 q1
        obtain ⟨p0, q0, -, -⟩ := Na5.out
        obtain ⟨p1, q1, -, -⟩ := N5.out
        go_wp2_with fail
        refine (agree_any an ad ae bn bd be _ (by rw [HRa.out, HRb.out, HRs.out, HRp.out, HRq.out]; exact distr3 ⟨xn, xd, 0⟩ ⟨yn, yd, 0⟩ ⟨zn, zd, 0⟩ rfl)).mono ?_
        rintro e vv ⟨rfl, hb⟩
        have FB4 := Lib.hid (B45.out.below hb)
        have FB5 := Lib.hid (B55.out.below hb)
        have FB6 := Lib.hid (B65.out.below hb)
        have KK := Lib.hid (K5.out.trans (hb.mono K5.out.size))
        clear hb
        clear p0 q0 p1 q1
        go_wp2_with fail
        go_ret
        exact ⟨rfl, KK.out⟩
end Go.Proofs.YtaekhbhjgcmghaaDoor
