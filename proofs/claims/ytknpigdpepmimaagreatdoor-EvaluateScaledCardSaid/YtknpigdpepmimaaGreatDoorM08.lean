/- Contract of unit.Pow 122. -/
import Derived.Deep.CutBlock
import Derived.Deep.DeepCutAuto
import Derived.Test.YtknpigdpepmimaaGreatDoorM07
namespace Go.Proofs.YtknpigdpepmimaaGreatDoor
open Go.RowKit
def Dm.times (n : Int) (x : Dm) : Dm := ⟨x.a * n, x.b * n, x.c * n, x.d * n, x.e * n, x.f * n, x.g * n⟩
def mixP (x : Dm) (n : Int) (i : Nat) : Dm := match i with
  | 0 => ⟨x.a, x.b, x.c, x.d, x.e, x.f, x.g⟩
  | 1 => ⟨x.a * n, x.b, x.c, x.d, x.e, x.f, x.g⟩
  | 2 => ⟨x.a * n, x.b * n, x.c, x.d, x.e, x.f, x.g⟩
  | 3 => ⟨x.a * n, x.b * n, x.c * n, x.d, x.e, x.f, x.g⟩
  | 4 => ⟨x.a * n, x.b * n, x.c * n, x.d * n, x.e, x.f, x.g⟩
  | 5 => ⟨x.a * n, x.b * n, x.c * n, x.d * n, x.e * n, x.f, x.g⟩
  | 6 => ⟨x.a * n, x.b * n, x.c * n, x.d * n, x.e * n, x.f * n, x.g⟩
  | _ => ⟨x.a * n, x.b * n, x.c * n, x.d * n, x.e * n, x.f * n, x.g * n⟩
def dpowQ (x : Dm) (n : Int) : Dm × Int := if x.ok = true then (if x = zD then (zD, 0) else if n < -100 ∨ 100 < n then (zD, 2) else if (x.times n).ok = true then (x.times n, 0) else (zD, 2)) else (zD, 1)
theorem mul_small {y n : Int} (hy : -100 ≤ y ∧ y ≤ 100) (hn : -100 ≤ n ∧ n ≤ 100) : -1000000 ≤ y * n ∧ y * n ≤ 1000000 := by
  have h1 : (y * n).natAbs ≤ 100 * 100 := by
    rw [Int.natAbs_mul]
    exact Nat.mul_le_mul (by omega) (by omega)
  omega
set_option maxRecDepth 100000 in
set_option maxHeartbeats 4000000 in
theorem dpow_any (x : Dm) (n : Int) (w : World) : Calls Tryz.prog 122 #[.agg x.cells, .int .i64 n] w fun e w' => e = .returned (.tuple #[.agg (dpowQ x n).1.cells, .int .i64 (dpowQ x n).2]) ∧ Below w.heap.size w w' := by
  have HE : Hid (dpowQ x n = if x.ok = true then (if x = zD then (zD, 0) else if n < -100 ∨ 100 < n then (zD, 2) else if (x.times n).ok = true then (x.times n, 0) else (zD, 2)) else (zD, 1)) := rfl
  have HV1 := Lib.hid (uvalid_any x)
  have HV3 := Lib.hid (uvalid_any (x.times n))
  have HBX := Lib.hid fun (h : x.ok = true) => Dm.ok_all h
  have HZ : Hid (x = zD ↔ x.a = 0 ∧ x.b = 0 ∧ x.c = 0 ∧ x.d = 0 ∧ x.e = 0 ∧ x.f = 0 ∧ x.g = 0) := by
    show _ ↔ _
    cases x
    simp [zD]
  unfold Dm.cells at HV1 HV3 ⊢
  unfold Dm.times at HE HV3
  have hb1 : Below w.heap.size w (w.alloc (.cells #[.int .i64 x.a, .int .i64 x.b, .int .i64 x.c, .int .i64 x.d, .int .i64 x.e, .int .i64 x.f, .int .i64 x.g] 42)) := (Below.refl _ _).alloc (Nat.le_refl _) _
  have hb3 : Below w.heap.size w ((w.alloc (.cells #[.int .i64 x.a, .int .i64 x.b, .int .i64 x.c, .int .i64 x.d, .int .i64 x.e, .int .i64 x.f, .int .i64 x.g] 42)).alloc (.cells #[.int .i64 0, .int .i64 0, .int .i64 0, .int .i64 0, .int .i64 0, .int .i64 0, .int .i64 0] 42)) := hb1.alloc (by simp) _
  have hk1 : K7 ((w.alloc (.cells #[.int .i64 x.a, .int .i64 x.b, .int .i64 x.c, .int .i64 x.d, .int .i64 x.e, .int .i64 x.f, .int .i64 x.g] 42)).alloc (.cells #[.int .i64 0, .int .i64 0, .int .i64 0, .int .i64 0, .int .i64 0, .int .i64 0, .int .i64 0] 42)) w.heap.size x := (K7.new w x).reach ((Below.refl _ _).alloc (Nat.le_refl _) _)
  have hk3 := K7.new (w.alloc (.cells #[.int .i64 x.a, .int .i64 x.b, .int .i64 x.c, .int .i64 x.d, .int .i64 x.e, .int .i64 x.f, .int .i64 x.g] 42)) ⟨0, 0, 0, 0, 0, 0, 0⟩
  rw [World.size_alloc] at hk3
  have hsz : ((w.alloc (.cells #[.int .i64 x.a, .int .i64 x.b, .int .i64 x.c, .int .i64 x.d, .int .i64 x.e, .int .i64 x.f, .int .i64 x.g] 42)).alloc (.cells #[.int .i64 0, .int .i64 0, .int .i64 0, .int .i64 0, .int .i64 0, .int .i64 0, .int .i64 0] 42)).heap.size = w.heap.size + 2 := by simp
  have HK1 := Lib.hid hk1
  have HK3 : Hid (K7 ((w.alloc (.cells #[.int .i64 x.a, .int .i64 x.b, .int .i64 x.c, .int .i64 x.d, .int .i64 x.e, .int .i64 x.f, .int .i64 x.g] 42)).alloc (.cells #[.int .i64 0, .int .i64 0, .int .i64 0, .int .i64 0, .int .i64 0, .int .i64 0, .int .i64 0] 42)) (w.heap.size + 1) ⟨0, 0, 0, 0, 0, 0, 0⟩) := hk3
  have HB3 := Lib.hid hb3
  clear hb1 hb3 hk1 hk3
  go_enter Tryz.func122, Tryz.ntmps122
  go_upto_region 1 with (fail)
  generalize (w.alloc (.cells #[.int .i64 x.a, .int .i64 x.b, .int .i64 x.c, .int .i64 x.d, .int .i64 x.e, .int .i64 x.f, .int .i64 x.g] 42)).alloc (.cells #[.int .i64 0, .int .i64 0, .int .i64 0, .int .i64 0, .int .i64 0, .int .i64 0, .int .i64 0] 42) = w1 at *
  obtain ⟨⟨p0, p1, p2, p3, p4, p5, p6⟩, _, _⟩ := HK1.out.cells
  go_wp2_with fail
  refine (HV1.out w1).mono ?_
  rintro e w2 ⟨rfl, hb2⟩
  have HB2 := Lib.hid hb2
  have hs2 := hb2.size
  clear hb2 p0 p1 p2 p3 p4 p5 p6
  have HBw := Lib.hid (HB3.out.trans (HB2.out.mono (by omega)))
  have HL1 := Lib.hid (HK1.out.reach HB2.out)
  have HL3 := Lib.hid (HK3.out.reach HB2.out)
  obtain ⟨⟨z0, z1, z2, z3, z4, z5, z6⟩, zf, _⟩ := HL3.out.cells
  obtain ⟨⟨p0, p1, p2, p3, p4, p5, p6⟩, _, _⟩ := HL1.out.cells
  cases h1 : x.ok with
  | false =>
    have HR : Hid (dpowQ x n = (zD, 1)) := HE.out.trans (by rw [h1]; simp)
    clear h1
    go_wp2_with fail
    rw [HR.out]
    refine bodyPost_ret (v := .tuple #[.agg zD.cells, .int .i64 1]) (by simp [results, Tryz.results122, go_sem, Dm.cells, zD, z0, z1, z2, z3, z4, z5, z6]) rfl ⟨rfl, ?_⟩
    exact below7 (B := w.heap.size) HBw.out (b := w.heap.size + 1) (by omega) zD
  | true =>
    have HX := Lib.hid (HBX.out h1)
    have HE1 : Hid (dpowQ x n = if x = zD then (zD, 0) else if n < -100 ∨ 100 < n then (zD, 2) else if (⟨x.a * n, x.b * n, x.c * n, x.d * n, x.e * n, x.f * n, x.g * n⟩ : Dm).ok = true then (⟨x.a * n, x.b * n, x.c * n, x.d * n, x.e * n, x.f * n, x.g * n⟩, 0) else (zD, 2)) := HE.out.trans (if_pos h1)
    clear h1 HE HBX
    have hE : ∀ w', (Op.equalIn 10000 42 (.agg #[.int .i64 x.a, .int .i64 x.b, .int .i64 x.c, .int .i64 x.d, .int .i64 x.e, .int .i64 x.f, .int .i64 x.g]) (.agg #[.int .i64 0, .int .i64 0, .int .i64 0, .int .i64 0, .int .i64 0, .int .i64 0, .int .i64 0])).run Tryz.prog w' = .ok (decide (x = zD)) w' := eq42 x zD
    by_cases hz : x = zD
    · have HR : Hid (dpowQ x n = (zD, 0)) := HE1.out.trans (if_pos hz)
      rw [decide_eq_true hz] at hE
      have HZX := Lib.hid hz
      clear HE1 hz
      go_wp2_with fail
      rw [HR.out]
      refine bodyPost_ret (v := .tuple #[.agg (Dm.cells x), .int .i64 0]) (by simp [results, Tryz.results122, go_sem, Dm.cells, z0, z1, z2, z3, z4, z5, z6]) rfl ⟨by rw [HZX.out]; rfl, ?_⟩
      exact below7 (B := w.heap.size) HBw.out (b := w.heap.size + 1) (by omega) x
    · have HE2 : Hid (dpowQ x n = if n < -100 ∨ 100 < n then (zD, 2) else if (⟨x.a * n, x.b * n, x.c * n, x.d * n, x.e * n, x.f * n, x.g * n⟩ : Dm).ok = true then (⟨x.a * n, x.b * n, x.c * n, x.d * n, x.e * n, x.f * n, x.g * n⟩, 0) else (zD, 2)) := HE1.out.trans (if_neg hz)
      rw [decide_eq_false hz] at hE
      clear HE1 hz
      by_cases h1 : n < -100
      · have HR : Hid (dpowQ x n = (zD, 2)) := HE2.out.trans (if_pos (.inl h1))
        go_wp2_with fail
        rw [HR.out]
        refine bodyPost_ret (v := .tuple #[.agg zD.cells, .int .i64 2]) (by simp [results, Tryz.results122, go_sem, Dm.cells, zD, z0, z1, z2, z3, z4, z5, z6]) rfl ⟨rfl, ?_⟩
        exact below7 (B := w.heap.size) HBw.out (b := w.heap.size + 1) (by omega) zD
      · by_cases h2 : 100 < n
        · have HR : Hid (dpowQ x n = (zD, 2)) := HE2.out.trans (if_pos (.inr h2))
          go_wp2_with fail
          rw [HR.out]
          refine bodyPost_ret (v := .tuple #[.agg zD.cells, .int .i64 2]) (by simp [results, Tryz.results122, go_sem, Dm.cells, zD, z0, z1, z2, z3, z4, z5, z6]) rfl ⟨rfl, ?_⟩
          exact below7 (B := w.heap.size) HBw.out (b := w.heap.size + 1) (by omega) zD
        · have HE3 : Hid (dpowQ x n = if (⟨x.a * n, x.b * n, x.c * n, x.d * n, x.e * n, x.f * n, x.g * n⟩ : Dm).ok = true then (⟨x.a * n, x.b * n, x.c * n, x.d * n, x.e * n, x.f * n, x.g * n⟩, 0) else (zD, 2)) := HE2.out.trans (if_neg (by omega))
          have HN : Hid (-100 ≤ n ∧ n ≤ 100) := by show _ ∧ _; omega
          clear HE2
          go_upto_region 7 with (fail)
          clear p0 p1 p2 p3 p4 p5 p6 z0 z1 z2 z3 z4 z5 z6 zf hE
          go_wp2_with fail
          go_loopg [6, 22] 7 (fun gg s6 s22 wr => ∃ i : Nat, i ≤ 7 ∧ 7 - i ≤ gg ∧ s22 = .int .i64 i ∧ Aside (K7 wr w.heap.size (mixP x n i)) ∧ Aside (K7 wr (w.heap.size + 1) ⟨0, 0, 0, 0, 0, 0, 0⟩) ∧ Aside (Below w.heap.size w wr) ∧ Aside (w.heap.size + 2 ≤ wr.heap.size))
          case atStart => exact ⟨0, by omega, by omega, rfl, HL1.out, HL3.out, HBw.out, by show _ ≤ _; omega⟩
          case round =>
            obtain ⟨i, hi, hgg, rfl, HC1, HC3, HB, HSZ⟩ := hrel
            by_cases hlt : i < 7
            · have hltz : (i : Int) < 7 := by omega
              rcases (show i = 0 ∨ i = 1 ∨ i = 2 ∨ i = 3 ∨ i = 4 ∨ i = 5 ∨ i = 6 by omega) with rfl | rfl | rfl | rfl | rfl | rfl | rfl
              · have c1 : wr.cell? ⟨w.heap.size, 0, none⟩ = some (.int .i64 x.a) := HC1.out.cells.1.1
                have cf := HC1.out.cells.2.1 0
                have e1 : IntKind.i64.wrap (x.a * n) = x.a * n := wrap_small (mul_small HX.out.1 HN.out)
                have HN1 := Lib.hid (HC1.out.set0 (x.a * n))
                have HN3 := Lib.hid (HC3.out.other (b' := w.heap.size) (o := 0) (.int .i64 (x.a * n)) (by omega))
                have HNB := Lib.hid (HB.out.setCell (p := ⟨w.heap.size, 0, none⟩) (Nat.le_refl _) (.int .i64 (x.a * n)))
                have HNS : Hid (w.heap.size + 2 ≤ (wr.setCell ⟨w.heap.size, 0, none⟩ (.int .i64 (x.a * n))).heap.size) := by show _ ≤ _; rw [World.size_setCell]; exact HSZ.out
                go_wp2_with fail
                go_roundg 6
                case measure => omega
                case rel => exact ⟨1, by omega, by omega, by go_num, HN1.out, HN3.out, HNB.out, HNS.out⟩
              · have c1 : wr.cell? ⟨w.heap.size, 1, none⟩ = some (.int .i64 x.b) := HC1.out.cells.1.2.1
                have cf := HC1.out.cells.2.1 1
                have e1 : IntKind.i64.wrap (x.b * n) = x.b * n := wrap_small (mul_small HX.out.2.1 HN.out)
                have HN1 := Lib.hid (HC1.out.set1 (x.b * n))
                have HN3 := Lib.hid (HC3.out.other (b' := w.heap.size) (o := 1) (.int .i64 (x.b * n)) (by omega))
                have HNB := Lib.hid (HB.out.setCell (p := ⟨w.heap.size, 1, none⟩) (Nat.le_refl _) (.int .i64 (x.b * n)))
                have HNS : Hid (w.heap.size + 2 ≤ (wr.setCell ⟨w.heap.size, 1, none⟩ (.int .i64 (x.b * n))).heap.size) := by show _ ≤ _; rw [World.size_setCell]; exact HSZ.out
                go_wp2_with fail
                go_roundg 5
                case measure => omega
                case rel => exact ⟨2, by omega, by omega, by go_num, HN1.out, HN3.out, HNB.out, HNS.out⟩
              · have c1 : wr.cell? ⟨w.heap.size, 2, none⟩ = some (.int .i64 x.c) := HC1.out.cells.1.2.2.1
                have cf := HC1.out.cells.2.1 2
                have e1 : IntKind.i64.wrap (x.c * n) = x.c * n := wrap_small (mul_small HX.out.2.2.1 HN.out)
                have HN1 := Lib.hid (HC1.out.set2 (x.c * n))
                have HN3 := Lib.hid (HC3.out.other (b' := w.heap.size) (o := 2) (.int .i64 (x.c * n)) (by omega))
                have HNB := Lib.hid (HB.out.setCell (p := ⟨w.heap.size, 2, none⟩) (Nat.le_refl _) (.int .i64 (x.c * n)))
                have HNS : Hid (w.heap.size + 2 ≤ (wr.setCell ⟨w.heap.size, 2, none⟩ (.int .i64 (x.c * n))).heap.size) := by show _ ≤ _; rw [World.size_setCell]; exact HSZ.out
                go_wp2_with fail
                go_roundg 4
                case measure => omega
                case rel => exact ⟨3, by omega, by omega, by go_num, HN1.out, HN3.out, HNB.out, HNS.out⟩
              · have c1 : wr.cell? ⟨w.heap.size, 3, none⟩ = some (.int .i64 x.d) := HC1.out.cells.1.2.2.2.1
                have cf := HC1.out.cells.2.1 3
                have e1 : IntKind.i64.wrap (x.d * n) = x.d * n := wrap_small (mul_small HX.out.2.2.2.1 HN.out)
                have HN1 := Lib.hid (HC1.out.set3 (x.d * n))
                have HN3 := Lib.hid (HC3.out.other (b' := w.heap.size) (o := 3) (.int .i64 (x.d * n)) (by omega))
                have HNB := Lib.hid (HB.out.setCell (p := ⟨w.heap.size, 3, none⟩) (Nat.le_refl _) (.int .i64 (x.d * n)))
                have HNS : Hid (w.heap.size + 2 ≤ (wr.setCell ⟨w.heap.size, 3, none⟩ (.int .i64 (x.d * n))).heap.size) := by show _ ≤ _; rw [World.size_setCell]; exact HSZ.out
                go_wp2_with fail
                go_roundg 3
                case measure => omega
                case rel => exact ⟨4, by omega, by omega, by go_num, HN1.out, HN3.out, HNB.out, HNS.out⟩
              · have c1 : wr.cell? ⟨w.heap.size, 4, none⟩ = some (.int .i64 x.e) := HC1.out.cells.1.2.2.2.2.1
                have cf := HC1.out.cells.2.1 4
                have e1 : IntKind.i64.wrap (x.e * n) = x.e * n := wrap_small (mul_small HX.out.2.2.2.2.1 HN.out)
                have HN1 := Lib.hid (HC1.out.set4 (x.e * n))
                have HN3 := Lib.hid (HC3.out.other (b' := w.heap.size) (o := 4) (.int .i64 (x.e * n)) (by omega))
                have HNB := Lib.hid (HB.out.setCell (p := ⟨w.heap.size, 4, none⟩) (Nat.le_refl _) (.int .i64 (x.e * n)))
                have HNS : Hid (w.heap.size + 2 ≤ (wr.setCell ⟨w.heap.size, 4, none⟩ (.int .i64 (x.e * n))).heap.size) := by show _ ≤ _; rw [World.size_setCell]; exact HSZ.out
                go_wp2_with fail
                go_roundg 2
                case measure => omega
                case rel => exact ⟨5, by omega, by omega, by go_num, HN1.out, HN3.out, HNB.out, HNS.out⟩
              · have c1 : wr.cell? ⟨w.heap.size, 5, none⟩ = some (.int .i64 x.f) := HC1.out.cells.1.2.2.2.2.2.1
                have cf := HC1.out.cells.2.1 5
                have e1 : IntKind.i64.wrap (x.f * n) = x.f * n := wrap_small (mul_small HX.out.2.2.2.2.2.1 HN.out)
                have HN1 := Lib.hid (HC1.out.set5 (x.f * n))
                have HN3 := Lib.hid (HC3.out.other (b' := w.heap.size) (o := 5) (.int .i64 (x.f * n)) (by omega))
                have HNB := Lib.hid (HB.out.setCell (p := ⟨w.heap.size, 5, none⟩) (Nat.le_refl _) (.int .i64 (x.f * n)))
                have HNS : Hid (w.heap.size + 2 ≤ (wr.setCell ⟨w.heap.size, 5, none⟩ (.int .i64 (x.f * n))).heap.size) := by show _ ≤ _; rw [World.size_setCell]; exact HSZ.out
                go_wp2_with fail
                go_roundg 1
                case measure => omega
                case rel => exact ⟨6, by omega, by omega, by go_num, HN1.out, HN3.out, HNB.out, HNS.out⟩
              · have c1 : wr.cell? ⟨w.heap.size, 6, none⟩ = some (.int .i64 x.g) := HC1.out.cells.1.2.2.2.2.2.2
                have cf := HC1.out.cells.2.1 6
                have e1 : IntKind.i64.wrap (x.g * n) = x.g * n := wrap_small (mul_small HX.out.2.2.2.2.2.2 HN.out)
                have HN1 := Lib.hid (HC1.out.set6 (x.g * n))
                have HN3 := Lib.hid (HC3.out.other (b' := w.heap.size) (o := 6) (.int .i64 (x.g * n)) (by omega))
                have HNB := Lib.hid (HB.out.setCell (p := ⟨w.heap.size, 6, none⟩) (Nat.le_refl _) (.int .i64 (x.g * n)))
                have HNS : Hid (w.heap.size + 2 ≤ (wr.setCell ⟨w.heap.size, 6, none⟩ (.int .i64 (x.g * n))).heap.size) := by show _ ≤ _; rw [World.size_setCell]; exact HSZ.out
                go_wp2_with fail
                go_roundg 0
                case measure => omega
                case rel => exact ⟨7, by omega, by omega, by go_num, HN1.out, HN3.out, HNB.out, HNS.out⟩
            · have hltz : ¬ (i : Int) < 7 := by omega
              have e7 : i = 7 := by omega
              subst e7
              have hc1 : K7 wr w.heap.size ⟨x.a * n, x.b * n, x.c * n, x.d * n, x.e * n, x.f * n, x.g * n⟩ := HC1.out
              obtain ⟨⟨p0, p1, p2, p3, p4, p5, p6⟩, _, _⟩ := hc1.cells
              have HK := Lib.hid hc1
              clear hc1
              go_wp2_with fail
              refine (HV3.out wr).mono ?_
              rintro e w5 ⟨rfl, hb5⟩
              have HB5 := Lib.hid (HB.out.trans (hb5.mono HB.out.size))
              obtain ⟨⟨z0, z1, z2, z3, z4, z5, z6⟩, zf, _⟩ := (HC3.out.reach hb5).cells
              have HK5 := Lib.hid (HK.out.reach hb5)
              clear hb5 p0 p1 p2 p3 p4 p5 p6
              cases h3 : (⟨x.a * n, x.b * n, x.c * n, x.d * n, x.e * n, x.f * n, x.g * n⟩ : Dm).ok with
              | false =>
                have HR : Hid (dpowQ x n = (zD, 2)) := HE3.out.trans (by rw [h3]; simp)
                clear h3
                go_wp2_with fail
                rw [HR.out]
                refine bodyPost_ret (v := .tuple #[.agg zD.cells, .int .i64 2]) (by simp [results, Tryz.results122, go_sem, Dm.cells, zD, z0, z1, z2, z3, z4, z5, z6]) rfl ⟨rfl, ?_⟩
                exact below7 (B := w.heap.size) HB5.out (b := w.heap.size + 1) (by omega) zD
              | true =>
                have HR : Hid (dpowQ x n = (⟨x.a * n, x.b * n, x.c * n, x.d * n, x.e * n, x.f * n, x.g * n⟩, 0)) := HE3.out.trans (by rw [h3]; simp)
                obtain ⟨⟨p0, p1, p2, p3, p4, p5, p6⟩, _, _⟩ := HK5.out.cells
                clear h3
                go_wp2_with fail
                rw [HR.out]
                refine bodyPost_ret (v := .tuple #[.agg (Dm.cells ⟨x.a * n, x.b * n, x.c * n, x.d * n, x.e * n, x.f * n, x.g * n⟩), .int .i64 0]) (by simp [results, Tryz.results122, go_sem, Dm.cells, z0, z1, z2, z3, z4, z5, z6]) rfl ⟨rfl, ?_⟩
                exact below7 (B := w.heap.size) HB5.out (b := w.heap.size + 1) (by omega) ⟨x.a * n, x.b * n, x.c * n, x.d * n, x.e * n, x.f * n, x.g * n⟩
end Go.Proofs.YtknpigdpepmimaaGreatDoor
