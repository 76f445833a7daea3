/- Contracts of ref53.Valid 66, ref53.Number 52, ref53.ValidValue 37. -/
import Derived.Test.YtknpigdpepmimaaGreatDoorM21
namespace Go.Proofs.YtknpigdpepmimaaGreatDoor
open Go.RowKit

set_option maxRecDepth 100000 in
set_option maxHeartbeats 4000000 in
theorem rdim_any (d : Dm) (w : World) : Calls Tryz.prog 66 #[.agg d.cells] w fun e w' => e = .returned (.bool d.ok) ∧ Below w.heap.size w w' := by
  obtain ⟨a, b, c, d, e, f, g⟩ := d
  unfold Dm.cells
  have HB : Hid (Below w.heap.size w (w.alloc (.cells #[.int .i64 a, .int .i64 b, .int .i64 c, .int .i64 d, .int .i64 e, .int .i64 f, .int .i64 g] 42))) := (Below.refl _ _).alloc (Nat.le_refl _) _
  have HK : Hid (K7 (w.alloc (.cells #[.int .i64 a, .int .i64 b, .int .i64 c, .int .i64 d, .int .i64 e, .int .i64 f, .int .i64 g] 42)) w.heap.size ⟨a, b, c, d, e, f, g⟩) := K7.new w ⟨a, b, c, d, e, f, g⟩
  have HOK := Lib.hid (Dm.okTo_all ⟨a, b, c, d, e, f, g⟩)
  go_enter Tryz.func66, Tryz.ntmps66
  go_upto_region 1 with (fail)
  generalize w.alloc (.cells #[.int .i64 a, .int .i64 b, .int .i64 c, .int .i64 d, .int .i64 e, .int .i64 f, .int .i64 g] 42) = w1 at *
  obtain ⟨⟨c0, c1, c2, c3, c4, c5, c6⟩, _, _⟩ := HK.out.cells
  dsimp only at c0 c1 c2 c3 c4 c5 c6
  go_wp2_with fail
  go_loopg [3] 7 (fun gg s3 wr => ∃ i : Nat, i ≤ 7 ∧ 7 - i ≤ gg ∧ s3 = .int .i64 i ∧ Aside ((Dm.mk a b c d e f g).okTo i = true) ∧ wr = w1)
  case atStart => exact ⟨0, by omega, by omega, rfl, (by show Dm.okTo _ 0 = true; simp [Dm.okTo]), rfl⟩
  case round =>
    obtain ⟨i, hi, hgg, rfl, HT, rfl⟩ := hrel
    by_cases hlt : i < 7
    · have hltz : (i : Int) < 7 := by omega
      rcases (show i = 0 ∨ i = 1 ∨ i = 2 ∨ i = 3 ∨ i = 4 ∨ i = 5 ∨ i = 6 by omega) with rfl | rfl | rfl | rfl | rfl | rfl | rfl
      · by_cases h1 : a < -100
        · have HZ : Hid (Dm.ok ⟨a, b, c, d, e, f, g⟩ = false) := by
            have e1 : okE a = false := by unfold okE; rw [decide_eq_false (by omega)]; rfl
            show Dm.ok _ = false
            simp [Dm.ok, e1]
          go_wp2_with fail
          go_ret
          rw [HZ.out]
          exact ⟨rfl, HB.out⟩
        · by_cases h2 : 100 < a
          · have HZ : Hid (Dm.ok ⟨a, b, c, d, e, f, g⟩ = false) := by
              have e1 : okE a = false := by unfold okE; rw [decide_eq_false (show ¬ a ≤ 100 by omega)]; simp
              show Dm.ok _ = false
              simp [Dm.ok, e1]
            go_wp2_with fail
            go_ret
            rw [HZ.out]
            exact ⟨rfl, HB.out⟩
          · have HT2 : Hid ((Dm.mk a b c d e f g).okTo 1 = true) := by
              have e1 : okE a = true := by unfold okE; rw [decide_eq_true (by omega), decide_eq_true (by omega)]; rfl
              have e0 := HT.out
              show Dm.okTo _ _ = true
              simp [Dm.okTo, e1] at e0 ⊢
              try simp [e0]
            go_wp2_with fail
            go_roundg 6
            case measure => omega
            case rel => exact ⟨1, by omega, by omega, by go_num, HT2.out, rfl⟩
      · by_cases h1 : b < -100
        · have HZ : Hid (Dm.ok ⟨a, b, c, d, e, f, g⟩ = false) := by
            have e1 : okE b = false := by unfold okE; rw [decide_eq_false (by omega)]; rfl
            show Dm.ok _ = false
            simp [Dm.ok, e1]
          go_wp2_with fail
          go_ret
          rw [HZ.out]
          exact ⟨rfl, HB.out⟩
        · by_cases h2 : 100 < b
          · have HZ : Hid (Dm.ok ⟨a, b, c, d, e, f, g⟩ = false) := by
              have e1 : okE b = false := by unfold okE; rw [decide_eq_false (show ¬ b ≤ 100 by omega)]; simp
              show Dm.ok _ = false
              simp [Dm.ok, e1]
            go_wp2_with fail
            go_ret
            rw [HZ.out]
            exact ⟨rfl, HB.out⟩
          · have HT2 : Hid ((Dm.mk a b c d e f g).okTo 2 = true) := by
              have e1 : okE b = true := by unfold okE; rw [decide_eq_true (by omega), decide_eq_true (by omega)]; rfl
              have e0 := HT.out
              show Dm.okTo _ _ = true
              simp [Dm.okTo, e1] at e0 ⊢
              try simp [e0]
            go_wp2_with fail
            go_roundg 5
            case measure => omega
            case rel => exact ⟨2, by omega, by omega, by go_num, HT2.out, rfl⟩
      · by_cases h1 : c < -100
        · have HZ : Hid (Dm.ok ⟨a, b, c, d, e, f, g⟩ = false) := by
            have e1 : okE c = false := by unfold okE; rw [decide_eq_false (by omega)]; rfl
            show Dm.ok _ = false
            simp [Dm.ok, e1]
          go_wp2_with fail
          go_ret
          rw [HZ.out]
          exact ⟨rfl, HB.out⟩
        · by_cases h2 : 100 < c
          · have HZ : Hid (Dm.ok ⟨a, b, c, d, e, f, g⟩ = false) := by
              have e1 : okE c = false := by unfold okE; rw [decide_eq_false (show ¬ c ≤ 100 by omega)]; simp
              show Dm.ok _ = false
              simp [Dm.ok, e1]
            go_wp2_with fail
            go_ret
            rw [HZ.out]
            exact ⟨rfl, HB.out⟩
          · have HT2 : Hid ((Dm.mk a b c d e f g).okTo 3 = true) := by
              have e1 : okE c = true := by unfold okE; rw [decide_eq_true (by omega), decide_eq_true (by omega)]; rfl
              have e0 := HT.out
              show Dm.okTo _ _ = true
              simp [Dm.okTo, e1] at e0 ⊢
              try simp [e0]
            go_wp2_with fail
            go_roundg 4
            case measure => omega
            case rel => exact ⟨3, by omega, by omega, by go_num, HT2.out, rfl⟩
      · by_cases h1 : d < -100
        · have HZ : Hid (Dm.ok ⟨a, b, c, d, e, f, g⟩ = false) := by
            have e1 : okE d = false := by unfold okE; rw [decide_eq_false (by omega)]; rfl
            show Dm.ok _ = false
            simp [Dm.ok, e1]
          go_wp2_with fail
          go_ret
          rw [HZ.out]
          exact ⟨rfl, HB.out⟩
        · by_cases h2 : 100 < d
          · have HZ : Hid (Dm.ok ⟨a, b, c, d, e, f, g⟩ = false) := by
              have e1 : okE d = false := by unfold okE; rw [decide_eq_false (show ¬ d ≤ 100 by omega)]; simp
              show Dm.ok _ = false
              simp [Dm.ok, e1]
            go_wp2_with fail
            go_ret
            rw [HZ.out]
            exact ⟨rfl, HB.out⟩
          · have HT2 : Hid ((Dm.mk a b c d e f g).okTo 4 = true) := by
              have e1 : okE d = true := by unfold okE; rw [decide_eq_true (by omega), decide_eq_true (by omega)]; rfl
              have e0 := HT.out
              show Dm.okTo _ _ = true
              simp [Dm.okTo, e1] at e0 ⊢
              try simp [e0]
            go_wp2_with fail
            go_roundg 3
            case measure => omega
            case rel => exact ⟨4, by omega, by omega, by go_num, HT2.out, rfl⟩
      · by_cases h1 : e < -100
        · have HZ : Hid (Dm.ok ⟨a, b, c, d, e, f, g⟩ = false) := by
            have e1 : okE e = false := by unfold okE; rw [decide_eq_false (by omega)]; rfl
            show Dm.ok _ = false
            simp [Dm.ok, e1]
          go_wp2_with fail
          go_ret
          rw [HZ.out]
          exact ⟨rfl, HB.out⟩
        · by_cases h2 : 100 < e
          · have HZ : Hid (Dm.ok ⟨a, b, c, d, e, f, g⟩ = false) := by
              have e1 : okE e = false := by unfold okE; rw [decide_eq_false (show ¬ e ≤ 100 by omega)]; simp
              show Dm.ok _ = false
              simp [Dm.ok, e1]
            go_wp2_with fail
            go_ret
            rw [HZ.out]
            exact ⟨rfl, HB.out⟩
          · have HT2 : Hid ((Dm.mk a b c d e f g).okTo 5 = true) := by
              have e1 : okE e = true := by unfold okE; rw [decide_eq_true (by omega), decide_eq_true (by omega)]; rfl
              have e0 := HT.out
              show Dm.okTo _ _ = true
              simp [Dm.okTo, e1] at e0 ⊢
              try simp [e0]
            go_wp2_with fail
            go_roundg 2
            case measure => omega
            case rel => exact ⟨5, by omega, by omega, by go_num, HT2.out, rfl⟩
      · by_cases h1 : f < -100
        · have HZ : Hid (Dm.ok ⟨a, b, c, d, e, f, g⟩ = false) := by
            have e1 : okE f = false := by unfold okE; rw [decide_eq_false (by omega)]; rfl
            show Dm.ok _ = false
            simp [Dm.ok, e1]
          go_wp2_with fail
          go_ret
          rw [HZ.out]
          exact ⟨rfl, HB.out⟩
        · by_cases h2 : 100 < f
          · have HZ : Hid (Dm.ok ⟨a, b, c, d, e, f, g⟩ = false) := by
              have e1 : okE f = false := by unfold okE; rw [decide_eq_false (show ¬ f ≤ 100 by omega)]; simp
              show Dm.ok _ = false
              simp [Dm.ok, e1]
            go_wp2_with fail
            go_ret
            rw [HZ.out]
            exact ⟨rfl, HB.out⟩
          · have HT2 : Hid ((Dm.mk a b c d e f g).okTo 6 = true) := by
              have e1 : okE f = true := by unfold okE; rw [decide_eq_true (by omega), decide_eq_true (by omega)]; rfl
              have e0 := HT.out
              show Dm.okTo _ _ = true
              simp [Dm.okTo, e1] at e0 ⊢
              try simp [e0]
            go_wp2_with fail
            go_roundg 1
            case measure => omega
            case rel => exact ⟨6, by omega, by omega, by go_num, HT2.out, rfl⟩
      · by_cases h1 : g < -100
        · have HZ : Hid (Dm.ok ⟨a, b, c, d, e, f, g⟩ = false) := by
            have e1 : okE g = false := by unfold okE; rw [decide_eq_false (by omega)]; rfl
            show Dm.ok _ = false
            simp [Dm.ok, e1]
          go_wp2_with fail
          go_ret
          rw [HZ.out]
          exact ⟨rfl, HB.out⟩
        · by_cases h2 : 100 < g
          · have HZ : Hid (Dm.ok ⟨a, b, c, d, e, f, g⟩ = false) := by
              have e1 : okE g = false := by unfold okE; rw [decide_eq_false (show ¬ g ≤ 100 by omega)]; simp
              show Dm.ok _ = false
              simp [Dm.ok, e1]
            go_wp2_with fail
            go_ret
            rw [HZ.out]
            exact ⟨rfl, HB.out⟩
          · have HT2 : Hid ((Dm.mk a b c d e f g).okTo 7 = true) := by
              have e1 : okE g = true := by unfold okE; rw [decide_eq_true (by omega), decide_eq_true (by omega)]; rfl
              have e0 := HT.out
              show Dm.okTo _ _ = true
              simp [Dm.okTo, e1] at e0 ⊢
              try simp [e0]
            go_wp2_with fail
            go_roundg 0
            case measure => omega
            case rel => exact ⟨7, by omega, by omega, by go_num, HT2.out, rfl⟩
    · have hltz : ¬ (i : Int) < 7 := by omega
      obtain rfl : i = 7 := by omega
      have HR : Hid (Dm.ok ⟨a, b, c, d, e, f, g⟩ = true) := by show _ = _; rw [← HOK.out]; exact HT.out
      go_wp2_with fail
      go_ret
      rw [HR.out]
      exact ⟨rfl, HB.out⟩
set_option maxRecDepth 100000 in
set_option maxHeartbeats 2000000 in
theorem rnum_any (v : V) (w : World) : Calls Tryz.prog 52 #[.agg v.cells] w fun e w' => e = .returned (.agg #[.int .i64 v.num, .int .i64 v.den]) ∧ Below w.heap.size w w' := by
  have HB := Lib.hid (b2 w (.cells v.cells 44) (.cells #[.int .i64 0, .int .i64 0] 64))
  have HK : Hid (K9 ((w.alloc (.cells #[.int .i64 v.num, .int .i64 v.den, .int .i64 v.dim.a, .int .i64 v.dim.b, .int .i64 v.dim.c, .int .i64 v.dim.d, .int .i64 v.dim.e, .int .i64 v.dim.f, .int .i64 v.dim.g] 44)).alloc (.cells #[.int .i64 0, .int .i64 0] 64)) w.heap.size v) := (K9.new w v).reach (b1 _ _)
  have hz : ((w.alloc (.cells #[.int .i64 v.num, .int .i64 v.den, .int .i64 v.dim.a, .int .i64 v.dim.b, .int .i64 v.dim.c, .int .i64 v.dim.d, .int .i64 v.dim.e, .int .i64 v.dim.f, .int .i64 v.dim.g] 44)).alloc (.cells #[.int .i64 0, .int .i64 0] 64)).heap[w.heap.size + 1]? = some (.cells #[.int .i64 0, .int .i64 0] 64 (0, 0)) := by
    have h := heap_alloc_new (w.alloc (.cells #[.int .i64 v.num, .int .i64 v.den, .int .i64 v.dim.a, .int .i64 v.dim.b, .int .i64 v.dim.c, .int .i64 v.dim.d, .int .i64 v.dim.e, .int .i64 v.dim.f, .int .i64 v.dim.g] 44)) (.cells #[.int .i64 0, .int .i64 0] 64)
    rwa [World.size_alloc] at h
  have HZ := Lib.hid hz
  clear hz
  unfold V.cells at *
  go_enter Tryz.func52, Tryz.ntmps52
  go_upto_region 1 with (fail)
  generalize (w.alloc (.cells #[.int .i64 v.num, .int .i64 v.den, .int .i64 v.dim.a, .int .i64 v.dim.b, .int .i64 v.dim.c, .int .i64 v.dim.d, .int .i64 v.dim.e, .int .i64 v.dim.f, .int .i64 v.dim.g] 44)).alloc (.cells #[.int .i64 0, .int .i64 0] 64) = w1 at *
  obtain ⟨⟨⟨k0, k1⟩, _, _, _, _, _, _, _⟩, _, _⟩ := HK.out.cells
  have z0 : w1.cell? ⟨w.heap.size + 1, 0, none⟩ = some (.int .i64 0) := by simp [World.cell?, HZ.out]
  have z1 : w1.cell? ⟨w.heap.size + 1, 1, none⟩ = some (.int .i64 0) := by simp [World.cell?, HZ.out]
  have zf : ∀ i, w1.frozen? ⟨w.heap.size + 1, i, none⟩ = false := fun i => by simp [World.frozen?, HZ.out]
  have zf0 := zf 0
  have zf1 := zf 1
  go_wp2_with fail
  refine bodyPost_ret (v := .agg #[.int .i64 v.num, .int .i64 v.den]) (by simp [results, Tryz.results52, go_sem, z0, z1]) rfl ⟨rfl, ?_⟩
  exact (HB.out.setCell (p := ⟨w.heap.size + 1, 0, none⟩) (Nat.le_succ _) _).setCell (p := ⟨w.heap.size + 1, 1, none⟩) (Nat.le_succ _) _
set_option maxRecDepth 100000 in
set_option maxHeartbeats 2000000 in
theorem rvv_any (v : V) (w : World) (hf : v.fit) : Calls Tryz.prog 37 #[.agg v.cells] w fun r w' => r = .returned (.bool (Q.validQ v.num v.den && v.dim.ok)) ∧ Below w.heap.size w w' := by
  have HV := Lib.hid fun w => Q.refValid_any v.num v.den w hf.1 hf.2.1 hf.2.2.1 hf.2.2.2
  have HU := Lib.hid fun w => rdim_any v.dim w
  have HN := Lib.hid fun w => rnum_any v w
  have HK := Lib.hid (K9.new w v)
  have HB := Lib.hid (b1 w (.cells v.cells 44))
  unfold V.cells at HK HB HN ⊢
  unfold Dm.cells at HU
  go_enter Tryz.func37, Tryz.ntmps37
  go_upto_region 1 with (fail)
  generalize w.alloc (.cells #[.int .i64 v.num, .int .i64 v.den, .int .i64 v.dim.a, .int .i64 v.dim.b, .int .i64 v.dim.c, .int .i64 v.dim.d, .int .i64 v.dim.e, .int .i64 v.dim.f, .int .i64 v.dim.g] 44) = w1 at *
  obtain ⟨⟨⟨z0, z1⟩, z2, z3, z4, z5, z6, z7, z8⟩, zf, _⟩ := HK.out.cells
  go_wp2_with fail
  refine (HU.out w1).mono ?_
  rintro r w2 ⟨rfl, hb2⟩
  have HB2 := Lib.hid (HB.out.trans (hb2.mono HB.out.size))
  have HK2 := Lib.hid (HK.out.reach hb2)
  clear hb2 z0 z1 z2 z3 z4 z5 z6 z7 z8 zf
  obtain ⟨⟨⟨z0, z1⟩, z2, z3, z4, z5, z6, z7, z8⟩, zf, _⟩ := HK2.out.cells
  cases h1 : v.dim.ok with
  | false =>
    go_wp2_with fail
    go_ret
    exact ⟨by rw [h1, Bool.and_false]; rfl, HB2.out⟩
  | true =>
    go_wp2_with fail
    refine (HN.out w2).mono ?_
    rintro r w3 ⟨rfl, hb3⟩
    have HB3 := Lib.hid (HB2.out.trans (hb3.mono HB2.out.size))
    clear hb3
    go_wp2_with fail
    refine (HV.out w3).mono ?_
    rintro r w4 ⟨rfl, hb4⟩
    have HB4 := Lib.hid (HB3.out.trans (hb4.mono HB3.out.size))
    clear hb4
    go_wp2_with fail
    go_ret
    exact ⟨by rw [h1, Bool.and_true]; rfl, HB4.out⟩
end Go.Proofs.YtknpigdpepmimaaGreatDoor
