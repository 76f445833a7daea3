/- Contracts of Scale, Half, MulDiv and of their references. -/
import Derived.Test.YtbaljopgkelcfaaDoorQuo
namespace Go.Proofs.YtbaljopgkelcfaaDoor
open Go.RowKit

theorem scale_no (n p : Int) (h : ¬ (validL n = true ∧ 0 ≤ p ∧ p ≤ 10000)) : scaleL n p = 0 := by
  unfold scaleL
  rw [if_neg]
  intro h'
  simp only [Bool.and_eq_true, decide_eq_true_eq] at h'
  exact h ⟨h'.1.1, h'.1.2, h'.2⟩
theorem scale_yes (n p : Int) (h : validL n = true) (h1 : 0 ≤ p) (h2 : p ≤ 10000) : scaleL n p = rnd (n * p) 100 := by
  unfold scaleL; rw [if_pos (by simp [h, h1, h2])]
theorem mulDiv_no (n a b : Int) (h : ¬ (validL n = true ∧ validL a = true ∧ validL b = true ∧ b ≠ 0)) : mulDivL n a b = 0 := by
  unfold mulDivL
  rw [if_neg]
  intro h'
  simp only [Bool.and_eq_true, Bool.not_eq_true', beq_eq_false_iff_ne] at h'
  exact h ⟨h'.1.1.1, h'.1.1.2, h'.1.2, h'.2⟩
theorem mulDiv_yes (n a b : Int) (h : validL n = true) (h1 : validL a = true) (h2 : validL b = true) (h3 : b ≠ 0) : mulDivL n a b = rnd (n * a) b := by
  unfold mulDivL; rw [if_pos (by simp [h, h1, h2, h3])]
theorem to_below {P : Program} {f : FuncId} {args : Array Value} {w : World} {v : Value} (h : Calls P f args w fun e w' => e = .returned v ∧ w = w') : Calls P f args w fun e w' => e = .returned v ∧ Below w.heap.size w w' :=
  h.mono fun _ _ ⟨he, hw⟩ => ⟨he, hw ▸ Below.refl _ _⟩

set_option maxHeartbeats 1000000 in
theorem scale_any (n p : Int) (w : World) (_hp : -9223372036854775808 ≤ p) (_hP : p ≤ 9223372036854775807) :
    Calls Tryd.prog 13 #[.int .i64 n, .int .i64 p] w fun e w' => e = .returned (.int .i64 (scaleL n p)) ∧ Below w.heap.size w w' := by
  cases hv : validL n with
  | false =>
    have HS := Lib.hid (scale_no n p (by simp [hv]))
    have HV := Lib.hid hv
    clear hv
    go_enter Tryd.func13, Tryd.ntmps13
    go_wp2_with fail
    refine (valid_any n _).mono ?_
    rw [HV.out]
    rintro e w' ⟨rfl, rfl⟩
    go_wp2
    go_ret
    exact ⟨ret_int HS.out.symm, Below.refl _ _⟩
  | true =>
    have HV := Lib.hid hv
    obtain ⟨v1, v2⟩ := (validL_iff n).1 hv
    by_cases h1 : p < 0
    · have HS := Lib.hid (scale_no n p (by omega))
      clear hv
      go_enter Tryd.func13, Tryd.ntmps13
      go_wp2_with fail
      refine (valid_any n _).mono ?_
      rw [HV.out]
      rintro e w' ⟨rfl, rfl⟩
      go_wp2
      go_ret
      exact ⟨ret_int HS.out.symm, Below.refl _ _⟩
    · by_cases h2 : 10000 < p
      · have HS := Lib.hid (scale_no n p (by omega))
        clear hv
        go_enter Tryd.func13, Tryd.ntmps13
        go_wp2_with fail
        refine (valid_any n _).mono ?_
        rw [HV.out]
        rintro e w' ⟨rfl, rfl⟩
        go_wp2
        go_ret
        exact ⟨ret_int HS.out.symm, Below.refl _ _⟩
      · have HS := Lib.hid (scale_yes n p hv (by omega) (by omega))
        have hpb := prod_bnd (a := n) (b := p) (A := 1073741824) (B := 10000) (by omega) (by omega)
        clear hv
        go_enter Tryd.func13, Tryd.ntmps13
        go_wp2_with fail
        refine (valid_any n _).mono ?_
        rw [HV.out]
        rintro e w' ⟨rfl, rfl⟩
        go_wp2_with fail
        refine (quotient_any (n * p) 100 _ (by omega) (by omega) (by omega)).mono ?_
        rw [← HS.out]
        rintro e w' ⟨rfl, hb⟩
        go_wp2
        go_ret
        exact ⟨rfl, hb⟩

set_option maxHeartbeats 1000000 in
theorem refScale_any (n p : Int) (w : World) (_hp : -9223372036854775808 ≤ p) (_hP : p ≤ 9223372036854775807) :
    Calls Tryd.prog 14 #[.int .i64 n, .int .i64 p] w fun e w' => e = .returned (.int .i64 (scaleL n p)) ∧ w = w' := by
  cases hv : validL n with
  | false =>
    have HS := Lib.hid (scale_no n p (by simp [hv]))
    have HV := Lib.hid hv
    clear hv
    go_enter Tryd.func14, Tryd.ntmps14
    go_wp2_with fail
    refine (refValid_any n _).mono ?_
    rw [HV.out]
    rintro e w' ⟨rfl, rfl⟩
    go_wp2
    go_ret
    exact ⟨ret_int HS.out.symm, rfl⟩
  | true =>
    have HV := Lib.hid hv
    obtain ⟨v1, v2⟩ := (validL_iff n).1 hv
    by_cases h1 : p < 0
    · have HS := Lib.hid (scale_no n p (by omega))
      clear hv
      go_enter Tryd.func14, Tryd.ntmps14
      go_wp2_with fail
      refine (refValid_any n _).mono ?_
      rw [HV.out]
      rintro e w' ⟨rfl, rfl⟩
      go_wp2
      go_ret
      exact ⟨ret_int HS.out.symm, rfl⟩
    · by_cases h2 : 10000 < p
      · have HS := Lib.hid (scale_no n p (by omega))
        clear hv
        go_enter Tryd.func14, Tryd.ntmps14
        go_wp2_with fail
        refine (refValid_any n _).mono ?_
        rw [HV.out]
        rintro e w' ⟨rfl, rfl⟩
        go_wp2
        go_ret
        exact ⟨ret_int HS.out.symm, rfl⟩
      · have HS := Lib.hid (scale_yes n p hv (by omega) (by omega))
        have hpb := prod_bnd (a := n) (b := p) (A := 1073741824) (B := 10000) (by omega) (by omega)
        clear hv
        go_enter Tryd.func14, Tryd.ntmps14
        go_wp2_with fail
        refine (refValid_any n _).mono ?_
        rw [HV.out]
        rintro e w' ⟨rfl, rfl⟩
        go_wp2_with fail
        refine (round_any (n * p) 100 _ (by omega) (by omega) (by omega)).mono ?_
        rw [← HS.out]
        rintro e w' ⟨rfl, rfl⟩
        go_wp2
        go_ret
        exact ⟨rfl, rfl⟩

set_option maxHeartbeats 1000000 in
theorem half_any (n : Int) (w : World) :
    Calls Tryd.prog 15 #[.int .i64 n] w fun e w' => e = .returned (.int .i64 (halfL n)) ∧ Below w.heap.size w w' := by
  cases hv : validL n with
  | false =>
    have HS : Hid (halfL n = 0) := by show halfL n = 0; unfold halfL; rw [hv]; rfl
    have HV := Lib.hid hv
    clear hv
    go_enter Tryd.func15, Tryd.ntmps15
    go_wp2_with fail
    refine (valid_any n _).mono ?_
    rw [HV.out]
    rintro e w' ⟨rfl, rfl⟩
    go_wp2
    go_ret
    exact ⟨ret_int HS.out.symm, Below.refl _ _⟩
  | true =>
    have HV := Lib.hid hv
    obtain ⟨v1, v2⟩ := (validL_iff n).1 hv
    have HS : Hid (halfL n = rnd n 2) := by show halfL n = _; unfold halfL; rw [hv, if_pos rfl]
    clear hv
    go_enter Tryd.func15, Tryd.ntmps15
    go_wp2_with fail
    refine (valid_any n _).mono ?_
    rw [HV.out]
    rintro e w' ⟨rfl, rfl⟩
    go_wp2_with fail
    refine (quotient_any n 2 _ (by omega) (by omega) (by omega)).mono ?_
    rw [← HS.out]
    rintro e w' ⟨rfl, hb⟩
    go_wp2
    go_ret
    exact ⟨rfl, hb⟩

set_option maxHeartbeats 1000000 in
theorem refHalf_any (n : Int) (w : World) :
    Calls Tryd.prog 16 #[.int .i64 n] w fun e w' => e = .returned (.int .i64 (halfL n)) ∧ w = w' := by
  cases hv : validL n with
  | false =>
    have HS : Hid (halfL n = 0) := by show halfL n = 0; unfold halfL; rw [hv]; rfl
    have HV := Lib.hid hv
    clear hv
    go_enter Tryd.func16, Tryd.ntmps16
    go_wp2_with fail
    refine (refValid_any n _).mono ?_
    rw [HV.out]
    rintro e w' ⟨rfl, rfl⟩
    go_wp2
    go_ret
    exact ⟨ret_int HS.out.symm, rfl⟩
  | true =>
    have HV := Lib.hid hv
    obtain ⟨v1, v2⟩ := (validL_iff n).1 hv
    have HS : Hid (halfL n = rnd n 2) := by show halfL n = _; unfold halfL; rw [hv, if_pos rfl]
    clear hv
    go_enter Tryd.func16, Tryd.ntmps16
    go_wp2_with fail
    refine (refValid_any n _).mono ?_
    rw [HV.out]
    rintro e w' ⟨rfl, rfl⟩
    go_wp2_with fail
    refine (round_any n 2 _ (by omega) (by omega) (by omega)).mono ?_
    rw [← HS.out]
    rintro e w' ⟨rfl, rfl⟩
    go_wp2
    go_ret
    exact ⟨rfl, rfl⟩

set_option maxHeartbeats 1000000 in
theorem mulDiv_any (n a b : Int) (w : World) :
    Calls Tryd.prog 17 #[.int .i64 n, .int .i64 a, .int .i64 b] w fun e w' => e = .returned (.int .i64 (mulDivL n a b)) ∧ Below w.heap.size w w' := by
  cases hv : validL n with
  | false =>
    have HS := Lib.hid (mulDiv_no n a b (by simp [hv]))
    have HV := Lib.hid hv
    clear hv
    go_enter Tryd.func17, Tryd.ntmps17
    go_wp2_with fail
    refine (valid_any n _).mono ?_
    rw [HV.out]
    rintro e w' ⟨rfl, rfl⟩
    go_wp2
    go_ret
    exact ⟨ret_int HS.out.symm, Below.refl _ _⟩
  | true =>
  have HV := Lib.hid hv
  obtain ⟨v1, v2⟩ := (validL_iff n).1 hv
  cases hu : validL a with
  | false =>
    have HS := Lib.hid (mulDiv_no n a b (by simp [hu]))
    have HU := Lib.hid hu
    clear hv hu
    go_enter Tryd.func17, Tryd.ntmps17
    go_wp2_with fail
    refine (valid_any n _).mono ?_
    rw [HV.out]
    rintro e w' ⟨rfl, rfl⟩
    go_wp2_with fail
    refine (valid_any a _).mono ?_
    rw [HU.out]
    rintro e w' ⟨rfl, rfl⟩
    go_wp2
    go_ret
    exact ⟨ret_int HS.out.symm, Below.refl _ _⟩
  | true =>
  have HU := Lib.hid hu
  obtain ⟨u1, u2⟩ := (validL_iff a).1 hu
  cases ht : validL b with
  | false =>
    have HS := Lib.hid (mulDiv_no n a b (by simp [ht]))
    have HT := Lib.hid ht
    clear hv hu ht
    go_enter Tryd.func17, Tryd.ntmps17
    go_wp2_with fail
    refine (valid_any n _).mono ?_
    rw [HV.out]
    rintro e w' ⟨rfl, rfl⟩
    go_wp2_with fail
    refine (valid_any a _).mono ?_
    rw [HU.out]
    rintro e w' ⟨rfl, rfl⟩
    go_wp2_with fail
    refine (valid_any b _).mono ?_
    rw [HT.out]
    rintro e w' ⟨rfl, rfl⟩
    go_wp2
    go_ret
    exact ⟨ret_int HS.out.symm, Below.refl _ _⟩
  | true =>
  have HT := Lib.hid ht
  obtain ⟨t1, t2⟩ := (validL_iff b).1 ht
  by_cases h0 : b = 0
  · have HS := Lib.hid (mulDiv_no n a b (by simp [h0]))
    have h0' : (b == 0) = true := by simpa using h0
    clear hv hu ht h0
    go_enter Tryd.func17, Tryd.ntmps17
    go_wp2_with fail
    refine (valid_any n _).mono ?_
    rw [HV.out]
    rintro e w' ⟨rfl, rfl⟩
    go_wp2_with fail
    refine (valid_any a _).mono ?_
    rw [HU.out]
    rintro e w' ⟨rfl, rfl⟩
    go_wp2_with fail
    refine (valid_any b _).mono ?_
    rw [HT.out]
    rintro e w' ⟨rfl, rfl⟩
    go_wp2
    go_ret
    exact ⟨ret_int HS.out.symm, Below.refl _ _⟩
  · have HS := Lib.hid (mulDiv_yes n a b hv hu ht h0)
    have h0' : (b == 0) = false := by simpa using h0
    have hpb := prod_bnd (a := n) (b := a) (A := 1073741824) (B := 1073741824) (by omega) (by omega)
    clear hv hu ht
    go_enter Tryd.func17, Tryd.ntmps17
    go_wp2_with fail
    refine (valid_any n _).mono ?_
    rw [HV.out]
    rintro e w' ⟨rfl, rfl⟩
    go_wp2_with fail
    refine (valid_any a _).mono ?_
    rw [HU.out]
    rintro e w' ⟨rfl, rfl⟩
    go_wp2_with fail
    refine (valid_any b _).mono ?_
    rw [HT.out]
    rintro e w' ⟨rfl, rfl⟩
    go_wp2_with fail
    refine (quotient_any (n * a) b _ (by omega) h0 (by omega)).mono ?_
    rw [← HS.out]
    rintro e w' ⟨rfl, hb⟩
    go_wp2
    go_ret
    exact ⟨rfl, hb⟩

set_option maxHeartbeats 1000000 in
theorem refMulDiv_any (n a b : Int) (w : World) :
    Calls Tryd.prog 18 #[.int .i64 n, .int .i64 a, .int .i64 b] w fun e w' => e = .returned (.int .i64 (mulDivL n a b)) ∧ w = w' := by
  cases hv : validL n with
  | false =>
    have HS := Lib.hid (mulDiv_no n a b (by simp [hv]))
    have HV := Lib.hid hv
    clear hv
    go_enter Tryd.func18, Tryd.ntmps18
    go_wp2_with fail
    refine (refValid_any n _).mono ?_
    rw [HV.out]
    rintro e w' ⟨rfl, rfl⟩
    go_wp2
    go_ret
    exact ⟨ret_int HS.out.symm, rfl⟩
  | true =>
  have HV := Lib.hid hv
  obtain ⟨v1, v2⟩ := (validL_iff n).1 hv
  cases hu : validL a with
  | false =>
    have HS := Lib.hid (mulDiv_no n a b (by simp [hu]))
    have HU := Lib.hid hu
    clear hv hu
    go_enter Tryd.func18, Tryd.ntmps18
    go_wp2_with fail
    refine (refValid_any n _).mono ?_
    rw [HV.out]
    rintro e w' ⟨rfl, rfl⟩
    go_wp2_with fail
    refine (refValid_any a _).mono ?_
    rw [HU.out]
    rintro e w' ⟨rfl, rfl⟩
    go_wp2
    go_ret
    exact ⟨ret_int HS.out.symm, rfl⟩
  | true =>
  have HU := Lib.hid hu
  obtain ⟨u1, u2⟩ := (validL_iff a).1 hu
  cases ht : validL b with
  | false =>
    have HS := Lib.hid (mulDiv_no n a b (by simp [ht]))
    have HT := Lib.hid ht
    clear hv hu ht
    go_enter Tryd.func18, Tryd.ntmps18
    go_wp2_with fail
    refine (refValid_any n _).mono ?_
    rw [HV.out]
    rintro e w' ⟨rfl, rfl⟩
    go_wp2_with fail
    refine (refValid_any a _).mono ?_
    rw [HU.out]
    rintro e w' ⟨rfl, rfl⟩
    go_wp2_with fail
    refine (refValid_any b _).mono ?_
    rw [HT.out]
    rintro e w' ⟨rfl, rfl⟩
    go_wp2
    go_ret
    exact ⟨ret_int HS.out.symm, rfl⟩
  | true =>
  have HT := Lib.hid ht
  obtain ⟨t1, t2⟩ := (validL_iff b).1 ht
  by_cases h0 : b = 0
  · have HS := Lib.hid (mulDiv_no n a b (by simp [h0]))
    have h0' : (b == 0) = true := by simpa using h0
    clear hv hu ht h0
    go_enter Tryd.func18, Tryd.ntmps18
    go_wp2_with fail
    refine (refValid_any n _).mono ?_
    rw [HV.out]
    rintro e w' ⟨rfl, rfl⟩
    go_wp2_with fail
    refine (refValid_any a _).mono ?_
    rw [HU.out]
    rintro e w' ⟨rfl, rfl⟩
    go_wp2_with fail
    refine (refValid_any b _).mono ?_
    rw [HT.out]
    rintro e w' ⟨rfl, rfl⟩
    go_wp2
    go_ret
    exact ⟨ret_int HS.out.symm, rfl⟩
  · have HS := Lib.hid (mulDiv_yes n a b hv hu ht h0)
    have h0' : (b == 0) = false := by simpa using h0
    have hpb := prod_bnd (a := n) (b := a) (A := 1073741824) (B := 1073741824) (by omega) (by omega)
    clear hv hu ht
    go_enter Tryd.func18, Tryd.ntmps18
    go_wp2_with fail
    refine (refValid_any n _).mono ?_
    rw [HV.out]
    rintro e w' ⟨rfl, rfl⟩
    go_wp2_with fail
    refine (refValid_any a _).mono ?_
    rw [HU.out]
    rintro e w' ⟨rfl, rfl⟩
    go_wp2_with fail
    refine (refValid_any b _).mono ?_
    rw [HT.out]
    rintro e w' ⟨rfl, rfl⟩
    go_wp2_with fail
    refine (round_any (n * a) b _ (by omega) h0 (by omega)).mono ?_
    rw [← HS.out]
    rintro e w' ⟨rfl, rfl⟩
    go_wp2
    go_ret
    exact ⟨rfl, rfl⟩
end Go.Proofs.YtbaljopgkelcfaaDoor
