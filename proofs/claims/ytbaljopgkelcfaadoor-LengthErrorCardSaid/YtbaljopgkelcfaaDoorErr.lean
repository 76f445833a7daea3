/- Walk of LengthError. -/
import Derived.Test.YtbaljopgkelcfaaDoorText
namespace Go.Proofs.YtbaljopgkelcfaaDoor
open Go.RowKit

theorem rnd_100 (x : Int) : rnd x 100 = if x < 0 then -(((2 * x.natAbs + 100) / 200 : Nat) : Int) else (((2 * x.natAbs + 100) / 200 : Nat) : Int) := by
  unfold rnd rn
  by_cases h : x < 0
  · rw [if_pos h, if_neg (by simp [h])]; rfl
  · rw [if_neg h, if_pos (by simp [h])]; rfl
theorem rnd_2 (x : Int) : rnd x 2 = if x < 0 then -(((2 * x.natAbs + 2) / 4 : Nat) : Int) else (((2 * x.natAbs + 2) / 4 : Nat) : Int) := by
  unfold rnd rn
  by_cases h : x < 0
  · rw [if_pos h, if_neg (by simp [h])]; rfl
  · rw [if_neg h, if_pos (by simp [h])]; rfl
theorem err_100 (x : Int) : -50 ≤ 100 * rnd x 100 - x ∧ 100 * rnd x 100 - x ≤ 50 := by
  rw [rnd_100]; split <;> omega
theorem err_2 (x : Int) : -1 ≤ 2 * rnd x 2 - x ∧ 2 * rnd x 2 - x ≤ 1 := by
  rw [rnd_2]; split <;> omega
theorem mono_100 (x y : Int) (h : x ≤ y) : rnd x 100 ≤ rnd y 100 := by
  rw [rnd_100, rnd_100]; split <;> split <;> omega
theorem mono_2 (x y : Int) (h : x ≤ y) : rnd x 2 ≤ rnd y 2 := by
  rw [rnd_2, rnd_2]; split <;> split <;> omega

theorem half_yes (n : Int) (h : validL n = true) : halfL n = rnd n 2 := by unfold halfL; rw [if_pos h]


set_option maxHeartbeats 1000000 in
theorem err_no (n p s : Int) (w : World) (_hp : -9223372036854775808 ≤ p) (_hP : p ≤ 9223372036854775807) (ht : Tab w) (hv : validL n = false) :
    Calls Tryd.prog 5 #[.int .i64 n, .int .i64 p, .int .u16 s] w fun e w' => e = .returned (.bool true) ∧ Below w.heap.size w w' := by
  have HT := Lib.hid ht
  have HV := Lib.hid hv
  clear ht hv
  go_enter Tryd.func5, Tryd.ntmps5
  go_wp2_with fail
  refine (awake_any _ HT.out).mono ?_
  rintro e w1 ⟨rfl, hb1⟩
  have HB1 := Lib.hid hb1
  clear hb1
  go_wp2_with fail
  refine (refValid_any n _).mono ?_
  rw [HV.out]
  rintro e w' ⟨rfl, rfl⟩
  go_wp2
  go_ret
  exact ⟨rfl, HB1.out⟩
set_option maxHeartbeats 1000000 in
theorem err_out (n p s : Int) (w : World) (hp : -9223372036854775808 ≤ p) (hP : p ≤ 9223372036854775807) (ht : Tab w) (hv : validL n = true) (h : p < 0 ∨ 10000 < p) :
    Calls Tryd.prog 5 #[.int .i64 n, .int .i64 p, .int .u16 s] w fun e w' => e = .returned (.bool true) ∧ Below w.heap.size w w' := by
  have HT := Lib.hid ht
  have HV := Lib.hid hv
  clear ht hv
  rcases h with h | h
  all_goals
    go_enter Tryd.func5, Tryd.ntmps5
    go_wp2_with fail
    refine (awake_any _ HT.out).mono ?_
    rintro e w1 ⟨rfl, hb1⟩
    have HB1 := Lib.hid hb1
    clear hb1
    go_wp2_with fail
    refine (refValid_any n _).mono ?_
    rw [HV.out]
    rintro e w' ⟨rfl, rfl⟩
    go_wp2
    go_ret
    exact ⟨rfl, HB1.out⟩

set_option maxHeartbeats 2000000 in
theorem err_in (n p s : Int) (w : World) (ht : Tab w) (hv : validL n = true) (hp : 0 ≤ p) (hP : p ≤ 10000) (hs : 0 ≤ s) (hS : s ≤ 65535) :
    Calls Tryd.prog 5 #[.int .i64 n, .int .i64 p, .int .u16 s] w fun e w' => e = .returned (.bool true) ∧ Below w.heap.size w w' := by
  obtain ⟨v1, v2⟩ := (validL_iff n).1 hv
  have hpb := prod_bnd (a := n) (b := p) (A := 1073741824) (B := 10000) (by omega) (by omega)
  have e1 := err_100 (n * p)
  have e2 := err_2 n
  rw [← scale_yes n p hv hp hP] at e1
  rw [← half_yes n hv] at e2
  have hm : Hid (validL (n + s) = true → scaleL n p ≤ scaleL (n + s) p ∧ halfL n ≤ halfL (n + s)) := by
    intro hv'
    rw [scale_yes n p hv hp hP, scale_yes _ p hv' hp hP, half_yes n hv, half_yes _ hv']
    refine ⟨mono_100 _ _ ?_, mono_2 _ _ (by omega)⟩
    exact Int.mul_le_mul_of_nonneg_right (by omega) hp
  have HT := Lib.hid ht
  have HV := Lib.hid hv
  clear ht hv
  obtain ⟨np, hnp⟩ : ∃ np, np = n * p := ⟨_, rfl⟩
  obtain ⟨sc, hsc⟩ : ∃ sc, sc = scaleL n p := ⟨_, rfl⟩
  obtain ⟨hf, hhf⟩ : ∃ hf, hf = halfL n := ⟨_, rfl⟩
  have HSC := Lib.hid hsc
  have HHF := Lib.hid hhf
  rw [← hsc, ← hhf] at hm
  rw [← hsc] at e1
  rw [← hhf] at e2
  clear hsc hhf
  go_enter Tryd.func5, Tryd.ntmps5
  go_wp2_with fail
  refine (awake_any _ HT.out).mono ?_
  rintro e w1 ⟨rfl, hb1⟩
  have HB1 := Lib.hid hb1
  clear hb1
  go_wp2_with fail
  refine (refValid_any n _).mono ?_
  rw [HV.out]
  rintro e w' ⟨rfl, rfl⟩
  go_wp2_with fail
  refine (scale_any n p _ (by omega) (by omega)).mono ?_
  rw [← HSC.out]
  rintro e w2 ⟨rfl, hb2⟩
  have HB2 := Lib.hid (HB1.out.trans (hb2.mono HB1.out.size))
  clear hb2
  go_wp2_with fail
  refine (half_any n _).mono ?_
  rw [← HHF.out]
  rintro e w3 ⟨rfl, hb3⟩
  have HB3 := Lib.hid (HB2.out.trans (hb3.mono HB2.out.size))
  clear hb3
  go_wp2_with fail
  refine (refValid_any _ _).mono ?_
  cases hv' : validL (n + s) with
  | false =>
    rintro e w' ⟨rfl, rfl⟩
    go_wp2
    go_ret
    exact ⟨rfl, HB3.out⟩
  | true =>
    obtain ⟨m1, m2⟩ := hm.out hv'
    rintro e w' ⟨rfl, rfl⟩
    go_wp2_with fail
    refine (scale_any _ p _ (by omega) (by omega)).mono ?_
    rintro e w4 ⟨rfl, hb4⟩
    have HB4 := Lib.hid (HB3.out.trans (hb4.mono HB3.out.size))
    clear hb4
    go_wp2_with fail
    refine (scale_any n p _ (by omega) (by omega)).mono ?_
    rw [← HSC.out]
    rintro e w5 ⟨rfl, hb5⟩
    have HB5 := Lib.hid (HB4.out.trans (hb5.mono HB4.out.size))
    clear hb5
    go_wp2_with fail
    refine (half_any _ _).mono ?_
    rintro e w6 ⟨rfl, hb6⟩
    have HB6 := Lib.hid (HB5.out.trans (hb6.mono HB5.out.size))
    clear hb6
    go_wp2_with fail
    refine (half_any n _).mono ?_
    rw [← HHF.out]
    rintro e w7 ⟨rfl, hb7⟩
    have HB7 := Lib.hid (HB6.out.trans (hb7.mono HB6.out.size))
    clear hb7
    go_wp2
    go_ret
    exact ⟨ret_bool (by simp), HB7.out⟩

theorem lengthError_walk (n p s : Int) (w : World) (_hn : -9223372036854775808 ≤ n) (_hN : n ≤ 9223372036854775807) (hp : -9223372036854775808 ≤ p) (hP : p ≤ 9223372036854775807) (hs : (Lit.int .u16 s).wf = true) (ht : Tab w) :
    Calls Tryd.prog 5 #[.int .i64 n, .int .i64 p, .int .u16 s] w fun e w' => e = .returned (.bool true) ∧ Below w.heap.size w w' := by
  have hs' : 0 ≤ s ∧ s ≤ 65535 := by simpa [Lit.wf, IntKind.min, IntKind.max, IntKind.signed, IntKind.bits] using hs
  cases hv : validL n with
  | false => exact err_no n p s w hp hP ht hv
  | true =>
    by_cases h : p < 0 ∨ 10000 < p
    · exact err_out n p s w hp hP ht hv h
    · exact err_in n p s w ht hv (by omega) (by omega) hs'.1 hs'.2
end Go.Proofs.YtbaljopgkelcfaaDoor
