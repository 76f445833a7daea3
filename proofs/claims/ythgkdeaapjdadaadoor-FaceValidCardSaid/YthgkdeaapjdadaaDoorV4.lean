/- Contracts of length.Valid, quotient and Scale; rounded quotients as plain Lean functions. -/
import Derived.Test.YthgkdeaapjdadaaDoorV3
import Derived.Lib.QuietBelow
namespace Go.Proofs.YthgkdeaapjdadaaDoor
open Go.RowKit

def validL (n : Int) : Bool := decide (-1073741824 ≤ n) && decide (n ≤ 1073741824)
theorem validL_iff (n : Int) : validL n = true ↔ -1073741824 ≤ n ∧ n ≤ 1073741824 := by simp [validL]

/-- the nearest number to m / k, halves up -/
def rn (m k : Nat) : Nat := (2 * m + k) / (2 * k)
/-- a / b, rounded, halves away from zero -/
def rnd (a b : Int) : Int := if decide (a < 0) = decide (b < 0) then (rn a.natAbs b.natAbs : Int) else -(rn a.natAbs b.natAbs : Int)

theorem rn_eq (m k : Nat) (hk : 0 < k) : rn m k = m / k + (if k ≤ 2 * (m % k) then 1 else 0) := by
  unfold rn
  have h := Nat.div_add_mod m k
  have hr : m % k < k := Nat.mod_lt _ hk
  generalize m / k = q at *
  generalize m % k = r at *
  subst h
  have e : 2 * (k * q + r) + k = (2 * r + k) + (2 * k) * q := by
    rw [Nat.mul_add, ← Nat.mul_assoc]; omega
  rw [e, Nat.add_mul_div_left _ _ (by omega), Nat.add_comm]
  congr 1
  split
  · rename_i h
    exact Nat.div_eq_of_lt_le (by omega) (by omega)
  · exact Nat.div_eq_of_lt (by omega)

theorem rn_up (m k : Nat) (hk : 0 < k) (h : k ≤ 2 * (m % k)) : rn m k = m / k + 1 := by rw [rn_eq m k hk, if_pos h]
theorem rn_down (m k : Nat) (hk : 0 < k) (h : ¬ k ≤ 2 * (m % k)) : rn m k = m / k := by rw [rn_eq m k hk, if_neg h]; rfl
theorem rn_le (m k : Nat) (hk : 0 < k) : rn m k ≤ m := by
  rw [rn_eq m k hk]
  have h := Nat.div_add_mod m k
  have hr : m % k < k := Nat.mod_lt _ hk
  rcases Nat.eq_zero_or_pos (m / k) with h0 | h0
  · rw [h0] at h ⊢
    split <;> omega
  · have : m / k ≤ k * (m / k) := Nat.le_mul_of_pos_left _ hk
    split <;> omega

theorem rnd_pos (m k : Nat) : rnd (m : Int) (k : Int) = (rn m k : Int) := by
  unfold rnd
  rw [if_pos (by rw [decide_eq_false (by omega), decide_eq_false (by omega)]), Int.natAbs_natCast, Int.natAbs_natCast]
theorem rnd_neg (a b : Int) (hb : b ≠ 0) : rnd (-a) (-b) = rnd a b := by
  unfold rnd
  rw [Int.natAbs_neg, Int.natAbs_neg]
  by_cases h0 : a = 0
  · subst h0
    have : rn (Int.natAbs 0) b.natAbs = 0 := by
      unfold rn
      simp only [Int.natAbs_zero, Nat.mul_zero, Nat.zero_add]
      exact Nat.div_eq_of_lt (by have := Int.natAbs_pos.2 hb; omega)
    rw [this]; simp
  · have e1 : decide (-a < 0) = !decide (a < 0) := by rw [Bool.eq_iff_iff]; simp; omega
    have e2 : decide (-b < 0) = !decide (b < 0) := by rw [Bool.eq_iff_iff]; simp; omega
    rw [e1, e2]
    by_cases h : decide (a < 0) = decide (b < 0)
    · rw [if_pos h, if_pos (by rw [h])]
    · rw [if_neg h, if_neg (by intro h'; exact h (by simpa using h'))]
theorem rnd_neg1 (a b : Int) (hb : b ≠ 0) : rnd (-a) b = -rnd a b := by
  unfold rnd
  rw [Int.natAbs_neg]
  by_cases h0 : a = 0
  · subst h0
    have : rn (Int.natAbs 0) b.natAbs = 0 := by
      unfold rn
      simp only [Int.natAbs_zero, Nat.mul_zero, Nat.zero_add]
      exact Nat.div_eq_of_lt (by have := Int.natAbs_pos.2 hb; omega)
    rw [this]; simp
  · have e1 : decide (-a < 0) = !decide (a < 0) := by rw [Bool.eq_iff_iff]; simp; omega
    rw [e1]
    by_cases h : decide (a < 0) = decide (b < 0)
    · rw [if_pos h, if_neg (by rw [h]; simp)]
    · rw [if_neg h, if_pos (by revert h; cases decide (a < 0) <;> cases decide (b < 0) <;> simp), Int.neg_neg]
/-- a common factor -/
theorem rn_mul (m k c : Nat) (hc : 0 < c) : rn (c * m) (c * k) = rn m k := by
  unfold rn
  rw [show 2 * (c * m) + c * k = c * (2 * m + k) from by rw [Nat.mul_add, Nat.mul_left_comm], show 2 * (c * k) = c * (2 * k) from Nat.mul_left_comm _ _ _, Nat.mul_div_mul_left _ _ hc]
theorem rnd_bnd (a b : Int) (hb : b ≠ 0) : (rnd a b).natAbs ≤ a.natAbs := by
  have h := rn_le a.natAbs b.natAbs (Int.natAbs_pos.2 hb)
  unfold rnd
  split <;> simp <;> exact h
def scaleL (n p : Int) : Int := if validL n && decide (0 ≤ p) && decide (p ≤ 10000) then rnd (n * p) 100 else 0
def halfL (n : Int) : Int := if validL n then rnd n 2 else 0
def mulDivL (n a b : Int) : Int := if validL n && validL a && validL b && !(b == 0) then rnd (n * a) b else 0
theorem prod_bnd {a b : Int} {A B : Nat} (h1 : a.natAbs ≤ A) (h2 : b.natAbs ≤ B) : -((A * B : Nat) : Int) ≤ a * b ∧ a * b ≤ ((A * B : Nat) : Int) := by
  have : (a * b).natAbs ≤ A * B := by rw [Int.natAbs_mul]; exact Nat.mul_le_mul h1 h2
  omega

theorem belowN {B : Nat} {a w : World} (h : Below B a w) (n : Nat) : Below B a (w.drewN n) := ⟨h.os, h.tape, h.output, h.size, h.block⟩
theorem ret_bool {a b : Bool} (h : a = b) : Ending.returned (.bool a) = .returned (.bool b) := by rw [h]
theorem ret_int {k : IntKind} {a b : Int} (h : a = b) : Ending.returned (.int k a) = .returned (.int k b) := by rw [h]

set_option maxHeartbeats 400000 in
theorem valid_any (n : Int) (w : World) : Calls Tryd.prog 55 #[.int .i64 n] w fun e w' => e = .returned (.bool (validL n)) ∧ w = w' := by
  by_cases h1 : -1073741824 ≤ n
  · go_enter Tryd.func55, Tryd.ntmps55
    go_wp2
    go_ret
    exact ⟨ret_bool (by rw [Bool.eq_iff_iff, validL_iff]; simp; omega), rfl⟩
  · go_enter Tryd.func55, Tryd.ntmps55
    go_wp2
    go_ret
    exact ⟨ret_bool (by rw [Bool.eq_iff_iff, validL_iff]; simp; omega), rfl⟩
/-- the quotient of numbers of at least 0 -/
theorem quo_pp (m k : Nat) (w : World) (hm : m ≤ 2305843009213693952) (hk : 0 < k) (hk' : k ≤ 1073741824) :
    Calls Tryd.prog 56 #[.int .i64 (m : Int), .int .i64 (k : Int)] w fun e w' => e = .returned (.int .i64 (rn m k : Nat)) ∧ Below w.heap.size w w' := by
  have hu := Lib.hid (rn_up m k hk)
  have hd := Lib.hid (rn_down m k hk)
  have hq : m / k ≤ m := Nat.div_le_self _ _
  have hr : m % k < k := Nat.mod_lt _ hk
  have hkz : (1 : Int) ≤ (k : Int) := by omega
  have hkz' : ((k : Int) == 0) = false := by simp; omega
  have hk0 : ¬ (k : Int) < 0 := by omega
  go_enter Tryd.func56, Tryd.ntmps56
  go_wp2
  go_quiet (fail)
  rw [show ((m : Int) / (k : Int)) = ((m / k : Nat) : Int) from by simp, show ((m : Int) % (k : Int)) = ((m % k : Nat) : Int) from by simp]
  generalize m / k = q at *
  generalize m % k = r at *
  by_cases h : k ≤ 2 * r
  · have h' : (k : Int) - (r : Int) ≤ (r : Int) := by omega
    go_wp2
    go_ret
    exact ⟨ret_int (by rw [hu.out h]; unfold wrap64; omega), belowN (Below.refl _ _) _⟩
  · have h' : ¬ (k : Int) - (r : Int) ≤ (r : Int) := by omega
    go_wp2
    go_ret
    exact ⟨ret_int (by rw [hd.out h]; unfold wrap64; omega), belowN (Below.refl _ _) _⟩

/-- a negative dividend -/
theorem quo_np (m k : Nat) (w : World) (hm0 : 0 < m) (hm : m ≤ 2305843009213693952) (hk : 0 < k) (hk' : k ≤ 1073741824) :
    Calls Tryd.prog 56 #[.int .i64 (-(m : Int)), .int .i64 (k : Int)] w fun e w' => e = .returned (.int .i64 (-((rn m k : Nat) : Int))) ∧ Below w.heap.size w w' := by
  have hu := Lib.hid (rn_up m k hk)
  have hd := Lib.hid (rn_down m k hk)
  have hq : m / k ≤ m := Nat.div_le_self _ _
  have hr : m % k < k := Nat.mod_lt _ hk
  have hkz : (1 : Int) ≤ (k : Int) := by omega
  have hkz' : ((k : Int) == 0) = false := by simp; omega
  have hk0 : ¬ (k : Int) < 0 := by omega
  have e1 : (-(m : Int)).tdiv (k : Int) = -((m / k : Nat) : Int) := by rw [Int.neg_tdiv, Int.ofNat_tdiv]
  have e2 : (-(m : Int)).tmod (k : Int) = -((m % k : Nat) : Int) := by rw [Int.neg_tmod, Int.ofNat_tmod]
  go_enter Tryd.func56, Tryd.ntmps56
  go_wp2
  go_quiet (fail)
  clear e1 e2
  rw [show ((m : Int) / (k : Int)) = ((m / k : Nat) : Int) from by simp, show ((m : Int) % (k : Int)) = ((m % k : Nat) : Int) from by simp]
  generalize m / k = q at *
  generalize m % k = r at *
  by_cases h0 : r = 0
  · subst h0
    have h' : ¬ (k : Int) ≤ 0 := by omega
    go_wp2
    go_ret
    exact ⟨ret_int (by rw [hd.out (by omega)]; unfold wrap64; omega), belowN (Below.refl _ _) _⟩
  · have hn : ¬ (0 : Int) ≤ -(r : Int) := by omega
    have hn' : -(r : Int) < 0 := by omega
    by_cases h : k ≤ 2 * r
    · have h' : (k : Int) + -(r : Int) ≤ (r : Int) := by omega
      go_wp2
      go_ret
      exact ⟨ret_int (by rw [hu.out h]; unfold wrap64; omega), belowN (Below.refl _ _) _⟩
    · have h' : ¬ (k : Int) + -(r : Int) ≤ (r : Int) := by omega
      go_wp2
      go_ret
      exact ⟨ret_int (by rw [hd.out h]; unfold wrap64; omega), belowN (Below.refl _ _) _⟩

theorem quo_nn (a : Int) (k : Nat) (w : World) (ha : a.natAbs ≤ 2305843009213693952) (hk : 0 < k) (hk' : k ≤ 1073741824) :
    Calls Tryd.prog 56 #[.int .i64 a, .int .i64 (k : Int)] w fun e w' => e = .returned (.int .i64 (rnd a k)) ∧ Below w.heap.size w w' := by
  by_cases h : a < 0
  · obtain ⟨m, rfl⟩ : ∃ m : Nat, a = -(m : Int) := ⟨a.natAbs, by omega⟩
    rw [rnd_neg1 _ _ (by omega), rnd_pos]
    exact quo_np m k w (by omega) (by omega) hk hk'
  · obtain ⟨m, rfl⟩ : ∃ m : Nat, a = (m : Int) := ⟨a.natAbs, by omega⟩
    rw [rnd_pos]
    exact quo_pp m k w (by omega) hk hk'

/-- both negative -/
theorem quo_nm (m k : Nat) (w : World) (hm : m ≤ 2305843009213693952) (hk : 0 < k) (hk' : k ≤ 1073741824) :
    Calls Tryd.prog 56 #[.int .i64 (-(m : Int)), .int .i64 (-(k : Int))] w fun e w' => e = .returned (.int .i64 (rn m k : Nat)) ∧ Below w.heap.size w w' := by
  have hu := Lib.hid (rn_up m k hk)
  have hd := Lib.hid (rn_down m k hk)
  have hq : m / k ≤ m := Nat.div_le_self _ _
  have hr : m % k < k := Nat.mod_lt _ hk
  have hkz : (1 : Int) ≤ (k : Int) := by omega
  have hkz' : ((k : Int) == 0) = false := by simp; omega
  have hk0 : -(k : Int) < 0 := by omega
  go_enter Tryd.func56, Tryd.ntmps56
  go_wp2
  go_quiet (fail)
  rw [show ((m : Int) / (k : Int)) = ((m / k : Nat) : Int) from by simp, show ((m : Int) % (k : Int)) = ((m % k : Nat) : Int) from by simp]
  generalize m / k = q at *
  generalize m % k = r at *
  by_cases h : k ≤ 2 * r
  · have h' : (k : Int) - (r : Int) ≤ (r : Int) := by omega
    go_wp2
    go_ret
    exact ⟨ret_int (by rw [hu.out h]; unfold wrap64; omega), belowN (Below.refl _ _) _⟩
  · have h' : ¬ (k : Int) - (r : Int) ≤ (r : Int) := by omega
    go_wp2
    go_ret
    exact ⟨ret_int (by rw [hd.out h]; unfold wrap64; omega), belowN (Below.refl _ _) _⟩

/-- a negative divisor -/
theorem quo_pm (m k : Nat) (w : World) (hm0 : 0 < m) (hm : m ≤ 2305843009213693952) (hk : 0 < k) (hk' : k ≤ 1073741824) :
    Calls Tryd.prog 56 #[.int .i64 (m : Int), .int .i64 (-(k : Int))] w fun e w' => e = .returned (.int .i64 (-((rn m k : Nat) : Int))) ∧ Below w.heap.size w w' := by
  have hu := Lib.hid (rn_up m k hk)
  have hd := Lib.hid (rn_down m k hk)
  have hq : m / k ≤ m := Nat.div_le_self _ _
  have hr : m % k < k := Nat.mod_lt _ hk
  have hkz : (1 : Int) ≤ (k : Int) := by omega
  have hkz' : ((k : Int) == 0) = false := by simp; omega
  have hk0 : -(k : Int) < 0 := by omega
  have e1 : (-(m : Int)).tdiv (k : Int) = -((m / k : Nat) : Int) := by rw [Int.neg_tdiv, Int.ofNat_tdiv]
  have e2 : (-(m : Int)).tmod (k : Int) = -((m % k : Nat) : Int) := by rw [Int.neg_tmod, Int.ofNat_tmod]
  go_enter Tryd.func56, Tryd.ntmps56
  go_wp2
  go_quiet (fail)
  clear e1 e2
  rw [show ((m : Int) / (k : Int)) = ((m / k : Nat) : Int) from by simp, show ((m : Int) % (k : Int)) = ((m % k : Nat) : Int) from by simp]
  generalize m / k = q at *
  generalize m % k = r at *
  by_cases h0 : r = 0
  · subst h0
    have h' : ¬ (k : Int) ≤ 0 := by omega
    go_wp2
    go_ret
    exact ⟨ret_int (by rw [hd.out (by omega)]; unfold wrap64; omega), belowN (Below.refl _ _) _⟩
  · have hn : ¬ (0 : Int) ≤ -(r : Int) := by omega
    have hn' : -(r : Int) < 0 := by omega
    by_cases h : k ≤ 2 * r
    · have h' : (k : Int) + -(r : Int) ≤ (r : Int) := by omega
      go_wp2
      go_ret
      exact ⟨ret_int (by rw [hu.out h]; unfold wrap64; omega), belowN (Below.refl _ _) _⟩
    · have h' : ¬ (k : Int) + -(r : Int) ≤ (r : Int) := by omega
      go_wp2
      go_ret
      exact ⟨ret_int (by rw [hd.out h]; unfold wrap64; omega), belowN (Below.refl _ _) _⟩

theorem quotient_any (a b : Int) (w : World) (ha : a.natAbs ≤ 2305843009213693952) (hb : b ≠ 0) (hb' : b.natAbs ≤ 1073741824) :
    Calls Tryd.prog 56 #[.int .i64 a, .int .i64 b] w fun e w' => e = .returned (.int .i64 (rnd a b)) ∧ Below w.heap.size w w' := by
  by_cases h : b < 0
  · obtain ⟨k, rfl⟩ : ∃ k : Nat, b = -(k : Int) := ⟨b.natAbs, by omega⟩
    by_cases h1 : 0 < a
    · obtain ⟨m, rfl⟩ : ∃ m : Nat, a = (m : Int) := ⟨a.natAbs, by omega⟩
      rw [show rnd (m : Int) (-(k : Int)) = -((rn m k : Nat) : Int) from by rw [← rnd_neg _ _ (by omega), Int.neg_neg, rnd_neg1 _ _ (by omega), rnd_pos]]
      exact quo_pm m k w (by omega) (by omega) (by omega) (by omega)
    · obtain ⟨m, rfl⟩ : ∃ m : Nat, a = -(m : Int) := ⟨a.natAbs, by omega⟩
      rw [rnd_neg _ _ (by omega), rnd_pos]
      exact quo_nm m k w (by omega) (by omega) (by omega)
  · obtain ⟨k, rfl⟩ : ∃ k : Nat, b = (k : Int) := ⟨b.natAbs, by omega⟩
    exact quo_nn a k w ha (by omega) (by omega)

theorem scale_no (n p : Int) (h : ¬ (validL n = true ∧ 0 ≤ p ∧ p ≤ 10000)) : scaleL n p = 0 := by
  unfold scaleL
  rw [if_neg]
  intro h'
  simp only [Bool.and_eq_true, decide_eq_true_eq] at h'
  exact h ⟨h'.1.1, h'.1.2, h'.2⟩
theorem scale_yes (n p : Int) (h : validL n = true) (h1 : 0 ≤ p) (h2 : p ≤ 10000) : scaleL n p = rnd (n * p) 100 := by
  unfold scaleL; rw [if_pos (by simp [h, h1, h2])]
theorem to_below {P : Program} {f : FuncId} {args : Array Value} {w : World} {v : Value} (h : Calls P f args w fun e w' => e = .returned v ∧ w = w') : Calls P f args w fun e w' => e = .returned v ∧ Below w.heap.size w w' :=
  h.mono fun _ _ ⟨he, hw⟩ => ⟨he, hw ▸ Below.refl _ _⟩

set_option maxHeartbeats 1000000 in
theorem scale_any (n p : Int) (w : World) (_hp : -9223372036854775808 ≤ p) (_hP : p ≤ 9223372036854775807) :
    Calls Tryd.prog 45 #[.int .i64 n, .int .i64 p] w fun e w' => e = .returned (.int .i64 (scaleL n p)) ∧ Below w.heap.size w w' := by
  cases hv : validL n with
  | false =>
    have HS := Lib.hid (scale_no n p (by simp [hv]))
    have HV := Lib.hid hv
    clear hv
    go_enter Tryd.func45, Tryd.ntmps45
    go_wp2_with fail
    refine (valid_any n _).mono ?_
    rw [HV.out]
    rintro e w' ⟨rfl, rfl⟩
    go_wp2
    go_ret
    exact ⟨ret_int HS.out.symm, Below.refl _ _⟩
  | true =>
    have HV := Lib.hid hv
    obtain ⟨v1, v2⟩ := (validL_iff n).1 hv
    by_cases h1 : p < 0
    · have HS := Lib.hid (scale_no n p (by omega))
      clear hv
      go_enter Tryd.func45, Tryd.ntmps45
      go_wp2_with fail
      refine (valid_any n _).mono ?_
      rw [HV.out]
      rintro e w' ⟨rfl, rfl⟩
      go_wp2
      go_ret
      exact ⟨ret_int HS.out.symm, Below.refl _ _⟩
    · by_cases h2 : 10000 < p
      · have HS := Lib.hid (scale_no n p (by omega))
        clear hv
        go_enter Tryd.func45, Tryd.ntmps45
        go_wp2_with fail
        refine (valid_any n _).mono ?_
        rw [HV.out]
        rintro e w' ⟨rfl, rfl⟩
        go_wp2
        go_ret
        exact ⟨ret_int HS.out.symm, Below.refl _ _⟩
      · have HS := Lib.hid (scale_yes n p hv (by omega) (by omega))
        have hpb := prod_bnd (a := n) (b := p) (A := 1073741824) (B := 10000) (by omega) (by omega)
        clear hv
        go_enter Tryd.func45, Tryd.ntmps45
        go_wp2_with fail
        refine (valid_any n _).mono ?_
        rw [HV.out]
        rintro e w' ⟨rfl, rfl⟩
        go_wp2_with fail
        refine (quotient_any (n * p) 100 _ (by omega) (by omega) (by omega)).mono ?_
        rw [← HS.out]
        rintro e w' ⟨rfl, hb⟩
        go_wp2
        go_ret
        exact ⟨rfl, hb⟩
end Go.Proofs.YthgkdeaapjdadaaDoor
