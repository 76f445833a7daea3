/- Rounded quotients as plain Lean functions, and the plain laws on them. No program. -/
namespace Go.Proofs.YtbaljopgkelcfaaDoor

def validL (n : Int) : Bool := decide (-1073741824 ≤ n) && decide (n ≤ 1073741824)
theorem validL_iff (n : Int) : validL n = true ↔ -1073741824 ≤ n ∧ n ≤ 1073741824 := by simp [validL]

/-- the nearest number to m / k, halves up -/
def rn (m k : Nat) : Nat := (2 * m + k) / (2 * k)
/-- a / b, rounded, halves away from zero -/
def rnd (a b : Int) : Int := if decide (a < 0) = decide (b < 0) then (rn a.natAbs b.natAbs : Int) else -(rn a.natAbs b.natAbs : Int)

theorem rn_eq (m k : Nat) (hk : 0 < k) : rn m k = m / k + (if k ≤ 2 * (m % k) then 1 else 0) := by
  unfold rn
  have h := Nat.div_add_mod m k
  have hr : m % k < k := Nat.mod_lt _ hk
  generalize m / k = q at *
  generalize m % k = r at *
  subst h
  have e : 2 * (k * q + r) + k = (2 * r + k) + (2 * k) * q := by
    rw [Nat.mul_add, ← Nat.mul_assoc]; omega
  rw [e, Nat.add_mul_div_left _ _ (by omega), Nat.add_comm]
  congr 1
  split
  · rename_i h
    exact Nat.div_eq_of_lt_le (by omega) (by omega)
  · exact Nat.div_eq_of_lt (by omega)

theorem rn_up (m k : Nat) (hk : 0 < k) (h : k ≤ 2 * (m % k)) : rn m k = m / k + 1 := by rw [rn_eq m k hk, if_pos h]
theorem rn_down (m k : Nat) (hk : 0 < k) (h : ¬ k ≤ 2 * (m % k)) : rn m k = m / k := by rw [rn_eq m k hk, if_neg h]; rfl
theorem rn_le (m k : Nat) (hk : 0 < k) : rn m k ≤ m := by
  rw [rn_eq m k hk]
  have h := Nat.div_add_mod m k
  have hr : m % k < k := Nat.mod_lt _ hk
  rcases Nat.eq_zero_or_pos (m / k) with h0 | h0
  · rw [h0] at h ⊢
    split <;> omega
  · have : m / k ≤ k * (m / k) := Nat.le_mul_of_pos_left _ hk
    split <;> omega

theorem rnd_pos (m k : Nat) : rnd (m : Int) (k : Int) = (rn m k : Int) := by
  unfold rnd
  rw [if_pos (by rw [decide_eq_false (by omega), decide_eq_false (by omega)]), Int.natAbs_natCast, Int.natAbs_natCast]
theorem rnd_neg (a b : Int) (hb : b ≠ 0) : rnd (-a) (-b) = rnd a b := by
  unfold rnd
  rw [Int.natAbs_neg, Int.natAbs_neg]
  by_cases h0 : a = 0
  · subst h0
    have : rn (Int.natAbs 0) b.natAbs = 0 := by
      unfold rn
      simp only [Int.natAbs_zero, Nat.mul_zero, Nat.zero_add]
      exact Nat.div_eq_of_lt (by have := Int.natAbs_pos.2 hb; omega)
    rw [this]; simp
  · have e1 : decide (-a < 0) = !decide (a < 0) := by rw [Bool.eq_iff_iff]; simp; omega
    have e2 : decide (-b < 0) = !decide (b < 0) := by rw [Bool.eq_iff_iff]; simp; omega
    rw [e1, e2]
    by_cases h : decide (a < 0) = decide (b < 0)
    · rw [if_pos h, if_pos (by rw [h])]
    · rw [if_neg h, if_neg (by intro h'; exact h (by simpa using h'))]
theorem rnd_neg1 (a b : Int) (hb : b ≠ 0) : rnd (-a) b = -rnd a b := by
  unfold rnd
  rw [Int.natAbs_neg]
  by_cases h0 : a = 0
  · subst h0
    have : rn (Int.natAbs 0) b.natAbs = 0 := by
      unfold rn
      simp only [Int.natAbs_zero, Nat.mul_zero, Nat.zero_add]
      exact Nat.div_eq_of_lt (by have := Int.natAbs_pos.2 hb; omega)
    rw [this]; simp
  · have e1 : decide (-a < 0) = !decide (a < 0) := by rw [Bool.eq_iff_iff]; simp; omega
    rw [e1]
    by_cases h : decide (a < 0) = decide (b < 0)
    · rw [if_pos h, if_neg (by rw [h]; simp)]
    · rw [if_neg h, if_pos (by revert h; cases decide (a < 0) <;> cases decide (b < 0) <;> simp), Int.neg_neg]
/-- a common factor -/
theorem rn_mul (m k c : Nat) (hc : 0 < c) : rn (c * m) (c * k) = rn m k := by
  unfold rn
  rw [show 2 * (c * m) + c * k = c * (2 * m + k) from by rw [Nat.mul_add, Nat.mul_left_comm], show 2 * (c * k) = c * (2 * k) from Nat.mul_left_comm _ _ _, Nat.mul_div_mul_left _ _ hc]
theorem rnd_bnd (a b : Int) (hb : b ≠ 0) : (rnd a b).natAbs ≤ a.natAbs := by
  have h := rn_le a.natAbs b.natAbs (Int.natAbs_pos.2 hb)
  unfold rnd
  split <;> simp <;> exact h
def scaleL (n p : Int) : Int := if validL n && decide (0 ≤ p) && decide (p ≤ 10000) then rnd (n * p) 100 else 0
def halfL (n : Int) : Int := if validL n then rnd n 2 else 0
def mulDivL (n a b : Int) : Int := if validL n && validL a && validL b && !(b == 0) then rnd (n * a) b else 0
theorem prod_bnd {a b : Int} {A B : Nat} (h1 : a.natAbs ≤ A) (h2 : b.natAbs ≤ B) : -((A * B : Nat) : Int) ≤ a * b ∧ a * b ≤ ((A * B : Nat) : Int) := by
  have : (a * b).natAbs ≤ A * B := by rw [Int.natAbs_mul]; exact Nat.mul_le_mul h1 h2
  omega
end Go.Proofs.YtbaljopgkelcfaaDoor
