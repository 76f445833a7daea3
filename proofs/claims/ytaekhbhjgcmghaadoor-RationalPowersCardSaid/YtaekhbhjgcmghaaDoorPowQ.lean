/- Powers of bounded rational numbers as plain functions, and the plain laws on them. No program. -/
import Derived.Test.YtaekhbhjgcmghaaDoorRat
namespace Go.Proofs.YtaekhbhjgcmghaaDoor

/-- a pair in lowest terms, if it is within the bounds -/
def fitB (p q : Int) : Bool := decide (-2147483647 ≤ p) && decide (p ≤ 2147483647) && decide (q ≤ 2147483647)
def powN (a b : Int) (k : Nat) : Res := if fitB (a ^ k) (b ^ k) then ⟨a ^ k, b ^ k, 0⟩ else ⟨0, 0, 2⟩
def powQ (a b n : Int) : Res :=
  if validQ a b then
    if a = 0 ∧ n < 0 then ⟨0, 0, 10⟩
    else if n < 0 then powN (a.sign * b) a.natAbs n.natAbs else powN a b n.natAbs
  else ⟨0, 0, 1⟩

theorem fit_iff (p q : Int) : fitB p q = true ↔ -2147483647 ≤ p ∧ p ≤ 2147483647 ∧ q ≤ 2147483647 := by
  unfold fitB
  simp only [Bool.and_eq_true, decide_eq_true_eq]
  constructor
  · rintro ⟨⟨h1, h2⟩, h3⟩; exact ⟨h1, h2, h3⟩
  · rintro ⟨h1, h2, h3⟩; exact ⟨⟨h1, h2⟩, h3⟩
theorem fit_abs (p q : Int) (hq : 0 ≤ q) : fitB p q = true ↔ p.natAbs ≤ 2147483647 ∧ q.natAbs ≤ 2147483647 := by
  rw [fit_iff]; omega
theorem natAbs_pow' (a : Int) (k : Nat) : (a ^ k).natAbs = a.natAbs ^ k := by
  induction k with
  | zero => simp
  | succ k ih => rw [Int.pow_succ, Int.natAbs_mul, ih, Nat.pow_succ]
theorem pow_pos' {b : Int} (hb : 1 ≤ b) (k : Nat) : 1 ≤ b ^ k := by
  have : 0 < b ^ k := Int.pow_pos (by omega)
  omega
theorem coprime_pow {a b : Nat} (h : Nat.gcd a b = 1) (k j : Nat) : Nat.gcd (a ^ k) (b ^ j) = 1 := Nat.Coprime.pow k j h

theorem valid_pow {a b : Int} (h : validQ a b = true) {k : Nat} (hf : fitB (a ^ k) (b ^ k) = true) : validQ (a ^ k) (b ^ k) = true := by
  rw [valid_iff] at h ⊢
  rw [fit_iff] at hf
  refine ⟨pow_pos' h.1 k, hf.2.2, hf.1, hf.2.1, ?_⟩
  rw [natAbs_pow', natAbs_pow']
  exact coprime_pow h.2.2.2.2 k k

/-- a quotient in lowest terms that is not within the bounds -/
theorem mk_far {n d : Int} (hd : 1 ≤ d) (hc : Nat.gcd n.natAbs d.natAbs = 1) (hf : fitB n d = false) : mk n d = ⟨0, 0, 2⟩ := by
  unfold mk red
  rw [if_neg (by omega), hc, Nat.div_one, Nat.div_one, if_neg]
  intro h
  have : fitB n d = true := (fit_abs n d (by omega)).2 h
  rw [hf] at this; cases this

theorem mk_pow {a b : Int} (h : validQ a b = true) (k : Nat) : mk (a ^ k) (b ^ k) = powN a b k := by
  unfold powN
  have hb := (valid_iff a b).1 h
  have hp := pow_pos' hb.1 k
  by_cases hf : fitB (a ^ k) (b ^ k) = true
  · rw [if_pos hf]
    exact mk_eq (valid_pow h hf) (by omega) rfl
  · rw [if_neg hf]
    refine mk_far hp ?_ (by simpa using hf)
    rw [natAbs_pow', natAbs_pow']
    exact coprime_pow hb.2.2.2.2 k k

theorem mul_pow {a b : Int} (h : validQ a b = true) {i j : Nat} (hi : fitB (a ^ i) (b ^ i) = true) (hj : fitB (a ^ j) (b ^ j) = true) :
    mulQ (a ^ i) (b ^ i) (a ^ j) (b ^ j) = powN a b (i + j) := by
  unfold mulQ
  rw [valid_pow h hi, valid_pow h hj, ← Int.pow_add, ← Int.pow_add]
  exact mk_pow h _
theorem mul_pow1 {a b : Int} (h : validQ a b = true) {i : Nat} (hi : fitB (a ^ i) (b ^ i) = true) :
    mulQ (a ^ i) (b ^ i) a b = powN a b (i + 1) := by
  have hb := (valid_iff a b).1 h
  have := mul_pow h (i := i) (j := 1) hi (by rw [Int.pow_one, Int.pow_one, fit_iff]; omega)
  rwa [Int.pow_one, Int.pow_one] at this

theorem pow_le_of {x i k : Nat} (h : i ≤ k) (hk : x ^ k ≤ 2147483647) : x ^ i ≤ 2147483647 := by
  rcases Nat.eq_zero_or_pos x with h0 | h0
  · subst h0
    have := @Nat.zero_pow i
    rcases Nat.eq_zero_or_pos i with h1 | h1
    · subst h1; simp
    · rw [this h1]; omega
  · exact Nat.le_trans (Nat.pow_le_pow_right h0 h) hk
theorem fit_mono {a b : Int} (hb : 1 ≤ b) {i k : Nat} (h : i ≤ k) (hf : fitB (a ^ k) (b ^ k) = true) : fitB (a ^ i) (b ^ i) = true := by
  have h1 := pow_pos' hb i
  have h2 := pow_pos' hb k
  rw [fit_abs _ _ (by omega), natAbs_pow', natAbs_pow'] at hf ⊢
  exact ⟨pow_le_of h hf.1, pow_le_of h hf.2⟩
theorem powN_far {a b : Int} (hb : 1 ≤ b) {i k : Nat} (h : i ≤ k) (hf : fitB (a ^ i) (b ^ i) = false) : powN a b k = ⟨0, 0, 2⟩ := by
  unfold powN
  rw [if_neg]
  intro hk
  rw [fit_mono hb h hk] at hf; cases hf
theorem powN_ok {a b : Int} {k : Nat} (hf : fitB (a ^ k) (b ^ k) = true) : powN a b k = ⟨a ^ k, b ^ k, 0⟩ := by unfold powN; rw [if_pos hf]
theorem powN_bad {a b : Int} {k : Nat} (hf : fitB (a ^ k) (b ^ k) = false) : powN a b k = ⟨0, 0, 2⟩ := by unfold powN; rw [if_neg (by simp [hf])]

/-- the inverse -/
theorem inv_valid {a b : Int} (h : validQ a b = true) (ha : a ≠ 0) : validQ (a.sign * b) a.natAbs = true := by
  rw [valid_iff] at h ⊢
  obtain ⟨h1, h2, h3, h4, h5⟩ := h
  have e : (a.sign * b).natAbs = b.natAbs := by
    rw [Int.natAbs_mul, Int.natAbs_sign]; simp [ha]
  refine ⟨by omega, by omega, by omega, by omega, ?_⟩
  rw [e, Int.natAbs_natCast, Nat.gcd_comm]; exact h5
theorem mk_inv {a b : Int} (h : validQ a b = true) (ha : a ≠ 0) : mk b a = ⟨a.sign * b, a.natAbs, 0⟩ := by
  refine mk_eq (inv_valid h ha) ha ?_
  have : (a.natAbs : Int) = a.sign * a := (Int.sign_mul_self a).symm
  rw [this]
  grind
theorem fit_inv {a b : Int} (hb : 1 ≤ b) (ha : a ≠ 0) (k : Nat) : fitB ((a.sign * b) ^ k) ((a.natAbs : Int) ^ k) = fitB (a ^ k) (b ^ k) := by
  have h1 : (1 : Int) ≤ (a.natAbs : Int) ^ k := pow_pos' (by omega) k
  have h2 := pow_pos' hb k
  have e : (a.sign * b).natAbs = b.natAbs := by
    rw [Int.natAbs_mul, Int.natAbs_sign]; simp [ha]
  rw [Bool.eq_iff_iff, fit_abs _ _ (by omega), fit_abs _ _ (by omega), natAbs_pow', natAbs_pow', natAbs_pow', natAbs_pow', e, Int.natAbs_natCast, and_comm]
theorem inv_pow {a b : Int} (h : validQ a b = true) (ha : a ≠ 0) {k : Nat} (hf : fitB (a ^ k) (b ^ k) = true) :
    mk (b ^ k) (a ^ k) = powN (a.sign * b) a.natAbs k := by
  have hb := (valid_iff a b).1 h
  have hf' := hf
  rw [← fit_inv hb.1 ha] at hf'
  rw [powN_ok hf']
  refine mk_eq (valid_pow (inv_valid h ha) hf') (Int.pow_ne_zero ha) ?_
  have : (a.natAbs : Int) = a.sign * a := (Int.sign_mul_self a).symm
  rw [this, Int.mul_pow, Int.mul_pow]
  grind

/-- what the binary method comes to -/
theorem powQ_pos {a b n : Int} (h : validQ a b = true) (hn : ¬ n < 0) : powQ a b n = powN a b n.natAbs := by
  unfold powQ; rw [if_pos h, if_neg (by omega), if_neg hn]
theorem powQ_neg {a b n : Int} (h : validQ a b = true) (hn : n < 0) (ha : a ≠ 0) : powQ a b n = powN (a.sign * b) a.natAbs n.natAbs := by
  unfold powQ; rw [if_pos h, if_neg (by omega), if_pos hn]
theorem powQ_zero {b n : Int} (h : validQ 0 b = true) (hn : n < 0) : powQ 0 b n = ⟨0, 0, 10⟩ := by
  unfold powQ; rw [if_pos h, if_pos ⟨rfl, hn⟩]
theorem powQ_arg {a b n : Int} (h : validQ a b = false) : powQ a b n = ⟨0, 0, 1⟩ := by
  unfold powQ; rw [if_neg (by simp [h])]
theorem powQ_far {a b n : Int} (h : validQ a b = true) (h0 : ¬ (a = 0 ∧ n < 0)) {i : Nat} (hi : i ≤ n.natAbs) (hf : fitB (a ^ i) (b ^ i) = false) : powQ a b n = ⟨0, 0, 2⟩ := by
  have hb := (valid_iff a b).1 h
  by_cases hn : n < 0
  · have ha : a ≠ 0 := fun e => h0 ⟨e, hn⟩
    rw [powQ_neg h hn ha]
    exact powN_far (by omega) hi (by rw [fit_inv hb.1 ha, hf])
  · rw [powQ_pos h hn]
    exact powN_far hb.1 hi hf

/-- the powers of 0, 1 and -1, and the others beyond 31 -/
theorem valid_zero {b : Int} (h : validQ 0 b = true) : b = 1 := by
  rw [valid_iff] at h
  have := h.2.2.2.2
  simp at this
  omega
theorem two_pow_far {x : Nat} (hx : 2 ≤ x) {k : Nat} (hk : 31 < k) : ¬ x ^ k ≤ 2147483647 := by
  have h1 : 2 ^ k ≤ x ^ k := Nat.pow_le_pow_left hx k
  have h2 : 2 ^ 32 ≤ 2 ^ k := Nat.pow_le_pow_right (by omega) hk
  have : (2 : Nat) ^ 32 = 4294967296 := by decide
  omega
theorem pow_far {a b : Int} (h : validQ a b = true) (h0 : a ≠ 0) (h1 : ¬ (b = 1 ∧ (a = 1 ∨ a = -1))) {k : Nat} (hk : 31 < k) : fitB (a ^ k) (b ^ k) = false := by
  have hb := (valid_iff a b).1 h
  have h2 := pow_pos' hb.1 k
  rw [Bool.eq_false_iff]
  intro hf
  rw [Ne.eq_def] at *
  rw [fit_abs _ _ (by omega), natAbs_pow', natAbs_pow'] at hf
  by_cases hb1 : b = 1
  · exact two_pow_far (by omega) hk hf.1
  · exact two_pow_far (by omega) hk hf.2

/-- the ways of the reference -/
theorem powQ_nil {a b : Int} (h : validQ a b = true) : powQ a b 0 = ⟨1, 1, 0⟩ := by
  rw [powQ_pos h (by omega)]
  unfold powN
  rw [show (Int.natAbs 0) = 0 from rfl, Int.pow_zero, Int.pow_zero, if_pos (by decide)]
theorem powQ_one (n : Int) : powQ 1 1 n = ⟨1, 1, 0⟩ := by
  by_cases hn : n < 0
  · rw [powQ_neg (by decide) hn (by omega)]
    unfold powN
    rw [show (Int.sign 1 * 1 : Int) = 1 from rfl, show ((Int.natAbs 1 : Nat) : Int) = 1 from rfl, Int.one_pow, if_pos (by decide)]
  · rw [powQ_pos (by decide) hn]
    unfold powN
    rw [Int.one_pow, if_pos (by decide)]
theorem powQ_null {n : Int} (hn : 0 < n) : powQ 0 1 n = ⟨0, 1, 0⟩ := by
  rw [powQ_pos (by decide) (by omega)]
  unfold powN
  rw [Int.one_pow, Int.zero_pow (by omega), if_pos (by decide)]
theorem neg_one_pow (k : Nat) : (-1 : Int) ^ k = if k % 2 = 0 then 1 else -1 := by
  induction k with
  | zero => rfl
  | succ k ih => rw [Int.pow_succ, ih]; split <;> split <;> omega
theorem powQ_minus (n : Int) : powQ (-1) 1 n = if n % 2 = 0 then ⟨1, 1, 0⟩ else ⟨-1, 1, 0⟩ := by
  have key : powN (-1) 1 n.natAbs = if n % 2 = 0 then ⟨1, 1, 0⟩ else ⟨-1, 1, 0⟩ := by
    unfold powN
    rw [Int.one_pow, neg_one_pow]
    by_cases h : n % 2 = 0
    · rw [if_pos h, if_pos (show n.natAbs % 2 = 0 by omega)]; rfl
    · rw [if_neg h, if_neg (show ¬ n.natAbs % 2 = 0 by omega)]; rfl
  by_cases hn : n < 0
  · rw [powQ_neg (by decide) hn (by omega)]; exact key
  · rw [powQ_pos (by decide) hn]; exact key
theorem powQ_over {a b n : Int} (h : validQ a b = true) (h0 : a ≠ 0) (h1 : ¬ (b = 1 ∧ (a = 1 ∨ a = -1))) (hn : 31 < n.natAbs) : powQ a b n = ⟨0, 0, 2⟩ :=
  powQ_far h (fun e => h0 e.1) (Nat.le_refl _) (pow_far h h0 h1 hn)
theorem powQ_flip {a b n : Int} (h : validQ a b = true) (h0 : a ≠ 0) (hn : n < 0) : powQ (a.sign * b) a.natAbs (-n) = powQ a b n := by
  rw [powQ_pos (inv_valid h h0) (by omega), powQ_neg h hn h0, Int.natAbs_neg]
end Go.Proofs.YtaekhbhjgcmghaaDoor
