/- Bounded rational numbers as plain Lean functions: validity, the reduced quotient, and the plain laws on them. No program. -/
namespace Go.Proofs.YtaekhbhjgcmghaaDoor

/-- the greatest numerator and denominator -/
def bnd : Int := 2147483647
def validQ (n d : Int) : Bool := decide (1 ≤ d) && decide (d ≤ 2147483647) && decide (-2147483647 ≤ n) && decide (n ≤ 2147483647) && (Nat.gcd n.natAbs d.natAbs == 1)

/-- a number and an error -/
structure Res where
  num : Int
  den : Int
  err : Int

def red (neg : Bool) (a b : Nat) : Res :=
  if a / Nat.gcd a b ≤ 2147483647 ∧ b / Nat.gcd a b ≤ 2147483647 then ⟨if neg then -((a / Nat.gcd a b : Nat) : Int) else ((a / Nat.gcd a b : Nat) : Int), ((b / Nat.gcd a b : Nat) : Int), 0⟩ else ⟨0, 0, 2⟩
def mk (n d : Int) : Res := if d = 0 then ⟨0, 0, 10⟩ else red (decide (n < 0) != decide (d < 0)) n.natAbs d.natAbs

theorem valid_iff (n d : Int) : validQ n d = true ↔ 1 ≤ d ∧ d ≤ 2147483647 ∧ -2147483647 ≤ n ∧ n ≤ 2147483647 ∧ Nat.gcd n.natAbs d.natAbs = 1 := by
  unfold validQ
  simp only [Bool.and_eq_true, decide_eq_true_eq, beq_iff_eq]
  constructor
  · rintro ⟨⟨⟨⟨h1, h2⟩, h3⟩, h4⟩, h5⟩; exact ⟨h1, h2, h3, h4, h5⟩
  · rintro ⟨h1, h2, h3, h4, h5⟩; exact ⟨⟨⟨⟨h1, h2⟩, h3⟩, h4⟩, h5⟩

theorem valid_neg (n d : Int) : validQ (-n) d = validQ n d := by
  rw [Bool.eq_iff_iff, valid_iff, valid_iff, Int.natAbs_neg]
  constructor <;> rintro ⟨h1, h2, h3, h4, h5⟩ <;> exact ⟨h1, h2, by omega, by omega, h5⟩

theorem mk_err (n d : Int) : (mk n d).err = 0 ∨ (mk n d).err = 2 ∨ (mk n d).err = 10 := by
  unfold mk red
  split
  · exact .inr (.inr rfl)
  · split
    · exact .inl rfl
    · exact .inr (.inl rfl)
theorem mk_bad (n d : Int) (h : (mk n d).err ≠ 0) : (mk n d).num = 0 ∧ (mk n d).den = 0 := by
  unfold mk red at h ⊢
  split
  · exact ⟨rfl, rfl⟩
  · rename_i hd
    rw [if_neg hd] at h
    split
    · rename_i hc; rw [if_pos hc] at h; exact absurd rfl h
    · exact ⟨rfl, rfl⟩

/-- a quotient that has no error is valid and has the value of the quotient -/
theorem mk_ok (n d : Int) (h : (mk n d).err = 0) : d ≠ 0 ∧ validQ (mk n d).num (mk n d).den = true ∧ (mk n d).num * d = n * (mk n d).den := by
  unfold mk at h ⊢
  by_cases hd : d = 0
  · rw [if_pos hd] at h; cases h
  rw [if_neg hd] at h ⊢
  unfold red at h ⊢
  generalize hg : Nat.gcd n.natAbs d.natAbs = g at h ⊢
  have hg1 : g ∣ n.natAbs := hg ▸ Nat.gcd_dvd_left _ _
  have hg2 : g ∣ d.natAbs := hg ▸ Nat.gcd_dvd_right _ _
  have hdp : 0 < d.natAbs := Int.natAbs_pos.2 hd
  have hgp : 0 < g := by rcases Nat.eq_zero_or_pos g with h0 | h0; (subst h0; exact absurd (Nat.eq_zero_of_zero_dvd hg2) (by omega)); exact h0
  split at h
  · rename_i hc
    rw [if_pos hc]
    obtain ⟨a, ha⟩ := hg1
    obtain ⟨b, hb⟩ := hg2
    have hna : n.natAbs / g = a := by rw [ha, Nat.mul_div_cancel_left _ hgp]
    have hdb : d.natAbs / g = b := by rw [hb, Nat.mul_div_cancel_left _ hgp]
    have hcop : Nat.gcd a b = 1 := by
      have := hg
      rw [ha, hb, Nat.gcd_mul_left] at this
      have h2 : g * Nat.gcd a b = g * 1 := by rw [this, Nat.mul_one]
      exact Nat.eq_of_mul_eq_mul_left hgp h2
    rw [hna, hdb] at hc ⊢
    have hbp : 0 < b := by rcases Nat.eq_zero_or_pos b with h0 | h0; (subst h0; simp at hb; omega); exact h0
    refine ⟨hd, ?_, ?_⟩
    · rw [valid_iff]
      refine ⟨by simp only; omega, by simp only; omega, by simp only; split <;> omega, by simp only; split <;> omega, ?_⟩
      simp only
      split
      · rw [Int.natAbs_neg, Int.natAbs_natCast, Int.natAbs_natCast]; exact hcop
      · rw [Int.natAbs_natCast, Int.natAbs_natCast]; exact hcop
    · simp only
      have e1 : ((n.natAbs : Nat) : Int) = (g : Int) * a := by rw [ha]; simp
      have e2 : ((d.natAbs : Nat) : Int) = (g : Int) * b := by rw [hb]; simp
      rcases Int.lt_or_le n 0 with hn | hn <;> rcases Int.lt_or_le d 0 with hd' | hd'
      · have : n = -((g : Int) * a) := by omega
        have h2 : d = -((g : Int) * b) := by omega
        rw [if_neg (by simp [hn, hd']), this, h2]
        simp only [Int.neg_mul, Int.mul_neg]
        rw [← Int.mul_assoc, Int.mul_comm (a : Int) g]
      · have : n = -((g : Int) * a) := by omega
        have h2 : d = ((g : Int) * b) := by omega
        have hb' : ¬ d < 0 := by omega
        rw [if_pos (by simp [hn, hb']), this, h2]
        simp only [Int.neg_mul]
        rw [← Int.mul_assoc, Int.mul_comm (a : Int) g]
      · have : n = ((g : Int) * a) := by omega
        have h2 : d = -((g : Int) * b) := by omega
        have hn' : ¬ n < 0 := by omega
        rw [if_pos (by simp [hn', hd']), this, h2]
        simp only [Int.neg_mul, Int.mul_neg, Int.neg_neg]
        rw [← Int.mul_assoc, Int.mul_comm (a : Int) g]
      · have : n = ((g : Int) * a) := by omega
        have h2 : d = ((g : Int) * b) := by omega
        have hn' : ¬ n < 0 := by omega
        have hb' : ¬ d < 0 := by omega
        rw [if_neg (by simp [hn', hb']), this, h2]
        rw [← Int.mul_assoc, Int.mul_comm (a : Int) g]
  · cases h

/-- valid numbers of one value are one -/
theorem valid_unique {n d n' d' : Int} (h : validQ n d = true) (h' : validQ n' d' = true) (he : n * d' = n' * d) : n = n' ∧ d = d' := by
  rw [valid_iff] at h h'
  obtain ⟨h1, h2, h3, h4, h5⟩ := h
  obtain ⟨g1, g2, g3, g4, g5⟩ := h'
  have e : n.natAbs * d'.natAbs = n'.natAbs * d.natAbs := by rw [← Int.natAbs_mul, ← Int.natAbs_mul, he]
  have c1 : Nat.Coprime d.natAbs n.natAbs := by rw [Nat.coprime_comm]; exact h5
  have c2 : Nat.Coprime d'.natAbs n'.natAbs := by rw [Nat.coprime_comm]; exact g5
  have dv1 : d.natAbs ∣ d'.natAbs := c1.dvd_of_dvd_mul_left (by rw [e]; exact Nat.dvd_mul_left _ _)
  have dv2 : d'.natAbs ∣ d.natAbs := c2.dvd_of_dvd_mul_left (by rw [← e]; exact Nat.dvd_mul_left _ _)
  have hd : d.natAbs = d'.natAbs := Nat.dvd_antisymm dv1 dv2
  have hd' : d = d' := by omega
  subst hd'
  exact ⟨Int.eq_of_mul_eq_mul_right (by omega) he, rfl⟩

/-- a quotient whose value has a representation is that -/
theorem mk_eq {n d p q : Int} (hv : validQ p q = true) (hd : d ≠ 0) (he : n * q = p * d) : mk n d = ⟨p, q, 0⟩ := by
  have hv' := hv
  rw [valid_iff] at hv
  obtain ⟨h1, h2, h3, h4, h5⟩ := hv
  have e : n.natAbs * q.natAbs = p.natAbs * d.natAbs := by rw [← Int.natAbs_mul, ← Int.natAbs_mul, he]
  have c1 : Nat.Coprime q.natAbs p.natAbs := by rw [Nat.coprime_comm]; exact h5
  have hqp : 0 < q.natAbs := by omega
  have dv : q.natAbs ∣ d.natAbs := c1.dvd_of_dvd_mul_left (by rw [← e]; exact Nat.dvd_mul_left _ _)
  obtain ⟨g, hg⟩ := dv
  have hn : n.natAbs = p.natAbs * g := by
    rw [hg] at e
    have : n.natAbs * q.natAbs = (p.natAbs * g) * q.natAbs := by rw [e, Nat.mul_assoc, Nat.mul_comm g]
    exact Nat.eq_of_mul_eq_mul_right hqp this
  have hgp : 0 < g := by
    rcases Nat.eq_zero_or_pos g with h0 | h0
    · subst h0; simp at hg; exact absurd hg hd
    · exact h0
  have hgcd : Nat.gcd n.natAbs d.natAbs = g := by rw [hn, hg, Nat.gcd_mul_right, h5, Nat.one_mul]
  unfold mk
  rw [if_neg hd]
  unfold red
  rw [hgcd, hn, hg, Nat.mul_div_cancel _ hgp, Nat.mul_div_cancel _ hgp, if_pos ⟨by omega, by omega⟩]
  have hq : ((q.natAbs : Nat) : Int) = q := by omega
  rw [hq]
  congr 1
  -- the sign
  have hpos : ∀ x y : Int, 0 < y → (x * y < 0 ↔ x < 0) := fun x y hy => by
    constructor
    · intro h
      rcases Int.lt_or_le x 0 with h0 | h0
      · exact h0
      · have := Int.mul_nonneg h0 (Int.le_of_lt hy); omega
    · intro h; exact Int.mul_neg_of_neg_of_pos h hy
  rcases Int.lt_trichotomy d 0 with hd0 | hd0 | hd0
  · -- d < 0: n < 0 iff p > 0
    have : (n < 0) ↔ (0 < p) := by
      rw [← hpos n q (by omega), he]
      constructor
      · intro h
        rcases Int.lt_or_le 0 p with h0 | h0
        · exact h0
        · have := Int.mul_nonneg_of_nonpos_of_nonpos h0 (Int.le_of_lt hd0); omega
      · intro h; exact Int.mul_neg_of_pos_of_neg h hd0
    by_cases hp : 0 < p
    · rw [if_neg (by simp [this.2 hp, hd0])]; omega
    · have hn0 : ¬ n < 0 := fun h => hp (this.1 h)
      rw [if_pos (by simp [hn0, hd0])]; omega
  · exact absurd hd0 hd
  · have : (n < 0) ↔ (p < 0) := by rw [← hpos n q (by omega), he, hpos p d hd0]
    have hd1 : ¬ d < 0 := by omega
    by_cases hp : p < 0
    · rw [if_pos (by simp [this.2 hp, hd1])]; omega
    · have hn0 : ¬ n < 0 := fun h => hp (this.1 h)
      rw [if_neg (by simp [hn0, hd1])]; omega

def addQ (a b c d : Int) : Res := if validQ a b && validQ c d then mk (a * d + c * b) (b * d) else ⟨0, 0, 1⟩
def subQ (a b c d : Int) : Res := if validQ a b && validQ c d then mk (a * d - c * b) (b * d) else ⟨0, 0, 1⟩
def mulQ (a b c d : Int) : Res := if validQ a b && validQ c d then mk (a * c) (b * d) else ⟨0, 0, 1⟩
def divQ (a b c d : Int) : Res := if validQ a b && validQ c d then mk (a * d) (b * c) else ⟨0, 0, 1⟩
def negQ (a b : Int) : Res := if validQ a b then ⟨-a, b, 0⟩ else ⟨0, 0, 1⟩

theorem subQ_addQ (a b c d : Int) : subQ a b c d = addQ a b (-c) d := by
  unfold subQ addQ
  rw [valid_neg, Int.neg_mul]
  rfl
theorem prod_bnd {a b : Int} (h1 : -2147483647 ≤ a) (h2 : a ≤ 2147483647) (h3 : -2147483647 ≤ b) (h4 : b ≤ 2147483647) : -4611686014132420609 ≤ a * b ∧ a * b ≤ 4611686014132420609 := by
  have ha : a.natAbs ≤ 2147483647 := by omega
  have hb : b.natAbs ≤ 2147483647 := by omega
  have : (a * b).natAbs ≤ 2147483647 * 2147483647 := by rw [Int.natAbs_mul]; exact Nat.mul_le_mul ha hb
  omega
end Go.Proofs.YtaekhbhjgcmghaaDoor
