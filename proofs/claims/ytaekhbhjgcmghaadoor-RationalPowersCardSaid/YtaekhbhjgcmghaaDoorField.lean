/- The plain laws of a field on bounded rational numbers. No program. -/
import Derived.Test.YtaekhbhjgcmghaaDoorNums
namespace Go.Proofs.YtaekhbhjgcmghaaDoor

/-- what Make returns for a small fraction is valid -/
theorem num3_ok (a d : Int) (h : -32768 ≤ a ∧ a ≤ 32767) (h' : -32768 ≤ d ∧ d ≤ 32767) : (num3 a d).err = 0 ∧ validQ (num3 a d).num (num3 a d).den = true := by
  have hd : den1 d ≠ 0 := by unfold den1; split <;> omega
  have hb := den1_bnd d h'.1 h'.2
  have he : (num3 a d).err = 0 := by
    unfold num3 mk
    rw [if_neg hd]
    unfold red
    rw [if_pos]
    have h1 := Nat.div_le_self a.natAbs (Nat.gcd a.natAbs (den1 d).natAbs)
    have h2 := Nat.div_le_self (den1 d).natAbs (Nat.gcd a.natAbs (den1 d).natAbs)
    constructor <;> omega
  exact ⟨he, (mk_ok a (den1 d) he).2.1⟩

theorem addQ_ok {a b c d : Int} (h : (addQ a b c d).err = 0) : validQ a b = true ∧ validQ c d = true ∧ validQ (addQ a b c d).num (addQ a b c d).den = true ∧ (addQ a b c d).num * (b * d) = (a * d + c * b) * (addQ a b c d).den := by
  unfold addQ at h ⊢
  cases h1 : validQ a b <;> cases h2 : validQ c d <;> simp [h1, h2] at h ⊢
  exact ⟨(mk_ok _ _ h).2.1, (mk_ok _ _ h).2.2⟩
theorem mulQ_ok {a b c d : Int} (h : (mulQ a b c d).err = 0) : validQ a b = true ∧ validQ c d = true ∧ validQ (mulQ a b c d).num (mulQ a b c d).den = true ∧ (mulQ a b c d).num * (b * d) = (a * c) * (mulQ a b c d).den := by
  unfold mulQ at h ⊢
  cases h1 : validQ a b <;> cases h2 : validQ c d <;> simp [h1, h2] at h ⊢
  exact ⟨(mk_ok _ _ h).2.1, (mk_ok _ _ h).2.2⟩
theorem valid_den {a b : Int} (h : validQ a b = true) : b ≠ 0 := by rw [valid_iff] at h; omega
/-- a sum that has a representation -/
theorem addQ_eq {a b c d p q : Int} (h1 : validQ a b = true) (h2 : validQ c d = true) (h : validQ p q = true) (he : (a * d + c * b) * q = p * (b * d)) : addQ a b c d = ⟨p, q, 0⟩ := by
  unfold addQ; rw [h1, h2]; exact mk_eq h (Int.mul_ne_zero (valid_den h1) (valid_den h2)) he
theorem subQ_eq {a b c d p q : Int} (h1 : validQ a b = true) (h2 : validQ c d = true) (h : validQ p q = true) (he : (a * d - c * b) * q = p * (b * d)) : subQ a b c d = ⟨p, q, 0⟩ := by
  unfold subQ; rw [h1, h2]; exact mk_eq h (Int.mul_ne_zero (valid_den h1) (valid_den h2)) he
theorem divQ_eq {a b c d p q : Int} (h1 : validQ a b = true) (h2 : validQ c d = true) (hc : c ≠ 0) (h : validQ p q = true) (he : (a * d) * q = p * (b * c)) : divQ a b c d = ⟨p, q, 0⟩ := by
  unfold divQ; rw [h1, h2]; exact mk_eq h (Int.mul_ne_zero (valid_den h1) hc) he

theorem addQ_comm (a b c d : Int) : addQ a b c d = addQ c d a b := by
  unfold addQ; rw [Bool.and_comm, Int.add_comm, Int.mul_comm b d]
theorem mulQ_comm (a b c d : Int) : mulQ a b c d = mulQ c d a b := by
  unfold mulQ; rw [Bool.and_comm, Int.mul_comm a c, Int.mul_comm b d]

/-- a difference undoes a sum -/
theorem undo_add {a b c d : Int} (h : (addQ a b c d).err = 0) : subQ (addQ a b c d).num (addQ a b c d).den c d = ⟨a, b, 0⟩ := by
  obtain ⟨h1, h2, h3, h4⟩ := addQ_ok h
  refine subQ_eq h3 h2 h1 ?_
  generalize (addQ a b c d).num = p at *
  generalize (addQ a b c d).den = q at *
  have hd := valid_den h2
  -- (p d - c q) b = a (q d)
  have : d * ((p * d - c * q) * b) = d * (a * (q * d)) := by
    have e : p * (b * d) * d = (a * d + c * b) * q * d := by rw [h4]
    grind
  exact Int.eq_of_mul_eq_mul_left hd this
theorem undo_mul {a b c d : Int} (h : (mulQ a b c d).err = 0) (hc : c ≠ 0) : divQ (mulQ a b c d).num (mulQ a b c d).den c d = ⟨a, b, 0⟩ := by
  obtain ⟨h1, h2, h3, h4⟩ := mulQ_ok h
  refine divQ_eq h3 h2 hc h1 ?_
  generalize (mulQ a b c d).num = p at *
  generalize (mulQ a b c d).den = q at *
  grind
end Go.Proofs.YtaekhbhjgcmghaaDoor
