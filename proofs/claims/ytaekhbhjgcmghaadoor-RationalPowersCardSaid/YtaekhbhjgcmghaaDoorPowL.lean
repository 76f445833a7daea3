/- Plain laws of powers: the power of a sum of exponents, the root of a square. No program. -/
import Derived.Test.YtaekhbhjgcmghaaDoorPowQ
import Derived.Test.YtaekhbhjgcmghaaDoorField
import Derived.Test.YtaekhbhjgcmghaaDoorRoot
namespace Go.Proofs.YtaekhbhjgcmghaaDoor

theorem pow_val {a b n : Int} (h : validQ a b = true) (he : (powQ a b n).err = 0) :
    ∃ i j : Nat, n = (i : Int) - j ∧ (a = 0 → j = 0) ∧ validQ (powQ a b n).num (powQ a b n).den = true ∧ (powQ a b n).num * (a ^ j * b ^ i) = (a ^ i * b ^ j) * (powQ a b n).den := by
  by_cases hn : n < 0
  · by_cases ha : a = 0
    · subst ha; rw [powQ_zero h hn] at he; cases he
    · rw [powQ_neg h hn ha] at he ⊢
      cases hf : fitB ((a.sign * b) ^ n.natAbs) ((a.natAbs : Int) ^ n.natAbs) with
      | false => rw [powN_bad hf] at he; cases he
      | true =>
        rw [powN_ok hf]
        refine ⟨0, n.natAbs, by omega, fun e => absurd e ha, valid_pow (inv_valid h ha) hf, ?_⟩
        have : (a.natAbs : Int) = a.sign * a := (Int.sign_mul_self a).symm
        simp only [this, Int.mul_pow, Int.pow_zero]
        generalize a.sign ^ n.natAbs = x
        generalize b ^ n.natAbs = y
        generalize a ^ n.natAbs = z
        grind
  · rw [powQ_pos h hn] at he ⊢
    cases hf : fitB (a ^ n.natAbs) (b ^ n.natAbs) with
    | false => rw [powN_bad hf] at he; cases he
    | true =>
      rw [powN_ok hf]
      refine ⟨n.natAbs, 0, by omega, fun _ => rfl, valid_pow h hf, ?_⟩
      simp only [Int.pow_zero]
      generalize b ^ n.natAbs = y
      generalize a ^ n.natAbs = z
      grind

theorem agree_mk {x y : Res} (h : x.err = 0 → y.err = 0 → x.num = y.num ∧ x.den = y.den) : agreeQ x y = true := by
  unfold agreeQ
  by_cases h1 : x.err = 0
  · by_cases h2 : y.err = 0
    · obtain ⟨e1, e2⟩ := h h1 h2
      simp [h1, h2, e1, e2]
    · simp [h2]
  · simp [h1]
theorem cross {u v s t pn pd cn cd a1 a2 a3 c1 c2 c3 b1 b2 b3 d1 d2 d3 : Int}
    (e1 : u * (c1 * b1) = (a1 * d1) * v) (e2 : s * (c2 * b2) = (a2 * d2) * t) (ep : pn * (v * t) = (u * s) * pd) (e3 : cn * (c3 * b3) = (a3 * d3) * cd)
    (k1 : c1 * c2 * a3 = a1 * a2 * c3) (k2 : b1 * b2 * d3 = d1 * d2 * b3) (hM : v * t * (c1 * c2 * a3) * (b1 * b2 * d3) ≠ 0) : pn * cd = cn * pd := by
  have key : (v * t * (c1 * c2 * a3) * (b1 * b2 * d3)) * (pn * cd) = (v * t * (c1 * c2 * a3) * (b1 * b2 * d3)) * (cn * pd) := by
    have s1 : (v * t * (c1 * c2 * a3) * (b1 * b2 * d3)) * (pn * cd) = (u * (c1 * b1)) * (s * (c2 * b2)) * pd * ((a3 * d3) * cd) := by
      have : (v * t * (c1 * c2 * a3) * (b1 * b2 * d3)) * (pn * cd) = (pn * (v * t)) * (c1 * b1) * (c2 * b2) * ((a3 * d3) * cd) := by grind
      rw [this, ep]; grind
    have s2 : (v * t * (c1 * c2 * a3) * (b1 * b2 * d3)) * (cn * pd) = ((a1 * d1) * v) * ((a2 * d2) * t) * pd * (cn * (c3 * b3)) := by
      rw [k1, k2]; grind
    rw [s1, s2, e1, e2, e3]
  exact Int.eq_of_mul_eq_mul_left hM key
theorem pow_zero' (n : Int) (h : 0 ≤ n) : powQ 0 1 n = if n = 0 then ⟨1, 1, 0⟩ else ⟨0, 1, 0⟩ := by
  split
  · rename_i e; subst e; exact powQ_nil (by decide)
  · exact powQ_null (by omega)
theorem pow_law {a b m n : Int} (h : validQ a b = true) : agreeQ (op2 (powQ a b m) (powQ a b n)) (powQ a b (m + n)) = true := by
  refine agree_mk fun hp hc => ?_
  have hab : (powQ a b m).err = 0 ∧ (powQ a b n).err = 0 := by
    by_cases hh : (powQ a b m).err = 0 ∧ (powQ a b n).err = 0
    · exact hh
    · unfold op2 at hp; rw [if_neg hh] at hp; cases hp
  have eo : op2 (powQ a b m) (powQ a b n) = mulQ (powQ a b m).num (powQ a b m).den (powQ a b n).num (powQ a b n).den := by unfold op2; rw [if_pos hab]
  rw [eo] at hp ⊢
  obtain ⟨g1, g2, g3, g4⟩ := mulQ_ok hp
  by_cases ha : a = 0
  · subst ha
    obtain rfl := valid_zero h
    have hm : 0 ≤ m := by
      rcases Int.lt_or_le m 0 with h0 | h0
      · rw [powQ_zero h h0] at hab; cases hab.1
      · exact h0
    have hn : 0 ≤ n := by
      rcases Int.lt_or_le n 0 with h0 | h0
      · rw [powQ_zero h h0] at hab; cases hab.2
      · exact h0
    rw [pow_zero' m hm, pow_zero' n hn, pow_zero' (m + n) (by omega)]
    by_cases em : m = 0 <;> by_cases en : n = 0
    · rw [if_pos em, if_pos en, if_pos (by omega)]; decide +kernel
    · rw [if_pos em, if_neg en, if_neg (by omega)]; decide +kernel
    · rw [if_neg em, if_pos en, if_neg (by omega)]; decide +kernel
    · rw [if_neg em, if_neg en, if_neg (by omega)]; decide +kernel
  · obtain ⟨i1, j1, x1, _, y1, z1⟩ := pow_val h hab.1
    obtain ⟨i2, j2, x2, _, y2, z2⟩ := pow_val h hab.2
    obtain ⟨i3, j3, x3, _, y3, z3⟩ := pow_val h hc
    refine valid_unique g3 y3 (cross z1 z2 g4 z3 ?_ ?_ ?_)
    · rw [← Int.pow_add, ← Int.pow_add, ← Int.pow_add, ← Int.pow_add]
      congr 1; omega
    · rw [← Int.pow_add, ← Int.pow_add, ← Int.pow_add, ← Int.pow_add]
      congr 1; omega
    · have hb := valid_den h
      have p : ∀ k : Nat, a ^ k ≠ 0 := fun k => Int.pow_ne_zero ha
      have q : ∀ k : Nat, b ^ k ≠ 0 := fun k => Int.pow_ne_zero hb
      exact Int.mul_ne_zero (Int.mul_ne_zero (Int.mul_ne_zero (valid_den y1) (valid_den y2)) (Int.mul_ne_zero (Int.mul_ne_zero (p _) (p _)) (p _))) (Int.mul_ne_zero (Int.mul_ne_zero (q _) (q _)) (q _))

theorem sqr_sq (a : Int) (h : a.natAbs ≤ 65536) : sqr (a * a) = a.natAbs := by
  have e : a * a = (a.natAbs : Int) * a.natAbs := by rw [← Int.natCast_mul, Int.natAbs_mul_self]
  refine sqr_eq _ _ h (fun k hk => ?_) (.inr (by rw [e]; exact Int.le_refl _))
  rw [e]
  have h1 : (k : Int) * k ≤ k * a.natAbs := Int.mul_le_mul_of_nonneg_left (by omega) (by omega)
  have h2 : (k : Int) * a.natAbs < a.natAbs * a.natAbs := Int.mul_lt_mul_of_pos_right (by omega) (by omega)
  omega
/-- the square of a small number, and its root -/
theorem square_root {a b : Int} (h : validQ a b = true) (ha : a.natAbs ≤ 40000) (hb : b ≤ 40000) :
    mulQ a b a b = ⟨a * a, b * b, 0⟩ ∧ rootQ (a * a) (b * b) = ⟨a.natAbs, b, 0⟩ := by
  have hv := (valid_iff a b).1 h
  have e1 : a ^ 2 = a * a := by rw [Int.pow_succ, Int.pow_one]
  have e2 : b ^ 2 = b * b := by rw [Int.pow_succ, Int.pow_one]
  have sa : a.natAbs * a.natAbs ≤ 40000 * 40000 := Nat.mul_le_mul ha ha
  have sb : b.natAbs * b.natAbs ≤ 40000 * 40000 := Nat.mul_le_mul (by omega) (by omega)
  have hf : fitB (a ^ 2) (b ^ 2) = true := by
    have := pow_pos' hv.1 2
    rw [fit_abs _ _ (by omega), natAbs_pow', natAbs_pow', Nat.pow_two, Nat.pow_two]
    omega
  have hv2 : validQ (a * a) (b * b) = true := by have := valid_pow h hf; rwa [e1, e2] at this
  constructor
  · have := mul_pow1 h (i := 1) (by rw [Int.pow_one, Int.pow_one, fit_iff]; omega)
    rw [Int.pow_one, Int.pow_one, powN_ok hf, e1, e2] at this
    exact this
  · unfold rootQ
    rw [if_pos hv2, sqr_sq a (by omega), sqr_sq b (by omega), if_pos]
    · rw [show ((b.natAbs : Nat) : Int) = b from by omega]
    · exact ⟨by rw [← Int.natCast_mul, Int.natAbs_mul_self], by rw [← Int.natCast_mul, Int.natAbs_mul_self]⟩
/-- a small number -/
theorem num3_small (a d : Int) (ha : -128 ≤ a ∧ a ≤ 127) (hd : -128 ≤ d ∧ d ≤ 127) : (num3 a d).num.natAbs ≤ 128 ∧ (num3 a d).den ≤ 128 := by
  have hd0 : den1 d ≠ 0 := by unfold den1; split <;> omega
  have hb : (den1 d).natAbs ≤ 128 := by unfold den1; split <;> omega
  unfold num3 mk
  rw [if_neg hd0]
  unfold red
  have h1 := Nat.div_le_self a.natAbs (Nat.gcd a.natAbs (den1 d).natAbs)
  have h2 := Nat.div_le_self (den1 d).natAbs (Nat.gcd a.natAbs (den1 d).natAbs)
  generalize a.natAbs / Nat.gcd a.natAbs (den1 d).natAbs = x at *
  generalize (den1 d).natAbs / Nat.gcd a.natAbs (den1 d).natAbs = y at *
  split
  · simp only
    constructor
    · split <;> omega
    · omega
  · exact ⟨by simp, by simp⟩
theorem powQ_bnd {a b n : Int} (h : validQ a b = true) : -2147483647 ≤ (powQ a b n).num ∧ (powQ a b n).num ≤ 2147483647 ∧ 0 ≤ (powQ a b n).den ∧ (powQ a b n).den ≤ 2147483647 := by
  by_cases he : (powQ a b n).err = 0
  · obtain ⟨_, _, _, _, hv, _⟩ := pow_val h he
    rw [valid_iff] at hv
    omega
  · have key : ∀ x y : Int, ∀ k, (powN x y k).err ≠ 0 → powN x y k = ⟨0, 0, 2⟩ := fun x y k hh => by
      unfold powN at hh ⊢
      split
      · rename_i hc; rw [if_pos hc] at hh; exact absurd rfl hh
      · rfl
    have : (powQ a b n).num = 0 ∧ (powQ a b n).den = 0 := by
      unfold powQ at he ⊢
      rw [if_pos h] at he ⊢
      split
      · exact ⟨rfl, rfl⟩
      · rename_i hc
        rw [if_neg hc] at he
        split
        · rename_i hd; rw [if_pos hd] at he; rw [key _ _ _ he]; exact ⟨rfl, rfl⟩
        · rename_i hd; rw [if_neg hd] at he; rw [key _ _ _ he]; exact ⟨rfl, rfl⟩
    omega
end Go.Proofs.YtaekhbhjgcmghaaDoor
