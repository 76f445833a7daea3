/- Reading a decimal as plain functions on lists of bytes: the program's way, the reference's way, and that both are one reduced quotient. No program. Values and the operations on them as plain functions. No program. Values of terms as plain functions: scopes, sums and products. No program. -/
import Derived.Lib.IndexMore
import Derived.Lib.Strings
import Derived.Test.YtknpigdpepmimaaGreatDoorM09
import Derived.Test.YtknpigdpepmimaaGreatDoorM08
import Derived.Test.YtknpigdpepmimaaGreatDoorM11
import Derived.Test.YtknpigdpepmimaaGreatDoorM05
namespace Go.Proofs.YtknpigdpepmimaaGreatDoor.Q
def isD (c : UInt8) : Bool := decide (48 ≤ c.toNat) && decide (c.toNat ≤ 57)
def digs (l : List UInt8) : Bool := l.all isD && !l.isEmpty
def valD (l : List UInt8) : Nat := l.foldl (fun n c => 10 * n + (c.toNat - 48)) 0
theorem digs_iff (l : List UInt8) : digs l = true ↔ l ≠ [] ∧ ∀ c ∈ l, isD c = true := by
  unfold digs
  rw [Bool.and_eq_true, List.all_eq_true, and_comm]
  cases l <;> simp
theorem isD_iff (c : UInt8) : isD c = true ↔ 48 ≤ c.toNat ∧ c.toNat ≤ 57 := by simp [isD]
theorem val_snoc (l : List UInt8) (c : UInt8) : valD (l ++ [c]) = 10 * valD l + (c.toNat - 48) := by unfold valD; rw [List.foldl_append]; rfl
theorem val_app (l r : List UInt8) : valD (l ++ r) = valD l * 10 ^ r.length + valD r := by
  induction r generalizing l with
  | nil => simp [valD]
  | cons c r ih =>
    have e1 : l ++ c :: r = (l ++ [c]) ++ r := by simp
    have e2 : valD (c :: r) = valD ([c] ++ r) := rfl
    have h3 : valD [c] = c.toNat - 48 := by simp [valD]
    rw [e1, ih, e2, ih [c], val_snoc, h3, List.length_cons, Nat.pow_succ]
    grind
theorem val_lt (l : List UInt8) (h : ∀ c ∈ l, isD c = true) : valD l < 10 ^ l.length := by
  induction l with
  | nil => simp [valD]
  | cons c l ih =>
    have hc : isD c = true := h c (by simp)
    rw [isD_iff] at hc
    have := ih (fun x hx => h x (by simp [hx]))
    rw [show c :: l = [c] ++ l from rfl, val_app, show valD [c] = c.toNat - 48 from by simp [valD], List.length_append, List.length_singleton, Nat.pow_add, Nat.pow_one]
    have h9 : c.toNat - 48 ≤ 9 := by omega
    have : (c.toNat - 48) * 10 ^ l.length ≤ 9 * 10 ^ l.length := Nat.mul_le_mul_right _ h9
    omega
theorem ne48 {c : UInt8} (h : c ≠ 48) : c.toNat ≠ 48 := fun e => h (by apply UInt8.toNat_inj.1; rw [e]; rfl)
theorem val_ge (c : UInt8) (l : List UInt8) (hc : isD c = true) (h : c ≠ 48) : 10 ^ l.length ≤ valD (c :: l) := by
  rw [show c :: l = [c] ++ l from rfl, val_app, show valD [c] = c.toNat - 48 from by simp [valD]]
  rw [isD_iff] at hc
  have h0 := ne48 h
  have : 1 ≤ c.toNat - 48 := by omega
  have := Nat.mul_le_mul_right (10 ^ l.length) this
  omega
theorem val_zero (l : List UInt8) : valD (48 :: l) = valD l := by
  rw [show (48 : UInt8) :: l = [48] ++ l from rfl, val_app, show valD [48] = 0 from rfl]; omega
/-- the prime is taken out as often as it goes, at most so often -/
def shN (p : Nat) : Nat → Nat → Nat × Nat
  | 0, v => (v, 0)
  | e + 1, v => if v % p = 0 then shN p e (v / p) else (v, e + 1)
theorem shN_spec (p : Nat) (_hp : 0 < p) : ∀ e v, (shN p e v).2 ≤ e ∧ v = (shN p e v).1 * p ^ (e - (shN p e v).2) ∧ ((shN p e v).2 = 0 ∨ (shN p e v).1 % p ≠ 0) := by
  intro e
  induction e with
  | zero => intro v; simp [shN]
  | succ e ih =>
    intro v
    unfold shN
    split
    · rename_i h
      obtain ⟨h1, h2, h3⟩ := ih (v / p)
      refine ⟨by omega, ?_, h3⟩
      have hv : v = v / p * p := by have := Nat.div_add_mod v p; rw [h, Nat.add_zero, Nat.mul_comm] at this; exact this.symm
      have he : e + 1 - (shN p e (v / p)).2 = (e - (shN p e (v / p)).2) + 1 := by omega
      rw [he, Nat.pow_succ, ← Nat.mul_assoc, ← h2]
      exact hv
    · rename_i h
      exact ⟨Nat.le_refl _, by simp, .inr h⟩
theorem cop2 {v : Nat} (h : v % 2 ≠ 0) : Nat.gcd v 2 = 1 := by
  rw [Nat.gcd_comm, Nat.gcd_rec]
  have : v % 2 = 1 := by omega
  rw [this]; rfl
theorem cop5 {v : Nat} (h : v % 5 ≠ 0) : Nat.gcd v 5 = 1 := by
  rw [Nat.gcd_comm, Nat.gcd_rec]
  have : v % 5 = 1 ∨ v % 5 = 2 ∨ v % 5 = 3 ∨ v % 5 = 4 := by omega
  rcases this with h | h | h | h <;> rw [h] <;> rfl
theorem odd_of_mul {a b : Nat} (h : (a * b) % 2 ≠ 0) : a % 2 ≠ 0 := fun e => h (by rw [Nat.mul_mod, e]; simp)
/-- what is left of digits over a power of ten -/
def num2 (v k : Nat) : Nat := (shN 5 k (shN 2 k v).1).1
def twos (v k : Nat) : Nat := (shN 2 k v).2
def fives (v k : Nat) : Nat := (shN 5 k (shN 2 k v).1).2
theorem num2_spec (v k : Nat) : v = num2 v k * (2 ^ (k - twos v k) * 5 ^ (k - fives v k)) ∧ 10 ^ k = (2 ^ twos v k * 5 ^ fives v k) * (2 ^ (k - twos v k) * 5 ^ (k - fives v k)) ∧ Nat.gcd (num2 v k) (2 ^ twos v k * 5 ^ fives v k) = 1 := by
  obtain ⟨h1, h2, h3⟩ := shN_spec 2 (by decide) k v
  obtain ⟨g1, g2, g3⟩ := shN_spec 5 (by decide) k (shN 2 k v).1
  unfold num2 twos fives
  generalize hA : shN 2 k v = A at *
  generalize hB : shN 5 k A.1 = B at *
  refine ⟨?_, ?_, ?_⟩
  · conv => lhs; rw [h2, g2]
    rw [Nat.mul_assoc, Nat.mul_comm (5 ^ _) (2 ^ _)]
  · have e2 : (2 : Nat) ^ k = 2 ^ A.2 * 2 ^ (k - A.2) := by rw [← Nat.pow_add]; congr 1; omega
    have e5 : (5 : Nat) ^ k = 5 ^ B.2 * 5 ^ (k - B.2) := by rw [← Nat.pow_add]; congr 1; omega
    rw [show (10 : Nat) = 2 * 5 from rfl, Nat.mul_pow, e2, e5]
    simp only [Nat.mul_assoc, Nat.mul_left_comm]
  · apply Nat.Coprime.mul_right
    · rcases h3 with h0 | h0
      · rw [h0]; simp
      · apply Nat.Coprime.pow_right
        apply cop2
        rw [g2] at h0
        exact odd_of_mul h0
    · rcases g3 with h0 | h0
      · rw [h0]; simp
      · apply Nat.Coprime.pow_right
        exact cop5 h0
/-- what the program answers for digits over a power of ten -/
def ansQ (v k : Nat) : Res := if num2 v k ≤ 2147483647 ∧ 2 ^ twos v k * 5 ^ fives v k ≤ 2147483647 then ⟨(num2 v k : Nat), ((2 ^ twos v k * 5 ^ fives v k : Nat) : Int), 0⟩ else ⟨0, 0, 2⟩
theorem ansQ_mk (v k : Nat) : ansQ v k = mk (v : Int) ((10 ^ k : Nat) : Int) := by
  obtain ⟨h1, h2, h3⟩ := num2_spec v k
  unfold ansQ mk
  have h10 : 0 < 10 ^ k := Nat.pow_pos (by decide)
  have hz : ((10 ^ k : Nat) : Int) ≠ 0 := by omega
  rw [if_neg hz]
  have hn : decide ((v : Int) < 0) = false := by simp
  have hd : decide (((10 ^ k : Nat) : Int) < 0) = false := by rw [decide_eq_false_iff_not]; omega
  rw [hn, hd, Int.natAbs_natCast, Int.natAbs_natCast]
  unfold red
  generalize 2 ^ (k - twos v k) * 5 ^ (k - fives v k) = g at *
  generalize 2 ^ twos v k * 5 ^ fives v k = d at *
  generalize num2 v k = n at *
  have hg : 0 < g := by rcases Nat.eq_zero_or_pos g with h0 | h0; (subst h0; omega); exact h0
  rw [h2, h1]
  rw [Nat.gcd_mul_right, h3, Nat.one_mul, Nat.mul_div_cancel _ hg, Nat.mul_div_cancel _ hg]
  simp
/-- a decimal of digits w, a point and digits f -/
def decQ (w f : List UInt8) : Res := mk (valD (w ++ f) : Nat) ((10 ^ f.length : Nat) : Int)
theorem red_mul (neg : Bool) (a b g : Nat) (hg : 0 < g) : red neg (a * g) (b * g) = red neg a b := by
  unfold red
  have h1 : Nat.gcd (a * g) (b * g) = Nat.gcd a b * g := Nat.gcd_mul_right a g b
  rw [h1]
  have : ∀ x, x * g / (Nat.gcd a b * g) = x / Nat.gcd a b := fun x => by rw [Nat.mul_div_mul_right _ _ hg]
  rw [this, this]
theorem mk_scale (v d g : Nat) (hg : 0 < g) : mk ((v * g : Nat) : Int) ((d * g : Nat) : Int) = mk (v : Int) (d : Int) := by
  unfold mk
  by_cases hd : d = 0
  · subst hd; simp
  have : d * g ≠ 0 := Nat.mul_ne_zero hd (by omega)
  rw [if_neg (by omega), if_neg (by omega)]
  have e1 : ∀ x : Nat, decide ((x : Int) < 0) = false := fun x => by simp
  rw [e1, e1, e1, e1, Int.natAbs_natCast, Int.natAbs_natCast, Int.natAbs_natCast, Int.natAbs_natCast]
  exact red_mul _ _ _ _ hg
/-- a zero behind does not matter -/
theorem decQ_snoc (w f : List UInt8) : decQ w (f ++ [48]) = decQ w f := by
  unfold decQ
  rw [← List.append_assoc, val_snoc, List.length_append, List.length_singleton, Nat.pow_succ]
  rw [show 10 * valD (w ++ f) + ((48 : UInt8).toNat - 48) = valD (w ++ f) * 10 from by have : (48 : UInt8).toNat = 48 := rfl; omega]
  exact mk_scale _ _ 10 (by decide)
/-- without the zeros behind -/
def trimR (l : List UInt8) : List UInt8 := (l.reverse.dropWhile (· == 48)).reverse
def trimL (l : List UInt8) : List UInt8 := l.dropWhile (· == 48)
theorem trimR_snoc (l : List UInt8) (c : UInt8) : trimR (l ++ [c]) = if c = 48 then trimR l else l ++ [c] := by
  unfold trimR
  rw [List.reverse_append]
  simp only [List.reverse_cons, List.reverse_nil, List.nil_append, List.singleton_append, List.dropWhile_cons]
  by_cases h : c = 48
  · simp [h]
  · simp [h]
theorem decQ_trim (w : List UInt8) (f : List UInt8) : decQ w (trimR f) = decQ w f := by
  have : ∀ (r : List UInt8), decQ w (trimR r.reverse) = decQ w r.reverse := by
    intro r
    induction r with
    | nil => rfl
    | cons c r ih =>
      rw [List.reverse_cons, trimR_snoc]
      split
      · rename_i h; subst h; rw [ih, decQ_snoc]
      · rfl
  have := this f.reverse
  rwa [List.reverse_reverse] at this
theorem trimR_sub (l : List UInt8) : ∀ c ∈ trimR l, c ∈ l := by
  intro c hc
  unfold trimR at hc
  have := List.mem_reverse.1 hc
  have := (List.dropWhile_sublist _).subset this
  exact List.mem_reverse.1 this
theorem trimR_len (l : List UInt8) : (trimR l).length ≤ l.length := by
  unfold trimR
  rw [List.length_reverse]
  have := (List.dropWhile_sublist (l := l.reverse) (p := (· == 48))).length_le
  rwa [List.length_reverse] at this
theorem trimL_val (l : List UInt8) : valD (trimL l) = valD l := by
  induction l with
  | nil => rfl
  | cons c l ih =>
    unfold trimL
    rw [List.dropWhile_cons]
    split
    · rename_i h
      have : c = 48 := by simpa using h
      subst this
      rw [val_zero]; exact ih
    · rfl
theorem trimL_sub (l : List UInt8) : ∀ c ∈ trimL l, c ∈ l := fun _ hc => (List.dropWhile_sublist _).subset hc
theorem trimL_head (l : List UInt8) : trimL l = [] ∨ ∃ c t, trimL l = c :: t ∧ c ≠ 48 := by
  induction l with
  | nil => left; rfl
  | cons c l ih =>
    unfold trimL
    rw [List.dropWhile_cons]
    split
    · exact ih
    · rename_i h; exact .inr ⟨_, _, rfl, by simpa using h⟩
/-- digits of which more than ten count are more than the bound -/
theorem val_far (l : List UInt8) (h : ∀ c ∈ l, isD c = true) (h10 : 10 < (trimL l).length) : 10000000000 ≤ valD l := by
  rw [← trimL_val]
  rcases trimL_head l with e | ⟨c, t, e, hc⟩
  · rw [e] at h10; simp at h10
  · have hD := h c (trimL_sub l c (by rw [e]; simp))
    rw [e] at h10 ⊢
    have := val_ge c t hD hc
    have h2 : 10 ^ 10 ≤ 10 ^ t.length := Nat.pow_le_pow_right (by decide) (by simp at h10; omega)
    omega
/-- the program's and the document's answer at a decimal -/
def parseQ (l : List UInt8) : Res :=
  if 40 < l.length ∨ digs (Lib.cut l [46]).1 = false ∨ ((Lib.cut l [46]).2.2 = true ∧ digs (Lib.cut l [46]).2.1 = false) then ⟨0, 0, 3⟩ else decQ (Lib.cut l [46]).1 (Lib.cut l [46]).2.1
theorem ans_dec (w f : List UInt8) : ansQ (valD (w ++ trimR f)) (trimR f).length = decQ w f := by
  rw [ansQ_mk, ← decQ_trim w f]; rfl
/-- a digit's byte -/
def dg (n : Nat) : UInt8 := UInt8.ofNat (48 + n)
/-- a digit's quotient and rest, with what is carried -/
def qd (p r : Nat) (c : UInt8) : UInt8 := dg ((10 * r + (c.toNat - 48)) / p)
def rd (p r : Nat) (c : UInt8) : Nat := (10 * r + (c.toNat - 48)) % p
/-- the digits of a quotient by a small number, with what is carried -/
def divA (p : Nat) : List UInt8 → Nat → List UInt8
  | [], _ => []
  | c :: l, r => qd p r c :: divA p l (rd p r c)
def remA (p : Nat) : List UInt8 → Nat → Nat
  | [], r => r
  | c :: l, r => remA p l (rd p r c)
def divL (p r : Nat) (l : List UInt8) : List UInt8 := divA p l r
def remL (p r : Nat) (l : List UInt8) : Nat := remA p l r
theorem divL_len (p : Nat) : ∀ l r, (divL p r l).length = l.length := by
  intro l
  induction l with
  | nil => intro r; rfl
  | cons c l ih => intro r; unfold divL at ih ⊢; simp [divA, ih]
theorem divL_snoc (p : Nat) : ∀ l r c, divL p r (l ++ [c]) = divL p r l ++ [dg ((10 * remL p r l + (c.toNat - 48)) / p)] := by
  intro l
  unfold divL remL
  induction l with
  | nil => intro r c; simp only [List.nil_append, divA, remA, qd]
  | cons d l ih => intro r c; simp only [List.cons_append, divA, remA, ih]
theorem remL_snoc (p : Nat) : ∀ l r c, remL p r (l ++ [c]) = (10 * remL p r l + (c.toNat - 48)) % p := by
  intro l
  unfold remL
  induction l with
  | nil => intro r c; simp only [List.nil_append, remA, rd]
  | cons d l ih => intro r c; simp only [List.cons_append, remA, ih]
theorem remL_lt (p : Nat) (hp : 0 < p) : ∀ l r, r < p → remL p r l < p := by
  intro l
  induction l with
  | nil => intro r h; exact h
  | cons c l ih => intro r _; exact ih _ (Nat.mod_lt _ hp)
theorem quo_nat (p x : Nat) (hp : 0 < p) (hx : x < 10 * p) : x / p ≤ 9 := by
  have := (Nat.div_lt_iff_lt_mul hp).2 (show x < 10 * p from hx)
  omega
theorem quo_toNat (n : Nat) (h : n ≤ 9) : (dg n).toNat = 48 + n := by
  unfold dg
  rw [UInt8.toNat_ofNat']
  have : (48 + n) % 2 ^ 8 = 48 + n := Nat.mod_eq_of_lt (by omega)
  exact this
theorem divL_isD (p : Nat) (hp : 0 < p) : ∀ l r, r < p → (∀ c ∈ l, isD c = true) → ∀ c ∈ divL p r l, isD c = true := by
  intro l
  induction l with
  | nil => intro r _ _ c hc; simp [divL, divA] at hc
  | cons d l ih =>
    intro r hr hl c hc
    have hd := (isD_iff d).1 (hl d (by simp))
    have hc : c = qd p r d ∨ c ∈ divL p (rd p r d) l := by simpa only [divL, divA, List.mem_cons] using hc
    rcases hc with rfl | hc
    · have := quo_nat p (10 * r + (d.toNat - 48)) hp (by omega)
      rw [isD_iff, qd, quo_toNat _ this]
      generalize (10 * r + (d.toNat - 48)) / p = z at *
      omega
    · exact ih _ (Nat.mod_lt _ hp) (fun x hx => hl x (by simp [hx])) c hc
/-- the quotient's digits and the rest -/
theorem divL_val (p : Nat) (hp : 0 < p) : ∀ (l : List UInt8), (∀ c ∈ l, isD c = true) → valD (divL p 0 l) = valD l / p ∧ remL p 0 l = valD l % p := by
  have : ∀ r : List UInt8, (∀ c ∈ r.reverse, isD c = true) → valD (divL p 0 r.reverse) = valD r.reverse / p ∧ remL p 0 r.reverse = valD r.reverse % p := by
    intro r
    induction r with
    | nil => intro _; simp [divL, divA, remL, remA, valD]
    | cons c r ih =>
      intro h
      rw [List.reverse_cons] at h ⊢
      obtain ⟨h1, h2⟩ := ih (fun x hx => h x (by simp [List.mem_reverse.1 hx]))
      have hc := (isD_iff c).1 (h c (by simp))
      rw [divL_snoc, remL_snoc, val_snoc, val_snoc, h1, h2]
      have hr : valD r.reverse % p < p := Nat.mod_lt _ hp
      have hq := quo_nat p (10 * (valD r.reverse % p) + (c.toNat - 48)) hp (by omega)
      rw [quo_toNat _ hq]
      have hdm := Nat.div_add_mod (valD r.reverse) p
      generalize valD r.reverse / p = q at *
      generalize valD r.reverse % p = m at *
      generalize c.toNat - 48 = d at *
      have e : 10 * valD r.reverse + d = p * (10 * q) + (10 * m + d) := by rw [← hdm]; grind
      rw [e, Nat.mul_add_div hp, Nat.mul_add_mod]
      refine ⟨?_, rfl⟩
      generalize (10 * m + d) / p = z at *
      omega
  intro l hl
  have := this l.reverse (by rwa [List.reverse_reverse])
  rwa [List.reverse_reverse] at this
/-- digits from which a prime is taken out -/
def shL (p : Nat) : Nat → List UInt8 → List UInt8 × Nat
  | 0, l => (l, 0)
  | e + 1, l => if valD l % p = 0 then shL p e (divL p 0 l) else (l, e + 1)
theorem shL_spec (p : Nat) (hp : 0 < p) : ∀ e l, (∀ c ∈ l, isD c = true) → (∀ c ∈ (shL p e l).1, isD c = true) ∧ (shL p e l).1.length = l.length ∧ valD (shL p e l).1 = (shN p e (valD l)).1 ∧ (shL p e l).2 = (shN p e (valD l)).2 := by
  intro e
  induction e with
  | zero => intro l hl; exact ⟨hl, rfl, rfl, rfl⟩
  | succ e ih =>
    intro l hl
    unfold shL shN
    split
    · obtain ⟨h1, h2, h3, h4⟩ := ih (divL p 0 l) (divL_isD p hp l 0 hp hl)
      rw [(divL_val p hp l hl).1] at h3 h4
      exact ⟨h1, h2.trans (divL_len p l 0), h3, h4⟩
    · exact ⟨hl, rfl, rfl, rfl⟩
/-- no digit behind the point: the digits themselves -/
theorem cut_point (b : List UInt8) : (∃ w r, Lib.cut b [46] = (w, r, true) ∧ b = w ++ 46 :: r ∧ 46 ∉ w) ∨ (Lib.cut b [46] = (b, [], false) ∧ 46 ∉ b) := by
  have occ : ∀ j (hj : j < b.length), b[j] = 46 → Lib.occAt b [46] j = true := fun j hj e => by
    unfold Lib.occAt; rw [List.drop_eq_getElem_cons hj, e]; simp
  unfold Lib.cut
  rcases Lib.index_spec b [46] with ⟨h1, h2⟩ | ⟨i, h1, h2, h3, h4⟩
  · right
    rw [h1, if_neg (by decide)]
    refine ⟨rfl, fun hm => ?_⟩
    obtain ⟨j, hj, e⟩ := List.mem_iff_getElem.1 hm
    have := h2 j (by omega)
    rw [occ j hj e] at this; cases this
  · left
    rw [h1, if_pos (by omega)]
    have hi : i < b.length := by
      rcases Lib.occAt_room h3 with h' | h'
      · simp at h'; omega
      · cases h'
    have hc : b[i] = 46 := by
      unfold Lib.occAt at h3; rw [List.drop_eq_getElem_cons hi] at h3; simp only [List.isPrefixOf, Bool.and_true, beq_iff_eq] at h3; exact h3.symm
    refine ⟨b.take i, b.drop (i + 1), by simp, ?_, fun hm => ?_⟩
    · rw [← hc, ← List.drop_eq_getElem_cons hi, List.take_append_drop]
    · obtain ⟨j, hj, e⟩ := List.mem_iff_getElem.1 hm
      have hji : j < i := by rw [List.length_take] at hj; omega
      rw [List.getElem_take] at e
      have := h4 j hji
      rw [occ j (by omega) e] at this; cases this
theorem cut_rest (l : List UInt8) : (Lib.cut l [46]).2.2 = false → (Lib.cut l [46]).2.1 = [] := by
  rcases cut_point l with ⟨w, r, e, _, _⟩ | ⟨e, _⟩
  · rw [e]; intro h; cases h
  · rw [e]; intro _; rfl
theorem cut_len (l : List UInt8) : (Lib.cut l [46]).1.length ≤ l.length ∧ (Lib.cut l [46]).2.1.length ≤ l.length := by
  rcases cut_point l with ⟨w, r, e, rfl, _⟩ | ⟨e, _⟩
  · rw [e]; simp; omega
  · rw [e]; simp
end Go.Proofs.YtknpigdpepmimaaGreatDoor.Q

namespace Go.Proofs.YtknpigdpepmimaaGreatDoor
/-- a value: a number and a dimension -/
structure V where
  num : Int
  den : Int
  dim : Dm
  deriving DecidableEq
def zV : V := ⟨0, 0, zD⟩
def whV (n : Int) : V := ⟨n, 1, zD⟩
/-- a value, or an error with a path -/
structure R where
  v : V
  path : List Int
  e : Int
def okR (v : V) : R := ⟨v, [], 0⟩
def erR (e : Int) : R := ⟨zV, [], e⟩
def R.under (r : R) (i : Int) : R := if r.e = 0 then r else ⟨r.v, i :: r.path, r.e⟩
def joinQ (x : Q.Res) (d : Dm) (f : Int) : V × Int := if x.err = 0 ∧ f = 0 then (⟨x.num, x.den, d⟩, 0) else (zV, 17)
def sumV (a b : V) : V × Int := if a.dim = b.dim then joinQ (Q.addQ a.num a.den b.num b.den) a.dim 0 else (zV, 16)
def difV (a b : V) : V × Int := if a.dim = b.dim then joinQ (Q.subQ a.num a.den b.num b.den) a.dim 0 else (zV, 16)
def negV (a : V) : V × Int := joinQ (Q.negQ a.num a.den) a.dim 0
def proV (a b : V) : V × Int := joinQ (Q.mulQ a.num a.den b.num b.den) (combQ a.dim b.dim 1).1 (combQ a.dim b.dim 1).2
def quoV (a b : V) : V × Int := if b.num = 0 then (zV, 10) else joinQ (Q.divQ a.num a.den b.num b.den) (combQ a.dim b.dim (-1)).1 (combQ a.dim b.dim (-1)).2
def powV (a b : V) : V × Int := if b.dim = zD then (if b.den = 1 then (if a.num = 0 ∧ b.num < 0 then (zV, 10) else joinQ (Q.powQ a.num a.den b.num) (dpowQ a.dim b.num).1 (dpowQ a.dim b.num).2) else (zV, 17)) else (zV, 16)
def rooV (a : V) : V × Int := if (drootQ a.dim).2 = 0 then joinQ (Q.rootQ a.num a.den) (drootQ a.dim).1 0 else (zV, 16)
def absV (a : V) : V × Int := (⟨max a.num (-a.num), a.den, a.dim⟩, 0)
def facN : Nat → Int | 0 => 1 | n + 1 => facN n * ((n : Int) + 1)
def facV (a : V) : V × Int := if a.dim = zD then (if a.den = 1 ∧ 0 ≤ a.num ∧ a.num ≤ 12 then (whV (facN a.num.toNat), 0) else (zV, 17)) else (zV, 16)
/-- the operation with a number, at its arguments -/
def opK (k : Nat) (l : List V) : V × Int :=
  match k, l with
  | 0, [a, b] => sumV a b
  | 1, [a, b] => difV a b
  | 2, [a] => negV a
  | 3, [a] => (a, 0)
  | 4, [a, b] => proV a b
  | 5, [a, b] => quoV a b
  | 6, [a, b] => powV a b
  | 7, [a] => rooV a
  | 8, [a] => absV a
  | 9, [a] => facV a
  | _, _ => (zV, 1)
end Go.Proofs.YtknpigdpepmimaaGreatDoor

namespace Go.Proofs.YtknpigdpepmimaaGreatDoor
/-- names of operations: number of arguments, number of the operation -/
def opTab : List (W8 × Nat × Nat) := [
  ([112, 108, 117, 115], 2, 0), ([109, 105, 110, 117, 115], 2, 1), ([110, 101, 103], 1, 2), ([112, 111, 115], 1, 3), ([103, 114, 111, 117, 112], 1, 3),
  ([116, 105, 109, 101, 115], 2, 4), ([99, 100, 111, 116], 2, 4), ([99, 114, 111, 115, 115], 2, 4), ([112, 114, 111, 100, 117, 99, 116], 2, 4),
  ([111, 118, 101, 114], 2, 5), ([100, 105, 118, 105, 100, 101], 2, 5), ([112, 111, 119, 101, 114], 2, 6), ([115, 113, 114, 116], 1, 7), ([97, 98, 115], 1, 8),
  ([102, 97, 99, 116, 111, 114, 105, 97, 108], 1, 9)]
def opOf (n : W8) : Option (Nat × Nat) := opTab.lookup n
/-- the units -/
def unitTab : List (W8 × V) := [
  ([109], ⟨1, 1, ⟨1, 0, 0, 0, 0, 0, 0⟩⟩), ([107, 103], ⟨1, 1, ⟨0, 1, 0, 0, 0, 0, 0⟩⟩), ([115], ⟨1, 1, ⟨0, 0, 1, 0, 0, 0, 0⟩⟩), ([65], ⟨1, 1, ⟨0, 0, 0, 1, 0, 0, 0⟩⟩),
  ([75], ⟨1, 1, ⟨0, 0, 0, 0, 1, 0, 0⟩⟩), ([109, 111, 108], ⟨1, 1, ⟨0, 0, 0, 0, 0, 1, 0⟩⟩), ([99, 100], ⟨1, 1, ⟨0, 0, 0, 0, 0, 0, 1⟩⟩),
  ([107, 109], ⟨1000, 1, ⟨1, 0, 0, 0, 0, 0, 0⟩⟩), ([99, 109], ⟨1, 100, ⟨1, 0, 0, 0, 0, 0, 0⟩⟩), ([109, 109], ⟨1, 1000, ⟨1, 0, 0, 0, 0, 0, 0⟩⟩),
  ([103], ⟨1, 1000, ⟨0, 1, 0, 0, 0, 0, 0⟩⟩), ([116], ⟨1000, 1, ⟨0, 1, 0, 0, 0, 0, 0⟩⟩), ([109, 115], ⟨1, 1000, ⟨0, 0, 1, 0, 0, 0, 0⟩⟩),
  ([109, 105, 110], ⟨60, 1, ⟨0, 0, 1, 0, 0, 0, 0⟩⟩), ([104], ⟨3600, 1, ⟨0, 0, 1, 0, 0, 0, 0⟩⟩), ([100], ⟨86400, 1, ⟨0, 0, 1, 0, 0, 0, 0⟩⟩),
  ([72, 122], ⟨1, 1, ⟨0, 0, -1, 0, 0, 0, 0⟩⟩), ([78], ⟨1, 1, ⟨1, 1, -2, 0, 0, 0, 0⟩⟩), ([80, 97], ⟨1, 1, ⟨-1, 1, -2, 0, 0, 0, 0⟩⟩),
  ([74], ⟨1, 1, ⟨2, 1, -2, 0, 0, 0, 0⟩⟩), ([87], ⟨1, 1, ⟨2, 1, -3, 0, 0, 0, 0⟩⟩), ([67], ⟨1, 1, ⟨0, 0, 1, 1, 0, 0, 0⟩⟩),
  ([86], ⟨1, 1, ⟨2, 1, -3, -1, 0, 0, 0⟩⟩), ([111, 104, 109], ⟨1, 1, ⟨2, 1, -3, -2, 0, 0, 0⟩⟩), ([107, 87, 104], ⟨3600000, 1, ⟨2, 1, -2, 0, 0, 0, 0⟩⟩),
  ([108], ⟨1, 1000, ⟨3, 0, 0, 0, 0, 0, 0⟩⟩), ([37], ⟨1, 100, ⟨0, 0, 0, 0, 0, 0, 0⟩⟩)]
def lookR {α : Type} (f : α → Option V) (x : α) : R := match f x with | some v => okR v | none => erR 11
abbrev Sc := List (W8 × V)
def lkR (s : Sc) (n : W8) : R := lookR (fun n => s.lookup n) n
def unitR (n : W8) : R := lookR (fun n => unitTab.lookup n) n
def numR' (n : W8) : R := ⟨(joinQ (Q.parseQ n) zD 0).1, [], (joinQ (Q.parseQ n) zD 0).2⟩
/-- what counts, and gives a value or an error -/
abbrev G := Nat → R × Nat
/-- the values of some arguments from number i on, behind those of out -/
def argsG : Nat → List G → Nat → List V → (R × List V) × Nat
  | _, [], c, out => ((okR zV, out), c)
  | i, g :: gs, c, out => if (g c).1.e = 0 then argsG (i + 1) gs (g c).2 (out ++ [(g c).1.v]) else (((g c).1.under i, []), (g c).2)
def limE (x y : V) : R := if x.dim = zD then (if y.dim = zD then (if x.den = 1 then (if y.den = 1 then okR zV else ⟨zV, [1], 17⟩) else ⟨zV, [0], 17⟩) else ⟨zV, [1], 16⟩) else ⟨zV, [0], 16⟩
/-- the rounds from k on: the evaluations so far are c, the value so far is v -/
def loopB (body : Int → G) (add : V → V → V × Int) (fr hi : Int) : Nat → Int → V → Nat → R × Nat
  | 0, _, _, c => (erR 6, c)
  | f + 1, k, v, c => if k ≤ hi then (if 2000 ≤ c then (erR 6, c) else
      if (body k (c + 1)).1.e = 0 then
        (if k = fr then loopB body add fr hi f (k + 1) (body k (c + 1)).1.v (body k (c + 1)).2
         else if (add v (body k (c + 1)).1.v).2 = 0 then loopB body add fr hi f (k + 1) (add v (body k (c + 1)).1.v).1 (body k (c + 1)).2
         else (erR (add v (body k (c + 1)).1.v).2, (body k (c + 1)).2))
      else ((body k (c + 1)).1.under 2, (body k (c + 1)).2)) else (okR v, c)
def sumW : W8 := [115, 117, 109]
def prodW : W8 := [112, 114, 111, 100]
def addOf (n : W8) : V → V → V × Int := if n = sumW then sumV else proV
def zeroOf (n : W8) : V := if n = sumW then whV 0 else whV 1
/-- behind the limits -/
def limG (n : W8) (h : Int → G) (a : (R × List V) × Nat) : R × Nat :=
  if a.1.1.e = 0 then
    (match a.1.2 with
     | [x, y] => if (limE x y).e = 0 then loopB h (addOf n) x.num y.num 2001 x.num (zeroOf n) a.2 else (limE x y, a.2)
     | _ => (erR 1, a.2))
  else (a.1.1, a.2)
def bindG (n : W8) (gs : List G) (hs : List (Int → G)) : G := fun c =>
  if n = sumW ∨ n = prodW then
    (match gs, hs with
     | [ga, gb, _], [_, _, h] => limG n h (argsG 0 [ga, gb] c [])
     | _, _ => (erR 13, c))
  else (erR 15, c)
def applyG (n : W8) (gs : List G) : G := fun c =>
  match opOf n with
  | none => (erR 15, c)
  | some (ar, k) => if gs.length = ar then
      (if (argsG 0 gs c []).1.1.e = 0 then (⟨(opK k (argsG 0 gs c []).1.2).1, [], (opK k (argsG 0 gs c []).1.2).2⟩, (argsG 0 gs c []).2)
       else ((argsG 0 gs c []).1.1, (argsG 0 gs c []).2))
    else (erR 13, c)
/-- one term, from its arguments' values, in its scope and with its variable bound -/
def stepN (k : Int) (n : W8) (lk : R) (gs : List G) (hs : List (Int → G)) : G := fun c =>
  if k = 1 then (numR' n, c) else if k = 2 then (lk, c) else if k = 3 then (unitR n, c) else if k = 5 then bindG n gs hs c else applyG n gs c
mutual
/-- the value of a term -/
def ev : T → Sc → G
  | .mk k n v ys _, s => stepN k n (lkR s n) (evs ys s) (evh ys v s)
def evs : List T → Sc → List G
  | [], _ => []
  | t :: ts, s => ev t s :: evs ts s
def evh : List T → W8 → Sc → List (Int → G)
  | [], _, _ => []
  | t :: ts, v, s => (fun k => ev t ((v, whV k) :: s)) :: evh ts v s
end
theorem ev_eq (t : T) (s : Sc) : ev t s = stepN t.kind t.name (lkR s t.name) (evs t.args s) (evh t.args t.var s) := by
  cases t with
  | mk k n v ys f => rw [ev]; rfl
theorem evs_map (ts : List T) (s : Sc) : evs ts s = ts.map fun t => ev t s := by
  induction ts with
  | nil => rw [evs]; rfl
  | cons t ts ih => rw [evs, ih]; rfl
theorem evh_map (ts : List T) (v : W8) (s : Sc) : evh ts v s = ts.map fun t k => ev t ((v, whV k) :: s) := by
  induction ts with
  | nil => rw [evh]; rfl
  | cons t ts ih => rw [evh, ih]; rfl
/-- with bound variables as levels: their values, the outermost first -/
def lvR (L : List V) (i : Nat) : R := lookR (fun i => L[i]?) i
mutual
def evL (s : Sc) : T → List V → G
  | .mk k n _ ys _, L => if k = 7 then (fun c => (lvR L n.length, c)) else stepN k n (lkR s n) (evLs s ys L) (evLh s ys L)
def evLs (s : Sc) : List T → List V → List G
  | [], _ => []
  | t :: ts, L => evL s t L :: evLs s ts L
def evLh (s : Sc) : List T → List V → List (Int → G)
  | [], _ => []
  | t :: ts, L => (fun k => evL s t (L ++ [whV k])) :: evLh s ts L
end
theorem evL_eq (s : Sc) (t : T) (L : List V) (h : t.kind ≠ 7) : evL s t L = stepN t.kind t.name (lkR s t.name) (evLs s t.args L) (evLh s t.args L) := by
  cases t with
  | mk k n v ys f => rw [evL, if_neg (show ¬ k = 7 from h)]; rfl
theorem evLs_map (s : Sc) (ts : List T) (L : List V) : evLs s ts L = ts.map fun t => evL s t L := by
  induction ts with
  | nil => rw [evLs]; rfl
  | cons t ts ih => rw [evLs, ih]; rfl
theorem evLh_map (s : Sc) (ts : List T) (L : List V) : evLh s ts L = ts.map fun t k => evL s t (L ++ [whV k]) := by
  induction ts with
  | nil => rw [evLh]; rfl
  | cons t ts ih => rw [evLh, ih]; rfl
end Go.Proofs.YtknpigdpepmimaaGreatDoor
