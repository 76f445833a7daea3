/- Reading a decimal as plain functions on lists of bytes: the program's way, the reference's way, and that both are one reduced quotient. No program. -/
import Derived.Test.YtaekhbhjgcmghaaDoorRat
import Derived.Lib.IndexMore
import Derived.Lib.Strings
namespace Go.Proofs.YtaekhbhjgcmghaaDoor

def isD (c : UInt8) : Bool := decide (48 ≤ c.toNat) && decide (c.toNat ≤ 57)
def digs (l : List UInt8) : Bool := l.all isD && !l.isEmpty
def valD (l : List UInt8) : Nat := l.foldl (fun n c => 10 * n + (c.toNat - 48)) 0

theorem digs_iff (l : List UInt8) : digs l = true ↔ l ≠ [] ∧ ∀ c ∈ l, isD c = true := by
  unfold digs
  rw [Bool.and_eq_true, List.all_eq_true, and_comm]
  cases l <;> simp
theorem isD_iff (c : UInt8) : isD c = true ↔ 48 ≤ c.toNat ∧ c.toNat ≤ 57 := by simp [isD]
theorem val_snoc (l : List UInt8) (c : UInt8) : valD (l ++ [c]) = 10 * valD l + (c.toNat - 48) := by unfold valD; rw [List.foldl_append]; rfl
theorem val_app (l r : List UInt8) : valD (l ++ r) = valD l * 10 ^ r.length + valD r := by
  induction r generalizing l with
  | nil => simp [valD]
  | cons c r ih =>
    have e1 : l ++ c :: r = (l ++ [c]) ++ r := by simp
    have e2 : valD (c :: r) = valD ([c] ++ r) := rfl
    have h3 : valD [c] = c.toNat - 48 := by simp [valD]
    rw [e1, ih, e2, ih [c], val_snoc, h3, List.length_cons, Nat.pow_succ]
    grind
theorem val_lt (l : List UInt8) (h : ∀ c ∈ l, isD c = true) : valD l < 10 ^ l.length := by
  induction l with
  | nil => simp [valD]
  | cons c l ih =>
    have hc : isD c = true := h c (by simp)
    rw [isD_iff] at hc
    have := ih (fun x hx => h x (by simp [hx]))
    rw [show c :: l = [c] ++ l from rfl, val_app, show valD [c] = c.toNat - 48 from by simp [valD], List.length_append, List.length_singleton, Nat.pow_add, Nat.pow_one]
    have h9 : c.toNat - 48 ≤ 9 := by omega
    have : (c.toNat - 48) * 10 ^ l.length ≤ 9 * 10 ^ l.length := Nat.mul_le_mul_right _ h9
    omega
theorem ne48 {c : UInt8} (h : c ≠ 48) : c.toNat ≠ 48 := fun e => h (by apply UInt8.toNat_inj.1; rw [e]; rfl)
theorem val_ge (c : UInt8) (l : List UInt8) (hc : isD c = true) (h : c ≠ 48) : 10 ^ l.length ≤ valD (c :: l) := by
  rw [show c :: l = [c] ++ l from rfl, val_app, show valD [c] = c.toNat - 48 from by simp [valD]]
  rw [isD_iff] at hc
  have h0 := ne48 h
  have : 1 ≤ c.toNat - 48 := by omega
  have := Nat.mul_le_mul_right (10 ^ l.length) this
  omega
theorem val_zero (l : List UInt8) : valD (48 :: l) = valD l := by
  rw [show (48 : UInt8) :: l = [48] ++ l from rfl, val_app, show valD [48] = 0 from rfl]; omega

/-- the prime is taken out as often as it goes, at most so often -/
def shN (p : Nat) : Nat → Nat → Nat × Nat
  | 0, v => (v, 0)
  | e + 1, v => if v % p = 0 then shN p e (v / p) else (v, e + 1)

theorem shN_spec (p : Nat) (_hp : 0 < p) : ∀ e v, (shN p e v).2 ≤ e ∧ v = (shN p e v).1 * p ^ (e - (shN p e v).2) ∧ ((shN p e v).2 = 0 ∨ (shN p e v).1 % p ≠ 0) := by
  intro e
  induction e with
  | zero => intro v; simp [shN]
  | succ e ih =>
    intro v
    unfold shN
    split
    · rename_i h
      obtain ⟨h1, h2, h3⟩ := ih (v / p)
      refine ⟨by omega, ?_, h3⟩
      have hv : v = v / p * p := by have := Nat.div_add_mod v p; rw [h, Nat.add_zero, Nat.mul_comm] at this; exact this.symm
      have he : e + 1 - (shN p e (v / p)).2 = (e - (shN p e (v / p)).2) + 1 := by omega
      rw [he, Nat.pow_succ, ← Nat.mul_assoc, ← h2]
      exact hv
    · rename_i h
      exact ⟨Nat.le_refl _, by simp, .inr h⟩

theorem gcd_pow_left {a p : Nat} (h : Nat.gcd a p = 1) (n : Nat) : Nat.gcd a (p ^ n) = 1 := Nat.Coprime.pow_right n h

theorem cop2 {v : Nat} (h : v % 2 ≠ 0) : Nat.gcd v 2 = 1 := by
  rw [Nat.gcd_comm, Nat.gcd_rec]
  have : v % 2 = 1 := by omega
  rw [this]; rfl
theorem cop5 {v : Nat} (h : v % 5 ≠ 0) : Nat.gcd v 5 = 1 := by
  rw [Nat.gcd_comm, Nat.gcd_rec]
  have : v % 5 = 1 ∨ v % 5 = 2 ∨ v % 5 = 3 ∨ v % 5 = 4 := by omega
  rcases this with h | h | h | h <;> rw [h] <;> rfl
theorem odd_of_mul {a b : Nat} (h : (a * b) % 2 ≠ 0) : a % 2 ≠ 0 := fun e => h (by rw [Nat.mul_mod, e]; simp)

/-- what is left of digits over a power of ten -/
def num2 (v k : Nat) : Nat := (shN 5 k (shN 2 k v).1).1
def twos (v k : Nat) : Nat := (shN 2 k v).2
def fives (v k : Nat) : Nat := (shN 5 k (shN 2 k v).1).2
theorem num2_spec (v k : Nat) : v = num2 v k * (2 ^ (k - twos v k) * 5 ^ (k - fives v k)) ∧ 10 ^ k = (2 ^ twos v k * 5 ^ fives v k) * (2 ^ (k - twos v k) * 5 ^ (k - fives v k)) ∧ Nat.gcd (num2 v k) (2 ^ twos v k * 5 ^ fives v k) = 1 := by
  obtain ⟨h1, h2, h3⟩ := shN_spec 2 (by decide) k v
  obtain ⟨g1, g2, g3⟩ := shN_spec 5 (by decide) k (shN 2 k v).1
  unfold num2 twos fives
  generalize hA : shN 2 k v = A at *
  generalize hB : shN 5 k A.1 = B at *
  refine ⟨?_, ?_, ?_⟩
  · conv => lhs; rw [h2, g2]
    rw [Nat.mul_assoc, Nat.mul_comm (5 ^ _) (2 ^ _)]
  · have e2 : (2 : Nat) ^ k = 2 ^ A.2 * 2 ^ (k - A.2) := by rw [← Nat.pow_add]; congr 1; omega
    have e5 : (5 : Nat) ^ k = 5 ^ B.2 * 5 ^ (k - B.2) := by rw [← Nat.pow_add]; congr 1; omega
    rw [show (10 : Nat) = 2 * 5 from rfl, Nat.mul_pow, e2, e5]
    simp only [Nat.mul_assoc, Nat.mul_left_comm]
  · apply Nat.Coprime.mul_right
    · rcases h3 with h0 | h0
      · rw [h0]; simp
      · apply Nat.Coprime.pow_right
        apply cop2
        rw [g2] at h0
        exact odd_of_mul h0
    · rcases g3 with h0 | h0
      · rw [h0]; simp
      · apply Nat.Coprime.pow_right
        exact cop5 h0

/-- what the program answers for digits over a power of ten -/
def ansQ (v k : Nat) : Res := if num2 v k ≤ 2147483647 ∧ 2 ^ twos v k * 5 ^ fives v k ≤ 2147483647 then ⟨(num2 v k : Nat), ((2 ^ twos v k * 5 ^ fives v k : Nat) : Int), 0⟩ else ⟨0, 0, 2⟩
theorem ansQ_mk (v k : Nat) : ansQ v k = mk (v : Int) ((10 ^ k : Nat) : Int) := by
  obtain ⟨h1, h2, h3⟩ := num2_spec v k
  unfold ansQ mk
  have h10 : 0 < 10 ^ k := Nat.pow_pos (by decide)
  have hz : ((10 ^ k : Nat) : Int) ≠ 0 := by omega
  rw [if_neg hz]
  have hn : decide ((v : Int) < 0) = false := by simp
  have hd : decide (((10 ^ k : Nat) : Int) < 0) = false := by rw [decide_eq_false_iff_not]; omega
  rw [hn, hd, Int.natAbs_natCast, Int.natAbs_natCast]
  unfold red
  generalize 2 ^ (k - twos v k) * 5 ^ (k - fives v k) = g at *
  generalize 2 ^ twos v k * 5 ^ fives v k = d at *
  generalize num2 v k = n at *
  have hg : 0 < g := by rcases Nat.eq_zero_or_pos g with h0 | h0; (subst h0; omega); exact h0
  rw [h2, h1]
  rw [Nat.gcd_mul_right, h3, Nat.one_mul, Nat.mul_div_cancel _ hg, Nat.mul_div_cancel _ hg]
  simp

/-- a decimal of digits w, a point and digits f -/
def decQ (w f : List UInt8) : Res := mk (valD (w ++ f) : Nat) ((10 ^ f.length : Nat) : Int)
theorem red_mul (neg : Bool) (a b g : Nat) (hg : 0 < g) : red neg (a * g) (b * g) = red neg a b := by
  unfold red
  have h1 : Nat.gcd (a * g) (b * g) = Nat.gcd a b * g := Nat.gcd_mul_right a g b
  rw [h1]
  have : ∀ x, x * g / (Nat.gcd a b * g) = x / Nat.gcd a b := fun x => by rw [Nat.mul_div_mul_right _ _ hg]
  rw [this, this]
theorem mk_scale (v d g : Nat) (hg : 0 < g) : mk ((v * g : Nat) : Int) ((d * g : Nat) : Int) = mk (v : Int) (d : Int) := by
  unfold mk
  by_cases hd : d = 0
  · subst hd; simp
  have : d * g ≠ 0 := Nat.mul_ne_zero hd (by omega)
  rw [if_neg (by omega), if_neg (by omega)]
  have e1 : ∀ x : Nat, decide ((x : Int) < 0) = false := fun x => by simp
  rw [e1, e1, e1, e1, Int.natAbs_natCast, Int.natAbs_natCast, Int.natAbs_natCast, Int.natAbs_natCast]
  exact red_mul _ _ _ _ hg
/-- a zero behind does not matter -/
theorem decQ_snoc (w f : List UInt8) : decQ w (f ++ [48]) = decQ w f := by
  unfold decQ
  rw [← List.append_assoc, val_snoc, List.length_append, List.length_singleton, Nat.pow_succ]
  rw [show 10 * valD (w ++ f) + ((48 : UInt8).toNat - 48) = valD (w ++ f) * 10 from by have : (48 : UInt8).toNat = 48 := rfl; omega]
  exact mk_scale _ _ 10 (by decide)
theorem decQ_zero (w f : List UInt8) : decQ (48 :: w) f = decQ w f := by
  unfold decQ; rw [List.cons_append, val_zero]

/-- without the zeros behind -/
def trimR (l : List UInt8) : List UInt8 := (l.reverse.dropWhile (· == 48)).reverse
def trimL (l : List UInt8) : List UInt8 := l.dropWhile (· == 48)
theorem trimR_snoc (l : List UInt8) (c : UInt8) : trimR (l ++ [c]) = if c = 48 then trimR l else l ++ [c] := by
  unfold trimR
  rw [List.reverse_append]
  simp only [List.reverse_cons, List.reverse_nil, List.nil_append, List.singleton_append, List.dropWhile_cons]
  by_cases h : c = 48
  · simp [h]
  · simp [h]
theorem decQ_trim (w : List UInt8) (f : List UInt8) : decQ w (trimR f) = decQ w f := by
  have : ∀ (r : List UInt8), decQ w (trimR r.reverse) = decQ w r.reverse := by
    intro r
    induction r with
    | nil => rfl
    | cons c r ih =>
      rw [List.reverse_cons, trimR_snoc]
      split
      · rename_i h; subst h; rw [ih, decQ_snoc]
      · rfl
  have := this f.reverse
  rwa [List.reverse_reverse] at this
theorem trimR_last (l : List UInt8) : trimR l = [] ∨ ∃ a c, trimR l = a ++ [c] ∧ c ≠ 48 := by
  have : ∀ (r : List UInt8), trimR r.reverse = [] ∨ ∃ a c, trimR r.reverse = a ++ [c] ∧ c ≠ 48 := by
    intro r
    induction r with
    | nil => left; rfl
    | cons c r ih =>
      rw [List.reverse_cons, trimR_snoc]
      split
      · exact ih
      · rename_i h; exact .inr ⟨_, _, rfl, h⟩
  have := this l.reverse
  rwa [List.reverse_reverse] at this
theorem trimR_sub (l : List UInt8) : ∀ c ∈ trimR l, c ∈ l := by
  intro c hc
  unfold trimR at hc
  have := List.mem_reverse.1 hc
  have := (List.dropWhile_sublist _).subset this
  exact List.mem_reverse.1 this
theorem trimR_len (l : List UInt8) : (trimR l).length ≤ l.length := by
  unfold trimR
  rw [List.length_reverse]
  have := (List.dropWhile_sublist (l := l.reverse) (p := (· == 48))).length_le
  rwa [List.length_reverse] at this
theorem trimL_val (l : List UInt8) : valD (trimL l) = valD l := by
  induction l with
  | nil => rfl
  | cons c l ih =>
    unfold trimL
    rw [List.dropWhile_cons]
    split
    · rename_i h
      have : c = 48 := by simpa using h
      subst this
      rw [val_zero]; exact ih
    · rfl
theorem trimL_sub (l : List UInt8) : ∀ c ∈ trimL l, c ∈ l := fun _ hc => (List.dropWhile_sublist _).subset hc
theorem trimL_head (l : List UInt8) : trimL l = [] ∨ ∃ c t, trimL l = c :: t ∧ c ≠ 48 := by
  induction l with
  | nil => left; rfl
  | cons c l ih =>
    unfold trimL
    rw [List.dropWhile_cons]
    split
    · exact ih
    · rename_i h; exact .inr ⟨_, _, rfl, by simpa using h⟩

/-- digits of which more than ten count are more than the bound -/
theorem val_far (l : List UInt8) (h : ∀ c ∈ l, isD c = true) (h10 : 10 < (trimL l).length) : 10000000000 ≤ valD l := by
  rw [← trimL_val]
  rcases trimL_head l with e | ⟨c, t, e, hc⟩
  · rw [e] at h10; simp at h10
  · have hD := h c (trimL_sub l c (by rw [e]; simp))
    rw [e] at h10 ⊢
    have := val_ge c t hD hc
    have h2 : 10 ^ 10 ≤ 10 ^ t.length := Nat.pow_le_pow_right (by decide) (by simp at h10; omega)
    omega

/-- the program's and the document's answer at a decimal -/
def parseQ (l : List UInt8) : Res :=
  if 40 < l.length ∨ digs (Lib.cut l [46]).1 = false ∨ ((Lib.cut l [46]).2.2 = true ∧ digs (Lib.cut l [46]).2.1 = false) then ⟨0, 0, 3⟩ else decQ (Lib.cut l [46]).1 (Lib.cut l [46]).2.1

theorem ans_dec (w f : List UInt8) : ansQ (valD (w ++ trimR f)) (trimR f).length = decQ w f := by
  rw [ansQ_mk, ← decQ_trim w f]; rfl

/-- a whole part of more than ten digits that count has no representation -/
theorem decQ_far (w f : List UInt8) (h : 10000000000 ≤ valD w) : decQ w f = ⟨0, 0, 2⟩ := by
  unfold decQ
  rw [← ansQ_mk]
  unfold ansQ
  rw [if_neg]
  rintro ⟨h1, h2⟩
  obtain ⟨e1, e2, _⟩ := num2_spec (valD (w ++ f)) f.length
  generalize 2 ^ (f.length - twos (valD (w ++ f)) f.length) * 5 ^ (f.length - fives (valD (w ++ f)) f.length) = g at *
  generalize 2 ^ twos (valD (w ++ f)) f.length * 5 ^ fives (valD (w ++ f)) f.length = d at *
  generalize num2 (valD (w ++ f)) f.length = n at *
  have hv := val_app w f
  have hd : 0 < d := by
    have : 0 < 10 ^ f.length := Nat.pow_pos (by decide)
    rcases Nat.eq_zero_or_pos d with h0 | h0
    · subst h0; omega
    · exact h0
  have h3 : 10000000000 * 10 ^ f.length ≤ valD (w ++ f) := by
    rw [hv]; exact Nat.le_trans (Nat.mul_le_mul_right _ h) (Nat.le_add_right _ _)
  rw [e1, e2] at h3
  have h10 : 0 < 10 ^ f.length := Nat.pow_pos (by decide)
  have hg : 0 < g := by rcases Nat.eq_zero_or_pos g with h0 | h0; (subst h0; omega); exact h0
  rw [← Nat.mul_assoc] at h3
  have h4 := Nat.le_of_mul_le_mul_right h3 hg
  omega
theorem last_mod (a : List UInt8) (c : UInt8) : valD (a ++ [c]) % 10 = (c.toNat - 48) % 10 := by rw [val_snoc]; omega
theorem shN_none (p : Nat) (e v : Nat) (h : v % p ≠ 0) : shN p e v = (v, e) := by
  cases e with
  | zero => rfl
  | succ e => unfold shN; rw [if_neg h]
/-- more than 31 digits behind the point, the last one not 0, have no representation -/
theorem decQ_long (w f : List UInt8) (hf : ∀ c ∈ f, isD c = true) (hl : 31 < f.length) (h : ∃ a c, f = a ++ [c] ∧ c ≠ 48) : decQ w f = ⟨0, 0, 2⟩ := by
  obtain ⟨a, c, rfl, hc⟩ := h
  have hD := hf c (by simp)
  rw [isD_iff] at hD
  have hc0 := ne48 hc
  unfold decQ
  rw [← ansQ_mk]
  unfold ansQ
  rw [if_neg]
  rintro ⟨_, h2⟩
  rw [← List.append_assoc] at h2
  have hm := last_mod (w ++ a) c
  generalize valD (w ++ a ++ [c]) = v at *
  generalize hk : (a ++ [c]).length = k at *
  have hpos : ∀ p n : Nat, 0 < p → 1 ≤ p ^ n := fun p n hp => Nat.pow_pos hp
  by_cases hv : v % 2 = 0
  · have h5 : v % 5 ≠ 0 := by omega
    -- no five goes out
    obtain ⟨g1, g2, g3⟩ := shN_spec 2 (by decide) k v
    have h5' : (shN 2 k v).1 % 5 ≠ 0 := fun e => h5 (by rw [g2, Nat.mul_mod, e]; simp)
    have e5 : fives v k = k := by unfold fives; rw [shN_none 5 k _ h5']
    rw [e5] at h2
    have b1 : 2147483648 ≤ 5 ^ k := Nat.le_trans (show 2147483648 ≤ 5 ^ 32 from Nat.le_of_ble_eq_true rfl) (Nat.pow_le_pow_right (show 0 < 5 by decide) (show 32 ≤ k by omega))
    have b2 := hpos 2 (twos v k) (by decide)
    have b3 : 1 * 5 ^ k ≤ 2 ^ twos v k * 5 ^ k := Nat.mul_le_mul_right _ b2
    generalize 5 ^ k = x at *
    generalize 2 ^ twos v k * x = y at *
    omega
  · have e2 : twos v k = k := by unfold twos; rw [shN_none 2 k _ hv]
    rw [e2] at h2
    have b1 : 2147483648 ≤ 2 ^ k := Nat.le_trans (show 2147483648 ≤ 2 ^ 32 from Nat.le_of_ble_eq_true rfl) (Nat.pow_le_pow_right (show 0 < 2 by decide) (show 32 ≤ k by omega))
    have b2 := hpos 5 (fives v k) (by decide)
    have b3 : 2 ^ k * 1 ≤ 2 ^ k * 5 ^ fives v k := Nat.mul_le_mul_left _ b2
    generalize 2 ^ k = x at *
    generalize x * 5 ^ fives v k = y at *
    omega

/-- a digit's byte -/
def dg (n : Nat) : UInt8 := UInt8.ofNat (48 + n)
/-- a digit's quotient and rest, with what is carried -/
def qd (p r : Nat) (c : UInt8) : UInt8 := dg ((10 * r + (c.toNat - 48)) / p)
def rd (p r : Nat) (c : UInt8) : Nat := (10 * r + (c.toNat - 48)) % p
/-- the digits of a quotient by a small number, with what is carried -/
def divA (p : Nat) : List UInt8 → Nat → List UInt8
  | [], _ => []
  | c :: l, r => qd p r c :: divA p l (rd p r c)
def remA (p : Nat) : List UInt8 → Nat → Nat
  | [], r => r
  | c :: l, r => remA p l (rd p r c)
def divL (p r : Nat) (l : List UInt8) : List UInt8 := divA p l r
def remL (p r : Nat) (l : List UInt8) : Nat := remA p l r
theorem divL_len (p : Nat) : ∀ l r, (divL p r l).length = l.length := by
  intro l
  induction l with
  | nil => intro r; rfl
  | cons c l ih => intro r; unfold divL at ih ⊢; simp [divA, ih]
theorem divL_snoc (p : Nat) : ∀ l r c, divL p r (l ++ [c]) = divL p r l ++ [dg ((10 * remL p r l + (c.toNat - 48)) / p)] := by
  intro l
  unfold divL remL
  induction l with
  | nil => intro r c; simp only [List.nil_append, divA, remA, qd]
  | cons d l ih => intro r c; simp only [List.cons_append, divA, remA, ih]
theorem remL_snoc (p : Nat) : ∀ l r c, remL p r (l ++ [c]) = (10 * remL p r l + (c.toNat - 48)) % p := by
  intro l
  unfold remL
  induction l with
  | nil => intro r c; simp only [List.nil_append, remA, rd]
  | cons d l ih => intro r c; simp only [List.cons_append, remA, ih]
theorem remL_lt (p : Nat) (hp : 0 < p) : ∀ l r, r < p → remL p r l < p := by
  intro l
  induction l with
  | nil => intro r h; exact h
  | cons c l ih => intro r _; exact ih _ (Nat.mod_lt _ hp)
theorem quo_nat (p x : Nat) (hp : 0 < p) (hx : x < 10 * p) : x / p ≤ 9 := by
  have := (Nat.div_lt_iff_lt_mul hp).2 (show x < 10 * p from hx)
  omega
theorem quo_toNat (n : Nat) (h : n ≤ 9) : (dg n).toNat = 48 + n := by
  unfold dg
  rw [UInt8.toNat_ofNat']
  have : (48 + n) % 2 ^ 8 = 48 + n := Nat.mod_eq_of_lt (by omega)
  exact this
theorem divL_isD (p : Nat) (hp : 0 < p) : ∀ l r, r < p → (∀ c ∈ l, isD c = true) → ∀ c ∈ divL p r l, isD c = true := by
  intro l
  induction l with
  | nil => intro r _ _ c hc; simp [divL, divA] at hc
  | cons d l ih =>
    intro r hr hl c hc
    have hd := (isD_iff d).1 (hl d (by simp))
    have hc : c = qd p r d ∨ c ∈ divL p (rd p r d) l := by simpa only [divL, divA, List.mem_cons] using hc
    rcases hc with rfl | hc
    · have := quo_nat p (10 * r + (d.toNat - 48)) hp (by omega)
      rw [isD_iff, qd, quo_toNat _ this]
      generalize (10 * r + (d.toNat - 48)) / p = z at *
      omega
    · exact ih _ (Nat.mod_lt _ hp) (fun x hx => hl x (by simp [hx])) c hc
/-- the quotient's digits and the rest -/
theorem divL_val (p : Nat) (hp : 0 < p) : ∀ (l : List UInt8), (∀ c ∈ l, isD c = true) → valD (divL p 0 l) = valD l / p ∧ remL p 0 l = valD l % p := by
  have : ∀ r : List UInt8, (∀ c ∈ r.reverse, isD c = true) → valD (divL p 0 r.reverse) = valD r.reverse / p ∧ remL p 0 r.reverse = valD r.reverse % p := by
    intro r
    induction r with
    | nil => intro _; simp [divL, divA, remL, remA, valD]
    | cons c r ih =>
      intro h
      rw [List.reverse_cons] at h ⊢
      obtain ⟨h1, h2⟩ := ih (fun x hx => h x (by simp [List.mem_reverse.1 hx]))
      have hc := (isD_iff c).1 (h c (by simp))
      rw [divL_snoc, remL_snoc, val_snoc, val_snoc, h1, h2]
      have hr : valD r.reverse % p < p := Nat.mod_lt _ hp
      have hq := quo_nat p (10 * (valD r.reverse % p) + (c.toNat - 48)) hp (by omega)
      rw [quo_toNat _ hq]
      have hdm := Nat.div_add_mod (valD r.reverse) p
      generalize valD r.reverse / p = q at *
      generalize valD r.reverse % p = m at *
      generalize c.toNat - 48 = d at *
      have e : 10 * valD r.reverse + d = p * (10 * q) + (10 * m + d) := by rw [← hdm]; grind
      rw [e, Nat.mul_add_div hp, Nat.mul_add_mod]
      refine ⟨?_, rfl⟩
      generalize (10 * m + d) / p = z at *
      omega
  intro l hl
  have := this l.reverse (by rwa [List.reverse_reverse])
  rwa [List.reverse_reverse] at this
/-- a digit's rest is the number's -/
theorem last_two (a : List UInt8) (c : UInt8) : valD (a ++ [c]) % 2 = (c.toNat - 48) % 2 := by rw [val_snoc]; omega
theorem last_five (a : List UInt8) (c : UInt8) : valD (a ++ [c]) % 5 = (c.toNat - 48) % 5 := by rw [val_snoc]; omega

/-- digits from which a prime is taken out -/
def shL (p : Nat) : Nat → List UInt8 → List UInt8 × Nat
  | 0, l => (l, 0)
  | e + 1, l => if valD l % p = 0 then shL p e (divL p 0 l) else (l, e + 1)
theorem shL_spec (p : Nat) (hp : 0 < p) : ∀ e l, (∀ c ∈ l, isD c = true) → (∀ c ∈ (shL p e l).1, isD c = true) ∧ (shL p e l).1.length = l.length ∧ valD (shL p e l).1 = (shN p e (valD l)).1 ∧ (shL p e l).2 = (shN p e (valD l)).2 := by
  intro e
  induction e with
  | zero => intro l hl; exact ⟨hl, rfl, rfl, rfl⟩
  | succ e ih =>
    intro l hl
    unfold shL shN
    split
    · obtain ⟨h1, h2, h3, h4⟩ := ih (divL p 0 l) (divL_isD p hp l 0 hp hl)
      rw [(divL_val p hp l hl).1] at h3 h4
      exact ⟨h1, h2.trans (divL_len p l 0), h3, h4⟩
    · exact ⟨hl, rfl, rfl, rfl⟩

/-- no digit behind the point: the digits themselves -/
theorem cut_point (b : List UInt8) : (∃ w r, Lib.cut b [46] = (w, r, true) ∧ b = w ++ 46 :: r ∧ 46 ∉ w) ∨ (Lib.cut b [46] = (b, [], false) ∧ 46 ∉ b) := by
  have occ : ∀ j (hj : j < b.length), b[j] = 46 → Lib.occAt b [46] j = true := fun j hj e => by
    unfold Lib.occAt; rw [List.drop_eq_getElem_cons hj, e]; simp
  unfold Lib.cut
  rcases Lib.index_spec b [46] with ⟨h1, h2⟩ | ⟨i, h1, h2, h3, h4⟩
  · right
    rw [h1, if_neg (by decide)]
    refine ⟨rfl, fun hm => ?_⟩
    obtain ⟨j, hj, e⟩ := List.mem_iff_getElem.1 hm
    have := h2 j (by omega)
    rw [occ j hj e] at this; cases this
  · left
    rw [h1, if_pos (by omega)]
    have hi : i < b.length := by
      rcases Lib.occAt_room h3 with h' | h'
      · simp at h'; omega
      · cases h'
    have hc : b[i] = 46 := by
      unfold Lib.occAt at h3; rw [List.drop_eq_getElem_cons hi] at h3; simp only [List.isPrefixOf, Bool.and_true, beq_iff_eq] at h3; exact h3.symm
    refine ⟨b.take i, b.drop (i + 1), by simp, ?_, fun hm => ?_⟩
    · rw [← hc, ← List.drop_eq_getElem_cons hi, List.take_append_drop]
    · obtain ⟨j, hj, e⟩ := List.mem_iff_getElem.1 hm
      have hji : j < i := by rw [List.length_take] at hj; omega
      rw [List.getElem_take] at e
      have := h4 j hji
      rw [occ j (by omega) e] at this; cases this
theorem cut_unique {w r : List UInt8} (h : (46 : UInt8) ∉ w) : Lib.cut (w ++ 46 :: r) [46] = (w, r, true) := by
  rcases cut_point (w ++ 46 :: r) with ⟨w', r', e, e', h'⟩ | ⟨_, h'⟩
  · rw [e]
    have : ∀ (a b c d : List UInt8), (46 : UInt8) ∉ a → (46 : UInt8) ∉ c → a ++ 46 :: b = c ++ 46 :: d → a = c ∧ b = d := by
      intro a
      induction a with
      | nil =>
        intro b c d _ hc e
        cases c with
        | nil => simpa using e
        | cons x c => simp at e; exact absurd (by simp [e.1]) hc
      | cons y a ih =>
        intro b c d ha hc e
        cases c with
        | nil => simp at e; exact absurd (by simp [e.1]) ha
        | cons x c =>
          simp at e
          obtain ⟨h1, h2⟩ := ih b c d (fun h => ha (by simp [h])) (fun h => hc (by simp [h])) e.2
          exact ⟨by rw [e.1, h1], h2⟩
    obtain ⟨rfl, rfl⟩ := this _ _ _ _ h h' e'
    rfl
  · exact absurd (by simp) h'
theorem cut_rest (l : List UInt8) : (Lib.cut l [46]).2.2 = false → (Lib.cut l [46]).2.1 = [] := by
  rcases cut_point l with ⟨w, r, e, _, _⟩ | ⟨e, _⟩
  · rw [e]; intro h; cases h
  · rw [e]; intro _; rfl
theorem cut_len (l : List UInt8) : (Lib.cut l [46]).1.length ≤ l.length ∧ (Lib.cut l [46]).2.1.length ≤ l.length := by
  rcases cut_point l with ⟨w, r, e, rfl, _⟩ | ⟨e, _⟩
  · rw [e]; simp; omega
  · rw [e]; simp

/-- quotients of one value are one -/
theorem mk_cross (n d n' d' : Nat) (hd : 0 < d) (hd' : 0 < d') (h : n * d' = n' * d) : mk (n : Int) (d : Int) = mk (n' : Int) (d' : Int) := by
  rw [← mk_scale n d d' hd', ← mk_scale n' d' d hd, h, Nat.mul_comm d d']
end Go.Proofs.YtaekhbhjgcmghaaDoor
