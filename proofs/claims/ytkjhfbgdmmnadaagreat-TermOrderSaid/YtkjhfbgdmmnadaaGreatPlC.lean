/- Plain: the words in their order, by number; the first one that is an identifier and not in a list. -/
import Derived.Test.YtkjhfbgdmmnadaaGreatPlB
namespace Go.Proofs.YtkjhfbgdmmnadaaGreat

theorem rk_lt (c : UInt8) (h : isL c = true) : rk c < 52 := by
  unfold isL at h
  simp at h
  unfold rk rkN
  split <;> omega
def numR : W8 → Nat | [] => 0 | c :: r => rk c + 1 + 52 * numR r
/-- the next word, last letter first -/
def folR : W8 → W8
  | [] => [97]
  | c :: r => if c.toNat = 90 then 97 :: folR r else if c.toNat = 122 then 65 :: r else (c + 1) :: r
theorem folR_ok : ∀ r : W8, r.all isL = true → (folR r).all isL = true ∧ numR (folR r) = numR r + 1
  | [], _ => by decide
  | c :: r, h => by
    simp only [List.all_cons, Bool.and_eq_true] at h
    have ih := folR_ok r h.2
    rw [folR]
    split
    · rename_i hc
      have e : rk c = 51 := by unfold rk rkN; rw [if_neg (by omega)]; omega
      refine ⟨?_, ?_⟩
      · simp only [List.all_cons, Bool.and_eq_true]; exact ⟨by decide, ih.1⟩
      · rw [numR, numR, ih.2, e]; have : rk 97 = 0 := by decide
        rw [this]; omega
    · split
      · rename_i hc
        have e : rk c = 25 := by unfold rk rkN; rw [if_pos (by omega)]; omega
        refine ⟨?_, ?_⟩
        · simp only [List.all_cons, Bool.and_eq_true]; exact ⟨by decide, h.2⟩
        · rw [numR, numR, e]; have : rk 65 = 26 := by decide
          rw [this]; omega
      · rename_i h1 h2
        have hl := h.1
        unfold isL at hl
        simp at hl
        have e1 : (c + 1).toNat = c.toNat + 1 := by
          rw [UInt8.toNat_add]
          have : (1 : UInt8).toNat = 1 := rfl
          rw [this]; omega
        refine ⟨?_, ?_⟩
        · simp only [List.all_cons, Bool.and_eq_true]
          refine ⟨?_, h.2⟩
          unfold isL
          rw [e1]
          simp; omega
        · rw [numR, numR]
          have : rk (c + 1) = rk c + 1 := by
            unfold rk rkN
            rw [e1]
            rcases hl with hl | hl
            · rw [if_pos (by omega), if_pos (by omega)]; omega
            · rw [if_neg (by omega), if_neg (by omega)]; omega
          rw [this]; omega
theorem numR_inj : ∀ r s : W8, r.all isL = true → s.all isL = true → numR r = numR s → r = s
  | [], [], _, _, _ => rfl
  | [], d :: s, _, _, h => by rw [numR, numR] at h; omega
  | c :: r, [], _, _, h => by rw [numR, numR] at h; omega
  | c :: r, d :: s, h1, h2, h => by
    simp only [List.all_cons, Bool.and_eq_true] at h1 h2
    rw [numR, numR] at h
    have a := rk_lt c h1.1
    have b := rk_lt d h2.1
    rw [rk_inj c d h1.1 h2.1 (by omega), numR_inj r s h1.2 h2.2 (by omega)]
theorem numR_len : ∀ r : W8, r.length ≤ numR r ∧ (3 ≤ r.length → 2757 ≤ numR r)
  | [] => by simp [numR]
  | [a] => by simp [numR]
  | [a, b] => by simp [numR]; omega
  | a :: b :: c :: r => by
    have := numR_len (b :: c :: r)
    simp only [List.length_cons] at *
    simp only [numR] at *
    omega
def wdR : Nat → W8 | 0 => [] | n + 1 => folR (wdR n)
theorem wdR_ok : ∀ n, (wdR n).all isL = true ∧ numR (wdR n) = n
  | 0 => by decide
  | n + 1 => by
    have ih := wdR_ok n
    have := folR_ok _ ih.1
    rw [wdR]
    exact ⟨this.1, by rw [this.2, ih.2]⟩
/-- word number n: the first is "a" -/
def wd (n : Nat) : W8 := (wdR n).reverse
/-- the word that follows -/
def follow (s : W8) : W8 := (folR s.reverse).reverse
theorem follow_wd (n : Nat) : follow (wd n) = wd (n + 1) := by unfold follow wd; rw [List.reverse_reverse, wdR]
theorem wd_all (n : Nat) : (wd n).all isL = true := by unfold wd; rw [List.all_reverse]; exact (wdR_ok n).1
theorem wd_inj {m n : Nat} (h : wd m = wd n) : m = n := by
  have h1 : wdR m = wdR n := by unfold wd at h; simpa using h
  rw [← (wdR_ok m).2, ← (wdR_ok n).2, h1]
theorem wd_len {n : Nat} (h1 : 1 ≤ n) (h2 : n ≤ 2756) : 1 ≤ (wd n).length ∧ (wd n).length ≤ 2 := by
  have hn := (wdR_ok n).2
  have hl := numR_len (wdR n)
  have e : (wd n).length = (wdR n).length := by unfold wd; simp
  rw [e]
  refine ⟨?_, by omega⟩
  cases hw : wdR n with
  | nil => rw [hw, numR] at hn; omega
  | cons c r => simp
theorem wd_snoc (n : Nat) (c : UInt8) (h : isL c = true) : wd n ++ [c] = wd (52 * n + rk c + 1) := by
  have e : c :: wdR n = wdR (52 * n + rk c + 1) := by
    refine numR_inj _ _ (by simp only [List.all_cons, Bool.and_eq_true]; exact ⟨h, (wdR_ok n).1⟩) (wdR_ok _).1 ?_
    rw [numR, (wdR_ok _).2, (wdR_ok _).2]; omega
  unfold wd
  rw [← e]; simp
theorem wd_ident {n : Nat} (h1 : 1 ≤ n) (h2 : n ≤ 2756) : identB (wd n) = true := by
  have hl := wd_len h1 h2
  have ha := wd_all n
  generalize wd n = w at *
  unfold identB wordB
  rw [ha]
  have k1 : kwds.contains w = false := by
    cases h : kwds.contains w with
    | false => rfl
    | true =>
      have : w ∈ kwds := by simpa using h
      unfold kwds at this
      simp only [List.mem_cons, List.not_mem_nil, or_false] at this
      rcases this with rfl | rfl | rfl | rfl <;> simp at hl
  have k2 : accs.contains w = false := by
    cases h : accs.contains w with
    | false => rfl
    | true =>
      have : w ∈ accs := by simpa using h
      unfold accs at this
      simp only [List.mem_cons, List.not_mem_nil, or_false] at this
      rcases this with rfl | rfl | rfl | rfl | rfl | rfl <;> simp at hl
  rw [k1, k2]
  simp; omega
/-- an identifier that is not in the list -/
def good (l : List W8) (w : W8) : Bool := identB w && !l.contains w
def frs (l : List W8) : Nat → Nat → Nat
  | 0, n => n
  | f + 1, n => if good l (wd n) = true then n else frs l f (n + 1)
def freshN (l : List W8) : Nat := frs l 2756 1
/-- the first identifier that is not in the list -/
def freshL (l : List W8) : W8 := wd (freshN l)
theorem frs_spec (l : List W8) : ∀ (f n m : Nat), n ≤ m → m < n + f → good l (wd m) = true →
    good l (wd (frs l f n)) = true ∧ n ≤ frs l f n ∧ frs l f n ≤ m ∧ ∀ j, n ≤ j → j < frs l f n → good l (wd j) = false
  | 0, n, m, h1, h2, _ => by omega
  | f + 1, n, m, h1, h2, h3 => by
    rw [frs]
    split
    · rename_i h
      exact ⟨h, Nat.le_refl _, h1, fun j h4 h5 => by omega⟩
    · rename_i h
      have hne : n ≠ m := fun e => h (by rw [e]; exact h3)
      obtain ⟨i1, i2, i3, i4⟩ := frs_spec l f (n + 1) m (by omega) (by omega) h3
      refine ⟨i1, by omega, i3, fun j h4 h5 => ?_⟩
      by_cases hj : j = n
      · rw [hj]; simpa using h
      · exact i4 j (by omega) h5
theorem len_of_sub {α : Type} [DecidableEq α] : ∀ (xs l : List α), xs.Nodup → (∀ x ∈ xs, x ∈ l) → xs.length ≤ l.length
  | [], l, _, _ => by simp
  | x :: xs, l, hn, h => by
    rw [List.nodup_cons] at hn
    have hx : x ∈ l := h x List.mem_cons_self
    have ih := len_of_sub xs (l.erase x) hn.2 (fun y hy => by
      have hne : y ≠ x := fun e => hn.1 (e ▸ hy)
      exact (List.mem_erase_of_ne hne).2 (h y (List.mem_cons_of_mem _ hy)))
    rw [List.length_erase_of_mem hx] at ih
    have : 1 ≤ l.length := List.length_pos_of_mem hx
    simp only [List.length_cons]; omega
theorem fresh_some (l : List W8) (h : l.length ≤ 2755) : ∃ m, 1 ≤ m ∧ m < 1 + 2756 ∧ good l (wd m) = true := by
  refine Classical.byContradiction fun hno => ?_
  have hall : ∀ x ∈ (List.range 2756).map (fun i => wd (i + 1)), x ∈ l := fun x hx => by
    obtain ⟨i, hi, rfl⟩ := List.mem_map.1 hx
    rw [List.mem_range] at hi
    cases hg : good l (wd (i + 1)) with
    | true => exact absurd ⟨i + 1, by omega, by omega, hg⟩ hno
    | false =>
      unfold good at hg
      rw [wd_ident (by omega) (by omega)] at hg
      simpa using hg
  have hn : ((List.range 2756).map (fun i => wd (i + 1))).Nodup := by
    unfold List.Nodup
    rw [List.pairwise_map]
    exact List.Pairwise.imp (R := fun a b : Nat => a ≠ b) (S := fun a b : Nat => wd (a + 1) ≠ wd (b + 1)) (fun {a b} hab e => hab (by have := wd_inj e; omega)) List.nodup_range
  have := len_of_sub _ _ hn hall
  rw [List.length_map, List.length_range] at this
  omega
theorem fresh_spec (l : List W8) (h : l.length ≤ 2755) : good l (freshL l) = true ∧ 1 ≤ freshN l ∧ freshN l ≤ 2756 ∧ ∀ j, 1 ≤ j → j < freshN l → good l (wd j) = false := by
  obtain ⟨m, h1, h2, h3⟩ := fresh_some l h
  obtain ⟨i1, i2, i3, i4⟩ := frs_spec l 2756 1 m h1 h2 h3
  exact ⟨i1, i2, by show frs l 2756 1 ≤ 2756; omega, i4⟩
theorem good_iff {l : List W8} {w : W8} : good l w = true ↔ identB w = true ∧ w ∉ l := by
  unfold good; simp
theorem fresh_ident (l : List W8) (h : l.length ≤ 2755) : identB (freshL l) = true := (good_iff.1 (fresh_spec l h).1).1
theorem fresh_not (l : List W8) (h : l.length ≤ 2755) : freshL l ∉ l := (good_iff.1 (fresh_spec l h).1).2
theorem good_ext {l m : List W8} (h : ∀ x, x ∈ l ↔ x ∈ m) (w : W8) : good l w = good m w := by
  rw [Bool.eq_iff_iff, good_iff, good_iff, h]
theorem frs_ext {l m : List W8} (h : ∀ x, x ∈ l ↔ x ∈ m) : ∀ f n, frs l f n = frs m f n
  | 0, n => rfl
  | f + 1, n => by rw [frs, frs, good_ext h, frs_ext h f]
theorem fresh_ext {l m : List W8} (h : ∀ x, x ∈ l ↔ x ∈ m) : freshL l = freshL m := by
  unfold freshL freshN; rw [frs_ext h]
end Go.Proofs.YtkjhfbgdmmnadaaGreat
