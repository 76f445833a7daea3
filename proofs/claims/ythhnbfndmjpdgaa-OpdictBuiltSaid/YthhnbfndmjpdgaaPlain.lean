/- Plain laws of With: what it finds afterwards; adding an entry again; dictionaries built entry by entry. -/
import Derived.Test.YthhnbfndmjpdgaaWith
namespace Go.Proofs.Ythhnbfndmjpdgaa
open Go.RowKit

theorem apart_iff (l : List Ent) : l.Pairwise apart ↔ (l.map (·.text)).Pairwise (· ≠ ·) := by
  rw [List.pairwise_map]
  constructor <;> intro h <;> refine h.imp ?_
  · intro a b hab he
    unfold apart at hab
    rw [he, eqT_refl] at hab; cases hab
  · intro a b hab
    unfold apart
    cases h : eqT a.text b.text with
    | false => rfl
    | true => exact absurd ((eqT_iff _ _).1 h) hab

theorem find_congr' (l l' : List Ent) (hu : Uniq l) (hu' : Uniq l') (x : ByteArray) (hm : ∀ e : Ent, e.text = x → (e ∈ l ↔ e ∈ l')) : find l x = find l' x := by
  by_cases h : ∃ e ∈ l, eqT e.text x = true
  · obtain ⟨e, he, hx⟩ := h
    rw [find_of_mem l hu e he x hx, find_of_mem l' hu' e ((hm e ((eqT_iff _ _).1 hx)).1 he) x hx]
  · have h1 : ∀ e ∈ l, eqT e.text x = false := fun e he => by
      cases hh : eqT e.text x with
      | false => rfl
      | true => exact absurd ⟨e, he, hh⟩ h
    rw [find_of_no l x h1, find_of_no l' x (fun e he => ?_)]
    cases hh : eqT e.text x with
    | false => rfl
    | true => rw [← hh, h1 e ((hm e ((eqT_iff _ _).1 hh)).2 he)]

theorem withR_len' (l : List Ent) (e : Ent) : (withR l e).1.length ≤ l.length + 1 := by
  unfold withR
  split
  · split
    · simp
    · split <;> simp
  · simp
theorem withR_err (l : List Ent) (e : Ent) (h : (withR l e).2 ≠ 0) : (withR l e).1 = [] := by
  unfold withR at h ⊢
  split at h
  · rename_i hv
    rw [if_pos hv]
    split at h
    · exact absurd rfl h
    · split at h
      · rename_i h2; rw [if_pos h2]
      · exact absurd rfl h
  · rename_i hv
    rw [if_neg hv]

theorem set_text (l : List Ent) (i : Nat) (e : Ent) (hi : i < l.length) (h : l[i].text = e.text) : (l.set i e).map (·.text) = l.map (·.text) := by
  rw [List.map_set, ← h]
  apply List.ext_getElem
  · simp
  · intro j h1 h2
    rw [List.getElem_set]
    split
    · rename_i hij; subst hij; simp
    · rfl

theorem fIdx_text (l : List Ent) (t : ByteArray) (i : Nat) (h : fIdx? l t = some i) : ∃ hi : i < l.length, l[i].text = t ∧ ∀ j (hj : j < l.length), j < i → l[j].text ≠ t := by
  unfold fIdx? at h
  rw [List.findIdx?_eq_some_iff_getElem] at h
  obtain ⟨hi, h1, h2⟩ := h
  refine ⟨hi, (eqT_iff _ _).1 h1, fun j hj hji he => ?_⟩
  have := h2 j hji
  rw [he, eqT_refl] at this
  simp at this
theorem fIdx_none_text (l : List Ent) (t : ByteArray) (h : fIdx? l t = none) : ∀ e ∈ l, e.text ≠ t := by
  unfold fIdx? at h
  rw [List.findIdx?_eq_none_iff] at h
  intro e he hh
  have := h e he
  rw [hh, eqT_refl] at this
  cases this
theorem fIdx_mk (l : List Ent) (t : ByteArray) (i : Nat) (hi : i < l.length) (h : l[i].text = t) (hn : ∀ j (hj : j < l.length), j < i → l[j].text ≠ t) : fIdx? l t = some i := by
  refine fIdx_hit l t i hi ((eqT_iff _ _).2 h) (fun j e hj he => ?_)
  have hjl : j < l.length := by omega
  rw [List.getElem?_eq_getElem hjl] at he
  cases he
  cases hh : eqT l[j].text t with
  | false => rfl
  | true => exact absurd ((eqT_iff _ _).1 hh) (hn j hjl hj)

/-- what With leaves where it leaves no error -/
theorem withR_ok (l : List Ent) (e : Ent) (L : List Ent) (h : withR l e = (L, 0)) :
    validB l = true ∧ proper e = true ∧ validB L = true ∧ withR L e = (L, 0) ∧ find L e.text = e ∧ (∀ t, t ≠ e.text → find L t = find l t) ∧ (∀ x ∈ L, x ∈ l ∨ x = e) := by
  unfold withR at h
  split at h
  · rename_i hv
    rw [Bool.and_eq_true] at hv
    obtain ⟨hv, hp⟩ := hv
    have hV := (valid_iff l).1 hv
    cases hf : fIdx? l e.text with
    | some i =>
      rw [hf] at h
      simp only [Prod.mk.injEq, and_true] at h
      subst h
      obtain ⟨hi, ht, hn⟩ := fIdx_text l e.text i hf
      have hmap := set_text l i e hi ht
      have hval : validB (l.set i e) = true := by
        rw [valid_iff]
        refine ⟨by simpa using hV.1, fun x hx => ?_, ?_⟩
        · rcases List.mem_or_eq_of_mem_set hx with h | h
          · exact hV.2.1 x h
          · rw [h]; exact hp
        · rw [apart_iff, hmap, ← apart_iff]; exact hV.2.2
      have hi' : i < (l.set i e).length := by simpa using hi
      have hget : (l.set i e)[i] = e := by simp
      have hfi : fIdx? (l.set i e) e.text = some i := by
        refine fIdx_mk _ _ i hi' (by rw [hget]) (fun j hj hji => ?_)
        rw [List.getElem_set_ne (by omega)]
        exact hn j (by simpa using hj) hji
      refine ⟨hv, hp, hval, ?_, ?_, ?_, fun x hx => List.mem_or_eq_of_mem_set hx⟩
      · unfold withR
        rw [hval, hp, hfi]
        simp
      · exact find_of_mem _ (uniq_of_valid _ hval) e (by rw [List.mem_iff_getElem]; exact ⟨i, hi', hget⟩) _ (eqT_refl _)
      · intro t ht'
        refine find_congr' _ _ (uniq_of_valid _ hval) (uniq_of_valid _ hv) t (fun x hx => ?_)
        constructor
        · intro hm
          rcases List.mem_or_eq_of_mem_set hm with h | h
          · exact h
          · rw [h] at hx; exact absurd hx.symm ht'
        · intro hm
          obtain ⟨j, hj, rfl⟩ := List.mem_iff_getElem.1 hm
          have hji : i ≠ j := by
            rintro rfl
            rw [ht] at hx; exact ht' hx.symm
          rw [List.mem_iff_getElem]
          exact ⟨j, by simpa using hj, by rw [List.getElem_set_ne hji]⟩
    | none =>
      rw [hf] at h
      simp only at h
      split at h
      · simp at h
      · rename_i h200
        simp only [Prod.mk.injEq, and_true] at h
        subst h
        have hno := fIdx_none_text l e.text hf
        have hval : validB (l ++ [e]) = true := by
          rw [valid_iff]
          refine ⟨by have := hV.1; simp; omega, fun x hx => ?_, ?_⟩
          · rcases List.mem_append.1 hx with h | h
            · exact hV.2.1 x h
            · simp at h; rw [h]; exact hp
          · rw [List.pairwise_append]
            refine ⟨hV.2.2, by simp, fun x hx y hy => ?_⟩
            simp at hy; subst hy
            unfold apart
            cases hh : eqT x.text y.text with
            | false => rfl
            | true => exact absurd ((eqT_iff _ _).1 hh) (hno x hx)
        have hi' : l.length < (l ++ [e]).length := by simp
        have hget : (l ++ [e])[l.length] = e := by simp
        have hfi : fIdx? (l ++ [e]) e.text = some l.length := by
          refine fIdx_mk _ _ _ hi' (by rw [hget]) (fun j hj hji => ?_)
          rw [List.getElem_append_left hji]
          exact hno _ (List.getElem_mem _)
        refine ⟨hv, hp, hval, ?_, ?_, ?_, fun x hx => (List.mem_append.1 hx).imp id (fun h => by simpa using h)⟩
        · unfold withR
          rw [hval, hp, hfi]
          simp
        · exact find_of_mem _ (uniq_of_valid _ hval) e (by simp) _ (eqT_refl _)
        · intro t ht'
          refine find_congr' _ _ (uniq_of_valid _ hval) (uniq_of_valid _ hv) t (fun x hx => ?_)
          constructor
          · intro hm
            rcases List.mem_append.1 hm with h | h
            · exact h
            · simp at h; rw [h] at hx; exact absurd hx.symm ht'
          · intro hm; exact List.mem_append_left _ hm
  · simp at h

/-! ### dictionaries built entry by entry -/
/-- the last entry with a text -/
def lastOf (l : List Ent) (t : ByteArray) (d : Ent) : Ent := l.foldl (fun d e => if eqT e.text t then e else d) d
theorem lastOf_snoc (l : List Ent) (e : Ent) (t : ByteArray) (d : Ent) : lastOf (l ++ [e]) t d = if eqT e.text t then e else lastOf l t d := by
  unfold lastOf; rw [List.foldl_append]; rfl
/-- d is what is built out of the entries l -/
structure Built (l : List Ent) (d : List Ent) : Prop where
  valid : validB d = true
  len : d.length ≤ l.length
  finds : ∀ t, find d t = lastOf l t ⟨t, 0, false, false⟩
  mem : ∀ x ∈ d, x ∈ l
theorem built_nil : Built [] [] := ⟨by decide, Nat.le_refl _, fun t => rfl, fun x hx => hx⟩
theorem built_snoc (l d : List Ent) (e : Ent) (D : List Ent) (h : Built l d) (hw : withR d e = (D, 0)) : Built (l ++ [e]) D := by
  obtain ⟨_, _, h3, _, h5, h6, h7⟩ := withR_ok d e D hw
  refine ⟨h3, ?_, fun t => ?_, fun x hx => ?_⟩
  · have := withR_len' d e
    rw [hw] at this
    have := h.len
    simp at *; omega
  · rw [lastOf_snoc]
    by_cases ht : eqT e.text t = true
    · rw [if_pos ht]
      rw [← (eqT_iff _ _).1 ht]; exact h5
    · rw [if_neg ht, h6 t (fun he => ht (by rw [he]; exact eqT_refl _))]
      exact h.finds t
  · rcases h7 x hx with h' | h'
    · exact List.mem_append_left _ (h.mem x h')
    · rw [h']; simp
end Go.Proofs.Ythhnbfndmjpdgaa
