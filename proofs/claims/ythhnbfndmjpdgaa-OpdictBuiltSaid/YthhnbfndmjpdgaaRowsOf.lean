/- Rows of entries that the call itself has made; plain laws of valid dictionaries: the order does not matter. -/
import Derived.Test.YthhnbfndmjpdgaaSeen
namespace Go.Proofs.Ythhnbfndmjpdgaa
open Go.RowKit Go.Maps

def ecells (l : List Ent) : List Value := l.flatMap Ent.cells
theorem ecells_len (l : List Ent) : (ecells l).length = l.length * 4 := by
  induction l with
  | nil => rfl
  | cons e l ih => unfold ecells at ih ⊢; rw [List.flatMap_cons, List.length_append, ih, List.length_cons]; simp [Ent.cells]; omega
theorem ecells_append (l l' : List Ent) : ecells (l ++ l') = ecells l ++ ecells l' := by simp [ecells]
theorem ecells_one (e : Ent) : ecells [e] = e.cells := by simp [ecells]
theorem ecells_at (l : List Ent) : ∀ (i j : Nat) (e : Ent), l[i]? = some e → j < 4 → (ecells l)[i * 4 + j]? = e.cells[j]? := by
  induction l with
  | nil => intro i j e h; simp at h
  | cons a l ih =>
    intro i j e h hj
    have hc : (ecells (a :: l)) = a.cells ++ ecells l := by simp [ecells]
    rw [hc]
    cases i with
    | zero =>
      cases h
      rw [Nat.zero_mul, Nat.zero_add, List.getElem?_append_left (by simp [Ent.cells]; omega)]
    | succ i =>
      rw [List.getElem?_append_right (by simp [Ent.cells]; omega)]
      have : (i + 1) * 4 + j - a.cells.length = i * 4 + j := by simp [Ent.cells]; omega
      rw [this]
      exact ih i j e h hj
theorem ecells_one' (l : List Ent) : ∀ u ∈ ecells l, u.oneCell' = true := by
  intro u hu
  obtain ⟨e, _, he⟩ := List.mem_flatMap.1 hu
  simp [Ent.cells] at he
  rcases he with rfl | rfl | rfl | rfl <;> rfl

theorem addr_add' (b o i : Nat) : (⟨b, o, none⟩ : Addr).add i = ⟨b, o + i, none⟩ := by
  unfold Addr.add; split
  · simp [*]
  · rfl

/-- what a slice of entries holds, cell by cell -/
theorem ER.cellsOf {w : World} {B : Nat} {b off : Nat} {l : List Ent} (h : ER w B (some ⟨b, off, none⟩) l) : ∀ j u, (ecells l)[j]? = some u → w.cell? ((⟨b, off, none⟩ : Addr).add j) = some u := by
  intro j u hu
  have hj : j < l.length * 4 := by rw [← ecells_len]; exact (List.getElem?_eq_some_iff.1 hu).1
  have hi : j / 4 < l.length := by omega
  obtain ⟨b', off', ha, _, hc⟩ := h.at_ hi
  cases ha
  have hd : j / 4 * 4 + j % 4 = j := by omega
  have h2 := ecells_at l (j / 4) (j % 4) l[j / 4] (List.getElem?_eq_getElem hi) (by omega)
  rw [hd, hu] at h2
  have hm : j % 4 = 0 ∨ j % 4 = 1 ∨ j % 4 = 2 ∨ j % 4 = 3 := by omega
  rw [addr_add', ← hd, ← Nat.add_assoc]
  rcases hm with hm | hm | hm | hm <;> rw [hm] at h2 ⊢ <;> simp [Ent.cells] at h2 <;> subst h2
  · exact hc.c0
  · exact hc.c1
  · exact hc.c2
  · exact hc.c3

/-- a row that the call owns, as a slice of entries -/
theorem ER.of_own {w : World} {base : Nat} {v : Value} {l : List Ent} (h : w.ownsRow base 27 4 v l.length (ecells l)) : ∃ A c, v = .slice A l.length c ∧ ER w w.heap.size A l ∧ l.length ≤ c := by
  have h0 := h
  rcases h.2 with ⟨rfl, hn⟩ | ⟨g, cap, cur, rfl, hb, hh, hnc, _⟩
  · have : l = [] := List.eq_nil_of_length_eq_zero hn
    subst this
    exact ⟨_, _, rfl, ER.nil, Nat.le_refl _⟩
  · refine ⟨_, _, rfl, fun _ => ⟨g, 0, rfl, (h0.lt g rfl).2, fun i e he => ?_⟩, hnc⟩
    have key : ∀ j v, j < 4 → e.cells[j]? = some v → w.cell? ⟨g, 0 + i * 4 + j, none⟩ = some v := by
      intro j v hj hv
      have := h0.cells (g := g) rfl (i * 4 + j) v (by rw [ecells_at l i j e he hj]; exact hv)
      rw [addr_add'] at this
      rw [← this, Nat.add_assoc]
    exact ⟨key 0 _ (by omega) rfl, key 1 _ (by omega) rfl, key 2 _ (by omega) rfl, key 3 _ (by omega) rfl⟩

theorem eqT_symm (a b : ByteArray) : eqT a b = eqT b a := by
  unfold eqT; exact Bool.eq_iff_iff.2 (by simp; exact ⟨Eq.symm, Eq.symm⟩)
theorem eqT_refl (a : ByteArray) : eqT a a = true := by simp [eqT]
theorem eqT_iff (a b : ByteArray) : eqT a b = true ↔ a = b := by
  unfold eqT
  rw [ByteArray.toList_eq, ByteArray.toList_eq]
  constructor
  · intro h
    have h' : a.data.toList = b.data.toList := by simpa using h
    obtain ⟨⟨x⟩⟩ := a; obtain ⟨⟨y⟩⟩ := b
    simp at h'; rw [h']
  · rintro rfl; simp
theorem eqT_trans {a b c : ByteArray} (h : eqT a c = true) (h' : eqT b c = true) : eqT a b = true := by
  rw [eqT_iff] at *; rw [h, h']

def apart (a b : Ent) : Prop := eqT a.text b.text = false
theorem valid_iff (l : List Ent) : validB l = true ↔ l.length ≤ 200 ∧ (∀ e ∈ l, proper e = true) ∧ l.Pairwise apart := by
  unfold validB
  rw [Bool.and_eq_true, List.all_eq_true]
  simp only [decide_eq_true_eq, List.mem_range]
  constructor
  · rintro ⟨h1, h2⟩
    refine ⟨h1, fun e he => ?_, ?_⟩
    · obtain ⟨i, hi, rfl⟩ := List.mem_iff_getElem.1 he
      have := h2 i hi
      rw [okAt_eq l i hi, Bool.and_eq_true] at this
      exact this.1
    · rw [List.pairwise_iff_getElem]
      intro i j hi hj hij
      have := h2 j hj
      rw [okAt_eq l j hj, Bool.and_eq_true] at this
      have h3 : seenB (l.take j) l[j].text = false := by simpa using this.2
      unfold apart
      cases h : eqT l[i].text l[j].text with
      | false => rfl
      | true => rw [seen_take_yes l j _ i hij hi h] at h3; cases h3
  · rintro ⟨h1, h2, h3⟩
    refine ⟨h1, fun i hi => ?_⟩
    rw [okAt_eq l i hi, h2 _ (List.getElem_mem _), seen_take_no l i l[i].text]
    · rfl
    · intro j e hj he
      have hjl : j < l.length := by omega
      rw [List.getElem?_eq_getElem hjl] at he
      cases he
      exact List.pairwise_iff_getElem.1 h3 j i hjl hi hj

theorem valid_reverse (l : List Ent) (h : validB l = true) : validB l.reverse = true := by
  rw [valid_iff] at h ⊢
  refine ⟨by simpa using h.1, fun e he => h.2.1 e (by simpa using he), ?_⟩
  rw [List.pairwise_reverse]
  refine h.2.2.imp ?_
  intro a b hab
  show eqT b.text a.text = false
  rw [eqT_symm]; exact hab

/-- only one entry has a text -/
def Uniq (l : List Ent) : Prop := ∀ a ∈ l, ∀ b ∈ l, eqT a.text b.text = true → a = b
theorem uniq_of_apart (l : List Ent) (h : l.Pairwise apart) : Uniq l := by
  intro a ha b hb hab
  obtain ⟨i, hi, rfl⟩ := List.mem_iff_getElem.1 ha
  obtain ⟨j, hj, rfl⟩ := List.mem_iff_getElem.1 hb
  rw [List.pairwise_iff_getElem] at h
  rcases Nat.lt_trichotomy i j with hij | hij | hij
  · have := h i j hi hj hij; rw [apart, hab] at this; cases this
  · subst hij; rfl
  · have := h j i hj hi hij; rw [apart, eqT_symm, hab] at this; cases this
theorem uniq_of_valid (l : List Ent) (h : validB l = true) : Uniq l := uniq_of_apart l ((valid_iff l).1 h).2.2

theorem find_of_mem (l : List Ent) (hu : Uniq l) (e : Ent) (he : e ∈ l) (x : ByteArray) (hx : eqT e.text x = true) : find l x = e := by
  unfold find
  cases h : l.find? (fun e => eqT e.text x) with
  | none => exact absurd hx (by have := List.find?_eq_none.1 h e he; simpa using this)
  | some f =>
    have h1 := List.find?_some h
    have h2 := List.mem_of_find?_eq_some h
    exact hu f h2 e he (eqT_trans h1 hx)
theorem find_of_no (l : List Ent) (x : ByteArray) (h : ∀ e ∈ l, eqT e.text x = false) : find l x = ⟨x, 0, false, false⟩ := by
  unfold find
  rw [List.find?_eq_none.2 (fun e he => by simp [h e he])]
  rfl
theorem find_congr (l l' : List Ent) (hu : Uniq l) (hu' : Uniq l') (hm : ∀ e, e ∈ l ↔ e ∈ l') (x : ByteArray) : find l x = find l' x := by
  by_cases h : ∃ e ∈ l, eqT e.text x = true
  · obtain ⟨e, he, hx⟩ := h
    rw [find_of_mem l hu e he x hx, find_of_mem l' hu' e ((hm e).1 he) x hx]
  · have h1 : ∀ e ∈ l, eqT e.text x = false := fun e he => by
      cases hh : eqT e.text x with
      | false => rfl
      | true => exact absurd ⟨e, he, hh⟩ h
    rw [find_of_no l x h1, find_of_no l' x (fun e he => h1 e ((hm e).2 he))]
theorem find_reverse (l : List Ent) (h : validB l = true) (x : ByteArray) : find l x = find l.reverse x :=
  find_congr _ _ (uniq_of_valid _ h) (uniq_of_valid _ (valid_reverse l h)) (fun e => by simp) x
end Go.Proofs.Ythhnbfndmjpdgaa
