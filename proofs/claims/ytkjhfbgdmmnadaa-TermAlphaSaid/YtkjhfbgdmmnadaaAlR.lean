/- A region that draws its order and holds two chains append(append([]string{}, x...), y), by an invariant over what has been done. -/
import Derived.Test.YtkjhfbgdmmnadaaAlp
import Derived.Test.YtkjhfbgdmmnadaaInv
import Derived.Deep.AppendLies
import Derived.Deep.RegionLaw
import Derived.OwnWalk
import Derived.Laws.OwnMore
import Derived.Laws.AppendOwnNone
namespace Go.Proofs.Ytkjhfbgdmmnadaa
open Go.RowKit
section
variable {n0 : Nat}
/-- a row of the call's own, in block r -/
def RA (w : World) (n0 r : Nat) (v : Value) (xs : List W8) : Prop := ∃ cap, v = .slice (some ⟨r, 0, none⟩) xs.length cap ∧ w.ownsRow n0 9 1 v xs.length (xs.map encS)
theorem RA.keep {w w' : World} {r : Nat} {v : Value} {xs : List W8} (h : RA w n0 r v xs) (hb : w'.heap[r]? = w.heap[r]?) : RA w' n0 r v xs := by
  obtain ⟨cap, rfl, hl, h⟩ := h
  refine ⟨cap, rfl, hl, ?_⟩
  rcases h with ⟨h, _⟩ | ⟨g, cap', cur, h1, h2, h3, h4⟩
  · cases h
  · have e : r = g := by injection h1 with h1 _ _; injection h1 with h1; injection h1
    subst e
    exact .inr ⟨r, cap', cur, h1, h2, hb.trans h3, h4⟩
theorem RA.lt {w : World} {r : Nat} {v : Value} {xs : List W8} (h : RA w n0 r v xs) : n0 ≤ r ∧ r < w.heap.size := by
  obtain ⟨cap, rfl, h⟩ := h
  exact h.lt r rfl
theorem own0_keep {w w' : World} {r : Nat} (h : w.ownsRow n0 9 1 (.slice (some ⟨r, 0, none⟩) 0 0) 0 []) (hb : w'.heap[r]? = w.heap[r]?) : w'.ownsRow n0 9 1 (.slice (some ⟨r, 0, none⟩) 0 0) 0 [] := by
  have h1 : RA w n0 r (.slice (some ⟨r, 0, none⟩) 0 0) [] := ⟨0, rfl, h⟩
  obtain ⟨_, _, h2⟩ := h1.keep hb
  exact h2

theorem ap0 {o : Oper} {a : Act} {K : Act → World → Prop} {Q : Exit → Act → World → Prop} (w : World) (s x : Operand) (hgd : o.guard = none)
    (ho : o.op = .call { callee := .builtin .append, args := #[s, x], argTypes := #[30, 30] }) (r : Nat) (hown : w.ownsRow n0 9 1 (.slice (some ⟨r, 0, none⟩) 0 0) 0 []) (hs : a.eval s = .slice (some ⟨r, 0, none⟩) 0 0)
    (PA : Option Addr) (c : Nat) (p : List W8) (hx : a.eval x = .slice PA p.length c) (hn : PA = none → p = [] ∧ c = 0) (hc : ∀ ad, PA = some ad → ∀ j (h : j < p.length), w.cell? (ad.add j) = some (.string ⟨p[j].toArray⟩)) (hl : p.length ≤ 100000) (hB : n0 ≤ w.heap.size)
    (h : ∀ v7 r7 w7, RA w7 n0 r7 v7 p → (r7 = r ∨ r7 = w.heap.size) → w.grownBy w7 (some r) → K (a.put o.dst v7) w7) : Oper.wp Try.prog o a w K Q := by
  obtain ⟨i0, hi0, hz0, hz1, hz2⟩ := info_parts str_info
  have hrefl : w.grownBy w (some r) := ⟨rfl, rfl, rfl, Nat.le_refl _, fun _ _ _ => rfl⟩
  cases PA with
  | none =>
    obtain ⟨rfl, rfl⟩ := hn rfl
    have hrun := run_append_owned_none (P := Try.prog) (w := w) n0 30 o.type 9 i0 1 Try.underlying30 hi0 (.slice (some ⟨r, 0, none⟩) 0 0) 0 [] hown
    have hx' : a.eval x = .slice none 0 0 := hx
    unfold Oper.wp
    simp [execOp, ho, resolve, invoke, builtin, hs, hx', hrun, Result.andThen]
    exact h _ r _ ⟨0, rfl, hown⟩ (.inl rfl) hrefl
  | some ad =>
  replace hc := hc ad rfl
  by_cases hp : p = []
  · subst hp
    have hw : Region.wanted o (yielded #[] a.tmps) = true := by simp [Region.wanted, hgd]
    have := step_append_room (ops := #[]) (K := K) (Q := Q) (E := False) hgd s x 30 ho 9 i0 1 Try.underlying30 hi0 hz1 r 0 0 0 hs ad 0 c [] hx rfl (fun j u hu => by simp at hu) (by simp) (Nat.le_refl _) (fun j hj => by simp at hj) (by
      have e : w.setCells r (0 + 0 * 1) [] = w := by simp [World.setCells]
      rw [e]
      exact h _ r _ ⟨0, rfl, hown⟩ (.inl rfl) hrefl)
    rwa [if_pos hw] at this
  · have hpos : 0 < p.length := List.length_pos_iff.2 hp
    refine wp_append_lies w s x 30 ho n0 9 i0 _ 1 16 Try.underlying30 hi0 hz0 hz1 hz2 rfl (by decide) _ 0 [] hs hown ad p.length c (p.map encS) hx (by simp) (fun j u hu => ?_) (fun u hu => ?_) hpos (by unfold maxLen; omega) (by omega) hB _ rfl ?_
    · obtain ⟨hj, hu'⟩ := List.getElem?_eq_some_iff.1 hu
      have hj' : j < p.length := by simpa using hj
      rw [List.getElem_map] at hu'
      subst hu'
      exact hc j hj'
    · obtain ⟨y, _, rfl⟩ := List.mem_map.1 hu
      rfl
    · intro g7 cap7 w7 hown7 hgrow7 hg7 _
      rw [Nat.zero_add] at hown7 ⊢
      rw [List.nil_append] at hown7
      refine h _ g7 w7 ⟨cap7, rfl, hown7⟩ ?_ hgrow7
      rcases hg7 with e | e
      · exact .inl (by simpa [Value.ownBlock] using e.symm)
      · exact .inr e

theorem ap1 {o : Oper} {a : Act} {K : Act → World → Prop} {Q : Exit → Act → World → Prop} (w : World) (s x : Operand) (r : Nat) (xs : List W8) (e : Nat) (y : W8)
    (ho : o.op = .call { callee := .builtin .append, args := #[s, x], argTypes := #[30, 30] }) (hR : RA w n0 r (a.eval s) xs) (hx : a.eval x = .slice (some ⟨e, 0, none⟩) 1 1) (hc : w.cell? ⟨e, 0, none⟩ = some (.string ⟨y.toArray⟩)) (hl : xs.length ≤ 100000) (hB : n0 ≤ w.heap.size)
    (h : ∀ v7 r7 w7, RA w7 n0 r7 v7 (xs ++ [y]) → (r7 = r ∨ r7 = w.heap.size) → w.grownBy w7 (some r) → K (a.put o.dst v7) w7) : Oper.wp Try.prog o a w K Q := by
  obtain ⟨i0, hi0, hz0, hz1, hz2⟩ := info_parts str_info
  obtain ⟨cap, hs, hown⟩ := hR
  refine wp_append_lies w s x 30 ho n0 9 i0 _ 1 16 Try.underlying30 hi0 hz0 hz1 hz2 rfl (by decide) _ xs.length (xs.map encS) rfl hown ⟨e, 0, none⟩ 1 1 [.string ⟨y.toArray⟩] hx rfl (fun j u hu => ?_) (fun u hu => ?_) (by decide) (by unfold maxLen; omega) (by omega) hB _ rfl ?_
  · cases j with
    | zero => simp at hu; subst hu; exact hc
    | succ j => simp at hu
  · simp at hu; subst hu; rfl
  · intro g7 cap7 w7 hown7 hgrow7 hg7 _
    rw [hs] at hgrow7 hg7
    refine h _ g7 w7 ⟨cap7, by simp, ?_⟩ ?_ hgrow7
    · rw [List.length_append, List.map_append]; exact hown7
    · rcases hg7 with e | e
      · exact .inl (by simpa [Value.ownBlock] using e.symm)
      · exact .inr e

theorem ev_put {a : Act} {d : Nat} {v : Value} (h : d < a.tmps.size) : (a.put (some d) v).eval (.tmp d) = v := by simp [Act.put, Act.eval, h]
theorem ev_ne {a : Act} {d j : Nat} {v : Value} (h : d ≠ j) : (a.put (some d) v).eval (.tmp j) = a.eval (.tmp j) := by
  simp [Act.put, Act.eval, h]

/-- one chain: append(append([]string{}, x...), y) in seven operations, slots k .. k + 6; l: which are done -/
structure Ch (n0 k : Nat) (src : Value) (x : List W8) (tv : W8) (p : Addr) (l : Nat → Bool) (r e : Nat) (a : Act) (w : World) : Prop where
  h0 : l 0 = true → l 2 = false → a.eval (.tmp k) = .slice (some ⟨r, 0, none⟩) 0 0 ∧ w.ownsRow n0 9 1 (.slice (some ⟨r, 0, none⟩) 0 0) 0 []
  h1 : l 1 = true → a.eval (.tmp (k + 1)) = src
  h2 : l 2 = true → l 6 = false → RA w n0 r (a.eval (.tmp (k + 2))) x
  h3 : l 3 = true → a.eval (.tmp (k + 3)) = .pointer (some p)
  h4 : l 4 = true → a.eval (.tmp (k + 4)) = .string ⟨tv.toArray⟩
  h5 : l 5 = true → a.eval (.tmp (k + 5)) = .slice (some ⟨e, 0, none⟩) 1 1 ∧ w.cell? ⟨e, 0, none⟩ = some (.string ⟨tv.toArray⟩) ∧ e < w.heap.size
  h6 : l 6 = true → RA w n0 r (a.eval (.tmp (k + 6))) (x ++ [tv])
  c2 : l 2 = true → l 0 = true
  c6 : l 6 = true → l 2 = true ∧ l 5 = true
  hd : l 0 = true → l 5 = true → r ≠ e
  hr : l 0 = true → r < w.heap.size

theorem heap_cell {w w' : World} {b : Nat} (h : w'.heap[b]? = w.heap[b]?) (o : Nat) : w'.cell? ⟨b, o, none⟩ = w.cell? ⟨b, o, none⟩ := by simp only [World.cell?, h]

theorem Ch.frame {k : Nat} {src : Value} {x : List W8} {tv : W8} {p : Addr} {l l' : Nat → Bool} {r e : Nat} {a a' : Act} {w w' : World} (h : Ch n0 k src x tv p l r e a w)
    (hl : ∀ j : Nat, j ≤ 6 → l' j = l j) (ha : ∀ j : Nat, j ≤ 6 → a'.eval (.tmp (k + j)) = a.eval (.tmp (k + j))) (hs : w.heap.size ≤ w'.heap.size) (hr : l 0 = true → w'.heap[r]? = w.heap[r]?) (he : l 5 = true → w'.heap[e]? = w.heap[e]?) : Ch n0 k src x tv p l' r e a' w' := by
  have l0 := hl 0 (by omega); have l1 := hl 1 (by omega); have l2 := hl 2 (by omega); have l3 := hl 3 (by omega); have l4 := hl 4 (by omega); have l5 := hl 5 (by omega); have l6 := hl 6 (by omega)
  have a0 := ha 0 (by omega); have a1 := ha 1 (by omega); have a2 := ha 2 (by omega); have a3 := ha 3 (by omega); have a4 := ha 4 (by omega); have a5 := ha 5 (by omega); have a6 := ha 6 (by omega)
  rw [Nat.add_zero] at a0
  refine ⟨?_, ?_, ?_, ?_, ?_, ?_, ?_, ?_, ?_, ?_, ?_⟩
  · rw [l0, l2, a0]; intro q1 q2; exact ⟨(h.h0 q1 q2).1, own0_keep (h.h0 q1 q2).2 (hr q1)⟩
  · rw [l1, a1]; exact h.h1
  · rw [l2, l6, a2]; intro q1 q2; exact (h.h2 q1 q2).keep (hr (h.c2 q1))
  · rw [l3, a3]; exact h.h3
  · rw [l4, a4]; exact h.h4
  · rw [l5, a5]; intro q; exact ⟨(h.h5 q).1, (heap_cell (he q) 0).trans (h.h5 q).2.1, Nat.lt_of_lt_of_le (h.h5 q).2.2 hs⟩
  · rw [l6, a6]; intro q; exact (h.h6 q).keep (hr (h.c2 (h.c6 q).1))
  · rw [l0, l2]; exact h.c2
  · rw [l2, l5, l6]; exact h.c6
  · rw [l0, l5]; exact h.hd
  · rw [l0]; intro q; exact Nat.lt_of_lt_of_le (h.hr q) hs

/-- the two chains' blocks are apart -/
structure Cr (l m : Nat → Bool) (r e s f : Nat) : Prop where
  rs : l 0 = true → m 0 = true → r ≠ s
  rf : l 0 = true → m 5 = true → r ≠ f
  es : l 5 = true → m 0 = true → e ≠ s
/-- one chain with the parameters that do not change -/
structure Pm where
  k : Nat
  src : Value
  x : List W8
  tv : W8
  p : Addr
def Two (n0 : Nat) (A B : Pm) (l m : Nat → Bool) (a : Act) (w : World) : Prop :=
  ∃ r e s f, Ch n0 A.k A.src A.x A.tv A.p l r e a w ∧ Ch n0 B.k B.src B.x B.tv B.p m s f a w ∧ Cr l m r e s f
theorem Two.symm {A B : Pm} {l m : Nat → Bool} {a : Act} {w : World} (h : Two n0 A B l m a w) : Two n0 B A m l a w := by
  obtain ⟨r, e, s, f, h1, h2, h3⟩ := h
  exact ⟨s, f, r, e, h2, h1, ⟨fun a b => (h3.rs b a).symm, fun a b => (h3.es b a).symm, fun a b => (h3.rf b a).symm⟩⟩

section
variable {A B : Pm} {l m l' m' : Nat → Bool} {a : Act} {w : World}
/-- a step that leaves the memory -/
theorem Two.quiet (h : Two n0 A B l m a w) (i : Nat) (v : Value) (hi : i = 1 ∨ i = 3 ∨ i = 4) (hk : A.k + 6 < a.tmps.size) (hAB : A.k + 6 < B.k ∨ B.k + 6 < A.k)
    (hl : ∀ j : Nat, j ≤ 6 → j ≠ i → l' j = l j) (hli : l' i = true) (hm : ∀ j : Nat, j ≤ 6 → m' j = m j)
    (hv : (i = 1 → v = A.src) ∧ (i = 3 → v = .pointer (some A.p)) ∧ (i = 4 → v = .string ⟨A.tv.toArray⟩)) : Two n0 A B l' m' (a.put (some (A.k + i)) v) w := by
  obtain ⟨r, e, s, f, h1, h2, h3⟩ := h
  have hne : ∀ j : Nat, j ≤ 6 → j ≠ i → (a.put (some (A.k + i)) v).eval (.tmp (A.k + j)) = a.eval (.tmp (A.k + j)) := fun j _ hj => ev_ne (by omega)
  have hmy : (a.put (some (A.k + i)) v).eval (.tmp (A.k + i)) = v := ev_put (by rcases hi with rfl | rfl | rfl <;> omega)
  have l0 := hl 0 (by omega) (by omega); have l2 := hl 2 (by omega) (by omega); have l5 := hl 5 (by omega) (by omega); have l6 := hl 6 (by omega) (by omega)
  have e0 := hne 0 (by omega) (by omega); have e2 := hne 2 (by omega) (by omega); have e5 := hne 5 (by omega) (by omega); have e6 := hne 6 (by omega) (by omega)
  simp only [Nat.add_zero] at e0
  have m0 := hm 0 (by omega); have m5 := hm 5 (by omega)
  refine ⟨r, e, s, f, ⟨?_, ?_, ?_, ?_, ?_, ?_, ?_, ?_, ?_, ?_, ?_⟩, h2.frame hm (fun j hj => ev_ne (by rcases hi with rfl | rfl | rfl <;> omega)) (Nat.le_refl _) (fun _ => rfl) (fun _ => rfl), ⟨?_, ?_, ?_⟩⟩
  · rw [l0, l2, e0]; exact h1.h0
  · by_cases q : i = 1
    · subst q; intro _; rw [hmy]; exact hv.1 rfl
    · rw [hl 1 (by omega) (Ne.symm q), hne 1 (by omega) (Ne.symm q)]; exact h1.h1
  · rw [l2, l6, e2]; exact h1.h2
  · by_cases q : i = 3
    · subst q; intro _; rw [hmy]; exact hv.2.1 rfl
    · rw [hl 3 (by omega) (Ne.symm q), hne 3 (by omega) (Ne.symm q)]; exact h1.h3
  · by_cases q : i = 4
    · subst q; intro _; rw [hmy]; exact hv.2.2 rfl
    · rw [hl 4 (by omega) (Ne.symm q), hne 4 (by omega) (Ne.symm q)]; exact h1.h4
  · rw [l5, e5]; exact h1.h5
  · rw [l6, e6]; exact h1.h6
  · rw [l0, l2]; exact h1.c2
  · rw [l2, l5, l6]; exact h1.c6
  · rw [l0, l5]; exact h1.hd
  · rw [l0]; exact h1.hr
  · rw [l0, m0]; exact h3.rs
  · rw [l0, m5]; exact h3.rf
  · rw [l5, m0]; exact h3.es
/-- []string{} -/
theorem Two.lit (h : Two n0 A B l m a w) (hk : A.k + 6 < a.tmps.size) (hAB : A.k + 6 < B.k ∨ B.k + 6 < A.k) (hB : n0 ≤ w.heap.size) (hl0 : l 0 = false)
    (hl : ∀ j : Nat, j ≤ 6 → j ≠ 0 → l' j = l j) (hm : ∀ j : Nat, j ≤ 6 → m' j = m j) : Two n0 A B l' m' (a.put (some A.k) (.slice (some ⟨w.heap.size, 0, none⟩) 0 0)) (w.alloc (.cells #[] 9)) := by
  obtain ⟨r, e, s, f, h1, h2, h3⟩ := h
  have hne : ∀ j : Nat, j ≤ 6 → j ≠ 0 → (a.put (some A.k) (.slice (some ⟨w.heap.size, 0, none⟩) 0 0)).eval (.tmp (A.k + j)) = a.eval (.tmp (A.k + j)) := fun j _ hj => ev_ne (by omega)
  have hmy : (a.put (some A.k) (.slice (some ⟨w.heap.size, 0, none⟩) 0 0)).eval (.tmp A.k) = .slice (some ⟨w.heap.size, 0, none⟩) 0 0 := ev_put (by omega)
  have hl2 : l 2 = false := by
    cases q : l 2 with
    | false => rfl
    | true => rw [h1.c2 q] at hl0; cases hl0
  have hl6 : l 6 = false := by
    cases q : l 6 with
    | false => rfl
    | true => rw [(h1.c6 q).1] at hl2; cases hl2
  have l2 := (hl 2 (by omega) (by omega)).trans hl2; have l6 := (hl 6 (by omega) (by omega)).trans hl6
  have hb : ∀ b, b < w.heap.size → (w.alloc (.cells #[] 9)).heap[b]? = w.heap[b]? := fun b hb => Below.heap_alloc _ _ _ hb
  have hsz : w.heap.size ≤ (w.alloc (.cells #[] 9)).heap.size := by simp
  refine ⟨w.heap.size, e, s, f, ⟨?_, ?_, ?_, ?_, ?_, ?_, ?_, ?_, ?_, ?_, ?_⟩, h2.frame hm (fun j hj => ev_ne (by omega)) hsz (fun q => hb _ (h2.hr q)) (fun q => hb _ (h2.h5 q).2.2), ⟨?_, ?_, ?_⟩⟩
  · intro _ _
    exact ⟨hmy, World.ownsRow_made w #[] 0 hB (by unfold maxLen; omega) (by simp)⟩
  · rw [hl 1 (by omega) (by omega), hne 1 (by omega) (by omega)]; exact h1.h1
  · rw [l2]; intro q; cases q
  · rw [hl 3 (by omega) (by omega), hne 3 (by omega) (by omega)]; exact h1.h3
  · rw [hl 4 (by omega) (by omega), hne 4 (by omega) (by omega)]; exact h1.h4
  · rw [hl 5 (by omega) (by omega), hne 5 (by omega) (by omega)]; intro q; exact ⟨(h1.h5 q).1, (heap_cell (hb _ (h1.h5 q).2.2) 0).trans (h1.h5 q).2.1, Nat.lt_of_lt_of_le (h1.h5 q).2.2 hsz⟩
  · rw [l6]; intro q; cases q
  · rw [l2]; intro q; cases q
  · rw [l6]; intro q; cases q
  · rw [hl 5 (by omega) (by omega)]; intro _ q; have := (h1.h5 q).2.2; omega
  · intro _; simp
  · rw [hm 0 (by omega)]; intro _ q; have := h2.hr q; omega
  · rw [hm 5 (by omega)]; intro _ q; have := (h2.h5 q).2.2; omega
  · rw [hl 5 (by omega) (by omega), hm 0 (by omega)]; exact h3.es
/-- []string{y} -/
theorem Two.elem (h : Two n0 A B l m a w) (hk : A.k + 6 < a.tmps.size) (hAB : A.k + 6 < B.k ∨ B.k + 6 < A.k) (hl5 : l 5 = false)
    (hl : ∀ j : Nat, j ≤ 6 → j ≠ 5 → l' j = l j) (hm : ∀ j : Nat, j ≤ 6 → m' j = m j) : Two n0 A B l' m' (a.put (some (A.k + 5)) (.slice (some ⟨w.heap.size, 0, none⟩) 1 1)) (w.alloc (.cells #[.string ⟨A.tv.toArray⟩] 9)) := by
  obtain ⟨r, e, s, f, h1, h2, h3⟩ := h
  have hne : ∀ j : Nat, j ≤ 6 → j ≠ 5 → (a.put (some (A.k + 5)) (.slice (some ⟨w.heap.size, 0, none⟩) 1 1)).eval (.tmp (A.k + j)) = a.eval (.tmp (A.k + j)) := fun j _ hj => ev_ne (by omega)
  have hmy : (a.put (some (A.k + 5)) (.slice (some ⟨w.heap.size, 0, none⟩) 1 1)).eval (.tmp (A.k + 5)) = .slice (some ⟨w.heap.size, 0, none⟩) 1 1 := ev_put (by omega)
  have hl6 : l 6 = false := by
    cases q : l 6 with
    | false => rfl
    | true => rw [(h1.c6 q).2] at hl5; cases hl5
  have l0 := hl 0 (by omega) (by omega); have l2 := hl 2 (by omega) (by omega); have l6 := (hl 6 (by omega) (by omega)).trans hl6
  have hb : ∀ b, b < w.heap.size → (w.alloc (.cells #[.string ⟨A.tv.toArray⟩] 9)).heap[b]? = w.heap[b]? := fun b hb => Below.heap_alloc _ _ _ hb
  have hsz : w.heap.size ≤ (w.alloc (.cells #[.string ⟨A.tv.toArray⟩] 9)).heap.size := by simp
  have e0 := hne 0 (by omega) (by omega)
  simp only [Nat.add_zero] at e0
  refine ⟨r, w.heap.size, s, f, ⟨?_, ?_, ?_, ?_, ?_, ?_, ?_, ?_, ?_, ?_, ?_⟩, h2.frame hm (fun j hj => ev_ne (by omega)) hsz (fun q => hb _ (h2.hr q)) (fun q => hb _ (h2.h5 q).2.2), ⟨?_, ?_, ?_⟩⟩
  · rw [l0, l2, e0]; intro q1 q2; exact ⟨(h1.h0 q1 q2).1, own0_keep (h1.h0 q1 q2).2 (hb _ (h1.hr q1))⟩
  · rw [hl 1 (by omega) (by omega), hne 1 (by omega) (by omega)]; exact h1.h1
  · rw [l2, hne 2 (by omega) (by omega)]; intro q _; exact (h1.h2 q hl6).keep (hb _ (h1.hr (h1.c2 q)))
  · rw [hl 3 (by omega) (by omega), hne 3 (by omega) (by omega)]; exact h1.h3
  · rw [hl 4 (by omega) (by omega), hne 4 (by omega) (by omega)]; exact h1.h4
  · intro _; exact ⟨hmy, by simp, by simp⟩
  · rw [l6]; intro q; cases q
  · rw [l0, l2]; exact h1.c2
  · rw [l6]; intro q; cases q
  · rw [l0]; intro q _; have := h1.hr q; omega
  · rw [l0]; intro q; exact Nat.lt_of_lt_of_le (h1.hr q) hsz
  · rw [l0, hm 0 (by omega)]; exact h3.rs
  · rw [l0, hm 5 (by omega)]; exact h3.rf
  · rw [hm 0 (by omega)]; intro _ q; have := h2.hr q; omega
/-- append([]string{}, x...) -/
theorem Two.all (h : Two n0 A B l m a w) (hk : A.k + 6 < a.tmps.size) (hAB : A.k + 6 < B.k ∨ B.k + 6 < A.k) (hl2 : l 2 = false) (hl0 : l 0 = true) (hl1 : l 1 = true)
    (hl : ∀ j : Nat, j ≤ 6 → j ≠ 2 → l' j = l j) (hli : l' 2 = true) (hm : ∀ j : Nat, j ≤ 6 → m' j = m j) {o : Oper} {K : Act → World → Prop} {Q : Exit → Act → World → Prop} (hB : n0 ≤ w.heap.size)
    (hgd : o.guard = none) (hdst : o.dst = some (A.k + 2)) (ho : o.op = .call { callee := .builtin .append, args := #[.tmp A.k, .tmp (A.k + 1)], argTypes := #[30, 30] })
    (PA : Option Addr) (c : Nat) (hx : A.src = .slice PA A.x.length c) (hn : PA = none → A.x = [] ∧ c = 0) (hc : ∀ ad, PA = some ad → ∀ j (h : j < A.x.length), w.cell? (ad.add j) = some (.string ⟨A.x[j].toArray⟩)) (hxl : A.x.length ≤ 100000)
    (hK : ∀ v w', Two n0 A B l' m' (a.put (some (A.k + 2)) v) w' → Below n0 w w' → K (a.put (some (A.k + 2)) v) w') : Oper.wp Try.prog o a w K Q := by
  obtain ⟨r, e, s, f, h1, h2, h3⟩ := h
  obtain ⟨g1, g2⟩ := h1.h0 hl0 hl2
  have hrl := g2.lt r rfl
  refine ap0 w _ _ hgd ho r g2 g1 PA c A.x ((h1.h1 hl1).trans hx) hn hc hxl hB (fun v7 r7 w7 hR hr7 hgr => ?_)
  rw [hdst]
  have hl6 : l 6 = false := by
    cases q : l 6 with
    | false => rfl
    | true => rw [(h1.c6 q).1] at hl2; cases hl2
  have hne : ∀ j : Nat, j ≤ 6 → j ≠ 2 → (a.put (some (A.k + 2)) v7).eval (.tmp (A.k + j)) = a.eval (.tmp (A.k + j)) := fun j _ hj => ev_ne (by omega)
  have hmy : (a.put (some (A.k + 2)) v7).eval (.tmp (A.k + 2)) = v7 := ev_put (by omega)
  have l0 := hl 0 (by omega) (by omega); have l6 := (hl 6 (by omega) (by omega)).trans hl6
  have hb : ∀ b, b < w.heap.size → b ≠ r → w7.heap[b]? = w.heap[b]? := fun b hb hne => hgr.block b hb (fun e => hne (Option.some.inj e))
  refine hK v7 w7 ⟨r7, e, s, f, ⟨?_, ?_, ?_, ?_, ?_, ?_, ?_, ?_, ?_, ?_, ?_⟩, h2.frame hm (fun j hj => ev_ne (by omega)) hgr.size (fun q => hb _ (h2.hr q) (h3.rs hl0 q).symm) (fun q => hb _ (h2.h5 q).2.2 (h3.rf hl0 q).symm), ⟨?_, ?_, ?_⟩⟩ ((Below.refl n0 w).grown hgr hB (fun k hk => by cases hk; exact hrl.1))
  · rw [hli]; intro _ q; cases q
  · rw [hl 1 (by omega) (by omega), hne 1 (by omega) (by omega)]; exact h1.h1
  · intro _ _; rw [hmy]; exact hR
  · rw [hl 3 (by omega) (by omega), hne 3 (by omega) (by omega)]; exact h1.h3
  · rw [hl 4 (by omega) (by omega), hne 4 (by omega) (by omega)]; exact h1.h4
  · rw [hl 5 (by omega) (by omega), hne 5 (by omega) (by omega)]; intro q; exact ⟨(h1.h5 q).1, (heap_cell (hb _ (h1.h5 q).2.2 (h1.hd hl0 q).symm) 0).trans (h1.h5 q).2.1, Nat.lt_of_lt_of_le (h1.h5 q).2.2 hgr.size⟩
  · rw [l6]; intro q; cases q
  · rw [l0]; intro _; exact hl0
  · rw [l6]; intro q; cases q
  · rw [hl 5 (by omega) (by omega)]; intro _ q
    rcases hr7 with rfl | rfl
    · exact h1.hd hl0 q
    · have := (h1.h5 q).2.2; omega
  · intro _; exact hR.lt.2
  · rw [hm 0 (by omega)]; intro _ q
    rcases hr7 with rfl | rfl
    · exact h3.rs hl0 q
    · have := h2.hr q; omega
  · rw [hm 5 (by omega)]; intro _ q
    rcases hr7 with rfl | rfl
    · exact h3.rf hl0 q
    · have := (h2.h5 q).2.2; omega
  · rw [hl 5 (by omega) (by omega), hm 0 (by omega)]; exact h3.es
/-- append(.., y) -/
theorem Two.last (h : Two n0 A B l m a w) (hk : A.k + 6 < a.tmps.size) (hAB : A.k + 6 < B.k ∨ B.k + 6 < A.k) (hl6 : l 6 = false) (hl2 : l 2 = true) (hl5 : l 5 = true)
    (hl : ∀ j : Nat, j ≤ 6 → j ≠ 6 → l' j = l j) (hli : l' 6 = true) (hm : ∀ j : Nat, j ≤ 6 → m' j = m j) {o : Oper} {K : Act → World → Prop} {Q : Exit → Act → World → Prop} (hB : n0 ≤ w.heap.size)
    (hdst : o.dst = some (A.k + 6)) (ho : o.op = .call { callee := .builtin .append, args := #[.tmp (A.k + 2), .tmp (A.k + 5)], argTypes := #[30, 30] }) (hxl : A.x.length ≤ 100000)
    (hK : ∀ v w', Two n0 A B l' m' (a.put (some (A.k + 6)) v) w' → Below n0 w w' → K (a.put (some (A.k + 6)) v) w') : Oper.wp Try.prog o a w K Q := by
  obtain ⟨r, e, s, f, h1, h2, h3⟩ := h
  have hR0 := h1.h2 hl2 hl6
  have hrl := hR0.lt
  have hl0 := h1.c2 hl2
  obtain ⟨g1, g2, g3⟩ := h1.h5 hl5
  refine ap1 w _ _ r A.x e A.tv ho hR0 g1 g2 hxl hB (fun v7 r7 w7 hR hr7 hgr => ?_)
  rw [hdst]
  have hne : ∀ j : Nat, j ≤ 6 → j ≠ 6 → (a.put (some (A.k + 6)) v7).eval (.tmp (A.k + j)) = a.eval (.tmp (A.k + j)) := fun j _ hj => ev_ne (by omega)
  have hmy : (a.put (some (A.k + 6)) v7).eval (.tmp (A.k + 6)) = v7 := ev_put (by omega)
  have l0 := hl 0 (by omega) (by omega); have l2 := hl 2 (by omega) (by omega); have l5 := hl 5 (by omega) (by omega)
  have hb : ∀ b, b < w.heap.size → b ≠ r → w7.heap[b]? = w.heap[b]? := fun b hb hne => hgr.block b hb (fun e => hne (Option.some.inj e))
  refine hK v7 w7 ⟨r7, e, s, f, ⟨?_, ?_, ?_, ?_, ?_, ?_, ?_, ?_, ?_, ?_, ?_⟩, h2.frame hm (fun j hj => ev_ne (by omega)) hgr.size (fun q => hb _ (h2.hr q) (h3.rs hl0 q).symm) (fun q => hb _ (h2.h5 q).2.2 (h3.rf hl0 q).symm), ⟨?_, ?_, ?_⟩⟩ ((Below.refl n0 w).grown hgr hB (fun k hk => by cases hk; exact hrl.1))
  · rw [l2, hl2]; intro _ q; cases q
  · rw [hl 1 (by omega) (by omega), hne 1 (by omega) (by omega)]; exact h1.h1
  · rw [hli]; intro _ q; cases q
  · rw [hl 3 (by omega) (by omega), hne 3 (by omega) (by omega)]; exact h1.h3
  · rw [hl 4 (by omega) (by omega), hne 4 (by omega) (by omega)]; exact h1.h4
  · rw [l5, hne 5 (by omega) (by omega)]; intro q; exact ⟨(h1.h5 q).1, (heap_cell (hb _ g3 (h1.hd hl0 q).symm) 0).trans g2, Nat.lt_of_lt_of_le g3 hgr.size⟩
  · intro _; rw [hmy]; exact hR
  · rw [l0]; intro _; exact hl0
  · rw [l2, l5]; intro _; exact ⟨hl2, hl5⟩
  · intro _ _
    rcases hr7 with rfl | rfl
    · exact h1.hd hl0 hl5
    · omega
  · intro _; exact hR.lt.2
  · rw [hm 0 (by omega)]; intro _ q
    rcases hr7 with rfl | rfl
    · exact h3.rs hl0 q
    · have := h2.hr q; omega
  · rw [hm 5 (by omega)]; intro _ q
    rcases hr7 with rfl | rfl
    · exact h3.rf hl0 q
    · have := (h2.h5 q).2.2; omega
  · rw [l5, hm 0 (by omega)]; exact h3.es
end
end
section
variable {n0 : Nat}
/-- operation o waits for number p, in whatever order -/
def preB (o : Oper) (p : Nat) : Bool := o.after.any fun e => Region.binds .any e && e.on == p
/-- every operation waits for earlier ones alone -/
def lowB (ops : Array Oper) : Bool := (List.range ops.size).all fun i => match ops[i]? with
  | some o => o.after.all fun e => !Region.binds .any e || decide (e.on < i)
  | none => true
theorem pre_listed {ops : Array Oper} {listed : Array Bool} {i p : Nat} {o : Oper} (hr : i ∈ Region.ready .any ops listed) (ho : ops[i]? = some o) (hp : preB o p = true) : listed.getD p false = true := by
  obtain ⟨_, o', ho', hall⟩ := mem_ready.1 hr
  rw [ho] at ho'
  injection ho' with ho'
  subst ho'
  obtain ⟨k, hk, he⟩ := Array.any_eq_true.1 hp
  simp only [Bool.and_eq_true, beq_iff_eq] at he
  have := hall _ (Array.getElem_mem hk) he.1
  rwa [he.2] at this
theorem ready_new {ops : Array Oper} {listed : Array Bool} {i : Nat} (hr : i ∈ Region.ready .any ops listed) (hs : listed.size = ops.size) : i < ops.size ∧ listed.getD i false = false := by
  obtain ⟨h1, o, ho, _⟩ := mem_ready.1 hr
  have hlt := (Array.getElem?_eq_some_iff.1 ho).1
  refine ⟨hlt, ?_⟩
  have hl : i < listed.size := by omega
  simp [hl] at h1 ⊢
  exact h1
theorem listed_all {ops : Array Oper} {listed : Array Bool} (hlow : lowB ops = true) (hs : listed.size = ops.size) (hr : Region.ready .any ops listed = []) : ∀ j, j < ops.size → listed.getD j false = true := by
  intro j
  induction j using Nat.strongRecOn with
  | _ j ih =>
    intro hj
    cases q : listed.getD j false with
    | true => rfl
    | false =>
      exfalso
      have hl : j < listed.size := by omega
      have hm : j ∈ Region.ready .any ops listed := by
        refine mem_ready.2 ⟨by simp [hl] at q ⊢; exact q, ops[j], by simp [hj], fun e he hb => ?_⟩
        have h1 := (List.all_eq_true.1 hlow) j (List.mem_range.2 hj)
        simp only [Array.getElem?_eq_getElem hj] at h1
        obtain ⟨k, hk, rfl⟩ := Array.mem_iff_getElem.1 he
        have h2 := (Array.all_eq_true.1 h1) k hk
        rw [hb] at h2
        have h3 : ops[j].after[k].on < j := by simpa using h2
        exact ih _ h3 (by omega)
      rw [hr] at hm
      cases hm
theorem set_at {listed : Array Bool} {i : Nat} (h : i < listed.size) : (listed.setIfInBounds i true).getD i false = true := by simp [h]
theorem set_off {listed : Array Bool} {i j : Nat} (h : i ≠ j) : (listed.setIfInBounds i true).getD j false = listed.getD j false := by
  simp [h]
theorem wpOp_at {ops : Array Oper} {Q : Exit → Act → World → Prop} {i : Nat} {o : Oper} {K : Act → World → Prop} {a : Act} {w : World} (ho : ops[i]? = some o) (hg : o.guard = none) (h : Oper.wp Try.prog o a w K Q) : wpOp Try.prog ops Q i K a w := by
  refine wpOp_step ho fun K' hK => ?_
  have hw : Region.wanted o (yielded ops a.tmps) = true := by simp [Region.wanted, hg]
  rw [if_pos hw]
  exact Oper.wp_mono hK h
theorem fold_back (D : List Nat) : ∀ (a0 a : Act), a.tmps.size = a0.tmps.size → a.defers = a0.defers → (∀ j, j ∉ D → a.tmps[j]? = a0.tmps[j]?) → a = D.foldl (fun b d => b.put (some d) (a.eval (.tmp d))) a0 := by
  induction D with
  | nil =>
    intro a0 a hs hd h
    cases a; cases a0
    simp only [List.foldl_nil]
    simp at hd h
    subst hd
    congr
    exact Array.ext_getElem? h
  | cons d D ih =>
    intro a0 a hs hd h
    rw [List.foldl_cons]
    refine ih (a0.put (some d) (a.eval (.tmp d))) a (by simp [Act.put, hs]) (by simp [Act.put, hd]) (fun j hj => ?_)
    by_cases hjd : d = j
    · subst hjd
      rcases Nat.lt_or_ge d a0.tmps.size with hlt | hge
      · have h2 : d < a.tmps.size := by omega
        simp [Act.put, Act.eval, hlt, h2]
      · have h2 : a.tmps.size ≤ d := by omega
        simp [Act.put, Array.getElem?_eq_none h2]
        omega
    · rw [h j (by simp [hj, Ne.symm hjd])]
      simp [Act.put, hjd]

/-- the seven operations of a chain: numbers i .. i + 6; the list in slot s, the struct of the string in slot t -/
structure ChOps (ops : Array Oper) (i k s t : Nat) : Prop where
  p0 : ∃ o, ops[i]? = some o ∧ o.dst = some k ∧ o.guard = none ∧ o.op = .buildSlice 30 0 #[]
  p1 : ∃ o, ops[i + 1]? = some o ∧ o.dst = some (k + 1) ∧ o.guard = none ∧ o.op = .move (.tmp s)
  p2 : ∃ o, ops[i + 2]? = some o ∧ o.dst = some (k + 2) ∧ o.guard = none ∧ o.op = .call { callee := .builtin .append, args := #[.tmp k, .tmp (k + 1)], argTypes := #[30, 30] } ∧ preB o i = true ∧ preB o (i + 1) = true
  p3 : ∃ o, ops[i + 3]? = some o ∧ o.dst = some (k + 3) ∧ o.guard = none ∧ o.op = .fieldAddr 24 (.tmp t) 2
  p4 : ∃ o, ops[i + 4]? = some o ∧ o.dst = some (k + 4) ∧ o.guard = none ∧ o.op = .load 9 (.tmp (k + 3)) ∧ preB o (i + 3) = true
  p5 : ∃ o, ops[i + 5]? = some o ∧ o.dst = some (k + 5) ∧ o.guard = none ∧ o.op = .buildSlice 30 1 #[(0, .tmp (k + 4))] ∧ preB o (i + 4) = true
  p6 : ∃ o, ops[i + 6]? = some o ∧ o.dst = some (k + 6) ∧ o.guard = none ∧ o.op = .call { callee := .builtin .append, args := #[.tmp (k + 2), .tmp (k + 5)], argTypes := #[30, 30] } ∧ preB o (i + 2) = true ∧ preB o (i + 5) = true

/-- what a chain reads: of the world at the region's beginning -/
structure Src (n0 : Nat) (A : Pm) (w0 : World) (b o : Nat) : Prop where
  src : ∃ PA c, A.src = .slice PA A.x.length c ∧ (PA = none → A.x = [] ∧ c = 0) ∧ (∀ ad, PA = some ad → A.x ≠ [] → ∃ b o, ad = ⟨b, o, none⟩ ∧ b < n0 ∧ ∀ (j : Nat) (h : j < A.x.length), w0.cell? ⟨b, o + j, none⟩ = some (.string ⟨A.x[j].toArray⟩))
  p : A.p = ⟨b, o + 2, none⟩
  str : b < n0 ∧ w0.cell? A.p = some (.string ⟨A.tv.toArray⟩)
  len : A.x.length ≤ 100000

theorem chain_step {ops : Array Oper} {Q : Exit → Act → World → Prop} {A B : Pm} {i s t b o0 : Nat} (hO : ChOps ops i A.k s t) {w0 : World} (hS : Src n0 A w0 b o0) {listed : Array Bool} {a : Act} {w : World} {K : Act → World → Prop} {m m' : Nat → Bool}
    (hn : i + 6 < listed.size) (hsz : listed.size = ops.size) (hk : A.k + 6 < a.tmps.size) (hAB : A.k + 6 < B.k ∨ B.k + 6 < A.k)
    (hs : a.eval (.tmp s) = A.src) (ht : a.eval (.tmp t) = .pointer (some ⟨b, o0, none⟩)) (hB : n0 ≤ w.heap.size) (hw : Below n0 w0 w)
    (h : Two n0 A B (fun j => listed.getD (i + j) false) m a w) (j : Nat) (hj : j ≤ 6) (hr : i + j ∈ Region.ready .any ops listed) (hm : ∀ j : Nat, j ≤ 6 → m' j = m j)
    (hK : ∀ v w', Two n0 A B (fun q => (listed.setIfInBounds (i + j) true).getD (i + q) false) m' (a.put (some (A.k + j)) v) w' → Below n0 w w' → K (a.put (some (A.k + j)) v) w') :
    wpOp Try.prog ops Q (i + j) K a w := by
  have hnew := (ready_new hr hsz).2
  have hl : ∀ q : Nat, q ≤ 6 → q ≠ j → (fun q => (listed.setIfInBounds (i + j) true).getD (i + q) false) q = (fun q => listed.getD (i + q) false) q := fun q _ hq => set_off (by omega)
  have hli : (fun q => (listed.setIfInBounds (i + j) true).getD (i + q) false) j = true := set_at (by omega)
  obtain ⟨PA, c, hx, hn', hc⟩ := hS.src
  rcases (show j = 0 ∨ j = 1 ∨ j = 2 ∨ j = 3 ∨ j = 4 ∨ j = 5 ∨ j = 6 by omega) with rfl | rfl | rfl | rfl | rfl | rfl | rfl
  · obtain ⟨o, ho, hd, hg, hop⟩ := hO.p0
    refine wpOp_at ho hg ?_
    have := hK _ _ (h.lit hk hAB hB hnew hl hm) ((Below.refl n0 w).alloc hB _)
    unfold Oper.wp
    simp only [Nat.add_zero] at this
    simp [execOp, hop, hd, go_sem, Result.andThen]
    exact this
  · obtain ⟨o, ho, hd, hg, hop⟩ := hO.p1
    refine wpOp_at ho hg ?_
    have := hK _ _ (h.quiet 1 A.src (.inl rfl) hk hAB hl hli hm ⟨fun _ => rfl, fun e => (by omega), fun e => (by omega)⟩) (Below.refl n0 w)
    unfold Oper.wp
    have hs' : a.tmps[s]?.getD undef = A.src := by simpa [Act.eval] using hs
    simp [execOp, hop, hd, hs', go_sem]
    exact this
  · obtain ⟨o, ho, hd, hg, hop, q1, q2⟩ := hO.p2
    refine wpOp_at ho hg ?_
    refine h.all hk hAB hnew (pre_listed hr ho q1) (pre_listed hr ho q2) hl hli hm hB hg hd hop PA c hx hn' (fun ad hpa q hq => ?_) hS.len hK
    obtain ⟨fb, fo, rfl, f2, f3⟩ := hc ad hpa (fun e => by rw [e] at hq; simp at hq)
    rw [addr_addF]
    exact (hw.cell (p := ⟨fb, fo + q, none⟩) f2).trans (f3 q hq)
  · obtain ⟨o, ho, hd, hg, hop⟩ := hO.p3
    refine wpOp_at ho hg ?_
    have := hK _ _ (h.quiet 3 (.pointer (some A.p)) (.inr (.inl rfl)) hk hAB hl hli hm ⟨fun e => (by omega), fun _ => rfl, fun e => (by omega)⟩) (Below.refl n0 w)
    rw [hS.p] at this
    unfold Oper.wp
    have ht' : a.tmps[t]?.getD undef = .pointer (some ⟨b, o0, none⟩) := by simpa [Act.eval] using ht
    simp [execOp, hop, hd, ht', go_sem, Result.andThen]
    exact this
  · obtain ⟨o, ho, hd, hg, hop, q1⟩ := hO.p4
    refine wpOp_at ho hg ?_
    have hp : a.eval (.tmp (A.k + 3)) = .pointer (some A.p) := by obtain ⟨r, e, s, f, h1, h2, h3⟩ := h; exact h1.h3 (pre_listed hr ho q1)
    have := hK _ _ (h.quiet 4 (.string ⟨A.tv.toArray⟩) (.inr (.inr rfl)) hk hAB hl hli hm ⟨fun e => (by omega), fun e => (by omega), fun _ => rfl⟩) (Below.refl n0 w)
    have hcell : w.cell? A.p = some (.string ⟨A.tv.toArray⟩) := (hw.cell (by rw [hS.p]; exact hS.str.1)).trans hS.str.2
    rw [hS.p] at hp hcell
    unfold Oper.wp
    have hp' : a.tmps[A.k + 3]?.getD undef = .pointer (some ⟨b, o0 + 2, none⟩) := by simpa [Act.eval] using hp
    simp [execOp, hop, hd, hp', hcell, go_sem, Result.andThen]
    exact this
  · obtain ⟨o, ho, hd, hg, hop, q1⟩ := hO.p5
    refine wpOp_at ho hg ?_
    have hp : a.eval (.tmp (A.k + 4)) = .string ⟨A.tv.toArray⟩ := by obtain ⟨r, e, s, f, h1, h2, h3⟩ := h; exact h1.h4 (pre_listed hr ho q1)
    have := hK _ _ (h.elem hk hAB hnew hl hm) ((Below.refl n0 w).alloc hB _)
    unfold Oper.wp
    have hp' : a.tmps[A.k + 4]?.getD undef = .string ⟨A.tv.toArray⟩ := by simpa [Act.eval] using hp
    simp [execOp, hop, hd, hp', go_sem, Result.andThen]
    exact this
  · obtain ⟨o, ho, hd, hg, hop, q1, q2⟩ := hO.p6
    refine wpOp_at ho hg ?_
    exact h.last hk hAB hnew (pre_listed hr ho q1) (pre_listed hr ho q2) hl hli hm hB hd hop hS.len hK
theorem Two.frame {A B : Pm} {l m l' m' : Nat → Bool} {a a' : Act} {w : World} (h : Two n0 A B l m a w) (hl : ∀ j : Nat, j ≤ 6 → l' j = l j) (hm : ∀ j : Nat, j ≤ 6 → m' j = m j)
    (ha : ∀ j : Nat, j ≤ 6 → a'.eval (.tmp (A.k + j)) = a.eval (.tmp (A.k + j))) (hb : ∀ j : Nat, j ≤ 6 → a'.eval (.tmp (B.k + j)) = a.eval (.tmp (B.k + j))) : Two n0 A B l' m' a' w := by
  obtain ⟨r, e, s, f, h1, h2, h3⟩ := h
  refine ⟨r, e, s, f, h1.frame hl ha (Nat.le_refl _) (fun _ => rfl) (fun _ => rfl), h2.frame hm hb (Nat.le_refl _) (fun _ => rfl) (fun _ => rfl), ⟨?_, ?_, ?_⟩⟩
  · rw [hl 0 (by omega), hm 0 (by omega)]; exact h3.rs
  · rw [hl 0 (by omega), hm 5 (by omega)]; exact h3.rf
  · rw [hl 5 (by omega), hm 0 (by omega)]; exact h3.es

/-- where the slots of the region lie -/
def outB (d1 d2 k1 k2 j : Nat) : Bool := !(decide (j = d1) || decide (j = d2) || (decide (k1 ≤ j) && decide (j ≤ k2 + 6)))
theorem outB_iff {d1 d2 k1 k2 j : Nat} : outB d1 d2 k1 k2 j = true ↔ j ≠ d1 ∧ j ≠ d2 ∧ ¬ (k1 ≤ j ∧ j ≤ k2 + 6) := by
  unfold outB
  simp only [Bool.not_eq_true', Bool.or_eq_false_iff, decide_eq_false_iff_not, Bool.and_eq_false_iff]
  omega
/-- the invariant -/
structure RI (n0 : Nat) (A B : Pm) (d1 d2 : Nat) (a0 : Act) (w0 : World) (listed : Array Bool) (a : Act) (w : World) : Prop where
  sz : listed.size = 16
  ts : a.tmps.size = a0.tmps.size
  df : a.defers = a0.defers
  out : ∀ j : Nat, outB d1 d2 A.k B.k j = true → a.tmps[j]? = a0.tmps[j]?
  bel : Below n0 w0 w
  two : Two n0 A B (fun j => listed.getD (0 + j) false) (fun j => listed.getD (7 + j) false) a w
  f1 : listed.getD 14 false = true → a.eval (.tmp d1) = a.eval (.tmp (A.k + 6)) ∧ listed.getD 6 false = true
  f2 : listed.getD 15 false = true → a.eval (.tmp d2) = a.eval (.tmp (B.k + 6)) ∧ listed.getD 13 false = true
theorem eval_of {a b : Act} {j : Nat} (h : a.tmps[j]? = b.tmps[j]?) : a.eval (.tmp j) = b.eval (.tmp j) := by simp [Act.eval, h]
theorem RI.chain {A B : Pm} {d1 d2 : Nat} {a0 : Act} {w0 w w' : World} {listed : Array Bool} {a : Act} {v : Value} {k i : Nat} (h : RI n0 A B d1 d2 a0 w0 listed a w)
    (hi : i < 14) (hn : listed.getD i false = false) (hk : (k = A.k + i ∧ i < 7) ∨ (k + 7 = B.k + i ∧ 7 ≤ i)) (hAB : A.k + 6 < B.k) (hd1 : d1 < A.k) (hd2 : d2 < A.k)
    (h2 : Two n0 A B (fun j => (listed.setIfInBounds i true).getD (0 + j) false) (fun j => (listed.setIfInBounds i true).getD (7 + j) false) (a.put (some k) v) w') (hb : Below n0 w w') : RI n0 A B d1 d2 a0 w0 (listed.setIfInBounds i true) (a.put (some k) v) w' := by
  refine ⟨by simp [h.sz], by simp [Act.put, h.ts], by simp [Act.put, h.df], fun j hj => ?_, h.bel.trans hb, h2, ?_, ?_⟩
  · rw [← h.out j hj]
    obtain ⟨_, _, h3⟩ := outB_iff.1 hj
    have : k ≠ j := by omega
    simp [Act.put, this]
  · rw [set_off (show i ≠ 14 by omega)]
    intro q
    obtain ⟨g1, g2⟩ := h.f1 q
    have : i ≠ 6 := fun e => by subst e; rw [hn] at g2; cases g2
    rw [set_off this, ev_ne (by omega), ev_ne (by omega)]
    exact ⟨g1, g2⟩
  · rw [set_off (show i ≠ 15 by omega)]
    intro q
    obtain ⟨g1, g2⟩ := h.f2 q
    have : i ≠ 13 := fun e => by subst e; rw [hn] at g2; cases g2
    rw [set_off this, ev_ne (by omega), ev_ne (by omega)]
    exact ⟨g1, g2⟩

theorem two_chains {ops : Array Oper} {Q : Exit → Act → World → Prop} {id : Nat} {A B : Pm} {s1 t1 s2 t2 b1 o1 b2 o2 d1 d2 : Nat} (a0 : Act) (w : World) (hm : Try.prog.follows .mixedOrders = true)
    (h16 : ops.size = 16) (hlow : lowB ops = true) (hA : ChOps ops 0 A.k s1 t1) (hB : ChOps ops 7 B.k s2 t2)
    (p14 : ∃ o, ops[14]? = some o ∧ o.dst = some d1 ∧ o.guard = none ∧ o.op = .assign (.tmp (A.k + 6)) ∧ preB o 6 = true)
    (p15 : ∃ o, ops[15]? = some o ∧ o.dst = some d2 ∧ o.guard = none ∧ o.op = .assign (.tmp (B.k + 6)) ∧ preB o 13 = true)
    (hAB : A.k + 6 < B.k) (hk : B.k + 6 < a0.tmps.size) (hd1 : d1 < A.k) (hd2 : d2 < A.k) (hd : d1 ≠ d2)
    (hlt : outB d1 d2 A.k B.k s1 = true ∧ outB d1 d2 A.k B.k t1 = true ∧ outB d1 d2 A.k B.k s2 = true ∧ outB d1 d2 A.k B.k t2 = true)
    (hn0 : n0 = w.heap.size) (hS1 : Src n0 A w b1 o1) (hS2 : Src n0 B w b2 o2)
    (hs1 : a0.eval (.tmp s1) = A.src) (ht1 : a0.eval (.tmp t1) = .pointer (some ⟨b1, o1, none⟩)) (hs2 : a0.eval (.tmp s2) = B.src) (ht2 : a0.eval (.tmp t2) = .pointer (some ⟨b2, o2, none⟩))
    (h : ∀ a w', a.tmps.size = a0.tmps.size → a.defers = a0.defers → (∀ j : Nat, outB d1 d2 A.k B.k j = true → a.tmps[j]? = a0.tmps[j]?) →
      (∃ r, RA w' n0 r (a.eval (.tmp d1)) (A.x ++ [A.tv])) → (∃ r, RA w' n0 r (a.eval (.tmp d2)) (B.x ++ [B.tv])) → Below n0 w w' → Q .normal a w') :
    (Code.region id ops true).wp Try.prog Q a0 w := by
  subst hn0
  refine wp_region_inv (RI w.heap.size A B d1 d2 a0 w) hm ?_ ?_ ?_
  · have hz : ∀ j : Nat, (Array.replicate ops.size false).getD j false = false := fun j => by
      rcases Nat.lt_or_ge j ops.size with q | q <;> simp [q]
    refine ⟨by simp [h16], rfl, rfl, fun _ _ => rfl, ⟨rfl, rfl, rfl, Nat.le_refl _, fun _ _ => rfl⟩, ⟨0, 0, 0, 0, ?_, ?_, ?_⟩, ?_, ?_⟩
    · constructor <;> simp only [hz] <;> intro q <;> cases q
    · constructor <;> simp only [hz] <;> intro q <;> cases q
    · constructor <;> simp only [hz] <;> intro q <;> cases q
    · rw [hz]; intro q; cases q
    · rw [hz]; intro q; cases q
  · intro listed a w' i hI hi
    have hsz : listed.size = ops.size := by rw [hI.sz, h16]
    obtain ⟨hlt16, hnew⟩ := ready_new hi hsz
    rw [h16] at hlt16
    have hkA : A.k + 6 < a.tmps.size := by rw [hI.ts]; omega
    have hkB : B.k + 6 < a.tmps.size := by rw [hI.ts]; omega
    have hszw : w.heap.size ≤ w'.heap.size := hI.bel.size
    have e1 := (eval_of (hI.out s1 hlt.1)).trans hs1
    have e2 := (eval_of (hI.out t1 hlt.2.1)).trans ht1
    have e3 := (eval_of (hI.out s2 hlt.2.2.1)).trans hs2
    have e4 := (eval_of (hI.out t2 hlt.2.2.2)).trans ht2
    rcases (show i < 7 ∨ (7 ≤ i ∧ i < 14) ∨ i = 14 ∨ i = 15 by omega) with q | q | q | q
    · have := chain_step (Q := Q) (K := fun a' w' => RI w.heap.size A B d1 d2 a0 w (listed.setIfInBounds i true) a' w') (m := fun j => listed.getD (7 + j) false) (m' := fun j => (listed.setIfInBounds i true).getD (7 + j) false) (i := 0) hA hS1 (by rw [hI.sz]; omega) hsz hkA (.inl hAB) e1 e2 hszw hI.bel hI.two i (by omega) (by rw [Nat.zero_add]; exact hi) (fun j hj => set_off (by omega)) (fun v w'' h2 hb => by
        rw [Nat.zero_add] at h2
        exact hI.chain (by omega) hnew (.inl ⟨rfl, q⟩) hAB hd1 hd2 h2 hb)
      rw [Nat.zero_add] at this
      exact this
    · obtain ⟨j, rfl⟩ : ∃ j, i = 7 + j := ⟨i - 7, by omega⟩
      exact chain_step (Q := Q) (K := fun a' w' => RI w.heap.size A B d1 d2 a0 w (listed.setIfInBounds (7 + j) true) a' w') (m := fun q => listed.getD (0 + q) false) (m' := fun q => (listed.setIfInBounds (7 + j) true).getD (0 + q) false) (i := 7) hB hS2 (by rw [hI.sz]; omega) hsz hkB (.inr hAB) e3 e4 hszw hI.bel hI.two.symm j (by omega) hi (fun q hq => set_off (by omega)) (fun v w'' h2 hb => hI.chain (by omega) hnew (.inr ⟨by omega, by omega⟩) hAB hd1 hd2 h2.symm hb)
    · subst q
      obtain ⟨o, ho, hdo, hg, hop, hp⟩ := p14
      refine wpOp_at ho hg ?_
      have hp6 := pre_listed hi ho hp
      have hfin : RI w.heap.size A B d1 d2 a0 w (listed.setIfInBounds 14 true) (a.put (some d1) (a.eval (.tmp (A.k + 6)))) w' := by
        refine ⟨by simp [hI.sz], by simp [Act.put, hI.ts], by simp [Act.put, hI.df], fun j hj => ?_, hI.bel, hI.two.frame (fun j hj => set_off (by omega)) (fun j hj => set_off (by omega)) (fun j hj => ev_ne (by omega)) (fun j hj => ev_ne (by omega)), fun _ => ?_, ?_⟩
        · rw [← hI.out j hj]
          have := (outB_iff.1 hj).1
          simp [Act.put, Ne.symm this]
        · rw [set_off (by omega), ev_put (by omega), ev_ne (by omega)]; exact ⟨rfl, hp6⟩
        · rw [set_off (by omega), set_off (by omega), ev_ne hd, ev_ne (by omega)]; exact hI.f2
      unfold Oper.wp
      simp only [execOp, hop, Sem.run_pure, Oper.upon, hdo]
      exact hfin
    · subst q
      obtain ⟨o, ho, hdo, hg, hop, hp⟩ := p15
      refine wpOp_at ho hg ?_
      have hp6 := pre_listed hi ho hp
      have hfin : RI w.heap.size A B d1 d2 a0 w (listed.setIfInBounds 15 true) (a.put (some d2) (a.eval (.tmp (B.k + 6)))) w' := by
        refine ⟨by simp [hI.sz], by simp [Act.put, hI.ts], by simp [Act.put, hI.df], fun j hj => ?_, hI.bel, hI.two.frame (fun j hj => set_off (by omega)) (fun j hj => set_off (by omega)) (fun j hj => ev_ne (by omega)) (fun j hj => ev_ne (by omega)), ?_, fun _ => ?_⟩
        · rw [← hI.out j hj]
          have := (outB_iff.1 hj).2.1
          simp [Act.put, Ne.symm this]
        · rw [set_off (by omega), set_off (by omega), ev_ne (Ne.symm hd), ev_ne (by omega)]; exact hI.f1
        · rw [set_off (by omega), ev_put (by omega), ev_ne (by omega)]; exact ⟨rfl, hp6⟩
      unfold Oper.wp
      simp only [execOp, hop, Sem.run_pure, Oper.upon, hdo]
      exact hfin
  · intro listed a w' hI hr
    have hall := listed_all hlow (by rw [hI.sz, h16]) hr
    rw [h16] at hall
    obtain ⟨r, e, s, f, h1, h2, _⟩ := hI.two
    refine h a w' hI.ts hI.df hI.out ⟨r, ?_⟩ ⟨s, ?_⟩ hI.bel
    · rw [(hI.f1 (hall 14 (by omega))).1]; exact h1.h6 (by simpa using hall 6 (by omega))
    · rw [(hI.f2 (hall 15 (by omega))).1]; exact h2.h6 (hall 13 (by omega))
end
end Go.Proofs.Ytkjhfbgdmmnadaa
