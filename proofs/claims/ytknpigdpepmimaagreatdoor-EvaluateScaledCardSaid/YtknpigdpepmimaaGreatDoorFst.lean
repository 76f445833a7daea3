/- The two rows and the block of a room that the call makes, step by step. -/
import Derived.Test.YtknpigdpepmimaaGreatDoorRjl
import Derived.Test.YtknpigdpepmimaaGreatDoorVst
namespace Go.Proofs.YtknpigdpepmimaaGreatDoor
open Go.RowKit Go.Maps

/-- the room's block m, its rows of names and values -/
structure FS (m : Nat) (w0 w : World) (c0 c1 vn vv : Value) (ln : List W8) (lv : List V) : Prop where
  hm : m < w0.heap.size
  hb : w0.grownBy w (some m)
  ht : w.heap[m]? = some (.cells #[c0, c1] 28 (0, 0))
  hn : RL w w0.heap.size vn ln
  hv : OV w w0.heap.size vv lv
  hd : ∀ k, vn.ownBlock = some k → vv.ownBlock ≠ some k
/-- a block that was laid for an append -/
structure Pd (w : World) (b : Nat) (o : Obj) (vn vv : Value) : Prop where
  hh : w.heap[b]? = some o
  hn : vn.ownBlock ≠ some b
  hv : vv.ownBlock ≠ some b
theorem Pd.lt {w : World} {b : Nat} {o : Obj} {vn vv : Value} (h : Pd w b o vn vv) : b < w.heap.size := (Array.getElem?_eq_some_iff.1 h.hh).1
variable {m : Nat} {w0 w : World} {c0 c1 vn vv : Value} {ln : List W8} {lv : List V}
theorem FS.lt (h : FS m w0 w c0 c1 vn vv ln lv) : m < w.heap.size := (Array.getElem?_eq_some_iff.1 h.ht).1
theorem gb_tr {w0 w w' : World} {m : Nat} {row : Option Nat} (h1 : w0.grownBy w (some m)) (h2 : w.grownBy w' row) (hr : ∀ k, row = some k → w0.heap.size ≤ k ∨ k = m) : w0.grownBy w' (some m) :=
  ⟨h2.os.trans h1.os, h2.tape.trans h1.tape, h2.output.trans h1.output, Nat.le_trans h1.size h2.size, fun k hk hne => (h2.block k (Nat.lt_of_lt_of_le hk h1.size) (fun e => by
    rcases hr k e.symm with h | h
    · omega
    · exact hne (by rw [h]))).trans (h1.block k hk hne)⟩
theorem gb_below {w w' : World} {row : Option Nat} (h : Below w.heap.size w w') : w.grownBy w' row := ⟨h.os, h.tape, h.output, h.size, fun k hk _ => h.block k hk⟩
theorem FS.below (h : FS m w0 w c0 c1 vn vv ln lv) : Below m w0 w := ⟨h.hb.os, h.hb.tape, h.hb.output, h.hb.size, fun k hk => h.hb.block k (Nat.lt_trans hk h.hm) (fun e => by have := Option.some.inj e; omega)⟩
theorem FS.alloc (h : FS m w0 w c0 c1 vn vv ln lv) (o : Obj) : FS m w0 (w.alloc o) c0 c1 vn vv ln lv :=
  ⟨h.hm, gb_tr h.hb (gb_below (row := none) (b1 w o)) (fun k hk => by cases hk), (al_heap'' w o m h.lt).trans h.ht, World.ownsRow.alloc h.hn _, World.ownsRow.alloc h.hv _, h.hd⟩
where al_heap'' (W : World) (o : Obj) (k : Nat) (h : k < W.heap.size) : (W.alloc o).heap[k]? = W.heap[k]? := (b1 W o).block k h
theorem FS.drew (h : FS m w0 w c0 c1 vn vv ln lv) : FS m w0 w.drew c0 c1 vn vv ln lv := ⟨h.hm, ⟨h.hb.os, h.hb.tape, h.hb.output, h.hb.size, h.hb.block⟩, h.ht, h.hn, h.hv, h.hd⟩
theorem Pd.new (h : FS m w0 w c0 c1 vn vv ln lv) (a : Array Value) (ty : TypeId) : Pd (w.alloc (.cells a ty)) w.heap.size (.cells a ty (0, 0)) vn vv :=
  ⟨heap_alloc_new w _, fun e => by have := (h.hn.lt _ e).2; omega, fun e => by have := (h.hv.lt _ e).2; omega⟩
theorem Pd.alloc {b : Nat} {o : Obj} (h : Pd w b o vn vv) (q : Obj) : Pd (w.alloc q) b o vn vv := ⟨((b1 w q).block b h.lt).trans h.hh, h.hn, h.hv⟩
theorem own_ofg {g n c : Nat} {k : Nat} (h : (Value.slice (some ⟨g, 0, none⟩) n c).ownBlock = some k) : k = g := (Option.some.inj h).symm
/-- names appended -/
theorem FS.names (h : FS m w0 w c0 c1 vn vv ln lv) {w7 : World} {g n c : Nat} {x : W8} (hr : RL w7 w0.heap.size (.slice (some ⟨g, 0, none⟩) n c) (ln ++ [x])) (hg : w.grownBy w7 vn.ownBlock) (ha : vn.ownBlock = some g ∨ g = w.heap.size) :
    FS m w0 w7 c0 c1 (.slice (some ⟨g, 0, none⟩) n c) vv (ln ++ [x]) lv where
  hm := h.hm
  hb := gb_tr h.hb hg (fun k hk => .inl (h.hn.lt k hk).1)
  ht := (hg.block m h.lt (fun e => by have := (h.hn.lt m e.symm).1; have := h.hm; omega)).trans h.ht
  hn := hr
  hv := World.ownsRow.kept h.hv hg (by
    cases hv : vv.ownBlock with
    | none => exact .inl rfl
    | some k => exact .inr (fun e => h.hd k e.symm hv))
  hd := fun k hk hv => by
    have := own_ofg hk
    subst this
    rcases ha with e | e
    · exact h.hd _ e hv
    · have := (h.hv.lt _ hv).2; omega
theorem FS.values (h : FS m w0 w c0 c1 vn vv ln lv) {w7 : World} {g n c : Nat} {x : V} (hr : OV w7 w0.heap.size (.slice (some ⟨g, 0, none⟩) n c) (lv ++ [x])) (hg : w.grownBy w7 vv.ownBlock) (ha : vv.ownBlock = some g ∨ g = w.heap.size) :
    FS m w0 w7 c0 c1 vn (.slice (some ⟨g, 0, none⟩) n c) ln (lv ++ [x]) where
  hm := h.hm
  hb := gb_tr h.hb hg (fun k hk => .inl (h.hv.lt k hk).1)
  ht := (hg.block m h.lt (fun e => by have := (h.hv.lt m e.symm).1; have := h.hm; omega)).trans h.ht
  hn := World.ownsRow.kept h.hn hg (by
    cases hv : vn.ownBlock with
    | none => exact .inl rfl
    | some k => exact .inr (fun e => h.hd k hv e.symm))
  hv := hr
  hd := fun k hk hv => by
    have := own_ofg hv
    subst this
    rcases ha with e | e
    · exact h.hd _ hk e
    · have := (h.hn.lt _ hk).2; omega
theorem Pd.names {b : Nat} {o : Obj} (h : Pd w b o vn vv) {w7 : World} {g n c : Nat} (hg : w.grownBy w7 vn.ownBlock) (ha : vn.ownBlock = some g ∨ g = w.heap.size) : Pd w7 b o (.slice (some ⟨g, 0, none⟩) n c) vv :=
  ⟨(hg.block b h.lt (fun e => h.hn e.symm)).trans h.hh, fun e => by
    have := own_ofg e
    subst this
    rcases ha with e | e
    · exact h.hn e
    · have := h.lt; omega, h.hv⟩
theorem own_set {w : World} {B e size n m : Nat} {v : Value} {xs : List Value} (h : w.ownsRow B e size v n xs) (hne : ∀ k, v.ownBlock = some k → k ≠ m) (u : Value) (o : Nat) : (w.setCell ⟨m, o, none⟩ u).ownsRow B e size v n xs := by
  refine World.ownsRow.kept h (row := some m) ⟨rfl, rfl, rfl, by rw [World.size_setCell]; exact Nat.le_refl _, fun k _ hk => Below.heap_setCell w ⟨m, o, none⟩ u k (fun e => hk (by rw [e]))⟩ ?_
  cases hv : v.ownBlock with
  | none => exact .inl rfl
  | some k => exact .inr (fun e => hne k hv (Option.some.inj e))
theorem FS.set0 (h : FS m w0 w c0 c1 vn vv ln lv) (u : Value) : FS m w0 (w.setCell ⟨m, 0, none⟩ u) u c1 vn vv ln lv := by
  have hh : (w.setCell ⟨m, 0, none⟩ u).heap[m]? = some (.cells #[u, c1] 28 (0, 0)) := by
    have h1 := h.ht
    obtain ⟨hl, he⟩ := Array.getElem?_eq_some_iff.1 h1
    rw [Array.getElem?_eq_some_iff]
    refine ⟨by rw [World.size_setCell]; exact hl, ?_⟩
    simp [World.setCell, Array.getElem_modify, he]
  refine ⟨h.hm, gb_tr h.hb (row := some m) ⟨rfl, rfl, rfl, by rw [World.size_setCell]; exact Nat.le_refl _, fun k _ hk => Below.heap_setCell w ⟨m, 0, none⟩ u k (fun e => hk (by rw [e]))⟩ (fun k hk => .inr (Option.some.inj hk).symm), hh, ?_, ?_, h.hd⟩
  · exact own_set h.hn (fun k hk => by have := (h.hn.lt k hk).1; have := h.hm; omega) u 0
  · exact own_set h.hv (fun k hk => by have := (h.hv.lt k hk).1; have := h.hm; omega) u 0
theorem FS.set1 (h : FS m w0 w c0 c1 vn vv ln lv) (u : Value) : FS m w0 (w.setCell ⟨m, 1, none⟩ u) c0 u vn vv ln lv := by
  have hh : (w.setCell ⟨m, 1, none⟩ u).heap[m]? = some (.cells #[c0, u] 28 (0, 0)) := by
    have h1 := h.ht
    obtain ⟨hl, he⟩ := Array.getElem?_eq_some_iff.1 h1
    rw [Array.getElem?_eq_some_iff]
    refine ⟨by rw [World.size_setCell]; exact hl, ?_⟩
    simp [World.setCell, Array.getElem_modify, he]
  refine ⟨h.hm, gb_tr h.hb (row := some m) ⟨rfl, rfl, rfl, by rw [World.size_setCell]; exact Nat.le_refl _, fun k _ hk => Below.heap_setCell w ⟨m, 1, none⟩ u k (fun e => hk (by rw [e]))⟩ (fun k hk => .inr (Option.some.inj hk).symm), hh, ?_, ?_, h.hd⟩
  · exact own_set h.hn (fun k hk => by have := (h.hn.lt k hk).1; have := h.hm; omega) u 1
  · exact own_set h.hv (fun k hk => by have := (h.hv.lt k hk).1; have := h.hm; omega) u 1
theorem FS.cells (h : FS m w0 w c0 c1 vn vv ln lv) : w.cell? ⟨m, 0, none⟩ = some c0 ∧ w.cell? ⟨m, 1, none⟩ = some c1 ∧ ∀ i, w.frozen? ⟨m, i, none⟩ = false := by
  refine ⟨?_, ?_, fun i => ?_⟩ <;> simp [World.cell?, World.frozen?, h.ht]
theorem Pd.str {b : Nat} {x : W8} (h : Pd w b (.cells #[.string ⟨x.toArray⟩] 9 (0, 0)) vn vv) : w.cell? ⟨b, 0, none⟩ = some (.string ⟨x.toArray⟩) := by simp [World.cell?, h.hh]
theorem Pd.val {b : Nat} {x : V} (h : Pd w b (.cells x.cells 44 (0, 0)) vn vv) : C9 w b 0 x := (show K9 w b x from h.hh).cells.1
theorem Pd.news {b : Nat} {x : W8} (h : Pd w b (.cells #[.string ⟨x.toArray⟩] 9 (0, 0)) vn vv) : ∀ (j : Nat) (u : Value), ([.string ⟨x.toArray⟩] : List Value)[j]? = some u → w.cell? (Addr.add ⟨b, 0, none⟩ j) = some u := fun j u hu => by
  rcases j with _ | j
  · simp at hu
    subst hu
    rw [addr_addF]
    exact h.str
  · simp at hu
theorem Pd.newv {b : Nat} {x : V} (h : Pd w b (.cells x.cells 44 (0, 0)) vn vv) : ∀ (j : Nat) (u : Value), x.cells.toList[j]? = some u → w.cell? (Addr.add ⟨b, 0, none⟩ j) = some u := fun j u hu => by
  rw [addr_addF]
  exact h.val.at_ (List.getElem?_eq_some_iff.1 hu).1 hu
theorem rl_row {w : World} {B : Nat} {v : Value} {l : List W8} {x : W8} (h : w.ownsRow B 9 1 v (l.length + 1) (l.map encS ++ [.string ⟨x.toArray⟩])) : RL w B v (l ++ [x]) := by
  unfold RL
  rw [List.length_append, List.map_append]
  exact h
theorem ov_row {w : World} {B : Nat} {v : Value} {l : List V} {x : V} (h : w.ownsRow B 44 9 v (l.length + 1) (valC l ++ x.cells.toList)) : OV w B v (l ++ [x]) := by
  unfold OV
  rw [List.length_append, valC_snoc]
  exact h
/-- an older slice of names stays -/
theorem FS.sl (h : FS m w0 w c0 c1 vn vv ln lv) {v : Value} {l : List W8} (hs : SL w0 w0.heap.size v l) (h0 : w0.heap[m]? = some (.cells #[.slice none 0 0, .slice none 0 0] 28 (0, 0))) : SL w w0.heap.size v l := by
  obtain ⟨A, c, rfl, hc, hcell⟩ := hs
  refine ⟨A, c, rfl, hc, fun hne => ?_⟩
  obtain ⟨b, o, rfl, hb, hcs⟩ := hcell hne
  have hbm : b ≠ m := fun e => by
    subst e
    have h1 := hcs 0 (List.length_pos_iff.2 hne)
    simp only [World.cell?, h0] at h1
    rcases o with _ | _ | o
    · simp at h1
    · simp at h1
    · simp at h1
  refine ⟨b, o, rfl, hb, fun k hk => ?_⟩
  have h2 := h.hb.block b hb (fun e => hbm (Option.some.inj e))
  rw [show w.cell? ⟨b, o + k, none⟩ = w0.cell? ⟨b, o + k, none⟩ from by simp only [World.cell?, h2]]
  exact hcs k hk
theorem FS.start (hm : m < w.heap.size) (h0 : w.heap[m]? = some (.cells #[.slice none 0 0, .slice none 0 0] 28 (0, 0))) : FS m w w (.slice none 0 0) (.slice none 0 0) (.slice none 0 0) (.slice none 0 0) [] [] :=
  ⟨hm, ⟨rfl, rfl, rfl, Nat.le_refl _, fun _ _ _ => rfl⟩, h0, World.ownsRow_nil _ _ _ _, ov_nil _ _, fun k hk => by cases hk⟩
end Go.Proofs.YtknpigdpepmimaaGreatDoor
