/- Words for the reference's Font: its row of stretches, and what stays while it is built. -/
import Derived.Test.YthgkdeaapjdadaaDoorRGl2
import Derived.Test.YthgkdeaapjdadaaDoorGrowth2
import Derived.Deep.MidRow
import Derived.OneCell
namespace Go.Proofs.YthgkdeaapjdadaaDoor
open Go.RowKit

structure RSt where
  n : List UInt8
  sb : Nat
  pv : Value
def partL (n : List UInt8) : List Value := if brace n then bot n ++ ext n ++ bot n ++ ext n ++ top n else bot n ++ ext n ++ top n
def RSt.cells (s : RSt) : List Value := [.string ⟨s.n.toArray⟩, .slice (some ⟨s.sb, 0, none⟩) 4 4, s.pv, .int .i64 (ov s.n)]
def rscells (l : List RSt) : List Value := l.flatMap RSt.cells
theorem rscells_append (l l' : List RSt) : rscells (l ++ l') = rscells l ++ rscells l' := by simp [rscells]
theorem rscells_one (e : RSt) : rscells [e] = e.cells := by simp [rscells]
theorem rscells_at (l : List RSt) : ∀ (i j : Nat) (e : RSt), l[i]? = some e → j < 4 → (rscells l)[i * 4 + j]? = e.cells[j]? := by
  induction l with
  | nil => intro i j e h; simp at h
  | cons a l ih =>
    intro i j e h hj
    rw [show rscells (a :: l) = a.cells ++ rscells l from by simp [rscells]]
    cases i with
    | zero =>
      cases h
      rw [Nat.zero_mul, Nat.zero_add, List.getElem?_append_left (by simp [RSt.cells]; omega)]
    | succ i =>
      rw [List.getElem?_append_right (by simp [RSt.cells]; omega)]
      have : (i + 1) * 4 + j - a.cells.length = i * 4 + j := by simp [RSt.cells]; omega
      rw [this]
      exact ih i j e h hj
/-- the blocks of a stretch -/
structure RBlk (w : World) (base : Nat) (s : RSt) : Prop where
  ge : base ≤ s.sb
  sz : w.heap[s.sb]? = some (.cells (sizeC s.n) 9)
  pt : if asmN.contains s.n = true then w.ownsRow base 63 2 s.pv (pk s.n) (partL s.n) else s.pv = .slice none 0 0
theorem RBlk.below {w w' : World} {base : Nat} {s : RSt} (h : RBlk w base s) (hb : Below w.heap.size w w') : RBlk w' base s :=
  ⟨h.ge, (hb.block _ (blk_lt h.sz)).trans h.sz, by
    have := h.pt
    split at this
    · rw [if_pos ‹_›]; exact own_below this hb
    · rw [if_neg ‹_›]; exact this⟩
theorem own_ofType {w w' : World} {row : Option Nat} {t : TypeId} (hg : w.grownBy w' row) (hr : ∀ k, row = some k → ∃ cs fr, w.heap[k]? = some (.cells cs t fr)) {base : Nat} {e : TypeId} {size n : Nat} {v : Value} {xs : List Value} (h : w.ownsRow base e size v n xs) (ht : e ≠ t) : w'.ownsRow base e size v n xs :=
  h.kept hg (by
    cases hv : v.ownBlock with
    | none => exact .inl rfl
    | some k =>
      right; intro e'
      obtain ⟨cs, fr, he⟩ := own_type h hv
      obtain ⟨cs', fr', he'⟩ := hr k e'.symm
      rw [he] at he'; cases he'; exact ht rfl)
theorem blk_ofType {w w' : World} {row : Option Nat} {t : TypeId} (hg : w.grownBy w' row) (hr : ∀ k, row = some k → ∃ cs fr, w.heap[k]? = some (.cells cs t fr)) {k : Nat} {cs : Array Value} {e : TypeId} {fr : Nat × Nat} (h : w.heap[k]? = some (.cells cs e fr)) (ht : e ≠ t) : w'.heap[k]? = some (.cells cs e fr) := by
  refine (hg.block k (blk_lt h) fun e' => ?_).trans h
  obtain ⟨cs', fr', he⟩ := hr k e'.symm
  rw [h] at he; cases he; exact ht rfl
theorem RBlk.grown {w w' : World} {row : Option Nat} {t : TypeId} (hg : w.grownBy w' row) (hr : ∀ k, row = some k → ∃ cs fr, w.heap[k]? = some (.cells cs t fr)) (h9 : 9 ≠ t) (h63 : 63 ≠ t) {base : Nat} {s : RSt} (h : RBlk w base s) : RBlk w' base s :=
  ⟨h.ge, blk_ofType hg hr h.sz h9, by
    have := h.pt
    split at this
    · rw [if_pos ‹_›]; exact own_ofType hg hr this h63
    · rw [if_neg ‹_›]; exact this⟩
def zero20 : List Value := List.replicate 20 (.int .i64 0)
def fC (gv sv : Value) : Array Value := (gv :: sv :: zero20).toArray
/-- the font under way: its block f, the glyphs' slice gv, the stretches' slice sv -/
structure RI (w0 w : World) (N f : Nat) (gv sv : Value) (l : List RSt) (k : Nat) : Prop where
  own : w.ownsRow w0.heap.size 43 4 sv l.length (rscells l)
  gl : w.ownsRow w0.heap.size 32 6 gv RGF.length (gcells RGF)
  nm : l.map (·.n) = largeN.take k
  blk : ∀ s ∈ l, RBlk w w0.heap.size s
  fb : w.heap[f]? = some (.cells (fC gv sv) 29)
  zb : w.heap[w0.heap.size]? = some (.cells (fC (.slice none 0 0) (.slice none 0 0)) 29)
  ne : f ≠ w0.heap.size
  ge : w0.heap.size ≤ f
  nb : w.heap[N]? = some (.cells (strC largeN) 9)
  bel : Below w0.heap.size w0 w
section
variable {w0 w w' : World} {N f : Nat} {gv sv : Value} {l : List RSt} {k : Nat}
theorem RI.below (h : RI w0 w N f gv sv l k) (hb : Below w.heap.size w w') : RI w0 w' N f gv sv l k :=
  ⟨own_below h.own hb, own_below h.gl hb, h.nm, fun s hs => (h.blk s hs).below hb, (hb.block _ (blk_lt h.fb)).trans h.fb, (hb.block _ (blk_lt h.zb)).trans h.zb, h.ne, h.ge, (hb.block _ (blk_lt h.nb)).trans h.nb, h.bel.trans (hb.mono h.bel.size)⟩
theorem RI.len (h : RI w0 w N f gv sv l k) (hk : k ≤ 14) : l.length = k := by
  have := congrArg List.length h.nm
  rw [List.length_map, List.length_take] at this
  have h14 : largeN.length = 14 := rfl
  omega
/-- one stretch more, and the field stored -/
theorem RI.more (h : RI w0 w N f gv sv l k) (hk : k < largeN.length) {s : RSt} (hs : RBlk w w0.heap.size s) (hn : s.n = largeN[k]) {v' : Value} (hg : w.grownBy w' sv.ownBlock) (ho : w'.ownsRow w0.heap.size 43 4 v' (l.length + 1) (rscells l ++ s.cells)) :
    RI w0 (w'.setCell ⟨f, 1, none⟩ v') N f gv v' (l ++ [s]) (k + 1) := by
  have hr : ∀ k, sv.ownBlock = some k → ∃ cs fr, w.heap[k]? = some (.cells cs 43 fr) := fun k hk => own_type h.own hk
  have hfb := blk_ofType hg hr h.fb (by decide)
  have hg2 : w'.grownBy (w'.setCell ⟨f, 1, none⟩ v') (some f) := ⟨rfl, rfl, rfl, by simp, fun k _ hk => heap_setCell_other w' ⟨f, 1, none⟩ k v' (fun e => hk (by simp [e]))⟩
  have hr2 : ∀ k, some f = some k → ∃ cs fr, w'.heap[k]? = some (.cells cs 29 fr) := fun k hk => by cases hk; exact ⟨_, _, hfb⟩
  refine ⟨?_, own_ofType hg2 hr2 (own_ofType hg hr h.gl (by decide)) (by decide), ?_, ?_, ?_, ?_, h.ne, h.ge, blk_ofType hg2 hr2 (blk_ofType hg hr h.nb (by decide)) (by decide), ?_⟩
  · rw [rscells_append, rscells_one, List.length_append]; exact own_ofType hg2 hr2 ho (by decide)
  · rw [List.map_append, h.nm, List.take_succ_eq_append_getElem hk, ← hn]; rfl
  · intro t ht
    rcases List.mem_append.1 ht with ht | ht
    · exact ((h.blk t ht).grown hg hr (by decide) (by decide)).grown hg2 hr2 (by decide) (by decide)
    · rw [List.mem_singleton] at ht; subst ht; exact (hs.grown hg hr (by decide) (by decide)).grown hg2 hr2 (by decide) (by decide)
  · rw [heap_setCell_same w' f 1 _ 29 v' hfb]; rfl
  · refine (hg2.block _ (blk_lt (blk_ofType hg hr h.zb (by decide))) fun e => h.ne (by cases e; rfl)).trans (blk_ofType hg hr h.zb (by decide))
  · exact ((h.bel.grown hg h.bel.size (fun k hk => (h.own.lt k hk).1)).setCell (p := ⟨f, 1, none⟩) h.ge _)
end
end Go.Proofs.YthgkdeaapjdadaaDoor
