/- Words for FaceFont: what holds while its loops empty the font that was returned. -/
import Derived.Test.YthgkdeaapjdadaaDoorSS
namespace Go.Proofs.YthgkdeaapjdadaaDoor
open Go.RowKit

def pnm (n : List UInt8) (k : Nat) : ByteArray := if k + 1 = pk n then ⟨n.toArray⟩ ++ ⟨#[116, 111, 112]⟩ else if k % 2 = 0 then ⟨n.toArray⟩ ++ ⟨#[98, 111, 116]⟩ else ⟨n.toArray⟩ ++ ⟨#[101, 120, 116]⟩
def pbm (n : List UInt8) (k : Nat) : Bool := if k + 1 = pk n then false else if k % 2 = 0 then false else true
theorem part_at (n : List UInt8) (k : Nat) (h : k < pk n) : (partL n)[k * 2]? = some (.string (pnm n k)) ∧ (partL n)[k * 2 + 1]? = some (.bool (pbm n k)) := by
  unfold partL pnm pbm
  unfold pk at h ⊢
  cases hb : brace n
  · rw [hb] at h
    have h3 : k < 3 := h
    have hm : k = 0 ∨ k = 1 ∨ k = 2 := by omega
    rcases hm with rfl | rfl | rfl <;> exact ⟨rfl, rfl⟩
  · rw [hb] at h
    have h5 : k < 5 := h
    have hm : k = 0 ∨ k = 1 ∨ k = 2 ∨ k = 3 ∨ k = 4 := by omega
    rcases hm with rfl | rfl | rfl | rfl | rfl <;> exact ⟨rfl, rfl⟩
theorem partC_L (n : List UInt8) : partC n = (partL n).toArray := rfl
theorem pk_le (n : List UInt8) : pk n ≤ 5 := by unfold pk; split <;> omega
theorem partL_len (n : List UInt8) : (partL n).length = pk n * 2 := by unfold partL pk; cases brace n <;> rfl
/-- the parts of two stretches with one name -/
theorem parts_pair {w : World} {base : Nat} (n : List UInt8) (pb : Nat) (s : RSt) (hs : s.n = n) (h1 : asmN.contains n = true → w.heap[pb]? = some (.cells (partC n) 63)) (h2 : RBlk w base s) :
    ∃ m A1 c1 A2 c2, pv n pb = .slice A1 m c1 ∧ s.pv = .slice A2 m c2 ∧ m ≤ 5 ∧ (0 < m → ∃ p1 p2, A1 = some ⟨p1, 0, none⟩ ∧ A2 = some ⟨p2, 0, none⟩ ∧ PAt w w.heap.size p1 m (pnm n) (pbm n) ∧ PAt w w.heap.size p2 m (pnm n) (pbm n)) := by
  subst hs
  have hp := h2.pt
  cases hc : asmN.contains s.n
  · rw [if_neg (by rw [hc]; decide)] at hp
    refine ⟨0, none, 0, none, 0, ?_, hp, by omega, fun h => absurd h (Nat.not_lt_zero _)⟩
    unfold pv; rw [hc]; rfl
  · rw [if_pos hc] at hp
    have h1 := h1 hc
    obtain ⟨p2, c2, hv, _, hlt⟩ := hp.form (by unfold pk; split <;> omega)
    refine ⟨pk s.n, some ⟨pb, 0, none⟩, pk s.n, some ⟨p2, 0, none⟩, c2, ?_, hv, pk_le _, fun _ => ⟨pb, p2, rfl, rfl, ⟨blk_lt h1, fun k hk => ?_⟩, ⟨hlt, fun k hk => ?_⟩⟩⟩
    · unfold pv; rw [hc]; rfl
    · obtain ⟨e1, e2⟩ := part_at s.n k hk
      rw [cell_blk h1, cell_blk h1, partC_L]
      exact ⟨by simpa using e1, by simpa using e2⟩
    · obtain ⟨e1, e2⟩ := part_at s.n k hk
      rw [hv] at hp
      rw [hp.cellAt (k * 2) (by omega), hp.cellAt (k * 2 + 1) (by omega)]
      exact ⟨e1, e2⟩
theorem sizes_at {w : World} {sb : Nat} {n : List UInt8} (h : w.heap[sb]? = some (.cells (sizeC n) 9)) : SAt w w.heap.size sb n :=
  ⟨blk_lt h, fun k hk => (cell_blk h k).trans (sizeC_at n k hk)⟩
theorem sizeC_inj {n n' : List UInt8} (h : sizeC n = sizeC n') : n = n' := by
  have h0 : (sizeC n)[0]? = (sizeC n')[0]? := by rw [h]
  have h1 : Value.string ⟨n.toArray⟩ = Value.string ⟨n'.toArray⟩ := Option.some.inj h0
  have h2 := congrArg ByteArray.data (Value.string.inj h1)
  simpa using h2
theorem large_ne : ∀ i j, i < 14 → j < 14 → i ≠ j → largeN.getD i [] ≠ largeN.getD j [] := by
  have h : (List.range 14).all (fun i => (List.range 14).all fun j => decide (i = j) || decide (largeN.getD i [] ≠ largeN.getD j [])) = true := by decide +kernel
  intro i j hi hj hne
  have := List.all_eq_true.1 (List.all_eq_true.1 h i (List.mem_range.2 hi)) j (List.mem_range.2 hj)
  simp only [Bool.or_eq_true, decide_eq_true_eq] at this
  rcases this with h | h
  · exact absurd h hne
  · exact h

structure FI (w wr : World) (B i f1 f2 : Nat) (cs1 cs2 : Array Value) (g1 c1 t1 sc1 g2 c2 t2 sc2 : Nat) (l : List St) (l2 : List RSt) : Prop where
  bel : Below w.heap.size w wr
  F1 : wr.heap[f1]? = some (.cells cs1 29)
  F2 : wr.heap[f2]? = some (.cells cs2 29)
  G1 : wr.ownsRow w.heap.size 32 6 (.slice (some ⟨g1, 0, none⟩) GF.length c1) GF.length (gcells GF)
  G2 : wr.ownsRow B 32 6 (.slice (some ⟨g2, 0, none⟩) GF.length c2) GF.length (gcells GF)
  T1 : wr.ownsRow w.heap.size 43 4 (.slice (some ⟨t1, 0, none⟩) 14 sc1) 14 (scells l)
  T2 : wr.ownsRow B 43 4 (.slice (some ⟨t2, 0, none⟩) 14 sc2) 14 (rscells l2)
  n1 : l.map (·.n) = largeN
  n2 : l2.map (·.n) = largeN
  pt : ∀ s ∈ l, asmN.contains s.n = true → wr.heap[s.pb]? = some (.cells (partC s.n) 63)
  sz : ∀ j s, l[j]? = some s → i ≤ j → wr.heap[s.sb]? = some (.cells (sizeC s.n) 9)
  lt : ∀ s ∈ l, s.sb < B
  ge : ∀ s ∈ l, w.heap.size ≤ s.sb
  bk : ∀ s ∈ l2, RBlk wr B s
  gl : g1 < B
section
variable {w wr wr' : World} {B i f1 f2 : Nat} {cs1 cs2 : Array Value} {g1 c1 t1 sc1 g2 c2 t2 sc2 : Nat} {l : List St} {l2 : List RSt}
theorem FI.below (h : FI w wr B i f1 f2 cs1 cs2 g1 c1 t1 sc1 g2 c2 t2 sc2 l l2) (hb : Below wr.heap.size wr wr') : FI w wr' B i f1 f2 cs1 cs2 g1 c1 t1 sc1 g2 c2 t2 sc2 l l2 :=
  ⟨h.bel.trans (hb.mono h.bel.size), (hb.block _ (blk_lt h.F1)).trans h.F1, (hb.block _ (blk_lt h.F2)).trans h.F2, own_below h.G1 hb, own_below h.G2 hb, own_below h.T1 hb, own_below h.T2 hb, h.n1, h.n2,
    fun s hs hc => (hb.block _ (blk_lt (h.pt s hs hc))).trans (h.pt s hs hc), fun j s hj hi => (hb.block _ (blk_lt (h.sz j s hj hi))).trans (h.sz j s hj hi), h.lt, h.ge, fun s hs => (h.bk s hs).below hb, h.gl⟩
theorem FI.len1 (h : FI w wr B i f1 f2 cs1 cs2 g1 c1 t1 sc1 g2 c2 t2 sc2 l l2) : l.length = 14 := by
  have := congrArg List.length h.n1; rwa [List.length_map] at this
theorem FI.len2 (h : FI w wr B i f1 f2 cs1 cs2 g1 c1 t1 sc1 g2 c2 t2 sc2 l l2) : l2.length = 14 := by
  have := congrArg List.length h.n2; rwa [List.length_map] at this
theorem FI.nm1 (h : FI w wr B i f1 f2 cs1 cs2 g1 c1 t1 sc1 g2 c2 t2 sc2 l l2) {j : Nat} {s : St} (hj : l[j]? = some s) : s.n = largeN.getD j [] := by
  rw [← h.n1, List.getD_eq_getElem?_getD, List.getElem?_map, hj]; rfl
theorem FI.nm2 (h : FI w wr B i f1 f2 cs1 cs2 g1 c1 t1 sc1 g2 c2 t2 sc2 l l2) {j : Nat} {s : RSt} (hj : l2[j]? = some s) : s.n = largeN.getD j [] := by
  rw [← h.n2, List.getD_eq_getElem?_getD, List.getElem?_map, hj]; rfl
/-- the first size of stretch i emptied -/
theorem FI.next (h : FI w wr B i f1 f2 cs1 cs2 g1 c1 t1 sc1 g2 c2 t2 sc2 l l2) {s : St} (hs : l[i]? = some s) : FI w (wr.setCell ⟨s.sb, 0, none⟩ (.string ⟨#[]⟩)) B (i + 1) f1 f2 cs1 cs2 g1 c1 t1 sc1 g2 c2 t2 sc2 l l2 := by
  have hm : s ∈ l := List.mem_of_getElem? hs
  have hsz := h.sz i s hs (Nat.le_refl _)
  have hg := set_grown wr s.sb 0 (.string ⟨#[]⟩)
  have hr : ∀ k, some s.sb = some k → ∃ cs fr, wr.heap[k]? = some (.cells cs 9 fr) := fun k hk => by cases hk; exact ⟨_, _, hsz⟩
  have hi14 : i < 14 := by rw [← h.len1]; exact (List.getElem?_eq_some_iff.1 hs).1
  refine ⟨h.bel.setCell (p := ⟨s.sb, 0, none⟩) (h.ge s hm) _, blk_ofType hg hr h.F1 (by decide), blk_ofType hg hr h.F2 (by decide), own_ofType hg hr h.G1 (by decide), own_ofType hg hr h.G2 (by decide), own_ofType hg hr h.T1 (by decide), own_ofType hg hr h.T2 (by decide), h.n1, h.n2,
    fun t ht hc => blk_ofType hg hr (h.pt t ht hc) (by decide), fun j t ht hij => ?_, h.lt, h.ge, fun t ht => ?_, h.gl⟩
  · have htz := h.sz j t ht (by omega)
    have hj14 : j < 14 := by rw [← h.len1]; exact (List.getElem?_eq_some_iff.1 ht).1
    refine (hg.block _ (blk_lt htz) fun e => ?_).trans htz
    have e' : t.sb = s.sb := Option.some.inj e
    rw [e', hsz] at htz
    have hn : sizeC s.n = sizeC t.n := by injection htz with h1; injection h1
    have := sizeC_inj hn
    rw [h.nm1 hs, h.nm1 ht] at this
    exact large_ne i j hi14 hj14 (by omega) this
  · have hb := h.bk t ht
    have hne : t.sb ≠ s.sb := by have := hb.ge; have := h.lt s hm; omega
    refine ⟨hb.ge, (hg.block _ (blk_lt hb.sz) fun e => hne (Option.some.inj e)).trans hb.sz, ?_⟩
    have := hb.pt
    split at this
    · rw [if_pos ‹_›]; exact own_ofType hg hr this (by decide)
    · rw [if_neg ‹_›]; exact this
end
theorem PAt.more {w : World} {b b' p m : Nat} {pn : Nat → ByteArray} {pb : Nat → Bool} (h : PAt w b p m pn pb) (hb : b ≤ b') : PAt w b' p m pn pb := ⟨Nat.lt_of_lt_of_le h.1 hb, h.2⟩
def neg (g : Gl) : Gl := ⟨g.name, -1, g.h, g.d, g.it, g.at_⟩
theorem neg_set (M R : List Gl) (a : Gl) : (gcells (M ++ a :: R)).set (M.length * 6 + 1) (.int .i64 (-1)) = gcells (M ++ neg a :: R) := by
  rw [gcells_append, gcells_append, gcells_cons, gcells_cons, List.set_append_right _ _ (by rw [gcells_len]; omega), gcells_len, show M.length * 6 + 1 - M.length * 6 = 1 from by omega]
  rfl
theorem neg_len (L : List Gl) (k : Nat) (h : k < L.length) : ((L.take k).map neg).length = k := by rw [List.length_map, List.length_take]; omega
theorem neg_step (L : List Gl) (k : Nat) (h : k < L.length) : (gcells ((L.take k).map neg ++ L.drop k)).set (k * 6 + 1) (.int .i64 (-1)) = gcells ((L.take (k + 1)).map neg ++ L.drop (k + 1)) := by
  have := neg_set ((L.take k).map neg) (L.drop (k + 1)) L[k]
  rw [neg_len L k h] at this
  rw [List.drop_eq_getElem_cons h, this, List.take_succ_eq_append_getElem h, List.map_append, List.append_assoc]
  rfl
theorem neg_at (L : List Gl) (k : Nat) (h : k < L.length) : ((L.take k).map neg ++ L.drop k)[k]? = some L[k] := by
  rw [List.getElem?_append_right (by rw [neg_len L k h]; omega), neg_len L k h, Nat.sub_self, List.drop_eq_getElem_cons h]; rfl
theorem neg_cell (L : List Gl) (k j : Nat) (h : k < L.length) (hj : j < 6) : (gcells ((L.take k).map neg ++ L.drop k))[k * 6 + j]? = L[k].cells[j]? :=
  gcells_at _ k j L[k] (neg_at L k h) hj
structure FJ (w wr : World) (B k f1 f2 : Nat) (cs1 cs2 : Array Value) (g1 c1 g2 c2 t2 sc2 : Nat) (l2 : List RSt) : Prop where
  bel : Below w.heap.size w wr
  F1 : wr.heap[f1]? = some (.cells cs1 29)
  F2 : wr.heap[f2]? = some (.cells cs2 29)
  G1 : wr.ownsRow w.heap.size 32 6 (.slice (some ⟨g1, 0, none⟩) GF.length c1) GF.length (gcells ((GF.take k).map neg ++ GF.drop k))
  G2 : wr.ownsRow B 32 6 (.slice (some ⟨g2, 0, none⟩) GF.length c2) GF.length (gcells GF)
  T2 : wr.ownsRow B 43 4 (.slice (some ⟨t2, 0, none⟩) 14 sc2) 14 (rscells l2)
  n2 : l2.map (·.n) = largeN
  bk : ∀ s ∈ l2, RBlk wr B s
  gl : g1 < B
section
variable {w wr wr' : World} {B k f1 f2 : Nat} {cs1 cs2 : Array Value} {g1 c1 g2 c2 t2 sc2 : Nat} {l2 : List RSt}
theorem FJ.below (h : FJ w wr B k f1 f2 cs1 cs2 g1 c1 g2 c2 t2 sc2 l2) (hb : Below wr.heap.size wr wr') : FJ w wr' B k f1 f2 cs1 cs2 g1 c1 g2 c2 t2 sc2 l2 :=
  ⟨h.bel.trans (hb.mono h.bel.size), (hb.block _ (blk_lt h.F1)).trans h.F1, (hb.block _ (blk_lt h.F2)).trans h.F2, own_below h.G1 hb, own_below h.G2 hb, own_below h.T2 hb, h.n2, fun s hs => (h.bk s hs).below hb, h.gl⟩
theorem FJ.next (h : FJ w wr B k f1 f2 cs1 cs2 g1 c1 g2 c2 t2 sc2 l2) (hk : k < GF.length) : FJ w (wr.setCell ⟨g1, k * 6 + 1, none⟩ (.int .i64 (-1))) B (k + 1) f1 f2 cs1 cs2 g1 c1 g2 c2 t2 sc2 l2 := by
  obtain ⟨ho, hg⟩ := h.G1.stored (k * 6 + 1) (.int .i64 (-1))
  rw [neg_step GF k hk] at ho
  have hr : ∀ j, some g1 = some j → ∃ cs fr, wr.heap[j]? = some (.cells cs 32 fr) := fun j hj => own_type h.G1 hj
  have hg2 : B ≤ g2 := (h.G2.lt g2 rfl).1
  have hgl := h.gl
  refine ⟨h.bel.grown hg h.bel.size (fun j hj => by cases hj; exact (h.G1.lt g1 rfl).1), blk_ofType hg hr h.F1 (by decide), blk_ofType hg hr h.F2 (by decide), ho, ?_, own_ofType hg hr h.T2 (by decide), h.n2, fun s hs => (h.bk s hs).grown hg hr (by decide) (by decide), h.gl⟩
  exact ownsRow_setCell_other h.G2 (a := ⟨g1, k * 6 + 1, none⟩) (fun e => by have e' : g2 = g1 := Option.some.inj e; omega) _
end
end Go.Proofs.YthgkdeaapjdadaaDoor
