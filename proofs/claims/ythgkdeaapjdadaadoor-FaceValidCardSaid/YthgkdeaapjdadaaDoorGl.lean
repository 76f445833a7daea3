/- Words for glyphs: a glyph as a value and in memory, a row of glyphs that the call has made, the maker's list. -/
import Derived.Test.YthgkdeaapjdadaaDoorRows
import Derived.WalkKit
import Derived.WalkSpells
import Derived.WalkLawsBesides
import Derived.Lib.Hide
import Derived.Deep.LoopGhost
import Derived.Laws.OwnMore
namespace Go.Proofs.YthgkdeaapjdadaaDoor
open Go.RowKit

structure Gl where
  name : List UInt8
  w : Int
  h : Int
  d : Int
  it : Int
  at_ : Int

def Gl.val (g : Gl) : Value := .agg #[.string ⟨g.name.toArray⟩, .int .i64 g.w, .int .i64 g.h, .int .i64 g.d, .int .i64 g.it, .int .i64 g.at_]
def Gl.cells (g : Gl) : List Value := [.string ⟨g.name.toArray⟩, .int .i64 g.w, .int .i64 g.h, .int .i64 g.d, .int .i64 g.it, .int .i64 g.at_]
def gcells (l : List Gl) : List Value := l.flatMap Gl.cells
theorem gcells_len (l : List Gl) : (gcells l).length = l.length * 6 := by
  induction l with
  | nil => rfl
  | cons e l ih => unfold gcells at ih ⊢; rw [List.flatMap_cons, List.length_append, ih, List.length_cons]; simp [Gl.cells]; omega
theorem gcells_append (l l' : List Gl) : gcells (l ++ l') = gcells l ++ gcells l' := by simp [gcells]
theorem gcells_one (e : Gl) : gcells [e] = e.cells := by simp [gcells]
theorem gcells_cons (e : Gl) (l : List Gl) : gcells (e :: l) = e.cells ++ gcells l := by simp [gcells]
theorem gcells_at (l : List Gl) : ∀ (i j : Nat) (e : Gl), l[i]? = some e → j < 6 → (gcells l)[i * 6 + j]? = e.cells[j]? := by
  induction l with
  | nil => intro i j e h; simp at h
  | cons a l ih =>
    intro i j e h hj
    rw [gcells_cons]
    cases i with
    | zero =>
      cases h
      rw [Nat.zero_mul, Nat.zero_add, List.getElem?_append_left (by simp [Gl.cells]; omega)]
    | succ i =>
      rw [List.getElem?_append_right (by simp [Gl.cells]; omega)]
      have : (i + 1) * 6 + j - a.cells.length = i * 6 + j := by simp [Gl.cells]; omega
      rw [this]
      exact ih i j e h hj
theorem gcells_oneCell (l : List Gl) : ∀ u ∈ gcells l, u.oneCell' = true := by
  intro u hu
  obtain ⟨e, _, he⟩ := List.mem_flatMap.1 hu
  simp [Gl.cells] at he
  rcases he with rfl | rfl | rfl | rfl | rfl | rfl <;> rfl
theorem addr_add' (b o i : Nat) : (⟨b, o, none⟩ : Addr).add i = ⟨b, o + i, none⟩ := by
  unfold Addr.add; split
  · simp [*]
  · rfl

/-- the six cells of the glyph that lies at (b, o) -/
structure GlAt (w : World) (b o : Nat) (g : Gl) : Prop where
  c0 : w.cell? ⟨b, o, none⟩ = some (.string ⟨g.name.toArray⟩)
  c1 : w.cell? ⟨b, o + 1, none⟩ = some (.int .i64 g.w)
  c2 : w.cell? ⟨b, o + 2, none⟩ = some (.int .i64 g.h)
  c3 : w.cell? ⟨b, o + 3, none⟩ = some (.int .i64 g.d)
  c4 : w.cell? ⟨b, o + 4, none⟩ = some (.int .i64 g.it)
  c5 : w.cell? ⟨b, o + 5, none⟩ = some (.int .i64 g.at_)
theorem GlAt.below {w w' : World} {B b o : Nat} {g : Gl} (h : GlAt w b o g) (hb : Below B w w') (hlt : b < B) : GlAt w' b o g :=
  ⟨(hb.cell (p := ⟨b, o, none⟩) hlt).trans h.c0, (hb.cell (p := ⟨b, o + 1, none⟩) hlt).trans h.c1, (hb.cell (p := ⟨b, o + 2, none⟩) hlt).trans h.c2, (hb.cell (p := ⟨b, o + 3, none⟩) hlt).trans h.c3, (hb.cell (p := ⟨b, o + 4, none⟩) hlt).trans h.c4, (hb.cell (p := ⟨b, o + 5, none⟩) hlt).trans h.c5⟩

theorem GlAt.src {w : World} {b : Nat} {g : Gl} (h : GlAt w b 0 g) : ∀ j u, g.cells[j]? = some u → w.cell? ((⟨b, 0, none⟩ : Addr).add j) = some u := by
  intro j u hu
  rw [addr_add']
  have hj : j < 6 := by have := (List.getElem?_eq_some_iff.1 hu).1; simpa [Gl.cells] using this
  have hm : j = 0 ∨ j = 1 ∨ j = 2 ∨ j = 3 ∨ j = 4 ∨ j = 5 := by omega
  rcases hm with rfl | rfl | rfl | rfl | rfl | rfl <;> (unfold Gl.cells at hu; simp at hu; subst hu)
  · exact h.c0
  · exact h.c1
  · exact h.c2
  · exact h.c3
  · exact h.c4
  · exact h.c5
theorem GlAt.new (w : World) (n : List UInt8) (a b c d e : Int) (t : TypeId) : GlAt (w.alloc (.cells #[.string ⟨n.toArray⟩, .int .i64 a, .int .i64 b, .int .i64 c, .int .i64 d, .int .i64 e] t)) w.heap.size 0 ⟨n, a, b, c, d, e⟩ :=
  ⟨by simp, by simp, by simp, by simp, by simp, by simp⟩
/-- a slice value that begins at A holds the glyphs l, below block B -/
def GR (w : World) (B : Nat) (A : Option Addr) (l : List Gl) : Prop :=
  l ≠ [] → ∃ b off, A = some ⟨b, off, none⟩ ∧ b < B ∧ ∀ i e, l[i]? = some e → GlAt w b (off + i * 6) e
section
variable {w w' : World} {B B' : Nat} {A : Option Addr} {l : List Gl}
theorem GR.nil : GR w B A [] := fun h => absurd rfl h
theorem GR.at_ (h : GR w B A l) {i : Nat} (hi : i < l.length) : ∃ b off, A = some ⟨b, off, none⟩ ∧ b < B ∧ GlAt w b (off + i * 6) l[i] := by
  obtain ⟨b, off, ha, hb, hc⟩ := h (by intro h; simp [h] at hi)
  exact ⟨b, off, ha, hb, hc i _ (List.getElem?_eq_getElem hi)⟩
theorem GR.below (h : GR w B A l) (hb : Below B w w') : GR w' B A l := fun hl => by
  obtain ⟨b, off, ha, hlt, hc⟩ := h hl
  exact ⟨b, off, ha, hlt, fun i e he => (hc i e he).below hb hlt⟩
theorem GR.more (h : GR w B A l) (hB : B ≤ B') : GR w B' A l := fun hl => by
  obtain ⟨b, off, ha, hlt, hc⟩ := h hl
  exact ⟨b, off, ha, by omega, hc⟩
end
theorem own_below {w w' : World} {base : Nat} {e : TypeId} {size n : Nat} {v : Value} {xs : List Value} (h : w.ownsRow base e size v n xs) (hb : Below w.heap.size w w') : w'.ownsRow base e size v n xs :=
  h.kept (row := none) ⟨hb.os, hb.tape, hb.output, hb.size, fun k hk _ => hb.block k hk⟩ (by cases v.ownBlock <;> simp)
theorem own_set {w : World} {b : Nat} {e : TypeId} {size n : Nat} {v : Value} {xs : List Value} (h : w.ownsRow (b + 1) e size v n xs) (u : Value) : (w.setCell ⟨b, 0, none⟩ u).ownsRow (b + 1) e size v n xs :=
  h.kept (row := some b) ⟨rfl, rfl, rfl, by simp, fun k _ hne => Below.heap_setCell _ _ _ _ (fun e => hne (by rw [e]))⟩ (by
    cases hv : v.ownBlock with
    | none => exact .inl rfl
    | some k => right; intro e; cases e; have := (h.lt b hv).1; omega)
/-- a row that the call owns, as a slice of glyphs -/
theorem GR.of_own {w : World} {base : Nat} {v : Value} {l : List Gl} (h : w.ownsRow base 32 6 v l.length (gcells l)) : ∃ A c, v = .slice A l.length c ∧ GR w w.heap.size A l ∧ l.length ≤ c := by
  have h0 := h
  rcases h.2 with ⟨rfl, hn⟩ | ⟨g, cap, cur, rfl, hb, hh, hnc, _⟩
  · have : l = [] := List.eq_nil_of_length_eq_zero hn
    subst this
    exact ⟨_, _, rfl, GR.nil, Nat.le_refl _⟩
  · refine ⟨_, _, rfl, fun _ => ⟨g, 0, rfl, (h0.lt g rfl).2, fun i e he => ?_⟩, hnc⟩
    have key : ∀ j v, j < 6 → e.cells[j]? = some v → w.cell? ⟨g, 0 + i * 6 + j, none⟩ = some v := by
      intro j v hj hv
      have := h0.cells (g := g) rfl (i * 6 + j) v (by rw [gcells_at l i j e he hj]; exact hv)
      rw [addr_add'] at this
      rw [← this, Nat.add_assoc]
    exact ⟨key 0 _ (by omega) rfl, key 1 _ (by omega) rfl, key 2 _ (by omega) rfl, key 3 _ (by omega) rfl, key 4 _ (by omega) rfl, key 5 _ (by omega) rfl⟩
theorem gl_info : (Tryd.prog.info? 32).map (fun i => (i.zero, i.size, i.bytes)) = some (some (.agg #[.string ⟨#[]⟩, .int .i64 0, .int .i64 0, .int .i64 0, .int .i64 0, .int .i64 0]), 6, 56) := by kernel_rfl

/-- the maker at block b: its cell holds a slice that owns the glyphs l -/
structure Mk (w : World) (b : Nat) (l : List Gl) : Prop where
  ex : ∃ v, w.cell? ⟨b, 0, none⟩ = some v ∧ w.ownsRow (b + 1) 32 6 v l.length (gcells l)
  fr : w.frozen? ⟨b, 0, none⟩ = false
  lt : b < w.heap.size
theorem Mk.below {w w' : World} {b : Nat} {l : List Gl} (h : Mk w b l) (hb : Below w.heap.size w w') : Mk w' b l := by
  obtain ⟨v, hc, ho⟩ := h.ex
  exact ⟨⟨v, (hb.cell (p := ⟨b, 0, none⟩) h.lt).trans hc, own_below ho hb⟩, (hb.frozen (p := ⟨b, 0, none⟩) h.lt).trans h.fr, Nat.lt_of_lt_of_le h.lt hb.size⟩
def glOf (n : List UInt8) (w h d i : Int) : Gl := ⟨n, w, h, d, i, w / 2⟩
theorem own_type {w : World} {base : Nat} {e : TypeId} {size n : Nat} {v : Value} {xs : List Value} (h : w.ownsRow base e size v n xs) {k : Nat} (hk : v.ownBlock = some k) : ∃ cs fr, w.heap[k]? = some (.cells cs e fr) := by
  rcases h.2 with ⟨rfl, _⟩ | ⟨g, cap, cur, rfl, hb, hh, hnc, _⟩
  · cases hk
  · cases hk; exact ⟨_, _, hh⟩
/-- blocks that hold no glyphs stay, but for block b -/
def Keep (b : Nat) (w w' : World) : Prop := w.heap.size ≤ w'.heap.size ∧ ∀ k, k < w.heap.size → k ≠ b → (∀ cs fr, w.heap[k]? ≠ some (.cells cs 32 fr)) → w'.heap[k]? = w.heap[k]?
theorem Keep.refl (b : Nat) (w : World) : Keep b w w := ⟨Nat.le_refl _, fun _ _ _ _ => rfl⟩
theorem Keep.trans {b : Nat} {w w' w'' : World} (h : Keep b w w') (h' : Keep b w' w'') : Keep b w w'' :=
  ⟨Nat.le_trans h.1 h'.1, fun k hk hb ht => (h'.2 k (Nat.lt_of_lt_of_le hk h.1) hb (by rw [h.2 k hk hb ht]; exact ht)).trans (h.2 k hk hb ht)⟩
theorem Keep.of_below {b : Nat} {w w' : World} (h : Below w.heap.size w w') : Keep b w w' := ⟨h.size, fun k hk _ _ => h.block k hk⟩
/-- behind a call that has made the list longer -/
def RetMk (w : World) (b B : Nat) (l : List Gl) (e : Ending) (w' : World) : Prop := e = .returned (.tuple #[]) ∧ Mk w' b l ∧ Below B w w' ∧ Keep b w w'
end Go.Proofs.YthgkdeaapjdadaaDoor
