/- Boxes of two cells: what lies in them behind later blocks and calls. -/
import Derived.Test.YtaekhbhjgcmghaaDoorMake
namespace Go.Proofs.YtaekhbhjgcmghaaDoor
open Go.RowKit

/-- block b holds two cells and may be written -/
structure Two (w : World) (b : Nat) (v0 v1 : Value) : Prop where
  c0 : w.cell? ⟨b, 0, none⟩ = some v0
  c1 : w.cell? ⟨b, 1, none⟩ = some v1
  fr : ∀ i, w.frozen? ⟨b, i, none⟩ = false
  lt : b < w.heap.size
theorem Two.below {w w' : World} {b : Nat} {v0 v1 : Value} (h : Two w b v0 v1) (hb : Below w.heap.size w w') : Two w' b v0 v1 :=
  ⟨(hb.cell (p := ⟨b, 0, none⟩) h.lt).trans h.c0, (hb.cell (p := ⟨b, 1, none⟩) h.lt).trans h.c1, fun i => (hb.frozen (p := ⟨b, i, none⟩) h.lt).trans (h.fr i), Nat.lt_of_lt_of_le h.lt hb.size⟩
theorem Two.alloc {w : World} {b : Nat} {v0 v1 : Value} (h : Two w b v0 v1) (o : Obj) : Two (w.alloc o) b v0 v1 := h.below ((Below.refl _ _).alloc (Nat.le_refl _) _)
theorem Two.drewN {w : World} {b : Nat} {v0 v1 : Value} (h : Two w b v0 v1) (n : Nat) : Two (w.drewN n) b v0 v1 := h.below (belowN (Below.refl _ _) n)
theorem Two.drew {w : World} {b : Nat} {v0 v1 : Value} (h : Two w b v0 v1) : Two w.drew b v0 v1 := h.below (Below.refl _ _).drew
theorem Two.new (w : World) (v0 v1 : Value) (t : TypeId) : Two (w.alloc (.cells #[v0, v1] t)) w.heap.size v0 v1 := ⟨by simp, by simp, fun i => by simp, by simp⟩
theorem Two.new1 (w : World) (o : Obj) (v0 v1 : Value) (t : TypeId) : Two ((w.alloc o).alloc (.cells #[v0, v1] t)) (w.heap.size + 1) v0 v1 := by
  have h := Two.new (w.alloc o) v0 v1 t
  rw [World.size_alloc] at h
  exact h
theorem Two.new2 (w : World) (o o' : Obj) (v0 v1 : Value) (t : TypeId) : Two (((w.alloc o).alloc o').alloc (.cells #[v0, v1] t)) (w.heap.size + 1 + 1) v0 v1 := by
  have h := Two.new ((w.alloc o).alloc o') v0 v1 t
  rw [World.size_alloc, World.size_alloc] at h
  exact h
theorem Below.three (w : World) (o o' o'' : Obj) : Below w.heap.size w (((w.alloc o).alloc o').alloc o'') := (((Below.refl _ _).alloc (Nat.le_refl _) _).alloc (by simp) _).alloc (by simp; omega) _
end Go.Proofs.YtaekhbhjgcmghaaDoor
