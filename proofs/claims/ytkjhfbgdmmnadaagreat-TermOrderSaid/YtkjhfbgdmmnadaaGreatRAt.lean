/- Contract of the reference's At 25. -/
import Derived.Test.YtkjhfbgdmmnadaaGreatAtt
import Derived.RegionTactic
namespace Go.Proofs.YtkjhfbgdmmnadaaGreat
open Go.RowKit

theorem Bk.drew {w : World} {b : Nat} {v0 v1 v2 v3 v4 : Value} (h : Bk w b v0 v1 v2 v3 v4) : Bk w.drew b v0 v1 v2 v3 v4 := h
theorem TVS.drew {w : World} {S : Nat → Prop} {t : T} {A : Option Addr} {c : Nat} (h : TVS w S t A c) : TVS w.drew S t A c := h.keep (fun _ hk => ⟨hk, rfl⟩)
theorem Bk.set0 {w : World} {b : Nat} {v0 v1 v2 v3 v4 : Value} (h : Bk w b v0 v1 v2 v3 v4) (u : Value) : Bk (w.setCell ⟨b, 0, none⟩ u) b u v1 v2 v3 v4 := by
  unfold Bk at h ⊢
  show (w.heap.modify b _)[b]? = _
  rw [Array.getElem?_modify, if_pos rfl, h]
  rfl
theorem Bk.set1 {w : World} {b : Nat} {v0 v1 v2 v3 v4 : Value} (h : Bk w b v0 v1 v2 v3 v4) (u : Value) : Bk (w.setCell ⟨b, 1, none⟩ u) b v0 u v2 v3 v4 := by
  unfold Bk at h ⊢
  show (w.heap.modify b _)[b]? = _
  rw [Array.getElem?_modify, if_pos rfl, h]
  rfl
theorem Bk.set2 {w : World} {b : Nat} {v0 v1 v2 v3 v4 : Value} (h : Bk w b v0 v1 v2 v3 v4) (u : Value) : Bk (w.setCell ⟨b, 2, none⟩ u) b v0 v1 u v3 v4 := by
  unfold Bk at h ⊢
  show (w.heap.modify b _)[b]? = _
  rw [Array.getElem?_modify, if_pos rfl, h]
  rfl
theorem Bk.set4 {w : World} {b : Nat} {v0 v1 v2 v3 v4 : Value} (h : Bk w b v0 v1 v2 v3 v4) (u : Value) : Bk (w.setCell ⟨b, 4, none⟩ u) b v0 v1 v2 v3 u := by
  unfold Bk at h ⊢
  show (w.heap.modify b _)[b]? = _
  rw [Array.getElem?_modify, if_pos rfl, h]
  rfl

end Go.Proofs.YtkjhfbgdmmnadaaGreat
