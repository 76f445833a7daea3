/- A slice of integers as an argument. -/
import Derived.Test.YtbaljopgkelcfaaDoorLaid
import Derived.Test.YtbaljopgkelcfaaDoorSums
import Derived.ChangeSlices
namespace Go.Proofs.YtbaljopgkelcfaaDoor
open Go.ChangeShapes Go.WideShapes Go.ChangeAt Go.RowKit

theorem open_ints33 {H : Type} {enc : TypeId × Value → H} {w : World} {base : Nat} {spare : Nat → Bool} {held : Bool} {a : Option Addr} {len cap : Nat} {d : DataW H} {p : List MemPlace}
    (h : DataW.Trod enc Tryd.prog w base spare held 33 (.slice a len cap) d p) :
    ∃ l : List Int, IR w w.heap.size a l ∧ len = l.length ∧ l.length ≤ maxLen ∧ (a = none → cap = 0) := by
  obtain ⟨fuel, hf⟩ := h
  rcases open_ints Tryd.underlying33 Tryd.underlying3 (by kernel_rfl) hf with ⟨hcs, _⟩ | ⟨ad, len', cap', zs, hcs, _, hlc, hcm, hzl, _, hc, _⟩
  · simp [Value.cells] at hcs
    obtain ⟨rfl, rfl, rfl⟩ := hcs
    exact ⟨[], IR.nil, rfl, Nat.zero_le _, fun _ => rfl⟩
  · simp [Value.cells] at hcs
    obtain ⟨rfl, rfl, rfl⟩ := hcs
    have hlz : len ≤ zs.length := by rw [hzl]; split <;> omega
    refine ⟨zs.take len, fun hne => ?_, by rw [List.length_take]; omega, by rw [List.length_take]; omega, fun h => by cases h⟩
    have hpos : 0 < len := by
      rcases Nat.eq_zero_or_pos len with h0 | h0
      · subst h0; simp at hne
      · exact h0
    have h0 := hc 0 (by omega)
    have hsp : ad = ⟨ad.block, ad.off, none⟩ := by
      have := World.cell?_spot h0
      cases ad; simp_all [Addr.add]
    refine ⟨ad.block, ad.off, by rw [← hsp], ?_, fun i z hz => ?_⟩
    · have := World.block_lt_of_cell? w _ h0
      rw [hsp, addr_add'] at this
      exact this
    · have hi : i < len := by
        have := (List.getElem?_eq_some_iff.1 hz).1
        rw [List.length_take] at this; omega
      have h1 := hc i (by omega)
      rw [hsp, addr_add'] at h1
      rw [List.getElem?_take_of_lt hi] at hz
      rw [h1, List.getD_eq_getElem?_getD, hz]
      rfl
end Go.Proofs.YtbaljopgkelcfaaDoor
