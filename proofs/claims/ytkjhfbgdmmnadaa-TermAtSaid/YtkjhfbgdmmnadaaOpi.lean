/- An argument of type '[]int' opened to a path in memory. -/
import Derived.Test.YtkjhfbgdmmnadaaAtK
namespace Go.Proofs.Ytkjhfbgdmmnadaa
open Go.RowKit Go.ChangeShapes Go.WideShapes Go.ChangeAt Go.Deep

section
variable {H : Type} {enc : TypeId × Value → H} {w : World} {base : Nat} {spare : Nat → Bool} {held : Bool}
set_option maxRecDepth 100000 in
theorem open_intsVal {r : Reach} {b0 : Nat} {v : Value} {d : DataW H} {q : List MemPlace} (hv : Value.okWide Try.prog w r b0 32 v) (h : DataW.Trod enc Try.prog w base spare held 32 v d q) :
    ∃ (A : Option Addr) (p : List Int) (c : Nat), v = .slice A p.length c ∧ PX w A c p ∧ (A = none → c = 0) := by
  obtain ⟨a0, len0, cap0, rfl⟩ := okWide_slice Try.underlying32 hv
  obtain ⟨fuel, hf⟩ := h
  rcases open_slice1 Try.underlying32 cells3 hf with ⟨hcs, _⟩ | ⟨a, len, cap, m, n, V, D, Pl, hcs, hb, hl, hm, hmm, hx, hi⟩
  · simp [Value.cells] at hcs
    obtain ⟨rfl, rfl, rfl⟩ := hcs
    exact ⟨none, [], 0, rfl, ⟨none, 0, rfl, ⟨Nat.le_refl _, by omega⟩, fun hne => absurd rfl hne⟩, fun _ => rfl⟩
  · simp [Value.cells] at hcs
    obtain ⟨rfl, rfl, rfl⟩ := hcs
    have hlm : len0 ≤ m := by rw [hmm]; split <;> omega
    have hex : ∀ i, ∃ x : Int, i < len0 → w.cell? (a.add i) = some (.int .i64 x) := by
      intro i
      by_cases hil : i < len0
      · obtain ⟨hc, ht⟩ := hi i (by omega)
        obtain ⟨k, hk, _, _⟩ := DataW.trod_int Try.underlying3 ht
        simp at hk
        exact ⟨k, fun _ => by rw [hc, hk]⟩
      · exact ⟨0, fun h => absurd h hil⟩
    obtain ⟨f, hff⟩ := Classical.axiomOfChoice hex
    have hlen : ((List.range len0).map f).length = len0 := by simp
    refine ⟨some a, (List.range len0).map f, cap0, by rw [hlen], ⟨some a, cap0, rfl, ⟨by rw [hlen]; exact hl, by unfold maxLen at hm; omega⟩, fun hne => ?_⟩, fun e => by cases e⟩
    have hpos : 0 < len0 := by
      rcases Nat.eq_zero_or_pos len0 with h0 | h0
      · subst h0; exact absurd rfl hne
      · exact h0
    have hsp := hff 0 hpos
    simp [Addr.add] at hsp
    have ha := addr_spot hsp
    refine ⟨a.block, a.off, by rw [← ha], World.block_lt_of_cell? w a hsp, fun j hj => ?_⟩
    have hj' : j < len0 := by rw [hlen] at hj; exact hj
    have := hff j hj'
    rw [ha, addr_add] at this
    rw [this]
    simp
end
end Go.Proofs.Ytkjhfbgdmmnadaa
