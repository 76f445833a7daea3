/- An argument of type '[]string' opened to a list of names in memory. -/
import Derived.Test.YtkjhfbgdmmnadaaOpn
import Derived.Test.YtkjhfbgdmmnadaaRLf
namespace Go.Proofs.Ytkjhfbgdmmnadaa
open Go.RowKit Go.ChangeShapes Go.WideShapes Go.ChangeAt Go.Deep

section
variable {H : Type} {enc : TypeId × Value → H} {w : World} {base : Nat} {spare : Nat → Bool} {held : Bool}
set_option maxRecDepth 100000 in
theorem open_strsVal {r : Reach} {b0 : Nat} {v : Value} {d : DataW H} {q : List MemPlace} (hv : Value.okWide Try.prog w r b0 30 v) (h : DataW.Trod enc Try.prog w base spare held 30 v d q) :
    ∃ (A : Option Addr) (p : List (List UInt8)) (c : Nat), v = .slice A p.length c ∧ SL w w.heap.size (.slice A p.length c) p ∧ ((A = none → c = 0) ∧ ∀ x ∈ p, x.length ≤ maxLen) := by
  obtain ⟨a0, len0, cap0, rfl⟩ := okWide_slice Try.underlying30 hv
  obtain ⟨fuel, hf⟩ := h
  rcases open_slice1 Try.underlying30 cells9 hf with ⟨hcs, _⟩ | ⟨a, len, cap, m, n, V, D, Pl, hcs, hb, hl, hm, hmm, hx, hi⟩
  · simp [Value.cells] at hcs
    obtain ⟨rfl, rfl, rfl⟩ := hcs
    exact ⟨none, [], 0, rfl, ⟨none, 0, rfl, ⟨Nat.le_refl _, by omega⟩, fun hne => absurd rfl hne⟩, fun _ => rfl, by simp⟩
  · simp [Value.cells] at hcs
    obtain ⟨rfl, rfl, rfl⟩ := hcs
    have hlm : len0 ≤ m := by rw [hmm]; split <;> omega
    have hex : ∀ i, ∃ x : List UInt8, i < len0 → w.cell? (a.add i) = some (.string ⟨x.toArray⟩) ∧ x.length ≤ maxLen := by
      intro i
      by_cases hil : i < len0
      · obtain ⟨hc, ht⟩ := hi i (by omega)
        obtain ⟨s, hk, _, hsz⟩ := DataW.trod_string Try.underlying9 ht
        simp at hk
        exact ⟨s.data.toList, fun _ => ⟨by rw [hc, hk, mk_data], by rw [len_list]; exact hsz⟩⟩
      · exact ⟨[], fun h => absurd h hil⟩
    obtain ⟨f, hff⟩ := Classical.axiomOfChoice hex
    have hlen : ((List.range len0).map f).length = len0 := by simp
    refine ⟨some a, (List.range len0).map f, cap0, by rw [hlen], ⟨some a, cap0, rfl, ⟨by rw [hlen]; exact hl, by unfold maxLen at hm; omega⟩, fun hne => ?_⟩, (fun e => by cases e), fun x hx => ?_⟩
    · have hpos : 0 < len0 := by
        rcases Nat.eq_zero_or_pos len0 with h0 | h0
        · subst h0; exact absurd rfl hne
        · exact h0
      have hsp := (hff 0 hpos).1
      simp [Addr.add] at hsp
      have ha := addr_spot hsp
      refine ⟨a.block, a.off, by rw [← ha], World.block_lt_of_cell? w a hsp, fun j hj => ?_⟩
      have hj' : j < len0 := by rw [hlen] at hj; exact hj
      have := (hff j hj').1
      rw [ha, addr_add] at this
      rw [this]
      simp
    · obtain ⟨i, hi2, rfl⟩ := List.mem_map.1 hx
      exact (hff i (List.mem_range.1 hi2)).2
end
end Go.Proofs.Ytkjhfbgdmmnadaa
