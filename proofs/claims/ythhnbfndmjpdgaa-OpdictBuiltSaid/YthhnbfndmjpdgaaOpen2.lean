/- An entry by value opened; a nil slice has no capacity. -/
import Derived.Test.YthhnbfndmjpdgaaOpen
namespace Go.Proofs.Ythhnbfndmjpdgaa
open Go.RowKit Go.ChangeShapes Go.WideShapes Go.Deep

section
variable {H : Type} {enc : TypeId × Value → H} {w : World} {base : Nat} {spare : Nat → Bool} {held : Bool}
theorem open_nil {fuel : Nat} {cs : List Value} {x : DataW H × List MemPlace} (h : DataW.trod enc Try.prog w base spare held fuel 22 cs = some x) :
    ∀ (A : Option Addr) (n c : Nat), cs = [.slice A n c] → A = none → c = 0 := by
  intro A n c hc hA
  rcases open_slice Try.underlying22 h with ⟨rfl, _⟩ | ⟨a, len, cap, m, n, D, Pl, rfl, _⟩
  · simp at hc; exact hc.2.2.symm
  · simp at hc; rw [hA] at hc; cases hc.1

theorem open_entVal {r : Reach} {b0 : Nat} {v : Value} {d : DataW H} {p : List MemPlace} (hv : Value.okWide Try.prog w r b0 27 v) (h : DataW.Trod enc Try.prog w base spare held 27 v d p) :
    ∃ e : Ent, v = .agg #[.string e.text, .int .i64 e.cls, .bool e.lim, .bool e.str] ∧ e.text.size ≤ maxLen := by
  obtain ⟨cs, rfl, hsz⟩ := okWide_struct Try.underlying27 hv
  obtain ⟨fuel, hf⟩ := h
  obtain ⟨e, he, _, hs⟩ := open_ent hf
  refine ⟨e, ?_, hs⟩
  have : cs.toList = e.cells := by simpa [Value.cells] using he
  rw [show cs = #[.string e.text, .int .i64 e.cls, .bool e.lim, .bool e.str] from Array.ext' (by simpa [Ent.cells] using this)]
end
end Go.Proofs.Ythhnbfndmjpdgaa
