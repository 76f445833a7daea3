/- Contracts of At 24 and of the reference's At 25. -/
import Derived.Test.YtkjhfbgdmmnadaaGreatCln
import Derived.Test.YtkjhfbgdmmnadaaGreatLawK
namespace Go.Proofs.YtkjhfbgdmmnadaaGreat
open Go.RowKit

def zT : T := .mk 0 [] [] [] []
/-- a slice of ints, its block below B -/
def PI (w : World) (B : Nat) (v : Value) (p : List Int) : Prop :=
  ∃ A c, v = .slice A p.length c ∧ (p.length ≤ c ∧ c ≤ 9223372036854775807) ∧ (p ≠ [] → ∃ b o, A = some ⟨b, o, none⟩ ∧ b < B ∧ ∀ j (h : j < p.length), w.cell? ⟨b, o + j, none⟩ = some (.int .i64 p[j]))
theorem PI.below {w w' : World} {B : Nat} {v : Value} {p : List Int} (h : PI w B v p) (hb : Below B w w') : PI w' B v p := by
  obtain ⟨A, c, h1, h2, h3⟩ := h
  refine ⟨A, c, h1, h2, fun hne => ?_⟩
  obtain ⟨b, o, h4, h5, h6⟩ := h3 hne
  exact ⟨b, o, h4, h5, fun j hj => (hb.cell (p := ⟨b, _, none⟩) h5).trans (h6 j hj)⟩
theorem PI.more {w : World} {B B' : Nat} {v : Value} {p : List Int} (h : PI w B v p) (hB : B ≤ B') : PI w B' v p := by
  obtain ⟨A, c, h1, h2, h3⟩ := h
  refine ⟨A, c, h1, h2, fun hne => ?_⟩
  obtain ⟨b, o, h4, h5, h6⟩ := h3 hne
  exact ⟨b, o, h4, by omega, h6⟩
theorem zT_tvs (w : World) (S : Nat → Prop) : TVS w S zT none 0 := ⟨⟨Nat.le_refl _, by omega⟩, fun h => absurd rfl h⟩
end Go.Proofs.YtkjhfbgdmmnadaaGreat
