/- What the walk of TermAt needs: a path copied by an append; a result stored into a struct of its own. -/
import Derived.Test.YtkjhfbgdmmnadaaGreatRAt
import Derived.Test.YtkjhfbgdmmnadaaGreatFew
import Derived.Test.YtkjhfbgdmmnadaaGreatPlB
import Derived.Lib.QuietBelow
import Derived.BigQuiet
import Derived.Test.YtkjhfbgdmmnadaaGreatOpn
import Derived.Deep.RegionHeldLaw
import Derived.Laws.OwnMore
import Derived.Tactics
namespace Go.Proofs.YtkjhfbgdmmnadaaGreat
open Go.RowKit

/-- what lies behind 'x, e := At(..)': the result in a struct of its own -/
def Post5 (w2 W : World) (bz : Nat) (t : T) (A : Option Addr) (c : Nat) : Prop :=
  Bk W bz (.int .i64 t.kind) (.string ⟨t.name.toArray⟩) (.string ⟨t.var.toArray⟩) (.slice A t.args.length c) (.string ⟨t.form.toArray⟩) ∧ TV W W.heap.size t A c ∧ Below w2.heap.size w2 W ∧ w2.heap.size ≤ bz
theorem post5 {w2 w8 : World} {bz : Nat} {S : Nat → Prop} {t : T} {A : Option Addr} {c : Nat} {z0 z1 z2 z3 z4 : Value} (hz : Bk w8 bz z0 z1 z2 z3 z4) (hv : TVS w8 S t A c) (hS : ∀ k, S k → k ≠ bz ∧ k < w8.heap.size) (hb : Below w2.heap.size w2 w8) (hle : w2.heap.size ≤ bz) :
    Post5 w2 (((((w8.setCell ⟨bz, 0, none⟩ (.int .i64 t.kind)).setCell ⟨bz, 1, none⟩ (.string ⟨t.name.toArray⟩)).setCell ⟨bz, 2, none⟩ (.string ⟨t.var.toArray⟩)).setCell ⟨bz, 3, none⟩ (.slice A t.args.length c)).setCell ⟨bz, 4, none⟩ (.string ⟨t.form.toArray⟩)) bz t A c := by
  have hn : ¬ S bz := fun h => (hS bz h).1 rfl
  refine ⟨((((hz.set0 _).set1 _).set2 _).set3 _).set4 _, ?_, ?_, hle⟩
  · exact (((((hv.set _ 0 _ hn).set _ 1 _ hn).set _ 2 _ hn).set _ 3 _ hn).set _ 4 _ hn).tv (fun k hk => by have := (hS k hk).2; simpa using this)
  · exact ((((hb.setCell (p := ⟨bz, 0, none⟩) hle _).setCell (p := ⟨bz, 1, none⟩) hle _).setCell (p := ⟨bz, 2, none⟩) hle _).setCell (p := ⟨bz, 3, none⟩) hle _).setCell (p := ⟨bz, 4, none⟩) hle _
end Go.Proofs.YtkjhfbgdmmnadaaGreat
