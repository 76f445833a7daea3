/- What the row's condition gives: the witness, and the table of white space. -/
import Derived.Test.YthhnbfndmjpdgaaDoorLaw
import Derived.Test.YthhnbfndmjpdgaaDoorTie
import Derived.ProofKit
import Derived.LaidMore
import Derived.OpenShut
import Derived.ShutString
import Derived.ChangeOld
import Derived.Stop.Joined
import Derived.Lib.LaidTab
import Derived.Deep.Fields
import Derived.Lay
namespace Go.Proofs.YthhnbfndmjpdgaaDoor
open Go.ChangeShapes Go.WideShapes Go.ChangeAt Go.RowKit

theorem own : ownKnob Tryd.prog.godebug = none := by kernel_rfl
theorem laidOut : laidOutB Tryd.prog = true := by kernel_rfl
def laid2 : List (String × DataW Unit) := Rows.opdictDefaultRow.laid
theorem door_met (os : Os) (args : Array Value) : laidMetH Tryd.prog laid2 ((World.laidAll Tryd.prog os laid2).forCall (fun _ _ => 0) ⟨#[], args, []⟩).memory := by
  rw [MakeChecks.laidMetH_plain _ _ _ (by kernel_rfl)]
  exact laidMet_laidAll _ (by kernel_rfl) (by kernel_rfl)
theorem sp_type : (Tryd.prog.globals[0]?).map (·.type) = some 36 := by kernel_rfl
set_option maxRecDepth 1000000 in
theorem of_laid {W : World} (h : laidMetH Tryd.prog laid2 W) : Spc W := by
  rw [MakeChecks.laidMetH_plain _ _ _ (by kernel_rfl)] at h
  obtain ⟨ps, ⟨g3, t3, cs3, f3, p3, q3, hg3, ht3, hv3, hd3, ⟨g4, t4, cs4, f4, p4, q4, hg4, ht4, hv4, hd4, _, _⟩, _⟩, _, _⟩ := h
  obtain rfl := Option.some.inj (spGlob.symm.trans hg4)
  obtain rfl := Option.some.inj (sp_type.symm.trans ht4)
  have hc := Lib.cells_of_tab (k := .u8) (zs := Lib.asciiSpaceTab) Tryd.underlying36 Tryd.underlying5 (by kernel_rfl) (by kernel_rfl) hd4
  have htab : Lib.TabIs Tryd.prog W "strings.asciiSpace" .u8 Lib.asciiSpaceTab := by
    unfold Lib.TabIs
    rw [hv4, ← hc]
  refine ⟨htab, ?_⟩
  have hcell := htab.cell spGlob 0 (by decide)
  exact World.block_lt_of_cell? W _ hcell
theorem wf_bnd {n : Int} (h : (Lit.int .i64 n).wf = true) : -9223372036854775808 ≤ n ∧ n ≤ 9223372036854775807 := by
  simp [Lit.wf, IntKind.min, IntKind.max, IntKind.signed, IntKind.bits] at h
  exact h
end Go.Proofs.YthhnbfndmjpdgaaDoor
