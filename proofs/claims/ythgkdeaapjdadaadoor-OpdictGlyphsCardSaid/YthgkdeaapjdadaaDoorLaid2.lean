/- What the condition of OpdictGlyphs' row gives: the witness, and the table of white space. -/
import Derived.Test.YthgkdeaapjdadaaDoorLaid
import Derived.Test.YthgkdeaapjdadaaDoorOg
namespace Go.Proofs.YthgkdeaapjdadaaDoor
open Go.ChangeShapes Go.WideShapes Go.ChangeAt Go.RowKit

def laid5 : List (String × DataW Unit) := Rows.opdictGlyphsRow.laid
theorem door_met5 (os : Os) (args : Array Value) : laidMetH Tryd.prog laid5 ((World.laidAll Tryd.prog os laid5).forCall (fun _ _ => 0) ⟨#[], args, []⟩).memory := by
  rw [MakeChecks.laidMetH_plain _ _ _ (by kernel_rfl)]
  exact laidMet_laidAll _ (by kernel_rfl) (by kernel_rfl)
theorem sp_type : (Tryd.prog.globals[0]?).map (·.type) = some 87 := by kernel_rfl
set_option maxRecDepth 1000000 in
theorem of_laid5 {W : World} (h : laidMetH Tryd.prog laid5 W) : Spc W := by
  rw [MakeChecks.laidMetH_plain _ _ _ (by kernel_rfl)] at h
  obtain ⟨ps, ⟨g0, t0, cs0, f0, p0, q0, hg0, ht0, hv0, hd0, ⟨g1, t1, cs1, f1, p1, q1, hg1, ht1, hv1, hd1, ⟨g2, t2, cs2, f2, p2, q2, hg2, ht2, hv2, hd2, ⟨g3, t3, cs3, f3, p3, q3, hg3, ht3, hv3, hd3, ⟨g4, t4, cs4, f4, p4, q4, hg4, ht4, hv4, hd4, _, _⟩, _⟩, _⟩, _⟩, _⟩, _, _⟩ := h
  obtain rfl := Option.some.inj (spGlob.symm.trans hg4)
  obtain rfl := Option.some.inj (sp_type.symm.trans ht4)
  have hc := Lib.cells_of_tab (k := .u8) (zs := Lib.asciiSpaceTab) Tryd.underlying87 Tryd.underlying5 (by kernel_rfl) (by kernel_rfl) hd4
  have htab : Lib.TabIs Tryd.prog W "strings.asciiSpace" .u8 Lib.asciiSpaceTab := by
    unfold Lib.TabIs
    rw [hv4, ← hc]
  refine ⟨htab, ?_⟩
  have hcell := htab.cell spGlob 0 (by decide)
  exact World.block_lt_of_cell? W _ hcell
end Go.Proofs.YthgkdeaapjdadaaDoor
