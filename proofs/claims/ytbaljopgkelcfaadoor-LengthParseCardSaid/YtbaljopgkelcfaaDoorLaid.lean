/- What the row's condition gives the walks: the table of powers of ten. -/
import Derived.Test.YtbaljopgkelcfaaDoorText
import Derived.Test.YtbaljopgkelcfaaDoorTie
import Derived.ProofKit
import Derived.LaidMore
import Derived.OpenShut
import Derived.ShutString
import Derived.ChangeOld
import Derived.Stop.Joined
import Derived.Lib.LaidTab
import Derived.Deep.Fields
import Derived.Lay
namespace Go.Proofs.YtbaljopgkelcfaaDoor
open Go.ChangeShapes Go.WideShapes Go.ChangeAt Go.RowKit

theorem own : ownKnob Tryd.prog.godebug = none := by kernel_rfl
theorem laidOut : laidOutB Tryd.prog = true := by kernel_rfl
def laid5 : List (String × DataW Unit) := Rows.lengthScaleRow.laid
theorem door_met (os : Os) (args : Array Value) : laidMetH Tryd.prog laid5 ((World.laidAll Tryd.prog os laid5).forCall (fun _ _ => 0) ⟨#[], args, []⟩).memory := by
  rw [MakeChecks.laidMetH_plain _ _ _ (by kernel_rfl)]
  exact laidMet_laidAll _ (by kernel_rfl) (by kernel_rfl)

theorem t1 : (Tryd.prog.globals[1]?).map (·.type) = some 73 := by kernel_rfl
theorem of_laid {W : World} (h : laidMetH Tryd.prog laid5 W) : Tab W := by
  rw [MakeChecks.laidMetH_plain _ _ _ (by kernel_rfl)] at h
  obtain ⟨ps, ⟨g0, t0, cs0, f0, p0, q0, hg0, ht0, hv0, hd0, ⟨g1, t1', cs1, f1, p1, q1, hg1, ht1, hv1, hd1, ⟨g2, t2, cs2, f2, p2, q2, hg2, ht2, hv2, hd2, _, _⟩, _⟩, _⟩, _, _⟩ := h
  obtain rfl := Option.some.inj (glob.symm.trans hg2)
  obtain rfl := Option.some.inj (t1.symm.trans ht2)
  have hc := Lib.cells_of_tab (k := .u64) (zs := Lib.pow10Tab) Tryd.underlying73 Tryd.underlying64 (by kernel_rfl) (by kernel_rfl) hd2
  have htab : Lib.TabIs Tryd.prog W "internal/strconv.uint64pow10" .u64 Lib.pow10Tab := by
    unfold Lib.TabIs
    rw [hv2, ← hc]
  refine ⟨htab, ?_⟩
  have hcell := htab.cell glob 0 (by decide)
  exact World.block_lt_of_cell? W _ hcell

theorem wf_bnd {n : Int} (h : (Lit.int .i64 n).wf = true) : -9223372036854775808 ≤ n ∧ n ≤ 9223372036854775807 := by
  simp [Lit.wf, IntKind.min, IntKind.max, IntKind.signed, IntKind.bits] at h
  exact h
end Go.Proofs.YtbaljopgkelcfaaDoor
