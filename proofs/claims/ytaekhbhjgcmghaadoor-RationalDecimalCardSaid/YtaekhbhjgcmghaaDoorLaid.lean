/- What the row's condition gives the walks: the table of powers of ten; numbers as arguments. -/
import Derived.Test.YtaekhbhjgcmghaaDoorText
import Derived.Test.YtaekhbhjgcmghaaDoorTie
import Derived.ProofKit
import Derived.LaidMore
import Derived.OpenShut
import Derived.ShutString
import Derived.ChangeOld
import Derived.Stop.Joined
import Derived.Lib.LaidTab
import Derived.Deep.Fields
namespace Go.Proofs.YtaekhbhjgcmghaaDoor
open Go.ChangeShapes Go.WideShapes Go.ChangeAt Go.RowKit

theorem own : ownKnob Tryd.prog.godebug = none := by kernel_rfl
theorem laidOut : laidOutB Tryd.prog = true := by kernel_rfl
def laid3 : List (String × DataW Unit) := Rows.rationalMakeRow.laid
theorem door_met (os : Os) (args : Array Value) : laidMetH Tryd.prog laid3 ((World.doorLaid Tryd.prog 34 os).forCall (fun _ _ => 0) ⟨#[], args, []⟩).memory :=
  laidMetH_of_parts3 (fuel := 8) (laidMet_of_run' 8 (by kernel_rfl) (by kernel_rfl)) (by kernel_rfl) (by kernel_rfl)

theorem t1 : (Tryd.prog.globals[1]?).map (·.type) = some 108 := by kernel_rfl
theorem of_laid {W : World} (h : laidMetH Tryd.prog laid3 W) : Tab W := by
  rw [MakeChecks.laidMetH_plain _ _ _ (by kernel_rfl)] at h
  obtain ⟨ps, ⟨g0, t0, cs0, f0, p0, q0, hg0, ht0, hv0, hd0, ⟨g1, t1', cs1, f1, p1, q1, hg1, ht1, hv1, hd1, ⟨g2, t2, cs2, f2, p2, q2, hg2, ht2, hv2, hd2, _, _⟩, _⟩, _⟩, _, _⟩ := h
  obtain rfl := Option.some.inj (glob.symm.trans hg2)
  obtain rfl := Option.some.inj (t1.symm.trans ht2)
  have hc := Lib.cells_of_tab (k := .u64) (zs := Lib.pow10Tab) Tryd.underlying108 Tryd.underlying66 (by kernel_rfl) (by kernel_rfl) hd2
  have htab : Lib.TabIs Tryd.prog W "internal/strconv.uint64pow10" .u64 Lib.pow10Tab := by
    unfold Lib.TabIs
    rw [hv2, ← hc]
  refine ⟨htab, ?_⟩
  have hcell := htab.cell glob 0 (by decide)
  exact World.block_lt_of_cell? W _ hcell

theorem wf_bnd {n : Int} (h : (Lit.int .i64 n).wf = true) : -9223372036854775808 ≤ n ∧ n ≤ 9223372036854775807 := by
  simp [Lit.wf, IntKind.min, IntKind.max, IntKind.signed, IntKind.bits] at h
  exact h

theorem two {α : Type} {l : List α} (h : l.length = 2) : ∃ a b, l = [a, b] := by
  match l, h with
  | [a, b], _ => exact ⟨a, b, rfl⟩

set_option maxRecDepth 100000 in
theorem open_rat28 {H : Type} {enc : TypeId × Value → H} {w : World} {base : Nat} {spare : Nat → Bool} {held : Bool} {r : Reach} {b0 : Nat} {v : Value} {d : DataW H} {p : List MemPlace}
    (hv : Value.okWide Tryd.prog w r b0 28 v) (h : DataW.Trod enc Tryd.prog w base spare held 28 v d p) :
    ∃ n m : Int, v = .agg #[.int .i64 n, .int .i64 m] ∧ -9223372036854775808 ≤ n ∧ n ≤ 9223372036854775807 ∧ -9223372036854775808 ≤ m ∧ m ≤ 9223372036854775807 := by
  obtain ⟨cs, rfl, hsz⟩ := okWide_struct Tryd.underlying28 hv
  obtain ⟨fuel, hf⟩ := h
  obtain ⟨xs, n, _, hx, hcl, hxl, hf⟩ := DataW.trod_struct Tryd.underlying28 hf
  have c28 : Tryd.prog.cellsOf 28 = 2 := by kernel_rfl
  have c3 : Tryd.prog.cellsOf 3 = 1 := by kernel_rfl
  rw [c28] at hcl
  obtain ⟨v0, v1, hcs⟩ := two hcl
  obtain ⟨y0, y1, rfl⟩ := two hxl
  have f0 := hf 0 _ rfl
  have f1 := hf 1 _ rfl
  rw [hcs] at f0 f1
  obtain ⟨k0, h0, _, w0⟩ := DataW.trod_int Tryd.underlying3 f0
  obtain ⟨k1, h1, _, w1⟩ := DataW.trod_int Tryd.underlying3 f1
  simp [c3] at h0
  simp [c3] at h1
  subst h0 h1
  obtain ⟨a1, a2⟩ := wf_bnd w0
  obtain ⟨b1, b2⟩ := wf_bnd w1
  refine ⟨k0, k1, ?_, a1, a2, b1, b2⟩
  rw [show cs = #[.int .i64 k0, .int .i64 k1] from Array.ext' (by simpa [Value.cells] using hcs)]
end Go.Proofs.YtaekhbhjgcmghaaDoor
