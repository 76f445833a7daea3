/-
  NARROWER THAN 'FOR EVERY INPUT', by the rows' own cells (each row's printed sentence says how): TermValid: loops · TermNames: loops · TermAt: loops · TermAlpha: loops · TermRenamed: loops · TermSubst: loops · TermFree: loops.
  DERIVED. THE GIVEN ROWS OF THIS SEAT. 8 by the template 'for every input the law returns true; each argument reads behind the call as it read before'; 0 by the template 'total and deterministic' (their statements: YtkjhfbgdmmnadaaTotals.lean).
  GIVEN WITH THE SEED: the statements are not yours to turn. If you find one false, say at which input.
  Laid BY PROGRAM, IN A SANDBOX (cutbox-rows.mjs): the forced cells as the released guide's own fill.sh prints them over the translation f901b7672dcb4e83… (all of the seat's roots in one cut). By AI agents, Wed Nov 11 2026. No macro, syntax, notation, axiom, sorry.
-/
import Derived.Test.YtkjhfbgdmmnadaaChecked
import GoSem.Claim
import GoSem.ClaimJoined
import GoSem.ClaimMapViews
import Derived.JoinedTies
import Derived.KernelRfl
namespace Go.Proofs.Ytkjhfbgdmmnadaa
/- THE CELL 'sum', in the pinned program and in every row, IS THE sha256 OF THE DUMP (.gsa) THAT YtkjhfbgdmmnadaaProg.lean LOADS. Nothing in Lean hashes anything: it is a label: what it is worth is what the hold of that sum in a sandbox is worth. -/
noncomputable def Try.pinned : Pinned := { name := "ytkjhfbgdmmnadaa", sum := "f901b7672dcb4e83952666312a04c0c79e565f0e925628d0de0da19343c6cc4c", checked := Try.checked }
namespace Rows
def none {H : Type} : Left H := { results := [], args := [] }

/-- 'vinculumlaw48.TermValid': WHATEVER THE INPUT: true; the input reads as it did. -/
def termValidSpec : ChangeSpec := { name := "termValid", fn := fun _ => fun
  | [d1, d2] => { results := [.lit (.bool true)], args := [d1, d2] }
  | _ => none }
def termValidRow : OpenClaim := { program := "ytkjhfbgdmmnadaa", sum := "f901b7672dcb4e83952666312a04c0c79e565f0e925628d0de0da19343c6cc4c", func := "vinculum/vinculumlaw48.TermValid", spec := "termValid", inPlace := ["internal/bytealg.IndexByteString", "internal/bytealg.IndexString"], unfollowed := true, recurses := true, named := ["internal/bytealg.MaxLen"], loops := true, apart := false }
def TermValidSaid : Prop := termValidRow.holds Try.pinned (OpenSpec.ofChange termValidSpec)

/-- ITS FALSE NEIGHBOUR: 'it returns false'. Refute it at one input. -/
def termValidWrong : ChangeSpec := { name := "termValid", fn := fun _ => fun
  | [d1, d2] => { results := [.lit (.bool false)], args := [d1, d2] }
  | _ => none }
def TermValidWrongFalsely : Prop := termValidRow.holds Try.pinned (OpenSpec.ofChange termValidWrong)

/-- 'vinculumlaw48.TermNames': WHATEVER THE INPUT: true; the input reads as it did. -/
def termNamesSpec : ChangeSpec := { name := "termNames", fn := fun _ => fun
  | [d] => { results := [.lit (.bool true)], args := [d] }
  | _ => none }
def termNamesRow : OpenClaim := { program := "ytkjhfbgdmmnadaa", sum := "f901b7672dcb4e83952666312a04c0c79e565f0e925628d0de0da19343c6cc4c", func := "vinculum/vinculumlaw48.TermNames", spec := "termNames", inPlace := ["internal/bytealg.IndexByteString", "internal/bytealg.IndexString"], unfollowed := true, recurses := true, named := ["internal/bytealg.MaxLen"], loops := true, apart := false }
def TermNamesSaid : Prop := termNamesRow.holds Try.pinned (OpenSpec.ofChange termNamesSpec)

/-- ITS FALSE NEIGHBOUR: 'it returns false'. Refute it at one input. -/
def termNamesWrong : ChangeSpec := { name := "termNames", fn := fun _ => fun
  | [d] => { results := [.lit (.bool false)], args := [d] }
  | _ => none }
def TermNamesWrongFalsely : Prop := termNamesRow.holds Try.pinned (OpenSpec.ofChange termNamesWrong)

/-- 'vinculumlaw48.TermAt': WHATEVER THE INPUT: true; the input reads as it did. -/
def termAtSpec : ChangeSpec := { name := "termAt", fn := fun _ => fun
  | [d1, d2] => { results := [.lit (.bool true)], args := [d1, d2] }
  | _ => none }
def termAtRow : OpenClaim := { program := "ytkjhfbgdmmnadaa", sum := "f901b7672dcb4e83952666312a04c0c79e565f0e925628d0de0da19343c6cc4c", func := "vinculum/vinculumlaw48.TermAt", spec := "termAt", inPlace := ["internal/bytealg.IndexByteString", "internal/bytealg.IndexString"], unfollowed := true, recurses := true, named := ["internal/bytealg.MaxLen"], loops := true, apart := false }
def TermAtSaid : Prop := termAtRow.holds Try.pinned (OpenSpec.ofChange termAtSpec)

/-- ITS FALSE NEIGHBOUR: 'it returns false'. Refute it at one input. -/
def termAtWrong : ChangeSpec := { name := "termAt", fn := fun _ => fun
  | [d1, d2] => { results := [.lit (.bool false)], args := [d1, d2] }
  | _ => none }
def TermAtWrongFalsely : Prop := termAtRow.holds Try.pinned (OpenSpec.ofChange termAtWrong)

/-- 'vinculumlaw48.TermFresh': WHATEVER THE INPUT: true; the input reads as it did. -/
def termFreshSpec : ChangeSpec := { name := "termFresh", fn := fun _ => fun
  | [d1, d2] => { results := [.lit (.bool true)], args := [d1, d2] }
  | _ => none }
def termFreshRow : OpenClaim := { program := "ytkjhfbgdmmnadaa", sum := "f901b7672dcb4e83952666312a04c0c79e565f0e925628d0de0da19343c6cc4c", func := "vinculum/vinculumlaw48.TermFresh", spec := "termFresh", inPlace := ["internal/bytealg.IndexByteString", "internal/bytealg.IndexString"], unfollowed := true, recurses := true, named := ["internal/bytealg.MaxLen"], apart := false }
def TermFreshSaid : Prop := termFreshRow.holds Try.pinned (OpenSpec.ofChange termFreshSpec)

/-- ITS FALSE NEIGHBOUR: 'it returns false'. Refute it at one input. -/
def termFreshWrong : ChangeSpec := { name := "termFresh", fn := fun _ => fun
  | [d1, d2] => { results := [.lit (.bool false)], args := [d1, d2] }
  | _ => none }
def TermFreshWrongFalsely : Prop := termFreshRow.holds Try.pinned (OpenSpec.ofChange termFreshWrong)

/-- 'vinculumlaw48.TermAlpha': WHATEVER THE INPUT: true; the input reads as it did. -/
def termAlphaSpec : ChangeSpec := { name := "termAlpha", fn := fun _ => fun
  | [d1, d2] => { results := [.lit (.bool true)], args := [d1, d2] }
  | _ => none }
def termAlphaRow : OpenClaim := { program := "ytkjhfbgdmmnadaa", sum := "f901b7672dcb4e83952666312a04c0c79e565f0e925628d0de0da19343c6cc4c", func := "vinculum/vinculumlaw48.TermAlpha", spec := "termAlpha", inPlace := ["internal/bytealg.IndexByteString", "internal/bytealg.IndexString"], unfollowed := true, recurses := true, named := ["internal/bytealg.MaxLen"], loops := true, apart := false }
def TermAlphaSaid : Prop := termAlphaRow.holds Try.pinned (OpenSpec.ofChange termAlphaSpec)

/-- ITS FALSE NEIGHBOUR: 'it returns false'. Refute it at one input. -/
def termAlphaWrong : ChangeSpec := { name := "termAlpha", fn := fun _ => fun
  | [d1, d2] => { results := [.lit (.bool false)], args := [d1, d2] }
  | _ => none }
def TermAlphaWrongFalsely : Prop := termAlphaRow.holds Try.pinned (OpenSpec.ofChange termAlphaWrong)

/-- 'vinculumlaw48.TermRenamed': WHATEVER THE INPUT: true; the input reads as it did. -/
def termRenamedSpec : ChangeSpec := { name := "termRenamed", fn := fun _ => fun
  | [d1, d2] => { results := [.lit (.bool true)], args := [d1, d2] }
  | _ => none }
def termRenamedRow : OpenClaim := { program := "ytkjhfbgdmmnadaa", sum := "f901b7672dcb4e83952666312a04c0c79e565f0e925628d0de0da19343c6cc4c", func := "vinculum/vinculumlaw48.TermRenamed", spec := "termRenamed", inPlace := ["internal/bytealg.IndexByteString", "internal/bytealg.IndexString"], unfollowed := true, recurses := true, named := ["internal/bytealg.MaxLen"], loops := true, apart := false }
def TermRenamedSaid : Prop := termRenamedRow.holds Try.pinned (OpenSpec.ofChange termRenamedSpec)

/-- ITS FALSE NEIGHBOUR: 'it returns false'. Refute it at one input. -/
def termRenamedWrong : ChangeSpec := { name := "termRenamed", fn := fun _ => fun
  | [d1, d2] => { results := [.lit (.bool false)], args := [d1, d2] }
  | _ => none }
def TermRenamedWrongFalsely : Prop := termRenamedRow.holds Try.pinned (OpenSpec.ofChange termRenamedWrong)

/-- 'vinculumlaw48.TermSubst': WHATEVER THE INPUT: true; the input reads as it did. -/
def termSubstSpec : ChangeSpec := { name := "termSubst", fn := fun _ => fun
  | [d1, d2, d3] => { results := [.lit (.bool true)], args := [d1, d2, d3] }
  | _ => none }
def termSubstRow : OpenClaim := { program := "ytkjhfbgdmmnadaa", sum := "f901b7672dcb4e83952666312a04c0c79e565f0e925628d0de0da19343c6cc4c", func := "vinculum/vinculumlaw48.TermSubst", spec := "termSubst", inPlace := ["internal/bytealg.IndexByteString", "internal/bytealg.IndexString"], unfollowed := true, recurses := true, named := ["internal/bytealg.MaxLen"], loops := true, apart := false }
def TermSubstSaid : Prop := termSubstRow.holds Try.pinned (OpenSpec.ofChange termSubstSpec)

/-- ITS FALSE NEIGHBOUR: 'it returns false'. Refute it at one input. -/
def termSubstWrong : ChangeSpec := { name := "termSubst", fn := fun _ => fun
  | [d1, d2, d3] => { results := [.lit (.bool false)], args := [d1, d2, d3] }
  | _ => none }
def TermSubstWrongFalsely : Prop := termSubstRow.holds Try.pinned (OpenSpec.ofChange termSubstWrong)

/-- 'vinculumlaw48.TermFree': WHATEVER THE INPUT: true; the input reads as it did. -/
def termFreeSpec : ChangeSpec := { name := "termFree", fn := fun _ => fun
  | [d1, d2, d3] => { results := [.lit (.bool true)], args := [d1, d2, d3] }
  | _ => none }
def termFreeRow : OpenClaim := { program := "ytkjhfbgdmmnadaa", sum := "f901b7672dcb4e83952666312a04c0c79e565f0e925628d0de0da19343c6cc4c", func := "vinculum/vinculumlaw48.TermFree", spec := "termFree", inPlace := ["internal/bytealg.IndexByteString", "internal/bytealg.IndexString"], unfollowed := true, recurses := true, named := ["internal/bytealg.MaxLen"], loops := true, apart := false }
def TermFreeSaid : Prop := termFreeRow.holds Try.pinned (OpenSpec.ofChange termFreeSpec)

/-- ITS FALSE NEIGHBOUR: 'it returns false'. Refute it at one input. -/
def termFreeWrong : ChangeSpec := { name := "termFree", fn := fun _ => fun
  | [d1, d2, d3] => { results := [.lit (.bool false)], args := [d1, d2, d3] }
  | _ => none }
def TermFreeWrongFalsely : Prop := termFreeRow.holds Try.pinned (OpenSpec.ofChange termFreeWrong)

/- THE SECOND FORM. 'bulk': how many values and letters a reading holds, each counted each time it is reached (what is shared counts as often as it is met; a slice's spare places count too). A statement '..UptoSaid' is the law's where the arguments, and the package variables that the reading takes, are together of bulk at most 1048576: NARROWER than '..Said'. Prove '..Said' where nothing that the law and all that it calls make is longer than what came in: it says more and counts as full. Else prove '..UptoSaid'. A law counts once. -/
mutual
def uptoBulk {H : Type} : DataW H → Nat
  | .lit (.string bytes) => bytes.length + 1
  | .lit _ => 1
  | .nil => 1
  | .ptr d => uptoBulk d + 1
  | .slice elems spare => uptoBulkAll elems + uptoBulkAll spare + 1
  | .agg parts => uptoBulkAll parts + 1
  | .iface _ d => uptoBulk d + 1
  | .map entries => uptoBulkEntries entries + 1
  | .held _ => 1
def uptoBulkAll {H : Type} : List (DataW H) → Nat
  | [] => 0
  | d :: r => uptoBulk d + uptoBulkAll r
def uptoBulkEntries {H : Type} : List (Lit × DataW H) → Nat
  | [] => 0
  | x :: r => uptoBulkEntry x + uptoBulkEntries r
def uptoBulkEntry {H : Type} : Lit × DataW H → Nat
  | (.string bytes, d) => bytes.length + uptoBulk d + 1
  | (_, d) => uptoBulk d + 1
 end
def uptoSmall : (H : Type) → List (DataW H) → Bool := fun _ ds => decide (uptoBulkAll ds ≤ 1048576)
def OpenSpec.upto (s : _root_.Go.ChangeSpec) : _root_.Go.OpenSpec := { _root_.Go.OpenSpec.ofChange s with cond := some uptoSmall }

/-- 'vinculumlaw48.TermValid', WHERE WHAT IT READS IS OF BULK AT MOST 1048576: true; the input reads as it did. -/
def termValidUptoRow : OpenClaim := { program := "ytkjhfbgdmmnadaa", sum := "f901b7672dcb4e83952666312a04c0c79e565f0e925628d0de0da19343c6cc4c", func := "vinculum/vinculumlaw48.TermValid", spec := "termValid", inPlace := ["internal/bytealg.IndexByteString", "internal/bytealg.IndexString"], unfollowed := true, recurses := true, named := ["internal/bytealg.MaxLen"], loops := true, apart := false, narrowed := true }
def TermValidUptoSaid : Prop := termValidUptoRow.holds Try.pinned (OpenSpec.upto termValidSpec)

/-- 'vinculumlaw48.TermNames', WHERE WHAT IT READS IS OF BULK AT MOST 1048576: true; the input reads as it did. -/
def termNamesUptoRow : OpenClaim := { program := "ytkjhfbgdmmnadaa", sum := "f901b7672dcb4e83952666312a04c0c79e565f0e925628d0de0da19343c6cc4c", func := "vinculum/vinculumlaw48.TermNames", spec := "termNames", inPlace := ["internal/bytealg.IndexByteString", "internal/bytealg.IndexString"], unfollowed := true, recurses := true, named := ["internal/bytealg.MaxLen"], loops := true, apart := false, narrowed := true }
def TermNamesUptoSaid : Prop := termNamesUptoRow.holds Try.pinned (OpenSpec.upto termNamesSpec)

/-- 'vinculumlaw48.TermAt', WHERE WHAT IT READS IS OF BULK AT MOST 1048576: true; the input reads as it did. -/
def termAtUptoRow : OpenClaim := { program := "ytkjhfbgdmmnadaa", sum := "f901b7672dcb4e83952666312a04c0c79e565f0e925628d0de0da19343c6cc4c", func := "vinculum/vinculumlaw48.TermAt", spec := "termAt", inPlace := ["internal/bytealg.IndexByteString", "internal/bytealg.IndexString"], unfollowed := true, recurses := true, named := ["internal/bytealg.MaxLen"], loops := true, apart := false, narrowed := true }
def TermAtUptoSaid : Prop := termAtUptoRow.holds Try.pinned (OpenSpec.upto termAtSpec)

/-- 'vinculumlaw48.TermFresh', WHERE WHAT IT READS IS OF BULK AT MOST 1048576: true; the input reads as it did. -/
def termFreshUptoRow : OpenClaim := { program := "ytkjhfbgdmmnadaa", sum := "f901b7672dcb4e83952666312a04c0c79e565f0e925628d0de0da19343c6cc4c", func := "vinculum/vinculumlaw48.TermFresh", spec := "termFresh", inPlace := ["internal/bytealg.IndexByteString", "internal/bytealg.IndexString"], unfollowed := true, recurses := true, named := ["internal/bytealg.MaxLen"], apart := false, narrowed := true }
def TermFreshUptoSaid : Prop := termFreshUptoRow.holds Try.pinned (OpenSpec.upto termFreshSpec)

/-- 'vinculumlaw48.TermAlpha', WHERE WHAT IT READS IS OF BULK AT MOST 1048576: true; the input reads as it did. -/
def termAlphaUptoRow : OpenClaim := { program := "ytkjhfbgdmmnadaa", sum := "f901b7672dcb4e83952666312a04c0c79e565f0e925628d0de0da19343c6cc4c", func := "vinculum/vinculumlaw48.TermAlpha", spec := "termAlpha", inPlace := ["internal/bytealg.IndexByteString", "internal/bytealg.IndexString"], unfollowed := true, recurses := true, named := ["internal/bytealg.MaxLen"], loops := true, apart := false, narrowed := true }
def TermAlphaUptoSaid : Prop := termAlphaUptoRow.holds Try.pinned (OpenSpec.upto termAlphaSpec)

/-- 'vinculumlaw48.TermRenamed', WHERE WHAT IT READS IS OF BULK AT MOST 1048576: true; the input reads as it did. -/
def termRenamedUptoRow : OpenClaim := { program := "ytkjhfbgdmmnadaa", sum := "f901b7672dcb4e83952666312a04c0c79e565f0e925628d0de0da19343c6cc4c", func := "vinculum/vinculumlaw48.TermRenamed", spec := "termRenamed", inPlace := ["internal/bytealg.IndexByteString", "internal/bytealg.IndexString"], unfollowed := true, recurses := true, named := ["internal/bytealg.MaxLen"], loops := true, apart := false, narrowed := true }
def TermRenamedUptoSaid : Prop := termRenamedUptoRow.holds Try.pinned (OpenSpec.upto termRenamedSpec)

/-- 'vinculumlaw48.TermSubst', WHERE WHAT IT READS IS OF BULK AT MOST 1048576: true; the input reads as it did. -/
def termSubstUptoRow : OpenClaim := { program := "ytkjhfbgdmmnadaa", sum := "f901b7672dcb4e83952666312a04c0c79e565f0e925628d0de0da19343c6cc4c", func := "vinculum/vinculumlaw48.TermSubst", spec := "termSubst", inPlace := ["internal/bytealg.IndexByteString", "internal/bytealg.IndexString"], unfollowed := true, recurses := true, named := ["internal/bytealg.MaxLen"], loops := true, apart := false, narrowed := true }
def TermSubstUptoSaid : Prop := termSubstUptoRow.holds Try.pinned (OpenSpec.upto termSubstSpec)

/-- 'vinculumlaw48.TermFree', WHERE WHAT IT READS IS OF BULK AT MOST 1048576: true; the input reads as it did. -/
def termFreeUptoRow : OpenClaim := { program := "ytkjhfbgdmmnadaa", sum := "f901b7672dcb4e83952666312a04c0c79e565f0e925628d0de0da19343c6cc4c", func := "vinculum/vinculumlaw48.TermFree", spec := "termFree", inPlace := ["internal/bytealg.IndexByteString", "internal/bytealg.IndexString"], unfollowed := true, recurses := true, named := ["internal/bytealg.MaxLen"], loops := true, apart := false, narrowed := true }
def TermFreeUptoSaid : Prop := termFreeUptoRow.holds Try.pinned (OpenSpec.upto termFreeSpec)

end Rows
end Go.Proofs.Ytkjhfbgdmmnadaa
