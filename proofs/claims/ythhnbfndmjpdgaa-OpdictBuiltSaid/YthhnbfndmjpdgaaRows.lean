/-
  No cell of these rows narrows 'for every input' (looked for: loops, veiled, ifaces, maps, wideKeys, modest, calm, conditions, laid).
  DERIVED. THE GIVEN ROWS OF THIS SEAT. 6 by the template 'for every input the law returns true; each argument reads behind the call as it read before'; 0 by the template 'total and deterministic' (their statements: YthhnbfndmjpdgaaTotals.lean).
  GIVEN WITH THE SEED: the statements are not yours to turn. If you find one false, say at which input.
  Laid BY PROGRAM, IN A SANDBOX (cutbox-rows.mjs): the forced cells as the released guide's own fill.sh prints them over the translation b43c602a3a1428dc… (all of the seat's roots in one cut). By AI agents, Wed Nov 11 2026. No macro, syntax, notation, axiom, sorry.
-/
import Derived.Test.YthhnbfndmjpdgaaChecked
import GoSem.Claim
import GoSem.ClaimJoined
import GoSem.ClaimMapViews
import Derived.JoinedTies
import Derived.KernelRfl
namespace Go.Proofs.Ythhnbfndmjpdgaa
/- THE CELL 'sum', in the pinned program and in every row, IS THE sha256 OF THE DUMP (.gsa) THAT YthhnbfndmjpdgaaProg.lean LOADS. Nothing in Lean hashes anything: it is a label: what it is worth is what the hold of that sum in a sandbox is worth. -/
noncomputable def Try.pinned : Pinned := { name := "ythhnbfndmjpdgaa", sum := "b43c602a3a1428dcfc19b426ec22529fe629ce2098dd86cbe736a44b7f467bea", checked := Try.checked }
namespace Rows
def none {H : Type} : Left H := { results := [], args := [] }

/-- 'vinculumlaw08.OpdictFinds': WHATEVER THE INPUT: true; the input reads as it did. -/
def opdictFindsSpec : ChangeSpec := { name := "opdictFinds", fn := fun _ => fun
  | [d1, d2, d3] => { results := [.lit (.bool true)], args := [d1, d2, d3] }
  | _ => none }
def opdictFindsRow : OpenClaim := { program := "ythhnbfndmjpdgaa", sum := "b43c602a3a1428dcfc19b426ec22529fe629ce2098dd86cbe736a44b7f467bea", func := "vinculum/vinculumlaw08.OpdictFinds", spec := "opdictFinds", unfollowed := true, recurses := true, apart := false }
def OpdictFindsSaid : Prop := opdictFindsRow.holds Try.pinned (OpenSpec.ofChange opdictFindsSpec)

/-- ITS FALSE NEIGHBOUR: 'it returns false'. Refute it at one input. -/
def opdictFindsWrong : ChangeSpec := { name := "opdictFinds", fn := fun _ => fun
  | [d1, d2, d3] => { results := [.lit (.bool false)], args := [d1, d2, d3] }
  | _ => none }
def OpdictFindsWrongFalsely : Prop := opdictFindsRow.holds Try.pinned (OpenSpec.ofChange opdictFindsWrong)

/-- 'vinculumlaw08.OpdictValid': WHATEVER THE INPUT: true; the input reads as it did. -/
def opdictValidSpec : ChangeSpec := { name := "opdictValid", fn := fun _ => fun
  | [d] => { results := [.lit (.bool true)], args := [d] }
  | _ => none }
def opdictValidRow : OpenClaim := { program := "ythhnbfndmjpdgaa", sum := "b43c602a3a1428dcfc19b426ec22529fe629ce2098dd86cbe736a44b7f467bea", func := "vinculum/vinculumlaw08.OpdictValid", spec := "opdictValid", unfollowed := true, recurses := true, apart := false }
def OpdictValidSaid : Prop := opdictValidRow.holds Try.pinned (OpenSpec.ofChange opdictValidSpec)

/-- ITS FALSE NEIGHBOUR: 'it returns false'. Refute it at one input. -/
def opdictValidWrong : ChangeSpec := { name := "opdictValid", fn := fun _ => fun
  | [d] => { results := [.lit (.bool false)], args := [d] }
  | _ => none }
def OpdictValidWrongFalsely : Prop := opdictValidRow.holds Try.pinned (OpenSpec.ofChange opdictValidWrong)

/-- 'vinculumlaw08.OpdictOrder': WHATEVER THE INPUT: true; the input reads as it did. -/
def opdictOrderSpec : ChangeSpec := { name := "opdictOrder", fn := fun _ => fun
  | [d1, d2] => { results := [.lit (.bool true)], args := [d1, d2] }
  | _ => none }
def opdictOrderRow : OpenClaim := { program := "ythhnbfndmjpdgaa", sum := "b43c602a3a1428dcfc19b426ec22529fe629ce2098dd86cbe736a44b7f467bea", func := "vinculum/vinculumlaw08.OpdictOrder", spec := "opdictOrder", unfollowed := true, recurses := true, apart := false }
def OpdictOrderSaid : Prop := opdictOrderRow.holds Try.pinned (OpenSpec.ofChange opdictOrderSpec)

/-- ITS FALSE NEIGHBOUR: 'it returns false'. Refute it at one input. -/
def opdictOrderWrong : ChangeSpec := { name := "opdictOrder", fn := fun _ => fun
  | [d1, d2] => { results := [.lit (.bool false)], args := [d1, d2] }
  | _ => none }
def OpdictOrderWrongFalsely : Prop := opdictOrderRow.holds Try.pinned (OpenSpec.ofChange opdictOrderWrong)

/-- 'vinculumlaw08.OpdictWith': WHATEVER THE INPUT: true; the input reads as it did. -/
def opdictWithSpec : ChangeSpec := { name := "opdictWith", fn := fun _ => fun
  | [d1, d2] => { results := [.lit (.bool true)], args := [d1, d2] }
  | _ => none }
def opdictWithRow : OpenClaim := { program := "ythhnbfndmjpdgaa", sum := "b43c602a3a1428dcfc19b426ec22529fe629ce2098dd86cbe736a44b7f467bea", func := "vinculum/vinculumlaw08.OpdictWith", spec := "opdictWith", unfollowed := true, recurses := true, apart := false }
def OpdictWithSaid : Prop := opdictWithRow.holds Try.pinned (OpenSpec.ofChange opdictWithSpec)

/-- ITS FALSE NEIGHBOUR: 'it returns false'. Refute it at one input. -/
def opdictWithWrong : ChangeSpec := { name := "opdictWith", fn := fun _ => fun
  | [d1, d2] => { results := [.lit (.bool false)], args := [d1, d2] }
  | _ => none }
def OpdictWithWrongFalsely : Prop := opdictWithRow.holds Try.pinned (OpenSpec.ofChange opdictWithWrong)

/-- 'vinculumlaw08.OpdictKeeps': WHATEVER THE INPUT: true; the input reads as it did. -/
def opdictKeepsSpec : ChangeSpec := { name := "opdictKeeps", fn := fun _ => fun
  | [d1, d2, d3] => { results := [.lit (.bool true)], args := [d1, d2, d3] }
  | _ => none }
def opdictKeepsRow : OpenClaim := { program := "ythhnbfndmjpdgaa", sum := "b43c602a3a1428dcfc19b426ec22529fe629ce2098dd86cbe736a44b7f467bea", func := "vinculum/vinculumlaw08.OpdictKeeps", spec := "opdictKeeps", unfollowed := true, recurses := true, apart := false }
def OpdictKeepsSaid : Prop := opdictKeepsRow.holds Try.pinned (OpenSpec.ofChange opdictKeepsSpec)

/-- ITS FALSE NEIGHBOUR: 'it returns false'. Refute it at one input. -/
def opdictKeepsWrong : ChangeSpec := { name := "opdictKeeps", fn := fun _ => fun
  | [d1, d2, d3] => { results := [.lit (.bool false)], args := [d1, d2, d3] }
  | _ => none }
def OpdictKeepsWrongFalsely : Prop := opdictKeepsRow.holds Try.pinned (OpenSpec.ofChange opdictKeepsWrong)

/-- 'vinculumlaw08.OpdictBuilt': WHATEVER THE INPUT: true; the input reads as it did. -/
def opdictBuiltSpec : ChangeSpec := { name := "opdictBuilt", fn := fun _ => fun
  | [d] => { results := [.lit (.bool true)], args := [d] }
  | _ => none }
def opdictBuiltRow : OpenClaim := { program := "ythhnbfndmjpdgaa", sum := "b43c602a3a1428dcfc19b426ec22529fe629ce2098dd86cbe736a44b7f467bea", func := "vinculum/vinculumlaw08.OpdictBuilt", spec := "opdictBuilt", unfollowed := true, recurses := true, apart := false }
def OpdictBuiltSaid : Prop := opdictBuiltRow.holds Try.pinned (OpenSpec.ofChange opdictBuiltSpec)

/-- ITS FALSE NEIGHBOUR: 'it returns false'. Refute it at one input. -/
def opdictBuiltWrong : ChangeSpec := { name := "opdictBuilt", fn := fun _ => fun
  | [d] => { results := [.lit (.bool false)], args := [d] }
  | _ => none }
def OpdictBuiltWrongFalsely : Prop := opdictBuiltRow.holds Try.pinned (OpenSpec.ofChange opdictBuiltWrong)

/- THE SECOND FORM. 'bulk': how many values and letters a reading holds, each counted each time it is reached (what is shared counts as often as it is met; a slice's spare places count too). A statement '..UptoSaid' is the law's where the arguments, and the package variables that the reading takes, are together of bulk at most 1048576: NARROWER than '..Said'. Prove '..Said' where nothing that the law and all that it calls make is longer than what came in: it says more and counts as full. Else prove '..UptoSaid'. A law counts once. -/
mutual
def uptoBulk {H : Type} : DataW H → Nat
  | .lit (.string bytes) => bytes.length + 1
  | .lit _ => 1
  | .nil => 1
  | .ptr d => uptoBulk d + 1
  | .slice elems spare => uptoBulkAll elems + uptoBulkAll spare + 1
  | .agg parts => uptoBulkAll parts + 1
  | .iface _ d => uptoBulk d + 1
  | .map entries => uptoBulkEntries entries + 1
  | .held _ => 1
def uptoBulkAll {H : Type} : List (DataW H) → Nat
  | [] => 0
  | d :: r => uptoBulk d + uptoBulkAll r
def uptoBulkEntries {H : Type} : List (Lit × DataW H) → Nat
  | [] => 0
  | x :: r => uptoBulkEntry x + uptoBulkEntries r
def uptoBulkEntry {H : Type} : Lit × DataW H → Nat
  | (.string bytes, d) => bytes.length + uptoBulk d + 1
  | (_, d) => uptoBulk d + 1
 end
def uptoSmall : (H : Type) → List (DataW H) → Bool := fun _ ds => decide (uptoBulkAll ds ≤ 1048576)
def OpenSpec.upto (s : _root_.Go.ChangeSpec) : _root_.Go.OpenSpec := { _root_.Go.OpenSpec.ofChange s with cond := some uptoSmall }

/-- 'vinculumlaw08.OpdictFinds', WHERE WHAT IT READS IS OF BULK AT MOST 1048576: true; the input reads as it did. -/
def opdictFindsUptoRow : OpenClaim := { program := "ythhnbfndmjpdgaa", sum := "b43c602a3a1428dcfc19b426ec22529fe629ce2098dd86cbe736a44b7f467bea", func := "vinculum/vinculumlaw08.OpdictFinds", spec := "opdictFinds", unfollowed := true, recurses := true, apart := false, narrowed := true }
def OpdictFindsUptoSaid : Prop := opdictFindsUptoRow.holds Try.pinned (OpenSpec.upto opdictFindsSpec)

/-- 'vinculumlaw08.OpdictValid', WHERE WHAT IT READS IS OF BULK AT MOST 1048576: true; the input reads as it did. -/
def opdictValidUptoRow : OpenClaim := { program := "ythhnbfndmjpdgaa", sum := "b43c602a3a1428dcfc19b426ec22529fe629ce2098dd86cbe736a44b7f467bea", func := "vinculum/vinculumlaw08.OpdictValid", spec := "opdictValid", unfollowed := true, recurses := true, apart := false, narrowed := true }
def OpdictValidUptoSaid : Prop := opdictValidUptoRow.holds Try.pinned (OpenSpec.upto opdictValidSpec)

/-- 'vinculumlaw08.OpdictOrder', WHERE WHAT IT READS IS OF BULK AT MOST 1048576: true; the input reads as it did. -/
def opdictOrderUptoRow : OpenClaim := { program := "ythhnbfndmjpdgaa", sum := "b43c602a3a1428dcfc19b426ec22529fe629ce2098dd86cbe736a44b7f467bea", func := "vinculum/vinculumlaw08.OpdictOrder", spec := "opdictOrder", unfollowed := true, recurses := true, apart := false, narrowed := true }
def OpdictOrderUptoSaid : Prop := opdictOrderUptoRow.holds Try.pinned (OpenSpec.upto opdictOrderSpec)

/-- 'vinculumlaw08.OpdictWith', WHERE WHAT IT READS IS OF BULK AT MOST 1048576: true; the input reads as it did. -/
def opdictWithUptoRow : OpenClaim := { program := "ythhnbfndmjpdgaa", sum := "b43c602a3a1428dcfc19b426ec22529fe629ce2098dd86cbe736a44b7f467bea", func := "vinculum/vinculumlaw08.OpdictWith", spec := "opdictWith", unfollowed := true, recurses := true, apart := false, narrowed := true }
def OpdictWithUptoSaid : Prop := opdictWithUptoRow.holds Try.pinned (OpenSpec.upto opdictWithSpec)

/-- 'vinculumlaw08.OpdictKeeps', WHERE WHAT IT READS IS OF BULK AT MOST 1048576: true; the input reads as it did. -/
def opdictKeepsUptoRow : OpenClaim := { program := "ythhnbfndmjpdgaa", sum := "b43c602a3a1428dcfc19b426ec22529fe629ce2098dd86cbe736a44b7f467bea", func := "vinculum/vinculumlaw08.OpdictKeeps", spec := "opdictKeeps", unfollowed := true, recurses := true, apart := false, narrowed := true }
def OpdictKeepsUptoSaid : Prop := opdictKeepsUptoRow.holds Try.pinned (OpenSpec.upto opdictKeepsSpec)

/-- 'vinculumlaw08.OpdictBuilt', WHERE WHAT IT READS IS OF BULK AT MOST 1048576: true; the input reads as it did. -/
def opdictBuiltUptoRow : OpenClaim := { program := "ythhnbfndmjpdgaa", sum := "b43c602a3a1428dcfc19b426ec22529fe629ce2098dd86cbe736a44b7f467bea", func := "vinculum/vinculumlaw08.OpdictBuilt", spec := "opdictBuilt", unfollowed := true, recurses := true, apart := false, narrowed := true }
def OpdictBuiltUptoSaid : Prop := opdictBuiltUptoRow.holds Try.pinned (OpenSpec.upto opdictBuiltSpec)

end Rows
end Go.Proofs.Ythhnbfndmjpdgaa
