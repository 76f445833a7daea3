/-
  DERIVED. GIVEN WITH THE SEED: THE CARDS: each row of YtknpigdpepmimaaGreatDoorRows.lean that lists a variable, with what it lists TIED to the program's text (the seventh form; the later family's looks); each row that meets fmt, with fmt's text TOLD by the authors' own Lean function (tested against real Go, not proved from fmt's source: count such statements apart). THE CARD IS WHAT COUNTS. Prove the row's statement (the work); the ties are given (YtknpigdpepmimaaGreatDoorTie.lean); close each card by the builder's one call (the guide's Derived/Test/ToyasCard.lean, 'card_holds'). Laid BY PROGRAM, IN A SANDBOX (cutbox-door.mjs). By AI agents, Wed Nov 11 2026. No macro, syntax, notation, axiom, sorry.
-/
import Derived.Test.YtknpigdpepmimaaGreatDoorRows
import GoSem.ClaimSeven
namespace Go.Proofs.YtknpigdpepmimaaGreatDoor
namespace Rows

/-- THE TIED CARD OF 'vinculumlaw55.EvaluateAlpha'. -/
def evaluateAlphaCard : Claim7 := { stood := { row := evaluateAlphaRow, standIns := [], harness := (true, "610fcebe249bbdc93931eda318b11388c5ce1a8dfb035f97c1ac8bf020fa65db"), looks := false }, kinds := [], alts := [], laidByText := true, laidKinds := [.data, .pinned], laidTests := true, laidLooks := .later }
def EvaluateAlphaCardSaid : Prop := Claim7.holds Tryz.pinned (.plain (OpenSpec.ofChange evaluateAlphaSpec)) evaluateAlphaCard

/-- THE TIED CARD OF 'vinculumlaw55.EvaluateForms'. -/
def evaluateFormsCard : Claim7 := { stood := { row := evaluateFormsRow, standIns := [], harness := (true, "610fcebe249bbdc93931eda318b11388c5ce1a8dfb035f97c1ac8bf020fa65db"), looks := false }, kinds := [], alts := [], laidByText := true, laidKinds := [.data, .pinned], laidTests := true, laidLooks := .later }
def EvaluateFormsCardSaid : Prop := Claim7.holds Tryz.pinned (.plain (OpenSpec.ofChange evaluateFormsSpec)) evaluateFormsCard

/-- THE TIED CARD OF 'vinculumlaw55.EvaluateParts'. -/
def evaluatePartsCard : Claim7 := { stood := { row := evaluatePartsRow, standIns := [], harness := (true, "610fcebe249bbdc93931eda318b11388c5ce1a8dfb035f97c1ac8bf020fa65db"), looks := false }, kinds := [], alts := [], laidByText := true, laidKinds := [.data, .pinned], laidTests := true, laidLooks := .later }
def EvaluatePartsCardSaid : Prop := Claim7.holds Tryz.pinned (.plain (OpenSpec.ofChange evaluatePartsSpec)) evaluatePartsCard

/-- THE TIED CARD OF 'vinculumlaw55.EvaluateScaled'. -/
def evaluateScaledCard : Claim7 := { stood := { row := evaluateScaledRow, standIns := [], harness := (true, "610fcebe249bbdc93931eda318b11388c5ce1a8dfb035f97c1ac8bf020fa65db"), looks := false }, kinds := [], alts := [], laidByText := true, laidKinds := [.data, .pinned], laidTests := true, laidLooks := .later }
def EvaluateScaledCardSaid : Prop := Claim7.holds Tryz.pinned (.plain (OpenSpec.ofChange evaluateScaledSpec)) evaluateScaledCard

/-- THE TIED CARD OF 'vinculumlaw55.EvaluateValue'. -/
def evaluateValueCard : Claim7 := { stood := { row := evaluateValueRow, standIns := [], harness := (true, "610fcebe249bbdc93931eda318b11388c5ce1a8dfb035f97c1ac8bf020fa65db"), looks := false }, kinds := [], alts := [], laidByText := true, laidKinds := [.data, .data, .data, .data, .pinned], laidTests := true, laidLooks := .later }
def EvaluateValueCardSaid : Prop := Claim7.holds Tryz.pinned (.plain (OpenSpec.ofChange evaluateValueSpec)) evaluateValueCard

/-- THE TIED CARD OF 'vinculumlaw55.EvaluateSubst'. -/
def evaluateSubstCard : Claim7 := { stood := { row := evaluateSubstRow, standIns := [], harness := (true, "610fcebe249bbdc93931eda318b11388c5ce1a8dfb035f97c1ac8bf020fa65db"), looks := false }, kinds := [], alts := [], laidByText := true, laidKinds := [.data, .pinned], laidTests := true, laidLooks := .later }
def EvaluateSubstCardSaid : Prop := Claim7.holds Tryz.pinned (.plain (OpenSpec.ofChange evaluateSubstSpec)) evaluateSubstCard

/-- THE SECOND FORM's CARD OF 'vinculumlaw55.EvaluateAlpha'. -/
def evaluateAlphaUptoCard : Claim7 := { stood := { row := evaluateAlphaUptoRow, standIns := [], harness := (true, "610fcebe249bbdc93931eda318b11388c5ce1a8dfb035f97c1ac8bf020fa65db"), looks := false }, kinds := [], alts := [], laidByText := true, laidKinds := [.data, .pinned], laidTests := true, laidLooks := .later }
def EvaluateAlphaUptoCardSaid : Prop := Claim7.holds Tryz.pinned (.plain (OpenSpec.upto evaluateAlphaSpec)) evaluateAlphaUptoCard

/-- THE SECOND FORM's CARD OF 'vinculumlaw55.EvaluateForms'. -/
def evaluateFormsUptoCard : Claim7 := { stood := { row := evaluateFormsUptoRow, standIns := [], harness := (true, "610fcebe249bbdc93931eda318b11388c5ce1a8dfb035f97c1ac8bf020fa65db"), looks := false }, kinds := [], alts := [], laidByText := true, laidKinds := [.data, .pinned], laidTests := true, laidLooks := .later }
def EvaluateFormsUptoCardSaid : Prop := Claim7.holds Tryz.pinned (.plain (OpenSpec.upto evaluateFormsSpec)) evaluateFormsUptoCard

/-- THE SECOND FORM's CARD OF 'vinculumlaw55.EvaluateParts'. -/
def evaluatePartsUptoCard : Claim7 := { stood := { row := evaluatePartsUptoRow, standIns := [], harness := (true, "610fcebe249bbdc93931eda318b11388c5ce1a8dfb035f97c1ac8bf020fa65db"), looks := false }, kinds := [], alts := [], laidByText := true, laidKinds := [.data, .pinned], laidTests := true, laidLooks := .later }
def EvaluatePartsUptoCardSaid : Prop := Claim7.holds Tryz.pinned (.plain (OpenSpec.upto evaluatePartsSpec)) evaluatePartsUptoCard

/-- THE SECOND FORM's CARD OF 'vinculumlaw55.EvaluateScaled'. -/
def evaluateScaledUptoCard : Claim7 := { stood := { row := evaluateScaledUptoRow, standIns := [], harness := (true, "610fcebe249bbdc93931eda318b11388c5ce1a8dfb035f97c1ac8bf020fa65db"), looks := false }, kinds := [], alts := [], laidByText := true, laidKinds := [.data, .pinned], laidTests := true, laidLooks := .later }
def EvaluateScaledUptoCardSaid : Prop := Claim7.holds Tryz.pinned (.plain (OpenSpec.upto evaluateScaledSpec)) evaluateScaledUptoCard

/-- THE SECOND FORM's CARD OF 'vinculumlaw55.EvaluateValue'. -/
def evaluateValueUptoCard : Claim7 := { stood := { row := evaluateValueUptoRow, standIns := [], harness := (true, "610fcebe249bbdc93931eda318b11388c5ce1a8dfb035f97c1ac8bf020fa65db"), looks := false }, kinds := [], alts := [], laidByText := true, laidKinds := [.data, .data, .data, .data, .pinned], laidTests := true, laidLooks := .later }
def EvaluateValueUptoCardSaid : Prop := Claim7.holds Tryz.pinned (.plain (OpenSpec.upto evaluateValueSpec)) evaluateValueUptoCard

/-- THE SECOND FORM's CARD OF 'vinculumlaw55.EvaluateSubst'. -/
def evaluateSubstUptoCard : Claim7 := { stood := { row := evaluateSubstUptoRow, standIns := [], harness := (true, "610fcebe249bbdc93931eda318b11388c5ce1a8dfb035f97c1ac8bf020fa65db"), looks := false }, kinds := [], alts := [], laidByText := true, laidKinds := [.data, .pinned], laidTests := true, laidLooks := .later }
def EvaluateSubstUptoCardSaid : Prop := Claim7.holds Tryz.pinned (.plain (OpenSpec.upto evaluateSubstSpec)) evaluateSubstUptoCard
end Rows
end Go.Proofs.YtknpigdpepmimaaGreatDoor
