/-
  DERIVED. GIVEN WITH THE SEED: THE CARDS: each row of YtbaljopgkelcfaaDoorRows.lean that lists a variable, with what it lists TIED to the program's text (the seventh form; the later family's looks); each row that meets fmt, with fmt's text TOLD by the authors' own Lean function (tested against real Go, not proved from fmt's source: count such statements apart). THE CARD IS WHAT COUNTS. Prove the row's statement (the work); the ties are given (YtbaljopgkelcfaaDoorTie.lean); close each card by the builder's one call (the guide's Derived/Test/ToyasCard.lean, 'card_holds'). Laid BY PROGRAM, IN A SANDBOX (cutbox-door.mjs). By AI agents, Wed Nov 11 2026. No macro, syntax, notation, axiom, sorry.
-/
import Derived.Test.YtbaljopgkelcfaaDoorRows
import GoSem.ClaimSeven
namespace Go.Proofs.YtbaljopgkelcfaaDoor
namespace Rows

/-- THE TIED CARD OF 'vinculumlaw01.LengthScale'. -/
def lengthScaleCard : Claim7 := { stood := { row := lengthScaleRow, standIns := [], harness := (true, "e622efe6dba4e9bd6fc1b8fa8e8b26b7ee6f2d3dc3aed5a3e200c0d643322651"), looks := false }, kinds := [], alts := [], laidByText := true, laidKinds := [.data, .data, .data, .data, .pinned], laidTests := true, laidLooks := .later }
def LengthScaleCardSaid : Prop := Claim7.holds Tryd.pinned (.plain (OpenSpec.ofChange lengthScaleSpec)) lengthScaleCard

/-- THE TIED CARD OF 'vinculumlaw01.LengthMulDiv'. -/
def lengthMulDivCard : Claim7 := { stood := { row := lengthMulDivRow, standIns := [], harness := (true, "e622efe6dba4e9bd6fc1b8fa8e8b26b7ee6f2d3dc3aed5a3e200c0d643322651"), looks := false }, kinds := [], alts := [], laidByText := true, laidKinds := [.data, .data, .data, .data, .pinned], laidTests := true, laidLooks := .later }
def LengthMulDivCardSaid : Prop := Claim7.holds Tryd.pinned (.plain (OpenSpec.ofChange lengthMulDivSpec)) lengthMulDivCard

/-- THE TIED CARD OF 'vinculumlaw01.LengthError'. -/
def lengthErrorCard : Claim7 := { stood := { row := lengthErrorRow, standIns := [], harness := (true, "e622efe6dba4e9bd6fc1b8fa8e8b26b7ee6f2d3dc3aed5a3e200c0d643322651"), looks := false }, kinds := [], alts := [], laidByText := true, laidKinds := [.data, .data, .data, .data, .pinned], laidTests := true, laidLooks := .later }
def LengthErrorCardSaid : Prop := Claim7.holds Tryd.pinned (.plain (OpenSpec.ofChange lengthErrorSpec)) lengthErrorCard

/-- THE TIED CARD OF 'vinculumlaw01.LengthSymmetric'. -/
def lengthSymmetricCard : Claim7 := { stood := { row := lengthSymmetricRow, standIns := [], harness := (true, "e622efe6dba4e9bd6fc1b8fa8e8b26b7ee6f2d3dc3aed5a3e200c0d643322651"), looks := false }, kinds := [], alts := [], laidByText := true, laidKinds := [.data, .data, .data, .data, .pinned], laidTests := true, laidLooks := .later }
def LengthSymmetricCardSaid : Prop := Claim7.holds Tryd.pinned (.plain (OpenSpec.ofChange lengthSymmetricSpec)) lengthSymmetricCard

/-- THE TIED CARD OF 'vinculumlaw01.LengthSums'. -/
def lengthSumsCard : Claim7 := { stood := { row := lengthSumsRow, standIns := [], harness := (true, "e622efe6dba4e9bd6fc1b8fa8e8b26b7ee6f2d3dc3aed5a3e200c0d643322651"), looks := false }, kinds := [], alts := [], laidByText := true, laidKinds := [.data, .data, .data, .data, .pinned], laidTests := true, laidLooks := .later }
def LengthSumsCardSaid : Prop := Claim7.holds Tryd.pinned (.plain (OpenSpec.ofChange lengthSumsSpec)) lengthSumsCard

/-- THE TIED CARD OF 'vinculumlaw01.LengthText'. -/
def lengthTextCard : Claim7 := { stood := { row := lengthTextRow, standIns := [], harness := (true, "e622efe6dba4e9bd6fc1b8fa8e8b26b7ee6f2d3dc3aed5a3e200c0d643322651"), looks := false }, kinds := [], alts := [], laidByText := true, laidKinds := [.data, .data, .data, .data, .pinned], laidTests := true, laidLooks := .later }
def LengthTextCardSaid : Prop := Claim7.holds Tryd.pinned (.plain (OpenSpec.ofChange lengthTextSpec)) lengthTextCard

/-- THE TIED CARD OF 'vinculumlaw01.LengthParse'. -/
def lengthParseCard : Claim7 := { stood := { row := lengthParseRow, standIns := [], harness := (true, "e622efe6dba4e9bd6fc1b8fa8e8b26b7ee6f2d3dc3aed5a3e200c0d643322651"), looks := false }, kinds := [], alts := [], laidByText := true, laidKinds := [.data, .data, .data, .data, .pinned], laidTests := true, laidLooks := .later }
def LengthParseCardSaid : Prop := Claim7.holds Tryd.pinned (.plain (OpenSpec.ofChange lengthParseSpec)) lengthParseCard

/-- THE SECOND FORM's CARD OF 'vinculumlaw01.LengthScale'. -/
def lengthScaleUptoCard : Claim7 := { stood := { row := lengthScaleUptoRow, standIns := [], harness := (true, "e622efe6dba4e9bd6fc1b8fa8e8b26b7ee6f2d3dc3aed5a3e200c0d643322651"), looks := false }, kinds := [], alts := [], laidByText := true, laidKinds := [.data, .data, .data, .data, .pinned], laidTests := true, laidLooks := .later }
def LengthScaleUptoCardSaid : Prop := Claim7.holds Tryd.pinned (.plain (OpenSpec.upto lengthScaleSpec)) lengthScaleUptoCard

/-- THE SECOND FORM's CARD OF 'vinculumlaw01.LengthMulDiv'. -/
def lengthMulDivUptoCard : Claim7 := { stood := { row := lengthMulDivUptoRow, standIns := [], harness := (true, "e622efe6dba4e9bd6fc1b8fa8e8b26b7ee6f2d3dc3aed5a3e200c0d643322651"), looks := false }, kinds := [], alts := [], laidByText := true, laidKinds := [.data, .data, .data, .data, .pinned], laidTests := true, laidLooks := .later }
def LengthMulDivUptoCardSaid : Prop := Claim7.holds Tryd.pinned (.plain (OpenSpec.upto lengthMulDivSpec)) lengthMulDivUptoCard

/-- THE SECOND FORM's CARD OF 'vinculumlaw01.LengthError'. -/
def lengthErrorUptoCard : Claim7 := { stood := { row := lengthErrorUptoRow, standIns := [], harness := (true, "e622efe6dba4e9bd6fc1b8fa8e8b26b7ee6f2d3dc3aed5a3e200c0d643322651"), looks := false }, kinds := [], alts := [], laidByText := true, laidKinds := [.data, .data, .data, .data, .pinned], laidTests := true, laidLooks := .later }
def LengthErrorUptoCardSaid : Prop := Claim7.holds Tryd.pinned (.plain (OpenSpec.upto lengthErrorSpec)) lengthErrorUptoCard

/-- THE SECOND FORM's CARD OF 'vinculumlaw01.LengthSymmetric'. -/
def lengthSymmetricUptoCard : Claim7 := { stood := { row := lengthSymmetricUptoRow, standIns := [], harness := (true, "e622efe6dba4e9bd6fc1b8fa8e8b26b7ee6f2d3dc3aed5a3e200c0d643322651"), looks := false }, kinds := [], alts := [], laidByText := true, laidKinds := [.data, .data, .data, .data, .pinned], laidTests := true, laidLooks := .later }
def LengthSymmetricUptoCardSaid : Prop := Claim7.holds Tryd.pinned (.plain (OpenSpec.upto lengthSymmetricSpec)) lengthSymmetricUptoCard

/-- THE SECOND FORM's CARD OF 'vinculumlaw01.LengthSums'. -/
def lengthSumsUptoCard : Claim7 := { stood := { row := lengthSumsUptoRow, standIns := [], harness := (true, "e622efe6dba4e9bd6fc1b8fa8e8b26b7ee6f2d3dc3aed5a3e200c0d643322651"), looks := false }, kinds := [], alts := [], laidByText := true, laidKinds := [.data, .data, .data, .data, .pinned], laidTests := true, laidLooks := .later }
def LengthSumsUptoCardSaid : Prop := Claim7.holds Tryd.pinned (.plain (OpenSpec.upto lengthSumsSpec)) lengthSumsUptoCard

/-- THE SECOND FORM's CARD OF 'vinculumlaw01.LengthText'. -/
def lengthTextUptoCard : Claim7 := { stood := { row := lengthTextUptoRow, standIns := [], harness := (true, "e622efe6dba4e9bd6fc1b8fa8e8b26b7ee6f2d3dc3aed5a3e200c0d643322651"), looks := false }, kinds := [], alts := [], laidByText := true, laidKinds := [.data, .data, .data, .data, .pinned], laidTests := true, laidLooks := .later }
def LengthTextUptoCardSaid : Prop := Claim7.holds Tryd.pinned (.plain (OpenSpec.upto lengthTextSpec)) lengthTextUptoCard

/-- THE SECOND FORM's CARD OF 'vinculumlaw01.LengthParse'. -/
def lengthParseUptoCard : Claim7 := { stood := { row := lengthParseUptoRow, standIns := [], harness := (true, "e622efe6dba4e9bd6fc1b8fa8e8b26b7ee6f2d3dc3aed5a3e200c0d643322651"), looks := false }, kinds := [], alts := [], laidByText := true, laidKinds := [.data, .data, .data, .data, .pinned], laidTests := true, laidLooks := .later }
def LengthParseUptoCardSaid : Prop := Claim7.holds Tryd.pinned (.plain (OpenSpec.upto lengthParseSpec)) lengthParseUptoCard
end Rows
end Go.Proofs.YtbaljopgkelcfaaDoor
