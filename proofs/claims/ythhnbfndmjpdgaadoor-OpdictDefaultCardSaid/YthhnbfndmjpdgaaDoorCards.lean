/-
  DERIVED. GIVEN WITH THE SEED: THE CARDS: each row of YthhnbfndmjpdgaaDoorRows.lean that lists a variable, with what it lists TIED to the program's text (the seventh form; the later family's looks); each row that meets fmt, with fmt's text TOLD by the authors' own Lean function (tested against real Go, not proved from fmt's source: count such statements apart). THE CARD IS WHAT COUNTS. Prove the row's statement (the work); the ties are given (YthhnbfndmjpdgaaDoorTie.lean); close each card by the builder's one call (the guide's Derived/Test/ToyasCard.lean, 'card_holds'). Laid BY PROGRAM, IN A SANDBOX (cutbox-door.mjs). By AI agents, Wed Nov 11 2026. No macro, syntax, notation, axiom, sorry.
-/
import Derived.Test.YthhnbfndmjpdgaaDoorRows
import GoSem.ClaimSeven
namespace Go.Proofs.YthhnbfndmjpdgaaDoor
namespace Rows

/-- THE TIED CARD OF 'vinculumlaw08.OpdictDefault'. -/
def opdictDefaultCard : Claim7 := { stood := { row := opdictDefaultRow, standIns := [], harness := (true, "494b36338fd306ebf2ddec1a9d6ec9b15cc1b7c85d143f08bed9b0594409b139"), looks := false }, kinds := [], alts := [], laidByText := true, laidKinds := [.listed, .data], laidTests := true, laidLooks := .later }
def OpdictDefaultCardSaid : Prop := Claim7.holds Tryd.pinned (.plain (OpenSpec.ofChange opdictDefaultSpec)) opdictDefaultCard

/-- THE SECOND FORM's CARD OF 'vinculumlaw08.OpdictDefault'. -/
def opdictDefaultUptoCard : Claim7 := { stood := { row := opdictDefaultUptoRow, standIns := [], harness := (true, "494b36338fd306ebf2ddec1a9d6ec9b15cc1b7c85d143f08bed9b0594409b139"), looks := false }, kinds := [], alts := [], laidByText := true, laidKinds := [.listed, .data], laidTests := true, laidLooks := .later }
def OpdictDefaultUptoCardSaid : Prop := Claim7.holds Tryd.pinned (.plain (OpenSpec.upto opdictDefaultSpec)) opdictDefaultUptoCard
end Rows
end Go.Proofs.YthhnbfndmjpdgaaDoor
