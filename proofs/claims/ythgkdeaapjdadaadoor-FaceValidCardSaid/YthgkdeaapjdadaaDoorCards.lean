/-
  DERIVED. GIVEN WITH THE SEED: THE CARDS: each row of YthgkdeaapjdadaaDoorRows.lean that lists a variable, with what it lists TIED to the program's text (the seventh form; the later family's looks); each row that meets fmt, with fmt's text TOLD by the authors' own Lean function (tested against real Go, not proved from fmt's source: count such statements apart). THE CARD IS WHAT COUNTS. Prove the row's statement (the work); the ties are given (YthgkdeaapjdadaaDoorTie.lean); close each card by the builder's one call (the guide's Derived/Test/ToyasCard.lean, 'card_holds'). Laid BY PROGRAM, IN A SANDBOX (cutbox-door.mjs). By AI agents, Wed Nov 11 2026. No macro, syntax, notation, axiom, sorry.
-/
import Derived.Test.YthgkdeaapjdadaaDoorRows
import GoSem.ClaimSeven
namespace Go.Proofs.YthgkdeaapjdadaaDoor
namespace Rows

/-- THE TIED CARD OF 'vinculumlaw07.FaceNames'. -/
def faceNamesCard : Claim7 := { stood := { row := faceNamesRow, standIns := [], harness := (true, "0e4861c25a93df8286522005026ba236e55e27bebd4c1e5c5963d462e4a3e908"), looks := false }, kinds := [], alts := [], laidByText := true, laidKinds := [.data, .data, .data], laidTests := true, laidLooks := .later }
def FaceNamesCardSaid : Prop := Claim7.holds Tryd.pinned (.plain (OpenSpec.ofChange faceNamesSpec)) faceNamesCard

/-- THE TIED CARD OF 'vinculumlaw07.FaceGlyph'. -/
def faceGlyphCard : Claim7 := { stood := { row := faceGlyphRow, standIns := [], harness := (true, "0e4861c25a93df8286522005026ba236e55e27bebd4c1e5c5963d462e4a3e908"), looks := false }, kinds := [], alts := [], laidByText := true, laidKinds := [.data, .data, .data], laidTests := true, laidLooks := .later }
def FaceGlyphCardSaid : Prop := Claim7.holds Tryd.pinned (.plain (OpenSpec.ofChange faceGlyphSpec)) faceGlyphCard

/-- THE TIED CARD OF 'vinculumlaw07.FaceComplete'. -/
def faceCompleteCard : Claim7 := { stood := { row := faceCompleteRow, standIns := [], harness := (true, "0e4861c25a93df8286522005026ba236e55e27bebd4c1e5c5963d462e4a3e908"), looks := false }, kinds := [], alts := [], laidByText := true, laidKinds := [.data, .data, .data], laidTests := true, laidLooks := .later }
def FaceCompleteCardSaid : Prop := Claim7.holds Tryd.pinned (.plain (OpenSpec.ofChange faceCompleteSpec)) faceCompleteCard

/-- THE TIED CARD OF 'vinculumlaw07.FaceFont'. -/
def faceFontCard : Claim7 := { stood := { row := faceFontRow, standIns := [], harness := (true, "0e4861c25a93df8286522005026ba236e55e27bebd4c1e5c5963d462e4a3e908"), looks := false }, kinds := [], alts := [], laidByText := true, laidKinds := [.data, .data, .data], laidTests := true, laidLooks := .later }
def FaceFontCardSaid : Prop := Claim7.holds Tryd.pinned (.plain (OpenSpec.ofChange faceFontSpec)) faceFontCard

/-- THE TIED CARD OF 'vinculumlaw07.FaceGrowth'. -/
def faceGrowthCard : Claim7 := { stood := { row := faceGrowthRow, standIns := [], harness := (true, "0e4861c25a93df8286522005026ba236e55e27bebd4c1e5c5963d462e4a3e908"), looks := false }, kinds := [], alts := [], laidByText := true, laidKinds := [.data, .data, .data], laidTests := true, laidLooks := .later }
def FaceGrowthCardSaid : Prop := Claim7.holds Tryd.pinned (.plain (OpenSpec.ofChange faceGrowthSpec)) faceGrowthCard

/-- THE TIED CARD OF 'vinculumlaw07.FaceValid'. -/
def faceValidCard : Claim7 := { stood := { row := faceValidRow, standIns := [], harness := (true, "0e4861c25a93df8286522005026ba236e55e27bebd4c1e5c5963d462e4a3e908"), looks := false }, kinds := [], alts := [], laidByText := true, laidKinds := [.data, .data, .data], laidTests := true, laidLooks := .later }
def FaceValidCardSaid : Prop := Claim7.holds Tryd.pinned (.plain (OpenSpec.ofChange faceValidSpec)) faceValidCard

/-- THE TIED CARD OF 'vinculumlaw08.OpdictGlyphs'. -/
def opdictGlyphsCard : Claim7 := { stood := { row := opdictGlyphsRow, standIns := [], harness := (true, "0e4861c25a93df8286522005026ba236e55e27bebd4c1e5c5963d462e4a3e908"), looks := false }, kinds := [], alts := [], laidByText := true, laidKinds := [.data, .data, .data, .listed, .data], laidTests := true, laidLooks := .later }
def OpdictGlyphsCardSaid : Prop := Claim7.holds Tryd.pinned (.plain (OpenSpec.ofChange opdictGlyphsSpec)) opdictGlyphsCard

/-- THE SECOND FORM's CARD OF 'vinculumlaw07.FaceNames'. -/
def faceNamesUptoCard : Claim7 := { stood := { row := faceNamesUptoRow, standIns := [], harness := (true, "0e4861c25a93df8286522005026ba236e55e27bebd4c1e5c5963d462e4a3e908"), looks := false }, kinds := [], alts := [], laidByText := true, laidKinds := [.data, .data, .data], laidTests := true, laidLooks := .later }
def FaceNamesUptoCardSaid : Prop := Claim7.holds Tryd.pinned (.plain (OpenSpec.upto faceNamesSpec)) faceNamesUptoCard

/-- THE SECOND FORM's CARD OF 'vinculumlaw07.FaceGlyph'. -/
def faceGlyphUptoCard : Claim7 := { stood := { row := faceGlyphUptoRow, standIns := [], harness := (true, "0e4861c25a93df8286522005026ba236e55e27bebd4c1e5c5963d462e4a3e908"), looks := false }, kinds := [], alts := [], laidByText := true, laidKinds := [.data, .data, .data], laidTests := true, laidLooks := .later }
def FaceGlyphUptoCardSaid : Prop := Claim7.holds Tryd.pinned (.plain (OpenSpec.upto faceGlyphSpec)) faceGlyphUptoCard

/-- THE SECOND FORM's CARD OF 'vinculumlaw07.FaceComplete'. -/
def faceCompleteUptoCard : Claim7 := { stood := { row := faceCompleteUptoRow, standIns := [], harness := (true, "0e4861c25a93df8286522005026ba236e55e27bebd4c1e5c5963d462e4a3e908"), looks := false }, kinds := [], alts := [], laidByText := true, laidKinds := [.data, .data, .data], laidTests := true, laidLooks := .later }
def FaceCompleteUptoCardSaid : Prop := Claim7.holds Tryd.pinned (.plain (OpenSpec.upto faceCompleteSpec)) faceCompleteUptoCard

/-- THE SECOND FORM's CARD OF 'vinculumlaw07.FaceFont'. -/
def faceFontUptoCard : Claim7 := { stood := { row := faceFontUptoRow, standIns := [], harness := (true, "0e4861c25a93df8286522005026ba236e55e27bebd4c1e5c5963d462e4a3e908"), looks := false }, kinds := [], alts := [], laidByText := true, laidKinds := [.data, .data, .data], laidTests := true, laidLooks := .later }
def FaceFontUptoCardSaid : Prop := Claim7.holds Tryd.pinned (.plain (OpenSpec.upto faceFontSpec)) faceFontUptoCard

/-- THE SECOND FORM's CARD OF 'vinculumlaw07.FaceGrowth'. -/
def faceGrowthUptoCard : Claim7 := { stood := { row := faceGrowthUptoRow, standIns := [], harness := (true, "0e4861c25a93df8286522005026ba236e55e27bebd4c1e5c5963d462e4a3e908"), looks := false }, kinds := [], alts := [], laidByText := true, laidKinds := [.data, .data, .data], laidTests := true, laidLooks := .later }
def FaceGrowthUptoCardSaid : Prop := Claim7.holds Tryd.pinned (.plain (OpenSpec.upto faceGrowthSpec)) faceGrowthUptoCard

/-- THE SECOND FORM's CARD OF 'vinculumlaw07.FaceValid'. -/
def faceValidUptoCard : Claim7 := { stood := { row := faceValidUptoRow, standIns := [], harness := (true, "0e4861c25a93df8286522005026ba236e55e27bebd4c1e5c5963d462e4a3e908"), looks := false }, kinds := [], alts := [], laidByText := true, laidKinds := [.data, .data, .data], laidTests := true, laidLooks := .later }
def FaceValidUptoCardSaid : Prop := Claim7.holds Tryd.pinned (.plain (OpenSpec.upto faceValidSpec)) faceValidUptoCard

/-- THE SECOND FORM's CARD OF 'vinculumlaw08.OpdictGlyphs'. -/
def opdictGlyphsUptoCard : Claim7 := { stood := { row := opdictGlyphsUptoRow, standIns := [], harness := (true, "0e4861c25a93df8286522005026ba236e55e27bebd4c1e5c5963d462e4a3e908"), looks := false }, kinds := [], alts := [], laidByText := true, laidKinds := [.data, .data, .data, .listed, .data], laidTests := true, laidLooks := .later }
def OpdictGlyphsUptoCardSaid : Prop := Claim7.holds Tryd.pinned (.plain (OpenSpec.upto opdictGlyphsSpec)) opdictGlyphsUptoCard
end Rows
end Go.Proofs.YthgkdeaapjdadaaDoor
