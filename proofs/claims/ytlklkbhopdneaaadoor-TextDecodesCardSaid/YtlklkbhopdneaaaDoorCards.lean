/-
  DERIVED. GIVEN WITH THE SEED: THE CARDS: each row of YtlklkbhopdneaaaDoorRows.lean that lists a variable, with what it lists TIED to the program's text (the seventh form; the later family's looks); each row that meets fmt, with fmt's text TOLD by the authors' own Lean function (tested against real Go, not proved from fmt's source: count such statements apart). THE CARD IS WHAT COUNTS. Prove the row's statement (the work); the ties are given (YtlklkbhopdneaaaDoorTie.lean); close each card by the builder's one call (the guide's Derived/Test/ToyasCard.lean, 'card_holds'). Laid BY PROGRAM, IN A SANDBOX (cutbox-door.mjs). By AI agents, Wed Nov 11 2026. No macro, syntax, notation, axiom, sorry.
-/
import Derived.Test.YtlklkbhopdneaaaDoorRows
import GoSem.ClaimSeven
namespace Go.Proofs.YtlklkbhopdneaaaDoor
namespace Rows

/-- THE TIED CARD OF 'knapsacklaw02.TextRepairs'. -/
def textRepairsCard : Claim7 := { stood := { row := textRepairsRow, standIns := [], harness := (true, "de61cb3507ee78549c23a0cdcb04836233008595811ca9ebd232e05ddc9da9aa"), looks := false }, kinds := [], alts := [], laidByText := true, laidKinds := [.data, .pinned], laidTests := true, laidLooks := .later }
def TextRepairsCardSaid : Prop := Claim7.holds Tryd.pinned (.plain (OpenSpec.ofChange textRepairsSpec)) textRepairsCard

/-- THE TIED CARD OF 'knapsacklaw02.TextSlices'. -/
def textSlicesCard : Claim7 := { stood := { row := textSlicesRow, standIns := [], harness := (true, "de61cb3507ee78549c23a0cdcb04836233008595811ca9ebd232e05ddc9da9aa"), looks := false }, kinds := [], alts := [], laidByText := true, laidKinds := [.data, .pinned], laidTests := true, laidLooks := .later }
def TextSlicesCardSaid : Prop := Claim7.holds Tryd.pinned (.plain (OpenSpec.ofChange textSlicesSpec)) textSlicesCard

/-- THE TIED CARD OF 'knapsacklaw02.TextJoins'. -/
def textJoinsCard : Claim7 := { stood := { row := textJoinsRow, standIns := [], harness := (true, "de61cb3507ee78549c23a0cdcb04836233008595811ca9ebd232e05ddc9da9aa"), looks := false }, kinds := [], alts := [], laidByText := true, laidKinds := [.data, .pinned], laidTests := true, laidLooks := .later }
def TextJoinsCardSaid : Prop := Claim7.holds Tryd.pinned (.plain (OpenSpec.ofChange textJoinsSpec)) textJoinsCard

/-- THE TIED CARD OF 'knapsacklaw02.TextDecodes'. -/
def textDecodesCard : Claim7 := { stood := { row := textDecodesRow, standIns := [], harness := (true, "de61cb3507ee78549c23a0cdcb04836233008595811ca9ebd232e05ddc9da9aa"), looks := false }, kinds := [], alts := [], laidByText := true, laidKinds := [.data, .pinned], laidTests := true, laidLooks := .later }
def TextDecodesCardSaid : Prop := Claim7.holds Tryd.pinned (.plain (OpenSpec.ofChange textDecodesSpec)) textDecodesCard

/-- THE TIED CARD OF 'knapsacklaw02.TextLines'. -/
def textLinesCard : Claim7 := { stood := { row := textLinesRow, standIns := [], harness := (true, "de61cb3507ee78549c23a0cdcb04836233008595811ca9ebd232e05ddc9da9aa"), looks := false }, kinds := [], alts := [], laidByText := true, laidKinds := [.data, .pinned], laidTests := true, laidLooks := .later }
def TextLinesCardSaid : Prop := Claim7.holds Tryd.pinned (.plain (OpenSpec.ofChange textLinesSpec)) textLinesCard

/-- THE TIED CARD OF 'knapsacklaw02.TextSpaces'. -/
def textSpacesCard : Claim7 := { stood := { row := textSpacesRow, standIns := [], harness := (true, "de61cb3507ee78549c23a0cdcb04836233008595811ca9ebd232e05ddc9da9aa"), looks := false }, kinds := [], alts := [], laidByText := true, laidKinds := [.data, .pinned], laidTests := true, laidLooks := .later }
def TextSpacesCardSaid : Prop := Claim7.holds Tryd.pinned (.plain (OpenSpec.ofChange textSpacesSpec)) textSpacesCard

/-- THE SECOND FORM's CARD OF 'knapsacklaw02.TextRepairs'. -/
def textRepairsUptoCard : Claim7 := { stood := { row := textRepairsUptoRow, standIns := [], harness := (true, "de61cb3507ee78549c23a0cdcb04836233008595811ca9ebd232e05ddc9da9aa"), looks := false }, kinds := [], alts := [], laidByText := true, laidKinds := [.data, .pinned], laidTests := true, laidLooks := .later }
def TextRepairsUptoCardSaid : Prop := Claim7.holds Tryd.pinned (.plain (OpenSpec.upto textRepairsSpec)) textRepairsUptoCard

/-- THE SECOND FORM's CARD OF 'knapsacklaw02.TextSlices'. -/
def textSlicesUptoCard : Claim7 := { stood := { row := textSlicesUptoRow, standIns := [], harness := (true, "de61cb3507ee78549c23a0cdcb04836233008595811ca9ebd232e05ddc9da9aa"), looks := false }, kinds := [], alts := [], laidByText := true, laidKinds := [.data, .pinned], laidTests := true, laidLooks := .later }
def TextSlicesUptoCardSaid : Prop := Claim7.holds Tryd.pinned (.plain (OpenSpec.upto textSlicesSpec)) textSlicesUptoCard

/-- THE SECOND FORM's CARD OF 'knapsacklaw02.TextJoins'. -/
def textJoinsUptoCard : Claim7 := { stood := { row := textJoinsUptoRow, standIns := [], harness := (true, "de61cb3507ee78549c23a0cdcb04836233008595811ca9ebd232e05ddc9da9aa"), looks := false }, kinds := [], alts := [], laidByText := true, laidKinds := [.data, .pinned], laidTests := true, laidLooks := .later }
def TextJoinsUptoCardSaid : Prop := Claim7.holds Tryd.pinned (.plain (OpenSpec.upto textJoinsSpec)) textJoinsUptoCard

/-- THE SECOND FORM's CARD OF 'knapsacklaw02.TextDecodes'. -/
def textDecodesUptoCard : Claim7 := { stood := { row := textDecodesUptoRow, standIns := [], harness := (true, "de61cb3507ee78549c23a0cdcb04836233008595811ca9ebd232e05ddc9da9aa"), looks := false }, kinds := [], alts := [], laidByText := true, laidKinds := [.data, .pinned], laidTests := true, laidLooks := .later }
def TextDecodesUptoCardSaid : Prop := Claim7.holds Tryd.pinned (.plain (OpenSpec.upto textDecodesSpec)) textDecodesUptoCard

/-- THE SECOND FORM's CARD OF 'knapsacklaw02.TextLines'. -/
def textLinesUptoCard : Claim7 := { stood := { row := textLinesUptoRow, standIns := [], harness := (true, "de61cb3507ee78549c23a0cdcb04836233008595811ca9ebd232e05ddc9da9aa"), looks := false }, kinds := [], alts := [], laidByText := true, laidKinds := [.data, .pinned], laidTests := true, laidLooks := .later }
def TextLinesUptoCardSaid : Prop := Claim7.holds Tryd.pinned (.plain (OpenSpec.upto textLinesSpec)) textLinesUptoCard

/-- THE SECOND FORM's CARD OF 'knapsacklaw02.TextSpaces'. -/
def textSpacesUptoCard : Claim7 := { stood := { row := textSpacesUptoRow, standIns := [], harness := (true, "de61cb3507ee78549c23a0cdcb04836233008595811ca9ebd232e05ddc9da9aa"), looks := false }, kinds := [], alts := [], laidByText := true, laidKinds := [.data, .pinned], laidTests := true, laidLooks := .later }
def TextSpacesUptoCardSaid : Prop := Claim7.holds Tryd.pinned (.plain (OpenSpec.upto textSpacesSpec)) textSpacesUptoCard
end Rows
end Go.Proofs.YtlklkbhopdneaaaDoor
