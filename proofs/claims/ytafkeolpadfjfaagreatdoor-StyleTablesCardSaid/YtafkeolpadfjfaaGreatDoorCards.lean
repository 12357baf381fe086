/-
  DERIVED. GIVEN WITH THE SEED: THE CARDS: each row of YtafkeolpadfjfaaGreatDoorRows.lean that lists a variable, with what it lists TIED to the program's text (the seventh form; the later family's looks); each row that meets fmt, with fmt's text TOLD by the authors' own Lean function (tested against real Go, not proved from fmt's source: count such statements apart). THE CARD IS WHAT COUNTS. Prove the row's statement (the work); the ties are given (YtafkeolpadfjfaaGreatDoorTie.lean); close each card by the builder's one call (the guide's Derived/Test/ToyasCard.lean, 'card_holds'). Laid BY PROGRAM, IN A SANDBOX (cutbox-door.mjs). By AI agents, Wed Nov 11 2026. No macro, syntax, notation, axiom, sorry.
-/
import Derived.Test.YtafkeolpadfjfaaGreatDoorRows
import GoSem.ClaimSeven
namespace Go.Proofs.YtafkeolpadfjfaaGreatDoor
namespace Rows

/-- THE TIED CARD OF 'knapsacklaw12.StyleDecls'. -/
def styleDeclsCard : Claim7 := { stood := { row := styleDeclsRow, standIns := [], harness := (true, "39568d0896b0ac5102628fec0184090daf8547c4d549a0b7f77d71052f6c6e78"), looks := true }, kinds := [], alts := [], laidByText := true, laidKinds := [.data, .data, .data, .data, .data, .pinned], laidTests := true, laidLooks := .later }
def StyleDeclsCardSaid : Prop := Claim7.holds Tryz.pinned (.plain (OpenSpec.ofChange styleDeclsSpec)) styleDeclsCard

/-- THE TIED CARD OF 'knapsacklaw12.StyleSides'. -/
def styleSidesCard : Claim7 := { stood := { row := styleSidesRow, standIns := [], harness := (true, "39568d0896b0ac5102628fec0184090daf8547c4d549a0b7f77d71052f6c6e78"), looks := true }, kinds := [], alts := [], laidByText := true, laidKinds := [.data, .data, .data, .data], laidTests := true, laidLooks := .later }
def StyleSidesCardSaid : Prop := Claim7.holds Tryz.pinned (.plain (OpenSpec.ofChange styleSidesSpec)) styleSidesCard

/-- THE TIED CARD OF 'knapsacklaw12.StyleValues'. -/
def styleValuesCard : Claim7 := { stood := { row := styleValuesRow, standIns := [], harness := (true, "39568d0896b0ac5102628fec0184090daf8547c4d549a0b7f77d71052f6c6e78"), looks := true }, kinds := [], alts := [], laidByText := true, laidKinds := [.data, .data, .data, .data], laidTests := true, laidLooks := .later }
def StyleValuesCardSaid : Prop := Claim7.holds Tryz.pinned (.plain (OpenSpec.ofChange styleValuesSpec)) styleValuesCard

/-- THE TIED CARD OF 'knapsacklaw12.StyleNumbers'. -/
def styleNumbersCard : Claim7 := { stood := { row := styleNumbersRow, standIns := [], harness := (true, "39568d0896b0ac5102628fec0184090daf8547c4d549a0b7f77d71052f6c6e78"), looks := true }, kinds := [], alts := [], laidByText := true, laidKinds := [.data, .data, .data, .data, .data], laidTests := true, laidLooks := .later }
def StyleNumbersCardSaid : Prop := Claim7.holds Tryz.pinned (.plain (OpenSpec.ofChange styleNumbersSpec)) styleNumbersCard

/-- THE TIED CARD OF 'knapsacklaw12.StyleSheets'. -/
def styleSheetsCard : Claim7 := { stood := { row := styleSheetsRow, standIns := [], harness := (true, "39568d0896b0ac5102628fec0184090daf8547c4d549a0b7f77d71052f6c6e78"), looks := true }, kinds := [], alts := [], laidByText := true, laidKinds := [.data, .data, .data, .data, .data, .data, .pinned], laidTests := true, laidLooks := .later }
def StyleSheetsCardSaid : Prop := Claim7.holds Tryz.pinned (.plain (OpenSpec.ofChange styleSheetsSpec)) styleSheetsCard

/-- THE TIED CARD OF 'knapsacklaw12.StyleTables'. -/
def styleTablesCard : Claim7 := { stood := { row := styleTablesRow, standIns := [], harness := (true, "39568d0896b0ac5102628fec0184090daf8547c4d549a0b7f77d71052f6c6e78"), looks := true }, kinds := [], alts := [], laidByText := true, laidKinds := [.data, .data, .data, .data], laidTests := true, laidLooks := .later }
def StyleTablesCardSaid : Prop := Claim7.holds Tryz.pinned (.plain (OpenSpec.ofChange styleTablesSpec)) styleTablesCard

/-- THE TIED CARD OF 'knapsacklaw12.StyleBack'. -/
def styleBackCard : Claim7 := { stood := { row := styleBackRow, standIns := [], harness := (true, "39568d0896b0ac5102628fec0184090daf8547c4d549a0b7f77d71052f6c6e78"), looks := true }, kinds := [], alts := [], laidByText := true, laidKinds := [.data, .data, .data, .data, .data, .data, .pinned], laidTests := true, laidLooks := .later }
def StyleBackCardSaid : Prop := Claim7.holds Tryz.pinned (.plain (OpenSpec.ofChange styleBackSpec)) styleBackCard

/-- THE TIED CARD OF 'knapsacklaw12.StyleRecovers'. -/
def styleRecoversCard : Claim7 := { stood := { row := styleRecoversRow, standIns := [], harness := (true, "39568d0896b0ac5102628fec0184090daf8547c4d549a0b7f77d71052f6c6e78"), looks := true }, kinds := [], alts := [], laidByText := true, laidKinds := [.data, .data, .data, .data, .data, .pinned], laidTests := true, laidLooks := .later }
def StyleRecoversCardSaid : Prop := Claim7.holds Tryz.pinned (.plain (OpenSpec.ofChange styleRecoversSpec)) styleRecoversCard

/-- THE SECOND FORM's CARD OF 'knapsacklaw12.StyleDecls'. -/
def styleDeclsUptoCard : Claim7 := { stood := { row := styleDeclsUptoRow, standIns := [], harness := (true, "39568d0896b0ac5102628fec0184090daf8547c4d549a0b7f77d71052f6c6e78"), looks := true }, kinds := [], alts := [], laidByText := true, laidKinds := [.data, .data, .data, .data, .data, .pinned], laidTests := true, laidLooks := .later }
def StyleDeclsUptoCardSaid : Prop := Claim7.holds Tryz.pinned (.plain (OpenSpec.upto styleDeclsSpec)) styleDeclsUptoCard

/-- THE SECOND FORM's CARD OF 'knapsacklaw12.StyleSides'. -/
def styleSidesUptoCard : Claim7 := { stood := { row := styleSidesUptoRow, standIns := [], harness := (true, "39568d0896b0ac5102628fec0184090daf8547c4d549a0b7f77d71052f6c6e78"), looks := true }, kinds := [], alts := [], laidByText := true, laidKinds := [.data, .data, .data, .data], laidTests := true, laidLooks := .later }
def StyleSidesUptoCardSaid : Prop := Claim7.holds Tryz.pinned (.plain (OpenSpec.upto styleSidesSpec)) styleSidesUptoCard

/-- THE SECOND FORM's CARD OF 'knapsacklaw12.StyleValues'. -/
def styleValuesUptoCard : Claim7 := { stood := { row := styleValuesUptoRow, standIns := [], harness := (true, "39568d0896b0ac5102628fec0184090daf8547c4d549a0b7f77d71052f6c6e78"), looks := true }, kinds := [], alts := [], laidByText := true, laidKinds := [.data, .data, .data, .data], laidTests := true, laidLooks := .later }
def StyleValuesUptoCardSaid : Prop := Claim7.holds Tryz.pinned (.plain (OpenSpec.upto styleValuesSpec)) styleValuesUptoCard

/-- THE SECOND FORM's CARD OF 'knapsacklaw12.StyleNumbers'. -/
def styleNumbersUptoCard : Claim7 := { stood := { row := styleNumbersUptoRow, standIns := [], harness := (true, "39568d0896b0ac5102628fec0184090daf8547c4d549a0b7f77d71052f6c6e78"), looks := true }, kinds := [], alts := [], laidByText := true, laidKinds := [.data, .data, .data, .data, .data], laidTests := true, laidLooks := .later }
def StyleNumbersUptoCardSaid : Prop := Claim7.holds Tryz.pinned (.plain (OpenSpec.upto styleNumbersSpec)) styleNumbersUptoCard

/-- THE SECOND FORM's CARD OF 'knapsacklaw12.StyleSheets'. -/
def styleSheetsUptoCard : Claim7 := { stood := { row := styleSheetsUptoRow, standIns := [], harness := (true, "39568d0896b0ac5102628fec0184090daf8547c4d549a0b7f77d71052f6c6e78"), looks := true }, kinds := [], alts := [], laidByText := true, laidKinds := [.data, .data, .data, .data, .data, .data, .pinned], laidTests := true, laidLooks := .later }
def StyleSheetsUptoCardSaid : Prop := Claim7.holds Tryz.pinned (.plain (OpenSpec.upto styleSheetsSpec)) styleSheetsUptoCard

/-- THE SECOND FORM's CARD OF 'knapsacklaw12.StyleBack'. -/
def styleBackUptoCard : Claim7 := { stood := { row := styleBackUptoRow, standIns := [], harness := (true, "39568d0896b0ac5102628fec0184090daf8547c4d549a0b7f77d71052f6c6e78"), looks := true }, kinds := [], alts := [], laidByText := true, laidKinds := [.data, .data, .data, .data, .data, .data, .pinned], laidTests := true, laidLooks := .later }
def StyleBackUptoCardSaid : Prop := Claim7.holds Tryz.pinned (.plain (OpenSpec.upto styleBackSpec)) styleBackUptoCard

/-- THE SECOND FORM's CARD OF 'knapsacklaw12.StyleRecovers'. -/
def styleRecoversUptoCard : Claim7 := { stood := { row := styleRecoversUptoRow, standIns := [], harness := (true, "39568d0896b0ac5102628fec0184090daf8547c4d549a0b7f77d71052f6c6e78"), looks := true }, kinds := [], alts := [], laidByText := true, laidKinds := [.data, .data, .data, .data, .data, .pinned], laidTests := true, laidLooks := .later }
def StyleRecoversUptoCardSaid : Prop := Claim7.holds Tryz.pinned (.plain (OpenSpec.upto styleRecoversSpec)) styleRecoversUptoCard
end Rows
end Go.Proofs.YtafkeolpadfjfaaGreatDoor
