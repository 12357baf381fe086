/-
  DERIVED. GIVEN WITH THE SEED: THE CARDS: each row of YtnmcgmbhkmfiaaaDoorRows.lean that lists a variable, with what it lists TIED to the program's text (the seventh form; the later family's looks); each row that meets fmt, with fmt's text TOLD by the authors' own Lean function (tested against real Go, not proved from fmt's source: count such statements apart). THE CARD IS WHAT COUNTS. Prove the row's statement (the work); the ties are given (YtnmcgmbhkmfiaaaDoorTie.lean); close each card by the builder's one call (the guide's Derived/Test/ToyasCard.lean, 'card_holds'). Laid BY PROGRAM, IN A SANDBOX (cutbox-door.mjs). By AI agents, Wed Nov 11 2026. No macro, syntax, notation, axiom, sorry.
-/
import Derived.Test.YtnmcgmbhkmfiaaaDoorRows
import GoSem.ClaimSeven
namespace Go.Proofs.YtnmcgmbhkmfiaaaDoor
namespace Rows

/-- THE TIED CARD OF 'knapsacklaw11.SelectorBack'. -/
def selectorBackCard : Claim7 := { stood := { row := selectorBackRow, standIns := [], harness := (true, "c2e3d4e6c27cdcac5c89fb958bf458406f2c91121a785dbc9b2ecdc84054e15e"), looks := true }, kinds := [], alts := [], laidByText := true, laidKinds := [.data, .data, .data, .data, .sentinel, .sentinel, .data, .pinned], laidTests := true, laidLooks := .later }
def SelectorBackCardSaid : Prop := Claim7.holds Tryd.pinned (.plain (OpenSpec.ofChange selectorBackSpec)) selectorBackCard

/-- THE SECOND FORM's CARD OF 'knapsacklaw11.SelectorBack'. -/
def selectorBackUptoCard : Claim7 := { stood := { row := selectorBackUptoRow, standIns := [], harness := (true, "c2e3d4e6c27cdcac5c89fb958bf458406f2c91121a785dbc9b2ecdc84054e15e"), looks := true }, kinds := [], alts := [], laidByText := true, laidKinds := [.data, .data, .data, .data, .sentinel, .sentinel, .data, .pinned], laidTests := true, laidLooks := .later }
def SelectorBackUptoCardSaid : Prop := Claim7.holds Tryd.pinned (.plain (OpenSpec.upto selectorBackSpec)) selectorBackUptoCard
end Rows
end Go.Proofs.YtnmcgmbhkmfiaaaDoor
