/-
  DERIVED. GIVEN WITH THE SEED: THE CARDS: each row of YtnmcgmbhkmfiaaaGreatDoorRows.lean that lists a variable, with what it lists TIED to the program's text (the seventh form; the later family's looks); each row that meets fmt, with fmt's text TOLD by the authors' own Lean function (tested against real Go, not proved from fmt's source: count such statements apart). THE CARD IS WHAT COUNTS. Prove the row's statement (the work); the ties are given (YtnmcgmbhkmfiaaaGreatDoorTie.lean); close each card by the builder's one call (the guide's Derived/Test/ToyasCard.lean, 'card_holds'). Laid BY PROGRAM, IN A SANDBOX (cutbox-door.mjs). By AI agents, Wed Nov 11 2026. No macro, syntax, notation, axiom, sorry.
-/
import Derived.Test.YtnmcgmbhkmfiaaaGreatDoorRows
import GoSem.ClaimSeven
namespace Go.Proofs.YtnmcgmbhkmfiaaaGreatDoor
namespace Rows

/-- THE TIED CARD OF 'knapsacklaw11.SelectorParses'. -/
def selectorParsesCard : Claim7 := { stood := { row := selectorParsesRow, standIns := [], harness := (true, "1640e0de363921258703be4c7e5d1d021c5aa8b35f0b346b72768375b8547178"), looks := true }, kinds := [], alts := [], laidByText := true, laidKinds := [.data, .data, .data, .data, .sentinel, .sentinel, .data, .pinned], laidTests := true, laidLooks := .later }
def SelectorParsesCardSaid : Prop := Claim7.holds Tryz.pinned (.plain (OpenSpec.ofChange selectorParsesSpec)) selectorParsesCard

/-- THE SECOND FORM's CARD OF 'knapsacklaw11.SelectorParses'. -/
def selectorParsesUptoCard : Claim7 := { stood := { row := selectorParsesUptoRow, standIns := [], harness := (true, "1640e0de363921258703be4c7e5d1d021c5aa8b35f0b346b72768375b8547178"), looks := true }, kinds := [], alts := [], laidByText := true, laidKinds := [.data, .data, .data, .data, .sentinel, .sentinel, .data, .pinned], laidTests := true, laidLooks := .later }
def SelectorParsesUptoCardSaid : Prop := Claim7.holds Tryz.pinned (.plain (OpenSpec.upto selectorParsesSpec)) selectorParsesUptoCard
end Rows
end Go.Proofs.YtnmcgmbhkmfiaaaGreatDoor
