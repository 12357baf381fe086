/-
  DERIVED. GIVEN WITH THE SEED: THE CARDS: each row of YtinphfpdfodkkaaGreatDoorRows.lean that lists a variable, with what it lists TIED to the program's text (the seventh form; the later family's looks); each row that meets fmt, with fmt's text TOLD by the authors' own Lean function (tested against real Go, not proved from fmt's source: count such statements apart). THE CARD IS WHAT COUNTS. Prove the row's statement (the work); the ties are given (YtinphfpdfodkkaaGreatDoorTie.lean); close each card by the builder's one call (the guide's Derived/Test/ToyasCard.lean, 'card_holds'). Laid BY PROGRAM, IN A SANDBOX (cutbox-door.mjs). By AI agents, Wed Nov 11 2026. No macro, syntax, notation, axiom, sorry.
-/
import Derived.Test.YtinphfpdfodkkaaGreatDoorRows
import GoSem.ClaimSeven
namespace Go.Proofs.YtinphfpdfodkkaaGreatDoor
namespace Rows

/-- THE TIED CARD OF 'knapsacklaw10.LiverangeOrders'. -/
def liverangeOrdersCard : Claim7 := { stood := { row := liverangeOrdersRow, standIns := [], harness := (true, "091db4fb36e738872befb7a26182598efa0ad4ac39a89eea1d231c43ed53900c"), looks := false }, kinds := [], alts := [], laidByText := true, laidKinds := [.data, .pinned], laidTests := true, laidLooks := .later }
def LiverangeOrdersCardSaid : Prop := Claim7.holds Tryz.pinned (.plain (OpenSpec.ofChange liverangeOrdersSpec)) liverangeOrdersCard

/-- THE TIED CARD OF 'knapsacklaw10.LiverangeSets'. -/
def liverangeSetsCard : Claim7 := { stood := { row := liverangeSetsRow, standIns := [], harness := (true, "091db4fb36e738872befb7a26182598efa0ad4ac39a89eea1d231c43ed53900c"), looks := false }, kinds := [], alts := [], laidByText := true, laidKinds := [.data, .pinned], laidTests := true, laidLooks := .later }
def LiverangeSetsCardSaid : Prop := Claim7.holds Tryz.pinned (.plain (OpenSpec.ofChange liverangeSetsSpec)) liverangeSetsCard

/-- THE TIED CARD OF 'knapsacklaw10.LiverangeTexts'. -/
def liverangeTextsCard : Claim7 := { stood := { row := liverangeTextsRow, standIns := [], harness := (true, "091db4fb36e738872befb7a26182598efa0ad4ac39a89eea1d231c43ed53900c"), looks := false }, kinds := [], alts := [], laidByText := true, laidKinds := [.data, .pinned], laidTests := true, laidLooks := .later }
def LiverangeTextsCardSaid : Prop := Claim7.holds Tryz.pinned (.plain (OpenSpec.ofChange liverangeTextsSpec)) liverangeTextsCard

/-- THE TIED CARD OF 'knapsacklaw10.LiverangeMoves'. -/
def liverangeMovesCard : Claim7 := { stood := { row := liverangeMovesRow, standIns := [], harness := (true, "091db4fb36e738872befb7a26182598efa0ad4ac39a89eea1d231c43ed53900c"), looks := false }, kinds := [], alts := [], laidByText := true, laidKinds := [.data, .pinned], laidTests := true, laidLooks := .later }
def LiverangeMovesCardSaid : Prop := Claim7.holds Tryz.pinned (.plain (OpenSpec.ofChange liverangeMovesSpec)) liverangeMovesCard

/-- THE TIED CARD OF 'knapsacklaw10.LiverangeStays'. -/
def liverangeStaysCard : Claim7 := { stood := { row := liverangeStaysRow, standIns := [], harness := (true, "091db4fb36e738872befb7a26182598efa0ad4ac39a89eea1d231c43ed53900c"), looks := false }, kinds := [], alts := [], laidByText := true, laidKinds := [.data, .pinned], laidTests := true, laidLooks := .later }
def LiverangeStaysCardSaid : Prop := Claim7.holds Tryz.pinned (.plain (OpenSpec.ofChange liverangeStaysSpec)) liverangeStaysCard

/-- THE TIED CARD OF 'knapsacklaw10.LiverangeDeletes'. -/
def liverangeDeletesCard : Claim7 := { stood := { row := liverangeDeletesRow, standIns := [], harness := (true, "091db4fb36e738872befb7a26182598efa0ad4ac39a89eea1d231c43ed53900c"), looks := false }, kinds := [], alts := [], laidByText := true, laidKinds := [.data, .pinned], laidTests := true, laidLooks := .later }
def LiverangeDeletesCardSaid : Prop := Claim7.holds Tryz.pinned (.plain (OpenSpec.ofChange liverangeDeletesSpec)) liverangeDeletesCard

/-- THE SECOND FORM's CARD OF 'knapsacklaw10.LiverangeOrders'. -/
def liverangeOrdersUptoCard : Claim7 := { stood := { row := liverangeOrdersUptoRow, standIns := [], harness := (true, "091db4fb36e738872befb7a26182598efa0ad4ac39a89eea1d231c43ed53900c"), looks := false }, kinds := [], alts := [], laidByText := true, laidKinds := [.data, .pinned], laidTests := true, laidLooks := .later }
def LiverangeOrdersUptoCardSaid : Prop := Claim7.holds Tryz.pinned (.plain (OpenSpec.upto liverangeOrdersSpec)) liverangeOrdersUptoCard

/-- THE SECOND FORM's CARD OF 'knapsacklaw10.LiverangeSets'. -/
def liverangeSetsUptoCard : Claim7 := { stood := { row := liverangeSetsUptoRow, standIns := [], harness := (true, "091db4fb36e738872befb7a26182598efa0ad4ac39a89eea1d231c43ed53900c"), looks := false }, kinds := [], alts := [], laidByText := true, laidKinds := [.data, .pinned], laidTests := true, laidLooks := .later }
def LiverangeSetsUptoCardSaid : Prop := Claim7.holds Tryz.pinned (.plain (OpenSpec.upto liverangeSetsSpec)) liverangeSetsUptoCard

/-- THE SECOND FORM's CARD OF 'knapsacklaw10.LiverangeTexts'. -/
def liverangeTextsUptoCard : Claim7 := { stood := { row := liverangeTextsUptoRow, standIns := [], harness := (true, "091db4fb36e738872befb7a26182598efa0ad4ac39a89eea1d231c43ed53900c"), looks := false }, kinds := [], alts := [], laidByText := true, laidKinds := [.data, .pinned], laidTests := true, laidLooks := .later }
def LiverangeTextsUptoCardSaid : Prop := Claim7.holds Tryz.pinned (.plain (OpenSpec.upto liverangeTextsSpec)) liverangeTextsUptoCard

/-- THE SECOND FORM's CARD OF 'knapsacklaw10.LiverangeMoves'. -/
def liverangeMovesUptoCard : Claim7 := { stood := { row := liverangeMovesUptoRow, standIns := [], harness := (true, "091db4fb36e738872befb7a26182598efa0ad4ac39a89eea1d231c43ed53900c"), looks := false }, kinds := [], alts := [], laidByText := true, laidKinds := [.data, .pinned], laidTests := true, laidLooks := .later }
def LiverangeMovesUptoCardSaid : Prop := Claim7.holds Tryz.pinned (.plain (OpenSpec.upto liverangeMovesSpec)) liverangeMovesUptoCard

/-- THE SECOND FORM's CARD OF 'knapsacklaw10.LiverangeStays'. -/
def liverangeStaysUptoCard : Claim7 := { stood := { row := liverangeStaysUptoRow, standIns := [], harness := (true, "091db4fb36e738872befb7a26182598efa0ad4ac39a89eea1d231c43ed53900c"), looks := false }, kinds := [], alts := [], laidByText := true, laidKinds := [.data, .pinned], laidTests := true, laidLooks := .later }
def LiverangeStaysUptoCardSaid : Prop := Claim7.holds Tryz.pinned (.plain (OpenSpec.upto liverangeStaysSpec)) liverangeStaysUptoCard

/-- THE SECOND FORM's CARD OF 'knapsacklaw10.LiverangeDeletes'. -/
def liverangeDeletesUptoCard : Claim7 := { stood := { row := liverangeDeletesUptoRow, standIns := [], harness := (true, "091db4fb36e738872befb7a26182598efa0ad4ac39a89eea1d231c43ed53900c"), looks := false }, kinds := [], alts := [], laidByText := true, laidKinds := [.data, .pinned], laidTests := true, laidLooks := .later }
def LiverangeDeletesUptoCardSaid : Prop := Claim7.holds Tryz.pinned (.plain (OpenSpec.upto liverangeDeletesSpec)) liverangeDeletesUptoCard
end Rows
end Go.Proofs.YtinphfpdfodkkaaGreatDoor
