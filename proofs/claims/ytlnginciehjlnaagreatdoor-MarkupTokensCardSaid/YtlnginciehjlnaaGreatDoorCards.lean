/-
  DERIVED. GIVEN WITH THE SEED: THE CARDS: each row of YtlnginciehjlnaaGreatDoorRows.lean that lists a variable, with what it lists TIED to the program's text (the seventh form; the later family's looks); each row that meets fmt, with fmt's text TOLD by the authors' own Lean function (tested against real Go, not proved from fmt's source: count such statements apart). THE CARD IS WHAT COUNTS. Prove the row's statement (the work); the ties are given (YtlnginciehjlnaaGreatDoorTie.lean); close each card by the builder's one call (the guide's Derived/Test/ToyasCard.lean, 'card_holds'). Laid BY PROGRAM, IN A SANDBOX (cutbox-door.mjs). By AI agents, Wed Nov 11 2026. No macro, syntax, notation, axiom, sorry.
-/
import Derived.Test.YtlnginciehjlnaaGreatDoorRows
import GoSem.ClaimSeven
namespace Go.Proofs.YtlnginciehjlnaaGreatDoor
namespace Rows

/-- THE TIED CARD OF 'knapsacklaw06.MarkupTokens'. -/
def markupTokensCard : Claim7 := { stood := { row := markupTokensRow, standIns := [], harness := (true, "ba45bedb3c7c77e900c3c405cd281f55acb86edec3cb3ae9087e8c6b655bab77"), looks := false }, kinds := [], alts := [], laidByText := true, laidKinds := [.data, .listed, .data, .data, .pinned], laidTests := true, laidLooks := .later }
def MarkupTokensCardSaid : Prop := Claim7.holds Tryz.pinned (.plain (OpenSpec.ofChange markupTokensSpec)) markupTokensCard

/-- THE TIED CARD OF 'knapsacklaw06.MarkupTags'. -/
def markupTagsCard : Claim7 := { stood := { row := markupTagsRow, standIns := [], harness := (true, "ba45bedb3c7c77e900c3c405cd281f55acb86edec3cb3ae9087e8c6b655bab77"), looks := false }, kinds := [], alts := [], laidByText := true, laidKinds := [.data, .listed, .data, .data, .pinned], laidTests := true, laidLooks := .later }
def MarkupTagsCardSaid : Prop := Claim7.holds Tryz.pinned (.plain (OpenSpec.ofChange markupTagsSpec)) markupTagsCard

/-- THE TIED CARD OF 'knapsacklaw06.MarkupTexts'. -/
def markupTextsCard : Claim7 := { stood := { row := markupTextsRow, standIns := [], harness := (true, "ba45bedb3c7c77e900c3c405cd281f55acb86edec3cb3ae9087e8c6b655bab77"), looks := false }, kinds := [], alts := [], laidByText := true, laidKinds := [.data, .listed, .data, .data, .pinned], laidTests := true, laidLooks := .later }
def MarkupTextsCardSaid : Prop := Claim7.holds Tryz.pinned (.plain (OpenSpec.ofChange markupTextsSpec)) markupTextsCard

/-- THE TIED CARD OF 'knapsacklaw06.MarkupRaw'. -/
def markupRawCard : Claim7 := { stood := { row := markupRawRow, standIns := [], harness := (true, "ba45bedb3c7c77e900c3c405cd281f55acb86edec3cb3ae9087e8c6b655bab77"), looks := false }, kinds := [], alts := [], laidByText := true, laidKinds := [.data, .listed, .data, .data, .pinned], laidTests := true, laidLooks := .later }
def MarkupRawCardSaid : Prop := Claim7.holds Tryz.pinned (.plain (OpenSpec.ofChange markupRawSpec)) markupRawCard

/-- THE TIED CARD OF 'knapsacklaw06.MarkupPieces'. -/
def markupPiecesCard : Claim7 := { stood := { row := markupPiecesRow, standIns := [], harness := (true, "ba45bedb3c7c77e900c3c405cd281f55acb86edec3cb3ae9087e8c6b655bab77"), looks := false }, kinds := [], alts := [], laidByText := true, laidKinds := [.data, .listed, .data, .data, .pinned], laidTests := true, laidLooks := .later }
def MarkupPiecesCardSaid : Prop := Claim7.holds Tryz.pinned (.plain (OpenSpec.ofChange markupPiecesSpec)) markupPiecesCard

/-- THE TIED CARD OF 'knapsacklaw06.MarkupLate'. -/
def markupLateCard : Claim7 := { stood := { row := markupLateRow, standIns := [], harness := (true, "ba45bedb3c7c77e900c3c405cd281f55acb86edec3cb3ae9087e8c6b655bab77"), looks := false }, kinds := [], alts := [], laidByText := true, laidKinds := [.data, .listed, .data, .data, .pinned], laidTests := true, laidLooks := .later }
def MarkupLateCardSaid : Prop := Claim7.holds Tryz.pinned (.plain (OpenSpec.ofChange markupLateSpec)) markupLateCard

/-- THE TIED CARD OF 'knapsacklaw06.MarkupKinds'. -/
def markupKindsCard : Claim7 := { stood := { row := markupKindsRow, standIns := [], harness := (true, "ba45bedb3c7c77e900c3c405cd281f55acb86edec3cb3ae9087e8c6b655bab77"), looks := false }, kinds := [], alts := [], laidByText := true, laidKinds := [.data, .listed, .data, .data, .pinned], laidTests := true, laidLooks := .later }
def MarkupKindsCardSaid : Prop := Claim7.holds Tryz.pinned (.plain (OpenSpec.ofChange markupKindsSpec)) markupKindsCard

/-- THE SECOND FORM's CARD OF 'knapsacklaw06.MarkupTokens'. -/
def markupTokensUptoCard : Claim7 := { stood := { row := markupTokensUptoRow, standIns := [], harness := (true, "ba45bedb3c7c77e900c3c405cd281f55acb86edec3cb3ae9087e8c6b655bab77"), looks := false }, kinds := [], alts := [], laidByText := true, laidKinds := [.data, .listed, .data, .data, .pinned], laidTests := true, laidLooks := .later }
def MarkupTokensUptoCardSaid : Prop := Claim7.holds Tryz.pinned (.plain (OpenSpec.upto markupTokensSpec)) markupTokensUptoCard

/-- THE SECOND FORM's CARD OF 'knapsacklaw06.MarkupTags'. -/
def markupTagsUptoCard : Claim7 := { stood := { row := markupTagsUptoRow, standIns := [], harness := (true, "ba45bedb3c7c77e900c3c405cd281f55acb86edec3cb3ae9087e8c6b655bab77"), looks := false }, kinds := [], alts := [], laidByText := true, laidKinds := [.data, .listed, .data, .data, .pinned], laidTests := true, laidLooks := .later }
def MarkupTagsUptoCardSaid : Prop := Claim7.holds Tryz.pinned (.plain (OpenSpec.upto markupTagsSpec)) markupTagsUptoCard

/-- THE SECOND FORM's CARD OF 'knapsacklaw06.MarkupTexts'. -/
def markupTextsUptoCard : Claim7 := { stood := { row := markupTextsUptoRow, standIns := [], harness := (true, "ba45bedb3c7c77e900c3c405cd281f55acb86edec3cb3ae9087e8c6b655bab77"), looks := false }, kinds := [], alts := [], laidByText := true, laidKinds := [.data, .listed, .data, .data, .pinned], laidTests := true, laidLooks := .later }
def MarkupTextsUptoCardSaid : Prop := Claim7.holds Tryz.pinned (.plain (OpenSpec.upto markupTextsSpec)) markupTextsUptoCard

/-- THE SECOND FORM's CARD OF 'knapsacklaw06.MarkupRaw'. -/
def markupRawUptoCard : Claim7 := { stood := { row := markupRawUptoRow, standIns := [], harness := (true, "ba45bedb3c7c77e900c3c405cd281f55acb86edec3cb3ae9087e8c6b655bab77"), looks := false }, kinds := [], alts := [], laidByText := true, laidKinds := [.data, .listed, .data, .data, .pinned], laidTests := true, laidLooks := .later }
def MarkupRawUptoCardSaid : Prop := Claim7.holds Tryz.pinned (.plain (OpenSpec.upto markupRawSpec)) markupRawUptoCard

/-- THE SECOND FORM's CARD OF 'knapsacklaw06.MarkupPieces'. -/
def markupPiecesUptoCard : Claim7 := { stood := { row := markupPiecesUptoRow, standIns := [], harness := (true, "ba45bedb3c7c77e900c3c405cd281f55acb86edec3cb3ae9087e8c6b655bab77"), looks := false }, kinds := [], alts := [], laidByText := true, laidKinds := [.data, .listed, .data, .data, .pinned], laidTests := true, laidLooks := .later }
def MarkupPiecesUptoCardSaid : Prop := Claim7.holds Tryz.pinned (.plain (OpenSpec.upto markupPiecesSpec)) markupPiecesUptoCard

/-- THE SECOND FORM's CARD OF 'knapsacklaw06.MarkupLate'. -/
def markupLateUptoCard : Claim7 := { stood := { row := markupLateUptoRow, standIns := [], harness := (true, "ba45bedb3c7c77e900c3c405cd281f55acb86edec3cb3ae9087e8c6b655bab77"), looks := false }, kinds := [], alts := [], laidByText := true, laidKinds := [.data, .listed, .data, .data, .pinned], laidTests := true, laidLooks := .later }
def MarkupLateUptoCardSaid : Prop := Claim7.holds Tryz.pinned (.plain (OpenSpec.upto markupLateSpec)) markupLateUptoCard

/-- THE SECOND FORM's CARD OF 'knapsacklaw06.MarkupKinds'. -/
def markupKindsUptoCard : Claim7 := { stood := { row := markupKindsUptoRow, standIns := [], harness := (true, "ba45bedb3c7c77e900c3c405cd281f55acb86edec3cb3ae9087e8c6b655bab77"), looks := false }, kinds := [], alts := [], laidByText := true, laidKinds := [.data, .listed, .data, .data, .pinned], laidTests := true, laidLooks := .later }
def MarkupKindsUptoCardSaid : Prop := Claim7.holds Tryz.pinned (.plain (OpenSpec.upto markupKindsSpec)) markupKindsUptoCard
end Rows
end Go.Proofs.YtlnginciehjlnaaGreatDoor
