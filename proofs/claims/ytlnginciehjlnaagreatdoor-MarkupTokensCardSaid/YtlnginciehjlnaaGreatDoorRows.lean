/-
  NARROWER THAN 'FOR EVERY INPUT', by the rows' own cells (each row's printed sentence says how): MarkupTokens: laid · MarkupTags: laid · MarkupTexts: laid · MarkupRaw: laid · MarkupPieces: laid · MarkupLate: laid · MarkupKinds: laid.
  DERIVED. THE GIVEN ROWS OF THIS SEAT. 7 by the template 'for every input the law returns true; each argument reads behind the call as it read before'; 0 by the template 'total and deterministic' (their statements: YtlnginciehjlnaaGreatDoorTotals.lean).
  GIVEN WITH THE SEED: the statements are not yours to turn. If you find one false, say at which input.
  Laid BY PROGRAM, IN A SANDBOX (cutbox-rows.mjs): the forced cells as the released guide's own fill.sh prints them over the translation 19dbfb2f6f68855c… (all of the seat's roots in one cut). By AI agents, Wed Nov 11 2026. No macro, syntax, notation, axiom, sorry.
-/
import Derived.Test.YtlnginciehjlnaaGreatDoorChecked
import GoSem.PinnedTables
import GoSem.Claim
import GoSem.ClaimJoined
import GoSem.ClaimMapViews
import Derived.JoinedTies
import Derived.KernelRfl
namespace Go.Proofs.YtlnginciehjlnaaGreatDoor
/- THE CELL 'sum', in the pinned program and in every row, IS THE sha256 OF THE DUMP (.gsa) THAT YtlnginciehjlnaaGreatDoorProg.lean LOADS. Nothing in Lean hashes anything: it is a label: what it is worth is what the hold of that sum in a sandbox is worth. -/
noncomputable def Tryz.pinned : Pinned := { name := "ytlnginciehjlnaagreatdoor", sum := "19dbfb2f6f68855c6a35c3301a4037ed8702d60c2f58cae4398ca20877ff9bda", checked := Tryz.checked }
namespace Rows
def none {H : Type} : Left H := { results := [], args := [] }

/- WHAT THE LISTED PACKAGE-LEVEL VARIABLES READ AS WHEN THE CALL BEGINS. Each datum BY PROGRAM (the guide's laid-datum.mjs) off the statement by which the dump's own 'gosem.cut.vars' lays the variable. In a bare row this is a premise. The card (YtlnginciehjlnaaGreatDoorCards.lean) ties it to the program's text. -/
def laid_unicode_utf8_acceptRanges {H : Type} : DataW H := .agg [.agg [.lit (.int .u8 128), .lit (.int .u8 191)], .agg [.lit (.int .u8 160), .lit (.int .u8 191)], .agg [.lit (.int .u8 128), .lit (.int .u8 159)], .agg [.lit (.int .u8 144), .lit (.int .u8 191)], .agg [.lit (.int .u8 128), .lit (.int .u8 143)], .agg [.lit (.int .u8 0), .lit (.int .u8 0)], .agg [.lit (.int .u8 0), .lit (.int .u8 0)], .agg [.lit (.int .u8 0), .lit (.int .u8 0)], .agg [.lit (.int .u8 0), .lit (.int .u8 0)], .agg [.lit (.int .u8 0), .lit (.int .u8 0)], .agg [.lit (.int .u8 0), .lit (.int .u8 0)], .agg [.lit (.int .u8 0), .lit (.int .u8 0)], .agg [.lit (.int .u8 0), .lit (.int .u8 0)], .agg [.lit (.int .u8 0), .lit (.int .u8 0)], .agg [.lit (.int .u8 0), .lit (.int .u8 0)], .agg [.lit (.int .u8 0), .lit (.int .u8 0)]]
def laid_unicode_White_Space {H : Type} : DataW H := .ptr (.agg [.slice [.agg [.lit (.int .u16 9), .lit (.int .u16 13), .lit (.int .u16 1)], .agg [.lit (.int .u16 32), .lit (.int .u16 133), .lit (.int .u16 101)], .agg [.lit (.int .u16 160), .lit (.int .u16 5760), .lit (.int .u16 5600)], .agg [.lit (.int .u16 8192), .lit (.int .u16 8202), .lit (.int .u16 1)], .agg [.lit (.int .u16 8232), .lit (.int .u16 8233), .lit (.int .u16 1)], .agg [.lit (.int .u16 8239), .lit (.int .u16 8287), .lit (.int .u16 48)], .agg [.lit (.int .u16 12288), .lit (.int .u16 12288), .lit (.int .u16 1)]] [], .nil, .lit (.int .i64 2)])
def laid_strings_asciiSpace {H : Type} : DataW H := .agg [.lit (.int .u8 0), .lit (.int .u8 0), .lit (.int .u8 0), .lit (.int .u8 0), .lit (.int .u8 0), .lit (.int .u8 0), .lit (.int .u8 0), .lit (.int .u8 0), .lit (.int .u8 0), .lit (.int .u8 1), .lit (.int .u8 1), .lit (.int .u8 1), .lit (.int .u8 1), .lit (.int .u8 1), .lit (.int .u8 0), .lit (.int .u8 0), .lit (.int .u8 0), .lit (.int .u8 0), .lit (.int .u8 0), .lit (.int .u8 0), .lit (.int .u8 0), .lit (.int .u8 0), .lit (.int .u8 0), .lit (.int .u8 0), .lit (.int .u8 0), .lit (.int .u8 0), .lit (.int .u8 0), .lit (.int .u8 0), .lit (.int .u8 0), .lit (.int .u8 0), .lit (.int .u8 0), .lit (.int .u8 0), .lit (.int .u8 1), .lit (.int .u8 0), .lit (.int .u8 0), .lit (.int .u8 0), .lit (.int .u8 0), .lit (.int .u8 0), .lit (.int .u8 0), .lit (.int .u8 0), .lit (.int .u8 0), .lit (.int .u8 0), .lit (.int .u8 0), .lit (.int .u8 0), .lit (.int .u8 0), .lit (.int .u8 0), .lit (.int .u8 0), .lit (.int .u8 0), .lit (.int .u8 0), .lit (.int .u8 0), .lit (.int .u8 0), .lit (.int .u8 0), .lit (.int .u8 0), .lit (.int .u8 0), .lit (.int .u8 0), .lit (.int .u8 0), .lit (.int .u8 0), .lit (.int .u8 0), .lit (.int .u8 0), .lit (.int .u8 0), .lit (.int .u8 0), .lit (.int .u8 0), .lit (.int .u8 0), .lit (.int .u8 0), .lit (.int .u8 0), .lit (.int .u8 0), .lit (.int .u8 0), .lit (.int .u8 0), .lit (.int .u8 0), .lit (.int .u8 0), .lit (.int .u8 0), .lit (.int .u8 0), .lit (.int .u8 0), .lit (.int .u8 0), .lit (.int .u8 0), .lit (.int .u8 0), .lit (.int .u8 0), .lit (.int .u8 0), .lit (.int .u8 0), .lit (.int .u8 0), .lit (.int .u8 0), .lit (.int .u8 0), .lit (.int .u8 0), .lit (.int .u8 0), .lit (.int .u8 0), .lit (.int .u8 0), .lit (.int .u8 0), .lit (.int .u8 0), .lit (.int .u8 0), .lit (.int .u8 0), .lit (.int .u8 0), .lit (.int .u8 0), .lit (.int .u8 0), .lit (.int .u8 0), .lit (.int .u8 0), .lit (.int .u8 0), .lit (.int .u8 0), .lit (.int .u8 0), .lit (.int .u8 0), .lit (.int .u8 0), .lit (.int .u8 0), .lit (.int .u8 0), .lit (.int .u8 0), .lit (.int .u8 0), .lit (.int .u8 0), .lit (.int .u8 0), .lit (.int .u8 0), .lit (.int .u8 0), .lit (.int .u8 0), .lit (.int .u8 0), .lit (.int .u8 0), .lit (.int .u8 0), .lit (.int .u8 0), .lit (.int .u8 0), .lit (.int .u8 0), .lit (.int .u8 0), .lit (.int .u8 0), .lit (.int .u8 0), .lit (.int .u8 0), .lit (.int .u8 0), .lit (.int .u8 0), .lit (.int .u8 0), .lit (.int .u8 0), .lit (.int .u8 0), .lit (.int .u8 0), .lit (.int .u8 0), .lit (.int .u8 0), .lit (.int .u8 0), .lit (.int .u8 0), .lit (.int .u8 0), .lit (.int .u8 0), .lit (.int .u8 0), .lit (.int .u8 0), .lit (.int .u8 0), .lit (.int .u8 0), .lit (.int .u8 0), .lit (.int .u8 0), .lit (.int .u8 0), .lit (.int .u8 0), .lit (.int .u8 0), .lit (.int .u8 0), .lit (.int .u8 0), .lit (.int .u8 0), .lit (.int .u8 0), .lit (.int .u8 0), .lit (.int .u8 0), .lit (.int .u8 0), .lit (.int .u8 0), .lit (.int .u8 0), .lit (.int .u8 0), .lit (.int .u8 0), .lit (.int .u8 0), .lit (.int .u8 0), .lit (.int .u8 0), .lit (.int .u8 0), .lit (.int .u8 0), .lit (.int .u8 0), .lit (.int .u8 0), .lit (.int .u8 0), .lit (.int .u8 0), .lit (.int .u8 0), .lit (.int .u8 0), .lit (.int .u8 0), .lit (.int .u8 0), .lit (.int .u8 0), .lit (.int .u8 0), .lit (.int .u8 0), .lit (.int .u8 0), .lit (.int .u8 0), .lit (.int .u8 0), .lit (.int .u8 0), .lit (.int .u8 0), .lit (.int .u8 0), .lit (.int .u8 0), .lit (.int .u8 0), .lit (.int .u8 0), .lit (.int .u8 0), .lit (.int .u8 0), .lit (.int .u8 0), .lit (.int .u8 0), .lit (.int .u8 0), .lit (.int .u8 0), .lit (.int .u8 0), .lit (.int .u8 0), .lit (.int .u8 0), .lit (.int .u8 0), .lit (.int .u8 0), .lit (.int .u8 0), .lit (.int .u8 0), .lit (.int .u8 0), .lit (.int .u8 0), .lit (.int .u8 0), .lit (.int .u8 0), .lit (.int .u8 0), .lit (.int .u8 0), .lit (.int .u8 0), .lit (.int .u8 0), .lit (.int .u8 0), .lit (.int .u8 0), .lit (.int .u8 0), .lit (.int .u8 0), .lit (.int .u8 0), .lit (.int .u8 0), .lit (.int .u8 0), .lit (.int .u8 0), .lit (.int .u8 0), .lit (.int .u8 0), .lit (.int .u8 0), .lit (.int .u8 0), .lit (.int .u8 0), .lit (.int .u8 0), .lit (.int .u8 0), .lit (.int .u8 0), .lit (.int .u8 0), .lit (.int .u8 0), .lit (.int .u8 0), .lit (.int .u8 0), .lit (.int .u8 0), .lit (.int .u8 0), .lit (.int .u8 0), .lit (.int .u8 0), .lit (.int .u8 0), .lit (.int .u8 0), .lit (.int .u8 0), .lit (.int .u8 0), .lit (.int .u8 0), .lit (.int .u8 0), .lit (.int .u8 0), .lit (.int .u8 0), .lit (.int .u8 0), .lit (.int .u8 0), .lit (.int .u8 0), .lit (.int .u8 0), .lit (.int .u8 0), .lit (.int .u8 0), .lit (.int .u8 0), .lit (.int .u8 0), .lit (.int .u8 0), .lit (.int .u8 0), .lit (.int .u8 0), .lit (.int .u8 0), .lit (.int .u8 0), .lit (.int .u8 0), .lit (.int .u8 0), .lit (.int .u8 0), .lit (.int .u8 0), .lit (.int .u8 0), .lit (.int .u8 0), .lit (.int .u8 0), .lit (.int .u8 0), .lit (.int .u8 0), .lit (.int .u8 0), .lit (.int .u8 0), .lit (.int .u8 0), .lit (.int .u8 0), .lit (.int .u8 0)]
def laid_knapsack_entity_table {H : Type} : DataW H := .agg [.agg [.lit (.string [97, 109, 112]), .lit (.string [38])], .agg [.lit (.string [97, 112, 111, 115]), .lit (.string [39])], .agg [.lit (.string [98, 117, 108, 108]), .lit (.string [226, 128, 162])], .agg [.lit (.string [99, 101, 110, 116]), .lit (.string [194, 162])], .agg [.lit (.string [99, 111, 112, 121]), .lit (.string [194, 169])], .agg [.lit (.string [100, 101, 103]), .lit (.string [194, 176])], .agg [.lit (.string [100, 105, 118, 105, 100, 101]), .lit (.string [195, 183])], .agg [.lit (.string [101, 117, 114, 111]), .lit (.string [226, 130, 172])], .agg [.lit (.string [103, 116]), .lit (.string [62])], .agg [.lit (.string [104, 101, 108, 108, 105, 112]), .lit (.string [226, 128, 166])], .agg [.lit (.string [108, 97, 114, 114]), .lit (.string [226, 134, 144])], .agg [.lit (.string [108, 100, 113, 117, 111]), .lit (.string [226, 128, 156])], .agg [.lit (.string [108, 115, 113, 117, 111]), .lit (.string [226, 128, 152])], .agg [.lit (.string [108, 116]), .lit (.string [60])], .agg [.lit (.string [109, 100, 97, 115, 104]), .lit (.string [226, 128, 148])], .agg [.lit (.string [109, 105, 100, 100, 111, 116]), .lit (.string [194, 183])], .agg [.lit (.string [110, 98, 115, 112]), .lit (.string [194, 160])], .agg [.lit (.string [110, 100, 97, 115, 104]), .lit (.string [226, 128, 147])], .agg [.lit (.string [112, 97, 114, 97]), .lit (.string [194, 182])], .agg [.lit (.string [112, 108, 117, 115, 109, 110]), .lit (.string [194, 177])], .agg [.lit (.string [112, 111, 117, 110, 100]), .lit (.string [194, 163])], .agg [.lit (.string [113, 117, 111, 116]), .lit (.string [34])], .agg [.lit (.string [114, 97, 114, 114]), .lit (.string [226, 134, 146])], .agg [.lit (.string [114, 100, 113, 117, 111]), .lit (.string [226, 128, 157])], .agg [.lit (.string [114, 101, 103]), .lit (.string [194, 174])], .agg [.lit (.string [114, 115, 113, 117, 111]), .lit (.string [226, 128, 153])], .agg [.lit (.string [115, 101, 99, 116]), .lit (.string [194, 167])], .agg [.lit (.string [116, 105, 109, 101, 115]), .lit (.string [195, 151])], .agg [.lit (.string [116, 114, 97, 100, 101]), .lit (.string [226, 132, 162])], .agg [.lit (.string [121, 101, 110]), .lit (.string [194, 165])]]
/-- One of Go's own tables, pinned by name: the form's constant. -/
def laid_unicode_utf8_first : DataW Unit := Go.Pinned.utf8First

/-- 'knapsacklaw06.MarkupTokens': WHATEVER THE INPUT: true; the input reads as it did. -/
def markupTokensSpec : ChangeSpec := { name := "markupTokens", fn := fun _ => fun
  | [d] => { results := [.lit (.bool true)], args := [d] }
  | _ => none }
def markupTokensRow : OpenClaim := { program := "ytlnginciehjlnaagreatdoor", sum := "19dbfb2f6f68855c6a35c3301a4037ed8702d60c2f58cae4398ca20877ff9bda", func := "knapsack/knapsacklaw06.MarkupTokens", spec := "markupTokens", inPlace := ["internal/abi.NoEscape", "internal/bytealg.CountString", "internal/bytealg.IndexByteString", "internal/bytealg.IndexString", "internal/bytealg.MakeNoZero"], unfollowed := true, recurses := true, named := ["unicode/utf8.first", "unicode/utf8.acceptRanges", "internal/bytealg.MaxLen", "strings.asciiSpace", "unicode.White_Space", "knapsack/entity.table"], apart := false, laid := [("unicode/utf8.acceptRanges", laid_unicode_utf8_acceptRanges), ("unicode.White_Space", laid_unicode_White_Space), ("strings.asciiSpace", laid_strings_asciiSpace), ("knapsack/entity.table", laid_knapsack_entity_table), ("unicode/utf8.first", laid_unicode_utf8_first)] }
def MarkupTokensSaid : Prop := markupTokensRow.holds Tryz.pinned (OpenSpec.ofChange markupTokensSpec)

/-- ITS FALSE NEIGHBOUR: 'it returns false'. Refute it at one input. -/
def markupTokensWrong : ChangeSpec := { name := "markupTokens", fn := fun _ => fun
  | [d] => { results := [.lit (.bool false)], args := [d] }
  | _ => none }
def MarkupTokensWrongFalsely : Prop := markupTokensRow.holds Tryz.pinned (OpenSpec.ofChange markupTokensWrong)

/-- 'knapsacklaw06.MarkupTags': WHATEVER THE INPUT: true; the input reads as it did. -/
def markupTagsSpec : ChangeSpec := { name := "markupTags", fn := fun _ => fun
  | [d1, d2, d3] => { results := [.lit (.bool true)], args := [d1, d2, d3] }
  | _ => none }
def markupTagsRow : OpenClaim := { program := "ytlnginciehjlnaagreatdoor", sum := "19dbfb2f6f68855c6a35c3301a4037ed8702d60c2f58cae4398ca20877ff9bda", func := "knapsack/knapsacklaw06.MarkupTags", spec := "markupTags", inPlace := ["internal/abi.NoEscape", "internal/bytealg.CountString", "internal/bytealg.IndexByteString", "internal/bytealg.IndexString", "internal/bytealg.MakeNoZero"], unfollowed := true, recurses := true, named := ["unicode/utf8.first", "unicode/utf8.acceptRanges", "internal/bytealg.MaxLen", "strings.asciiSpace", "unicode.White_Space", "knapsack/entity.table"], apart := false, laid := [("unicode/utf8.acceptRanges", laid_unicode_utf8_acceptRanges), ("unicode.White_Space", laid_unicode_White_Space), ("strings.asciiSpace", laid_strings_asciiSpace), ("knapsack/entity.table", laid_knapsack_entity_table), ("unicode/utf8.first", laid_unicode_utf8_first)] }
def MarkupTagsSaid : Prop := markupTagsRow.holds Tryz.pinned (OpenSpec.ofChange markupTagsSpec)

/-- ITS FALSE NEIGHBOUR: 'it returns false'. Refute it at one input. -/
def markupTagsWrong : ChangeSpec := { name := "markupTags", fn := fun _ => fun
  | [d1, d2, d3] => { results := [.lit (.bool false)], args := [d1, d2, d3] }
  | _ => none }
def MarkupTagsWrongFalsely : Prop := markupTagsRow.holds Tryz.pinned (OpenSpec.ofChange markupTagsWrong)

/-- 'knapsacklaw06.MarkupTexts': WHATEVER THE INPUT: true; the input reads as it did. -/
def markupTextsSpec : ChangeSpec := { name := "markupTexts", fn := fun _ => fun
  | [d] => { results := [.lit (.bool true)], args := [d] }
  | _ => none }
def markupTextsRow : OpenClaim := { program := "ytlnginciehjlnaagreatdoor", sum := "19dbfb2f6f68855c6a35c3301a4037ed8702d60c2f58cae4398ca20877ff9bda", func := "knapsack/knapsacklaw06.MarkupTexts", spec := "markupTexts", inPlace := ["internal/abi.NoEscape", "internal/bytealg.CountString", "internal/bytealg.IndexByteString", "internal/bytealg.IndexString", "internal/bytealg.MakeNoZero"], unfollowed := true, recurses := true, named := ["unicode/utf8.first", "unicode/utf8.acceptRanges", "internal/bytealg.MaxLen", "strings.asciiSpace", "unicode.White_Space", "knapsack/entity.table"], apart := false, laid := [("unicode/utf8.acceptRanges", laid_unicode_utf8_acceptRanges), ("unicode.White_Space", laid_unicode_White_Space), ("strings.asciiSpace", laid_strings_asciiSpace), ("knapsack/entity.table", laid_knapsack_entity_table), ("unicode/utf8.first", laid_unicode_utf8_first)] }
def MarkupTextsSaid : Prop := markupTextsRow.holds Tryz.pinned (OpenSpec.ofChange markupTextsSpec)

/-- ITS FALSE NEIGHBOUR: 'it returns false'. Refute it at one input. -/
def markupTextsWrong : ChangeSpec := { name := "markupTexts", fn := fun _ => fun
  | [d] => { results := [.lit (.bool false)], args := [d] }
  | _ => none }
def MarkupTextsWrongFalsely : Prop := markupTextsRow.holds Tryz.pinned (OpenSpec.ofChange markupTextsWrong)

/-- 'knapsacklaw06.MarkupRaw': WHATEVER THE INPUT: true; the input reads as it did. -/
def markupRawSpec : ChangeSpec := { name := "markupRaw", fn := fun _ => fun
  | [d1, d2] => { results := [.lit (.bool true)], args := [d1, d2] }
  | _ => none }
def markupRawRow : OpenClaim := { program := "ytlnginciehjlnaagreatdoor", sum := "19dbfb2f6f68855c6a35c3301a4037ed8702d60c2f58cae4398ca20877ff9bda", func := "knapsack/knapsacklaw06.MarkupRaw", spec := "markupRaw", inPlace := ["internal/abi.NoEscape", "internal/bytealg.CountString", "internal/bytealg.IndexByteString", "internal/bytealg.IndexString", "internal/bytealg.MakeNoZero"], unfollowed := true, recurses := true, named := ["unicode/utf8.first", "unicode/utf8.acceptRanges", "internal/bytealg.MaxLen", "strings.asciiSpace", "unicode.White_Space", "knapsack/entity.table"], apart := false, laid := [("unicode/utf8.acceptRanges", laid_unicode_utf8_acceptRanges), ("unicode.White_Space", laid_unicode_White_Space), ("strings.asciiSpace", laid_strings_asciiSpace), ("knapsack/entity.table", laid_knapsack_entity_table), ("unicode/utf8.first", laid_unicode_utf8_first)] }
def MarkupRawSaid : Prop := markupRawRow.holds Tryz.pinned (OpenSpec.ofChange markupRawSpec)

/-- ITS FALSE NEIGHBOUR: 'it returns false'. Refute it at one input. -/
def markupRawWrong : ChangeSpec := { name := "markupRaw", fn := fun _ => fun
  | [d1, d2] => { results := [.lit (.bool false)], args := [d1, d2] }
  | _ => none }
def MarkupRawWrongFalsely : Prop := markupRawRow.holds Tryz.pinned (OpenSpec.ofChange markupRawWrong)

/-- 'knapsacklaw06.MarkupPieces': WHATEVER THE INPUT: true; the input reads as it did. -/
def markupPiecesSpec : ChangeSpec := { name := "markupPieces", fn := fun _ => fun
  | [d] => { results := [.lit (.bool true)], args := [d] }
  | _ => none }
def markupPiecesRow : OpenClaim := { program := "ytlnginciehjlnaagreatdoor", sum := "19dbfb2f6f68855c6a35c3301a4037ed8702d60c2f58cae4398ca20877ff9bda", func := "knapsack/knapsacklaw06.MarkupPieces", spec := "markupPieces", inPlace := ["internal/abi.NoEscape", "internal/bytealg.CountString", "internal/bytealg.IndexByteString", "internal/bytealg.IndexString", "internal/bytealg.MakeNoZero"], unfollowed := true, recurses := true, named := ["unicode/utf8.first", "unicode/utf8.acceptRanges", "internal/bytealg.MaxLen", "strings.asciiSpace", "unicode.White_Space", "knapsack/entity.table"], apart := false, laid := [("unicode/utf8.acceptRanges", laid_unicode_utf8_acceptRanges), ("unicode.White_Space", laid_unicode_White_Space), ("strings.asciiSpace", laid_strings_asciiSpace), ("knapsack/entity.table", laid_knapsack_entity_table), ("unicode/utf8.first", laid_unicode_utf8_first)] }
def MarkupPiecesSaid : Prop := markupPiecesRow.holds Tryz.pinned (OpenSpec.ofChange markupPiecesSpec)

/-- ITS FALSE NEIGHBOUR: 'it returns false'. Refute it at one input. -/
def markupPiecesWrong : ChangeSpec := { name := "markupPieces", fn := fun _ => fun
  | [d] => { results := [.lit (.bool false)], args := [d] }
  | _ => none }
def MarkupPiecesWrongFalsely : Prop := markupPiecesRow.holds Tryz.pinned (OpenSpec.ofChange markupPiecesWrong)

/-- 'knapsacklaw06.MarkupLate': WHATEVER THE INPUT: true; the input reads as it did. -/
def markupLateSpec : ChangeSpec := { name := "markupLate", fn := fun _ => fun
  | [d1, d2] => { results := [.lit (.bool true)], args := [d1, d2] }
  | _ => none }
def markupLateRow : OpenClaim := { program := "ytlnginciehjlnaagreatdoor", sum := "19dbfb2f6f68855c6a35c3301a4037ed8702d60c2f58cae4398ca20877ff9bda", func := "knapsack/knapsacklaw06.MarkupLate", spec := "markupLate", inPlace := ["internal/abi.NoEscape", "internal/bytealg.CountString", "internal/bytealg.IndexByteString", "internal/bytealg.IndexString", "internal/bytealg.MakeNoZero"], unfollowed := true, recurses := true, named := ["unicode/utf8.first", "unicode/utf8.acceptRanges", "internal/bytealg.MaxLen", "strings.asciiSpace", "unicode.White_Space", "knapsack/entity.table"], apart := false, laid := [("unicode/utf8.acceptRanges", laid_unicode_utf8_acceptRanges), ("unicode.White_Space", laid_unicode_White_Space), ("strings.asciiSpace", laid_strings_asciiSpace), ("knapsack/entity.table", laid_knapsack_entity_table), ("unicode/utf8.first", laid_unicode_utf8_first)] }
def MarkupLateSaid : Prop := markupLateRow.holds Tryz.pinned (OpenSpec.ofChange markupLateSpec)

/-- ITS FALSE NEIGHBOUR: 'it returns false'. Refute it at one input. -/
def markupLateWrong : ChangeSpec := { name := "markupLate", fn := fun _ => fun
  | [d1, d2] => { results := [.lit (.bool false)], args := [d1, d2] }
  | _ => none }
def MarkupLateWrongFalsely : Prop := markupLateRow.holds Tryz.pinned (OpenSpec.ofChange markupLateWrong)

/-- 'knapsacklaw06.MarkupKinds': WHATEVER THE INPUT: true; the input reads as it did. -/
def markupKindsSpec : ChangeSpec := { name := "markupKinds", fn := fun _ => fun
  | [d1, d2] => { results := [.lit (.bool true)], args := [d1, d2] }
  | _ => none }
def markupKindsRow : OpenClaim := { program := "ytlnginciehjlnaagreatdoor", sum := "19dbfb2f6f68855c6a35c3301a4037ed8702d60c2f58cae4398ca20877ff9bda", func := "knapsack/knapsacklaw06.MarkupKinds", spec := "markupKinds", inPlace := ["internal/abi.NoEscape", "internal/bytealg.CountString", "internal/bytealg.IndexByteString", "internal/bytealg.IndexString", "internal/bytealg.MakeNoZero"], unfollowed := true, recurses := true, named := ["unicode/utf8.first", "unicode/utf8.acceptRanges", "internal/bytealg.MaxLen", "strings.asciiSpace", "unicode.White_Space", "knapsack/entity.table"], apart := false, laid := [("unicode/utf8.acceptRanges", laid_unicode_utf8_acceptRanges), ("unicode.White_Space", laid_unicode_White_Space), ("strings.asciiSpace", laid_strings_asciiSpace), ("knapsack/entity.table", laid_knapsack_entity_table), ("unicode/utf8.first", laid_unicode_utf8_first)] }
def MarkupKindsSaid : Prop := markupKindsRow.holds Tryz.pinned (OpenSpec.ofChange markupKindsSpec)

/-- ITS FALSE NEIGHBOUR: 'it returns false'. Refute it at one input. -/
def markupKindsWrong : ChangeSpec := { name := "markupKinds", fn := fun _ => fun
  | [d1, d2] => { results := [.lit (.bool false)], args := [d1, d2] }
  | _ => none }
def MarkupKindsWrongFalsely : Prop := markupKindsRow.holds Tryz.pinned (OpenSpec.ofChange markupKindsWrong)

/- THE SECOND FORM. 'bulk': how many values and letters a reading holds, each counted each time it is reached (what is shared counts as often as it is met; a slice's spare places count too). A statement '..UptoSaid' is the law's where the arguments, and the package variables that the reading takes, are together of bulk at most 1048576: NARROWER than '..Said'. Prove '..Said' where nothing that the law and all that it calls make is longer than what came in: it says more and counts as full. Else prove '..UptoSaid'. A law counts once. -/
mutual
def uptoBulk {H : Type} : DataW H → Nat
  | .lit (.string bytes) => bytes.length + 1
  | .lit _ => 1
  | .nil => 1
  | .ptr d => uptoBulk d + 1
  | .slice elems spare => uptoBulkAll elems + uptoBulkAll spare + 1
  | .agg parts => uptoBulkAll parts + 1
  | .iface _ d => uptoBulk d + 1
  | .map entries => uptoBulkEntries entries + 1
  | .held _ => 1
def uptoBulkAll {H : Type} : List (DataW H) → Nat
  | [] => 0
  | d :: r => uptoBulk d + uptoBulkAll r
def uptoBulkEntries {H : Type} : List (Lit × DataW H) → Nat
  | [] => 0
  | x :: r => uptoBulkEntry x + uptoBulkEntries r
def uptoBulkEntry {H : Type} : Lit × DataW H → Nat
  | (.string bytes, d) => bytes.length + uptoBulk d + 1
  | (_, d) => uptoBulk d + 1
 end
def uptoSmall : (H : Type) → List (DataW H) → Bool := fun _ ds => decide (uptoBulkAll ds ≤ 1048576)
def OpenSpec.upto (s : _root_.Go.ChangeSpec) : _root_.Go.OpenSpec := { _root_.Go.OpenSpec.ofChange s with cond := some uptoSmall }

/-- 'knapsacklaw06.MarkupTokens', WHERE WHAT IT READS IS OF BULK AT MOST 1048576: true; the input reads as it did. -/
def markupTokensUptoRow : OpenClaim := { program := "ytlnginciehjlnaagreatdoor", sum := "19dbfb2f6f68855c6a35c3301a4037ed8702d60c2f58cae4398ca20877ff9bda", func := "knapsack/knapsacklaw06.MarkupTokens", spec := "markupTokens", inPlace := ["internal/abi.NoEscape", "internal/bytealg.CountString", "internal/bytealg.IndexByteString", "internal/bytealg.IndexString", "internal/bytealg.MakeNoZero"], unfollowed := true, recurses := true, named := ["unicode/utf8.first", "unicode/utf8.acceptRanges", "internal/bytealg.MaxLen", "strings.asciiSpace", "unicode.White_Space", "knapsack/entity.table"], apart := false, laid := [("unicode/utf8.acceptRanges", laid_unicode_utf8_acceptRanges), ("unicode.White_Space", laid_unicode_White_Space), ("strings.asciiSpace", laid_strings_asciiSpace), ("knapsack/entity.table", laid_knapsack_entity_table), ("unicode/utf8.first", laid_unicode_utf8_first)], narrowed := true }
def MarkupTokensUptoSaid : Prop := markupTokensUptoRow.holds Tryz.pinned (OpenSpec.upto markupTokensSpec)

/-- 'knapsacklaw06.MarkupTags', WHERE WHAT IT READS IS OF BULK AT MOST 1048576: true; the input reads as it did. -/
def markupTagsUptoRow : OpenClaim := { program := "ytlnginciehjlnaagreatdoor", sum := "19dbfb2f6f68855c6a35c3301a4037ed8702d60c2f58cae4398ca20877ff9bda", func := "knapsack/knapsacklaw06.MarkupTags", spec := "markupTags", inPlace := ["internal/abi.NoEscape", "internal/bytealg.CountString", "internal/bytealg.IndexByteString", "internal/bytealg.IndexString", "internal/bytealg.MakeNoZero"], unfollowed := true, recurses := true, named := ["unicode/utf8.first", "unicode/utf8.acceptRanges", "internal/bytealg.MaxLen", "strings.asciiSpace", "unicode.White_Space", "knapsack/entity.table"], apart := false, laid := [("unicode/utf8.acceptRanges", laid_unicode_utf8_acceptRanges), ("unicode.White_Space", laid_unicode_White_Space), ("strings.asciiSpace", laid_strings_asciiSpace), ("knapsack/entity.table", laid_knapsack_entity_table), ("unicode/utf8.first", laid_unicode_utf8_first)], narrowed := true }
def MarkupTagsUptoSaid : Prop := markupTagsUptoRow.holds Tryz.pinned (OpenSpec.upto markupTagsSpec)

/-- 'knapsacklaw06.MarkupTexts', WHERE WHAT IT READS IS OF BULK AT MOST 1048576: true; the input reads as it did. -/
def markupTextsUptoRow : OpenClaim := { program := "ytlnginciehjlnaagreatdoor", sum := "19dbfb2f6f68855c6a35c3301a4037ed8702d60c2f58cae4398ca20877ff9bda", func := "knapsack/knapsacklaw06.MarkupTexts", spec := "markupTexts", inPlace := ["internal/abi.NoEscape", "internal/bytealg.CountString", "internal/bytealg.IndexByteString", "internal/bytealg.IndexString", "internal/bytealg.MakeNoZero"], unfollowed := true, recurses := true, named := ["unicode/utf8.first", "unicode/utf8.acceptRanges", "internal/bytealg.MaxLen", "strings.asciiSpace", "unicode.White_Space", "knapsack/entity.table"], apart := false, laid := [("unicode/utf8.acceptRanges", laid_unicode_utf8_acceptRanges), ("unicode.White_Space", laid_unicode_White_Space), ("strings.asciiSpace", laid_strings_asciiSpace), ("knapsack/entity.table", laid_knapsack_entity_table), ("unicode/utf8.first", laid_unicode_utf8_first)], narrowed := true }
def MarkupTextsUptoSaid : Prop := markupTextsUptoRow.holds Tryz.pinned (OpenSpec.upto markupTextsSpec)

/-- 'knapsacklaw06.MarkupRaw', WHERE WHAT IT READS IS OF BULK AT MOST 1048576: true; the input reads as it did. -/
def markupRawUptoRow : OpenClaim := { program := "ytlnginciehjlnaagreatdoor", sum := "19dbfb2f6f68855c6a35c3301a4037ed8702d60c2f58cae4398ca20877ff9bda", func := "knapsack/knapsacklaw06.MarkupRaw", spec := "markupRaw", inPlace := ["internal/abi.NoEscape", "internal/bytealg.CountString", "internal/bytealg.IndexByteString", "internal/bytealg.IndexString", "internal/bytealg.MakeNoZero"], unfollowed := true, recurses := true, named := ["unicode/utf8.first", "unicode/utf8.acceptRanges", "internal/bytealg.MaxLen", "strings.asciiSpace", "unicode.White_Space", "knapsack/entity.table"], apart := false, laid := [("unicode/utf8.acceptRanges", laid_unicode_utf8_acceptRanges), ("unicode.White_Space", laid_unicode_White_Space), ("strings.asciiSpace", laid_strings_asciiSpace), ("knapsack/entity.table", laid_knapsack_entity_table), ("unicode/utf8.first", laid_unicode_utf8_first)], narrowed := true }
def MarkupRawUptoSaid : Prop := markupRawUptoRow.holds Tryz.pinned (OpenSpec.upto markupRawSpec)

/-- 'knapsacklaw06.MarkupPieces', WHERE WHAT IT READS IS OF BULK AT MOST 1048576: true; the input reads as it did. -/
def markupPiecesUptoRow : OpenClaim := { program := "ytlnginciehjlnaagreatdoor", sum := "19dbfb2f6f68855c6a35c3301a4037ed8702d60c2f58cae4398ca20877ff9bda", func := "knapsack/knapsacklaw06.MarkupPieces", spec := "markupPieces", inPlace := ["internal/abi.NoEscape", "internal/bytealg.CountString", "internal/bytealg.IndexByteString", "internal/bytealg.IndexString", "internal/bytealg.MakeNoZero"], unfollowed := true, recurses := true, named := ["unicode/utf8.first", "unicode/utf8.acceptRanges", "internal/bytealg.MaxLen", "strings.asciiSpace", "unicode.White_Space", "knapsack/entity.table"], apart := false, laid := [("unicode/utf8.acceptRanges", laid_unicode_utf8_acceptRanges), ("unicode.White_Space", laid_unicode_White_Space), ("strings.asciiSpace", laid_strings_asciiSpace), ("knapsack/entity.table", laid_knapsack_entity_table), ("unicode/utf8.first", laid_unicode_utf8_first)], narrowed := true }
def MarkupPiecesUptoSaid : Prop := markupPiecesUptoRow.holds Tryz.pinned (OpenSpec.upto markupPiecesSpec)

/-- 'knapsacklaw06.MarkupLate', WHERE WHAT IT READS IS OF BULK AT MOST 1048576: true; the input reads as it did. -/
def markupLateUptoRow : OpenClaim := { program := "ytlnginciehjlnaagreatdoor", sum := "19dbfb2f6f68855c6a35c3301a4037ed8702d60c2f58cae4398ca20877ff9bda", func := "knapsack/knapsacklaw06.MarkupLate", spec := "markupLate", inPlace := ["internal/abi.NoEscape", "internal/bytealg.CountString", "internal/bytealg.IndexByteString", "internal/bytealg.IndexString", "internal/bytealg.MakeNoZero"], unfollowed := true, recurses := true, named := ["unicode/utf8.first", "unicode/utf8.acceptRanges", "internal/bytealg.MaxLen", "strings.asciiSpace", "unicode.White_Space", "knapsack/entity.table"], apart := false, laid := [("unicode/utf8.acceptRanges", laid_unicode_utf8_acceptRanges), ("unicode.White_Space", laid_unicode_White_Space), ("strings.asciiSpace", laid_strings_asciiSpace), ("knapsack/entity.table", laid_knapsack_entity_table), ("unicode/utf8.first", laid_unicode_utf8_first)], narrowed := true }
def MarkupLateUptoSaid : Prop := markupLateUptoRow.holds Tryz.pinned (OpenSpec.upto markupLateSpec)

/-- 'knapsacklaw06.MarkupKinds', WHERE WHAT IT READS IS OF BULK AT MOST 1048576: true; the input reads as it did. -/
def markupKindsUptoRow : OpenClaim := { program := "ytlnginciehjlnaagreatdoor", sum := "19dbfb2f6f68855c6a35c3301a4037ed8702d60c2f58cae4398ca20877ff9bda", func := "knapsack/knapsacklaw06.MarkupKinds", spec := "markupKinds", inPlace := ["internal/abi.NoEscape", "internal/bytealg.CountString", "internal/bytealg.IndexByteString", "internal/bytealg.IndexString", "internal/bytealg.MakeNoZero"], unfollowed := true, recurses := true, named := ["unicode/utf8.first", "unicode/utf8.acceptRanges", "internal/bytealg.MaxLen", "strings.asciiSpace", "unicode.White_Space", "knapsack/entity.table"], apart := false, laid := [("unicode/utf8.acceptRanges", laid_unicode_utf8_acceptRanges), ("unicode.White_Space", laid_unicode_White_Space), ("strings.asciiSpace", laid_strings_asciiSpace), ("knapsack/entity.table", laid_knapsack_entity_table), ("unicode/utf8.first", laid_unicode_utf8_first)], narrowed := true }
def MarkupKindsUptoSaid : Prop := markupKindsUptoRow.holds Tryz.pinned (OpenSpec.upto markupKindsSpec)

end Rows
end Go.Proofs.YtlnginciehjlnaaGreatDoor
