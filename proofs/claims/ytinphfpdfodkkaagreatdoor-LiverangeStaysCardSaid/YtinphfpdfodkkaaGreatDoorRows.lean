/-
  NARROWER THAN 'FOR EVERY INPUT', by the rows' own cells (each row's printed sentence says how): LiverangeOrders: laid · LiverangeSets: laid · LiverangeTexts: laid · LiverangeMoves: laid · LiverangeStays: laid · LiverangeDeletes: laid.
  DERIVED. THE GIVEN ROWS OF THIS SEAT. 6 by the template 'for every input the law returns true; each argument reads behind the call as it read before'; 0 by the template 'total and deterministic' (their statements: YtinphfpdfodkkaaGreatDoorTotals.lean).
  GIVEN WITH THE SEED: the statements are not yours to turn. If you find one false, say at which input.
  Laid BY PROGRAM, IN A SANDBOX (cutbox-rows.mjs): the forced cells as the released guide's own fill.sh prints them over the translation 3ebff6de46c88882… (all of the seat's roots in one cut). By AI agents, Wed Nov 11 2026. No macro, syntax, notation, axiom, sorry.
-/
import Derived.Test.YtinphfpdfodkkaaGreatDoorChecked
import GoSem.PinnedTables
import GoSem.Claim
import GoSem.ClaimJoined
import GoSem.ClaimMapViews
import Derived.JoinedTies
import Derived.KernelRfl
namespace Go.Proofs.YtinphfpdfodkkaaGreatDoor
/- THE CELL 'sum', in the pinned program and in every row, IS THE sha256 OF THE DUMP (.gsa) THAT YtinphfpdfodkkaaGreatDoorProg.lean LOADS. Nothing in Lean hashes anything: it is a label: what it is worth is what the hold of that sum in a sandbox is worth. -/
noncomputable def Tryz.pinned : Pinned := { name := "ytinphfpdfodkkaagreatdoor", sum := "3ebff6de46c8888251b750f46afba9f6e330df82ca902b6b16fec08e2e4ee876", checked := Tryz.checked }
namespace Rows
def none {H : Type} : Left H := { results := [], args := [] }

/- WHAT THE LISTED PACKAGE-LEVEL VARIABLES READ AS WHEN THE CALL BEGINS. Each datum BY PROGRAM (the guide's laid-datum.mjs) off the statement by which the dump's own 'gosem.cut.vars' lays the variable. In a bare row this is a premise. The card (YtinphfpdfodkkaaGreatDoorCards.lean) ties it to the program's text. -/
def laid_unicode_utf8_acceptRanges {H : Type} : DataW H := .agg [.agg [.lit (.int .u8 128), .lit (.int .u8 191)], .agg [.lit (.int .u8 160), .lit (.int .u8 191)], .agg [.lit (.int .u8 128), .lit (.int .u8 159)], .agg [.lit (.int .u8 144), .lit (.int .u8 191)], .agg [.lit (.int .u8 128), .lit (.int .u8 143)], .agg [.lit (.int .u8 0), .lit (.int .u8 0)], .agg [.lit (.int .u8 0), .lit (.int .u8 0)], .agg [.lit (.int .u8 0), .lit (.int .u8 0)], .agg [.lit (.int .u8 0), .lit (.int .u8 0)], .agg [.lit (.int .u8 0), .lit (.int .u8 0)], .agg [.lit (.int .u8 0), .lit (.int .u8 0)], .agg [.lit (.int .u8 0), .lit (.int .u8 0)], .agg [.lit (.int .u8 0), .lit (.int .u8 0)], .agg [.lit (.int .u8 0), .lit (.int .u8 0)], .agg [.lit (.int .u8 0), .lit (.int .u8 0)], .agg [.lit (.int .u8 0), .lit (.int .u8 0)]]
/-- One of Go's own tables, pinned by name: the form's constant. -/
def laid_unicode_utf8_first : DataW Unit := Go.Pinned.utf8First

/-- 'knapsacklaw10.LiverangeOrders': WHATEVER THE INPUT: true; the input reads as it did. -/
def liverangeOrdersSpec : ChangeSpec := { name := "liverangeOrders", fn := fun _ => fun
  | [d1, d2, d3] => { results := [.lit (.bool true)], args := [d1, d2, d3] }
  | _ => none }
def liverangeOrdersRow : OpenClaim := { program := "ytinphfpdfodkkaagreatdoor", sum := "3ebff6de46c8888251b750f46afba9f6e330df82ca902b6b16fec08e2e4ee876", func := "knapsack/knapsacklaw10.LiverangeOrders", spec := "liverangeOrders", inPlace := ["internal/bytealg.IndexByteString", "internal/bytealg.IndexString", "internal/abi.NoEscape"], unfollowed := true, recurses := true, named := ["unicode/utf8.first", "unicode/utf8.acceptRanges", "internal/bytealg.MaxLen"], apart := false, laid := [("unicode/utf8.acceptRanges", laid_unicode_utf8_acceptRanges), ("unicode/utf8.first", laid_unicode_utf8_first)] }
def LiverangeOrdersSaid : Prop := liverangeOrdersRow.holds Tryz.pinned (OpenSpec.ofChange liverangeOrdersSpec)

/-- ITS FALSE NEIGHBOUR: 'it returns false'. Refute it at one input. -/
def liverangeOrdersWrong : ChangeSpec := { name := "liverangeOrders", fn := fun _ => fun
  | [d1, d2, d3] => { results := [.lit (.bool false)], args := [d1, d2, d3] }
  | _ => none }
def LiverangeOrdersWrongFalsely : Prop := liverangeOrdersRow.holds Tryz.pinned (OpenSpec.ofChange liverangeOrdersWrong)

/-- 'knapsacklaw10.LiverangeSets': WHATEVER THE INPUT: true; the input reads as it did. -/
def liverangeSetsSpec : ChangeSpec := { name := "liverangeSets", fn := fun _ => fun
  | [d1, d2, d3] => { results := [.lit (.bool true)], args := [d1, d2, d3] }
  | _ => none }
def liverangeSetsRow : OpenClaim := { program := "ytinphfpdfodkkaagreatdoor", sum := "3ebff6de46c8888251b750f46afba9f6e330df82ca902b6b16fec08e2e4ee876", func := "knapsack/knapsacklaw10.LiverangeSets", spec := "liverangeSets", inPlace := ["internal/bytealg.IndexByteString", "internal/bytealg.IndexString", "internal/abi.NoEscape"], unfollowed := true, recurses := true, named := ["unicode/utf8.first", "unicode/utf8.acceptRanges", "internal/bytealg.MaxLen"], apart := false, laid := [("unicode/utf8.acceptRanges", laid_unicode_utf8_acceptRanges), ("unicode/utf8.first", laid_unicode_utf8_first)] }
def LiverangeSetsSaid : Prop := liverangeSetsRow.holds Tryz.pinned (OpenSpec.ofChange liverangeSetsSpec)

/-- ITS FALSE NEIGHBOUR: 'it returns false'. Refute it at one input. -/
def liverangeSetsWrong : ChangeSpec := { name := "liverangeSets", fn := fun _ => fun
  | [d1, d2, d3] => { results := [.lit (.bool false)], args := [d1, d2, d3] }
  | _ => none }
def LiverangeSetsWrongFalsely : Prop := liverangeSetsRow.holds Tryz.pinned (OpenSpec.ofChange liverangeSetsWrong)

/-- 'knapsacklaw10.LiverangeTexts': WHATEVER THE INPUT: true; the input reads as it did. -/
def liverangeTextsSpec : ChangeSpec := { name := "liverangeTexts", fn := fun _ => fun
  | [d1, d2, d3] => { results := [.lit (.bool true)], args := [d1, d2, d3] }
  | _ => none }
def liverangeTextsRow : OpenClaim := { program := "ytinphfpdfodkkaagreatdoor", sum := "3ebff6de46c8888251b750f46afba9f6e330df82ca902b6b16fec08e2e4ee876", func := "knapsack/knapsacklaw10.LiverangeTexts", spec := "liverangeTexts", inPlace := ["internal/bytealg.IndexByteString", "internal/bytealg.IndexString", "internal/abi.NoEscape"], unfollowed := true, recurses := true, named := ["unicode/utf8.first", "unicode/utf8.acceptRanges", "internal/bytealg.MaxLen"], apart := false, laid := [("unicode/utf8.acceptRanges", laid_unicode_utf8_acceptRanges), ("unicode/utf8.first", laid_unicode_utf8_first)] }
def LiverangeTextsSaid : Prop := liverangeTextsRow.holds Tryz.pinned (OpenSpec.ofChange liverangeTextsSpec)

/-- ITS FALSE NEIGHBOUR: 'it returns false'. Refute it at one input. -/
def liverangeTextsWrong : ChangeSpec := { name := "liverangeTexts", fn := fun _ => fun
  | [d1, d2, d3] => { results := [.lit (.bool false)], args := [d1, d2, d3] }
  | _ => none }
def LiverangeTextsWrongFalsely : Prop := liverangeTextsRow.holds Tryz.pinned (OpenSpec.ofChange liverangeTextsWrong)

/-- 'knapsacklaw10.LiverangeMoves': WHATEVER THE INPUT: true; the input reads as it did. -/
def liverangeMovesSpec : ChangeSpec := { name := "liverangeMoves", fn := fun _ => fun
  | [d1, d2, d3] => { results := [.lit (.bool true)], args := [d1, d2, d3] }
  | _ => none }
def liverangeMovesRow : OpenClaim := { program := "ytinphfpdfodkkaagreatdoor", sum := "3ebff6de46c8888251b750f46afba9f6e330df82ca902b6b16fec08e2e4ee876", func := "knapsack/knapsacklaw10.LiverangeMoves", spec := "liverangeMoves", inPlace := ["internal/bytealg.IndexByteString", "internal/bytealg.IndexString", "internal/abi.NoEscape"], unfollowed := true, recurses := true, named := ["unicode/utf8.first", "unicode/utf8.acceptRanges", "internal/bytealg.MaxLen"], apart := false, laid := [("unicode/utf8.acceptRanges", laid_unicode_utf8_acceptRanges), ("unicode/utf8.first", laid_unicode_utf8_first)] }
def LiverangeMovesSaid : Prop := liverangeMovesRow.holds Tryz.pinned (OpenSpec.ofChange liverangeMovesSpec)

/-- ITS FALSE NEIGHBOUR: 'it returns false'. Refute it at one input. -/
def liverangeMovesWrong : ChangeSpec := { name := "liverangeMoves", fn := fun _ => fun
  | [d1, d2, d3] => { results := [.lit (.bool false)], args := [d1, d2, d3] }
  | _ => none }
def LiverangeMovesWrongFalsely : Prop := liverangeMovesRow.holds Tryz.pinned (OpenSpec.ofChange liverangeMovesWrong)

/-- 'knapsacklaw10.LiverangeStays': WHATEVER THE INPUT: true; the input reads as it did. -/
def liverangeStaysSpec : ChangeSpec := { name := "liverangeStays", fn := fun _ => fun
  | [d1, d2, d3] => { results := [.lit (.bool true)], args := [d1, d2, d3] }
  | _ => none }
def liverangeStaysRow : OpenClaim := { program := "ytinphfpdfodkkaagreatdoor", sum := "3ebff6de46c8888251b750f46afba9f6e330df82ca902b6b16fec08e2e4ee876", func := "knapsack/knapsacklaw10.LiverangeStays", spec := "liverangeStays", inPlace := ["internal/bytealg.IndexByteString", "internal/bytealg.IndexString", "internal/abi.NoEscape"], unfollowed := true, recurses := true, named := ["unicode/utf8.first", "unicode/utf8.acceptRanges", "internal/bytealg.MaxLen"], apart := false, laid := [("unicode/utf8.acceptRanges", laid_unicode_utf8_acceptRanges), ("unicode/utf8.first", laid_unicode_utf8_first)] }
def LiverangeStaysSaid : Prop := liverangeStaysRow.holds Tryz.pinned (OpenSpec.ofChange liverangeStaysSpec)

/-- ITS FALSE NEIGHBOUR: 'it returns false'. Refute it at one input. -/
def liverangeStaysWrong : ChangeSpec := { name := "liverangeStays", fn := fun _ => fun
  | [d1, d2, d3] => { results := [.lit (.bool false)], args := [d1, d2, d3] }
  | _ => none }
def LiverangeStaysWrongFalsely : Prop := liverangeStaysRow.holds Tryz.pinned (OpenSpec.ofChange liverangeStaysWrong)

/-- 'knapsacklaw10.LiverangeDeletes': WHATEVER THE INPUT: true; the input reads as it did. -/
def liverangeDeletesSpec : ChangeSpec := { name := "liverangeDeletes", fn := fun _ => fun
  | [d1, d2] => { results := [.lit (.bool true)], args := [d1, d2] }
  | _ => none }
def liverangeDeletesRow : OpenClaim := { program := "ytinphfpdfodkkaagreatdoor", sum := "3ebff6de46c8888251b750f46afba9f6e330df82ca902b6b16fec08e2e4ee876", func := "knapsack/knapsacklaw10.LiverangeDeletes", spec := "liverangeDeletes", inPlace := ["internal/bytealg.IndexByteString", "internal/bytealg.IndexString", "internal/abi.NoEscape"], unfollowed := true, recurses := true, named := ["unicode/utf8.first", "unicode/utf8.acceptRanges", "internal/bytealg.MaxLen"], apart := false, laid := [("unicode/utf8.acceptRanges", laid_unicode_utf8_acceptRanges), ("unicode/utf8.first", laid_unicode_utf8_first)] }
def LiverangeDeletesSaid : Prop := liverangeDeletesRow.holds Tryz.pinned (OpenSpec.ofChange liverangeDeletesSpec)

/-- ITS FALSE NEIGHBOUR: 'it returns false'. Refute it at one input. -/
def liverangeDeletesWrong : ChangeSpec := { name := "liverangeDeletes", fn := fun _ => fun
  | [d1, d2] => { results := [.lit (.bool false)], args := [d1, d2] }
  | _ => none }
def LiverangeDeletesWrongFalsely : Prop := liverangeDeletesRow.holds Tryz.pinned (OpenSpec.ofChange liverangeDeletesWrong)

/- THE SECOND FORM. 'bulk': how many values and letters a reading holds, each counted each time it is reached (what is shared counts as often as it is met; a slice's spare places count too). A statement '..UptoSaid' is the law's where the arguments, and the package variables that the reading takes, are together of bulk at most 1048576: NARROWER than '..Said'. Prove '..Said' where nothing that the law and all that it calls make is longer than what came in: it says more and counts as full. Else prove '..UptoSaid'. A law counts once. -/
mutual
def uptoBulk {H : Type} : DataW H → Nat
  | .lit (.string bytes) => bytes.length + 1
  | .lit _ => 1
  | .nil => 1
  | .ptr d => uptoBulk d + 1
  | .slice elems spare => uptoBulkAll elems + uptoBulkAll spare + 1
  | .agg parts => uptoBulkAll parts + 1
  | .iface _ d => uptoBulk d + 1
  | .map entries => uptoBulkEntries entries + 1
  | .held _ => 1
def uptoBulkAll {H : Type} : List (DataW H) → Nat
  | [] => 0
  | d :: r => uptoBulk d + uptoBulkAll r
def uptoBulkEntries {H : Type} : List (Lit × DataW H) → Nat
  | [] => 0
  | x :: r => uptoBulkEntry x + uptoBulkEntries r
def uptoBulkEntry {H : Type} : Lit × DataW H → Nat
  | (.string bytes, d) => bytes.length + uptoBulk d + 1
  | (_, d) => uptoBulk d + 1
 end
def uptoSmall : (H : Type) → List (DataW H) → Bool := fun _ ds => decide (uptoBulkAll ds ≤ 1048576)
def OpenSpec.upto (s : _root_.Go.ChangeSpec) : _root_.Go.OpenSpec := { _root_.Go.OpenSpec.ofChange s with cond := some uptoSmall }

/-- 'knapsacklaw10.LiverangeOrders', WHERE WHAT IT READS IS OF BULK AT MOST 1048576: true; the input reads as it did. -/
def liverangeOrdersUptoRow : OpenClaim := { program := "ytinphfpdfodkkaagreatdoor", sum := "3ebff6de46c8888251b750f46afba9f6e330df82ca902b6b16fec08e2e4ee876", func := "knapsack/knapsacklaw10.LiverangeOrders", spec := "liverangeOrders", inPlace := ["internal/bytealg.IndexByteString", "internal/bytealg.IndexString", "internal/abi.NoEscape"], unfollowed := true, recurses := true, named := ["unicode/utf8.first", "unicode/utf8.acceptRanges", "internal/bytealg.MaxLen"], apart := false, laid := [("unicode/utf8.acceptRanges", laid_unicode_utf8_acceptRanges), ("unicode/utf8.first", laid_unicode_utf8_first)], narrowed := true }
def LiverangeOrdersUptoSaid : Prop := liverangeOrdersUptoRow.holds Tryz.pinned (OpenSpec.upto liverangeOrdersSpec)

/-- 'knapsacklaw10.LiverangeSets', WHERE WHAT IT READS IS OF BULK AT MOST 1048576: true; the input reads as it did. -/
def liverangeSetsUptoRow : OpenClaim := { program := "ytinphfpdfodkkaagreatdoor", sum := "3ebff6de46c8888251b750f46afba9f6e330df82ca902b6b16fec08e2e4ee876", func := "knapsack/knapsacklaw10.LiverangeSets", spec := "liverangeSets", inPlace := ["internal/bytealg.IndexByteString", "internal/bytealg.IndexString", "internal/abi.NoEscape"], unfollowed := true, recurses := true, named := ["unicode/utf8.first", "unicode/utf8.acceptRanges", "internal/bytealg.MaxLen"], apart := false, laid := [("unicode/utf8.acceptRanges", laid_unicode_utf8_acceptRanges), ("unicode/utf8.first", laid_unicode_utf8_first)], narrowed := true }
def LiverangeSetsUptoSaid : Prop := liverangeSetsUptoRow.holds Tryz.pinned (OpenSpec.upto liverangeSetsSpec)

/-- 'knapsacklaw10.LiverangeTexts', WHERE WHAT IT READS IS OF BULK AT MOST 1048576: true; the input reads as it did. -/
def liverangeTextsUptoRow : OpenClaim := { program := "ytinphfpdfodkkaagreatdoor", sum := "3ebff6de46c8888251b750f46afba9f6e330df82ca902b6b16fec08e2e4ee876", func := "knapsack/knapsacklaw10.LiverangeTexts", spec := "liverangeTexts", inPlace := ["internal/bytealg.IndexByteString", "internal/bytealg.IndexString", "internal/abi.NoEscape"], unfollowed := true, recurses := true, named := ["unicode/utf8.first", "unicode/utf8.acceptRanges", "internal/bytealg.MaxLen"], apart := false, laid := [("unicode/utf8.acceptRanges", laid_unicode_utf8_acceptRanges), ("unicode/utf8.first", laid_unicode_utf8_first)], narrowed := true }
def LiverangeTextsUptoSaid : Prop := liverangeTextsUptoRow.holds Tryz.pinned (OpenSpec.upto liverangeTextsSpec)

/-- 'knapsacklaw10.LiverangeMoves', WHERE WHAT IT READS IS OF BULK AT MOST 1048576: true; the input reads as it did. -/
def liverangeMovesUptoRow : OpenClaim := { program := "ytinphfpdfodkkaagreatdoor", sum := "3ebff6de46c8888251b750f46afba9f6e330df82ca902b6b16fec08e2e4ee876", func := "knapsack/knapsacklaw10.LiverangeMoves", spec := "liverangeMoves", inPlace := ["internal/bytealg.IndexByteString", "internal/bytealg.IndexString", "internal/abi.NoEscape"], unfollowed := true, recurses := true, named := ["unicode/utf8.first", "unicode/utf8.acceptRanges", "internal/bytealg.MaxLen"], apart := false, laid := [("unicode/utf8.acceptRanges", laid_unicode_utf8_acceptRanges), ("unicode/utf8.first", laid_unicode_utf8_first)], narrowed := true }
def LiverangeMovesUptoSaid : Prop := liverangeMovesUptoRow.holds Tryz.pinned (OpenSpec.upto liverangeMovesSpec)

/-- 'knapsacklaw10.LiverangeStays', WHERE WHAT IT READS IS OF BULK AT MOST 1048576: true; the input reads as it did. -/
def liverangeStaysUptoRow : OpenClaim := { program := "ytinphfpdfodkkaagreatdoor", sum := "3ebff6de46c8888251b750f46afba9f6e330df82ca902b6b16fec08e2e4ee876", func := "knapsack/knapsacklaw10.LiverangeStays", spec := "liverangeStays", inPlace := ["internal/bytealg.IndexByteString", "internal/bytealg.IndexString", "internal/abi.NoEscape"], unfollowed := true, recurses := true, named := ["unicode/utf8.first", "unicode/utf8.acceptRanges", "internal/bytealg.MaxLen"], apart := false, laid := [("unicode/utf8.acceptRanges", laid_unicode_utf8_acceptRanges), ("unicode/utf8.first", laid_unicode_utf8_first)], narrowed := true }
def LiverangeStaysUptoSaid : Prop := liverangeStaysUptoRow.holds Tryz.pinned (OpenSpec.upto liverangeStaysSpec)

/-- 'knapsacklaw10.LiverangeDeletes', WHERE WHAT IT READS IS OF BULK AT MOST 1048576: true; the input reads as it did. -/
def liverangeDeletesUptoRow : OpenClaim := { program := "ytinphfpdfodkkaagreatdoor", sum := "3ebff6de46c8888251b750f46afba9f6e330df82ca902b6b16fec08e2e4ee876", func := "knapsack/knapsacklaw10.LiverangeDeletes", spec := "liverangeDeletes", inPlace := ["internal/bytealg.IndexByteString", "internal/bytealg.IndexString", "internal/abi.NoEscape"], unfollowed := true, recurses := true, named := ["unicode/utf8.first", "unicode/utf8.acceptRanges", "internal/bytealg.MaxLen"], apart := false, laid := [("unicode/utf8.acceptRanges", laid_unicode_utf8_acceptRanges), ("unicode/utf8.first", laid_unicode_utf8_first)], narrowed := true }
def LiverangeDeletesUptoSaid : Prop := liverangeDeletesUptoRow.holds Tryz.pinned (OpenSpec.upto liverangeDeletesSpec)

end Rows
end Go.Proofs.YtinphfpdfodkkaaGreatDoor
