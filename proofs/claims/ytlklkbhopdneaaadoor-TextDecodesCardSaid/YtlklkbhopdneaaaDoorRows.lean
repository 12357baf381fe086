/-
  NARROWER THAN 'FOR EVERY INPUT', by the rows' own cells (each row's printed sentence says how): TextRepairs: laid · TextSlices: laid · TextJoins: laid · TextDecodes: laid · TextLines: laid · TextSpaces: laid.
  DERIVED. THE GIVEN ROWS OF THIS SEAT. 6 by the template 'for every input the law returns true; each argument reads behind the call as it read before'; 0 by the template 'total and deterministic' (their statements: YtlklkbhopdneaaaDoorTotals.lean).
  GIVEN WITH THE SEED: the statements are not yours to turn. If you find one false, say at which input.
  Laid BY PROGRAM, IN A SANDBOX (cutbox-rows.mjs): the forced cells as the released guide's own fill.sh prints them over the translation d530395611f3bd72… (all of the seat's roots in one cut). By AI agents, Wed Nov 11 2026. No macro, syntax, notation, axiom, sorry.
-/
import Derived.Test.YtlklkbhopdneaaaDoorChecked
import GoSem.PinnedTables
import GoSem.Claim
import GoSem.ClaimJoined
import GoSem.ClaimMapViews
import Derived.JoinedTies
import Derived.KernelRfl
namespace Go.Proofs.YtlklkbhopdneaaaDoor
/- THE CELL 'sum', in the pinned program and in every row, IS THE sha256 OF THE DUMP (.gsa) THAT YtlklkbhopdneaaaDoorProg.lean LOADS. Nothing in Lean hashes anything: it is a label: what it is worth is what the hold of that sum in a sandbox is worth. -/
noncomputable def Tryd.pinned : Pinned := { name := "ytlklkbhopdneaaadoor", sum := "d530395611f3bd725a0ba904a58f46f8165ade6aca68996f0aa2e76749b40486", checked := Tryd.checked }
namespace Rows
def none {H : Type} : Left H := { results := [], args := [] }

/- WHAT THE LISTED PACKAGE-LEVEL VARIABLES READ AS WHEN THE CALL BEGINS. Each datum BY PROGRAM (the guide's laid-datum.mjs) off the statement by which the dump's own 'gosem.cut.vars' lays the variable. In a bare row this is a premise. The card (YtlklkbhopdneaaaDoorCards.lean) ties it to the program's text. -/
def laid_unicode_utf8_acceptRanges {H : Type} : DataW H := .agg [.agg [.lit (.int .u8 128), .lit (.int .u8 191)], .agg [.lit (.int .u8 160), .lit (.int .u8 191)], .agg [.lit (.int .u8 128), .lit (.int .u8 159)], .agg [.lit (.int .u8 144), .lit (.int .u8 191)], .agg [.lit (.int .u8 128), .lit (.int .u8 143)], .agg [.lit (.int .u8 0), .lit (.int .u8 0)], .agg [.lit (.int .u8 0), .lit (.int .u8 0)], .agg [.lit (.int .u8 0), .lit (.int .u8 0)], .agg [.lit (.int .u8 0), .lit (.int .u8 0)], .agg [.lit (.int .u8 0), .lit (.int .u8 0)], .agg [.lit (.int .u8 0), .lit (.int .u8 0)], .agg [.lit (.int .u8 0), .lit (.int .u8 0)], .agg [.lit (.int .u8 0), .lit (.int .u8 0)], .agg [.lit (.int .u8 0), .lit (.int .u8 0)], .agg [.lit (.int .u8 0), .lit (.int .u8 0)], .agg [.lit (.int .u8 0), .lit (.int .u8 0)]]
/-- One of Go's own tables, pinned by name: the form's constant. -/
def laid_unicode_utf8_first : DataW Unit := Go.Pinned.utf8First

/-- 'knapsacklaw02.TextRepairs': WHATEVER THE INPUT: true; the input reads as it did. -/
def textRepairsSpec : ChangeSpec := { name := "textRepairs", fn := fun _ => fun
  | [d] => { results := [.lit (.bool true)], args := [d] }
  | _ => none }
def textRepairsRow : OpenClaim := { program := "ytlklkbhopdneaaadoor", sum := "d530395611f3bd725a0ba904a58f46f8165ade6aca68996f0aa2e76749b40486", func := "knapsack/knapsacklaw02.TextRepairs", spec := "textRepairs", inPlace := ["internal/bytealg.IndexByteString", "internal/abi.NoEscape"], named := ["unicode/utf8.first", "unicode/utf8.acceptRanges"], apart := false, laid := [("unicode/utf8.acceptRanges", laid_unicode_utf8_acceptRanges), ("unicode/utf8.first", laid_unicode_utf8_first)] }
def TextRepairsSaid : Prop := textRepairsRow.holds Tryd.pinned (OpenSpec.ofChange textRepairsSpec)

/-- ITS FALSE NEIGHBOUR: 'it returns false'. Refute it at one input. -/
def textRepairsWrong : ChangeSpec := { name := "textRepairs", fn := fun _ => fun
  | [d] => { results := [.lit (.bool false)], args := [d] }
  | _ => none }
def TextRepairsWrongFalsely : Prop := textRepairsRow.holds Tryd.pinned (OpenSpec.ofChange textRepairsWrong)

/-- 'knapsacklaw02.TextSlices': WHATEVER THE INPUT: true; the input reads as it did. -/
def textSlicesSpec : ChangeSpec := { name := "textSlices", fn := fun _ => fun
  | [d1, d2, d3] => { results := [.lit (.bool true)], args := [d1, d2, d3] }
  | _ => none }
def textSlicesRow : OpenClaim := { program := "ytlklkbhopdneaaadoor", sum := "d530395611f3bd725a0ba904a58f46f8165ade6aca68996f0aa2e76749b40486", func := "knapsack/knapsacklaw02.TextSlices", spec := "textSlices", inPlace := ["internal/bytealg.IndexByteString", "internal/abi.NoEscape"], named := ["unicode/utf8.first", "unicode/utf8.acceptRanges"], apart := false, laid := [("unicode/utf8.acceptRanges", laid_unicode_utf8_acceptRanges), ("unicode/utf8.first", laid_unicode_utf8_first)] }
def TextSlicesSaid : Prop := textSlicesRow.holds Tryd.pinned (OpenSpec.ofChange textSlicesSpec)

/-- ITS FALSE NEIGHBOUR: 'it returns false'. Refute it at one input. -/
def textSlicesWrong : ChangeSpec := { name := "textSlices", fn := fun _ => fun
  | [d1, d2, d3] => { results := [.lit (.bool false)], args := [d1, d2, d3] }
  | _ => none }
def TextSlicesWrongFalsely : Prop := textSlicesRow.holds Tryd.pinned (OpenSpec.ofChange textSlicesWrong)

/-- 'knapsacklaw02.TextJoins': WHATEVER THE INPUT: true; the input reads as it did. -/
def textJoinsSpec : ChangeSpec := { name := "textJoins", fn := fun _ => fun
  | [d1, d2, d3] => { results := [.lit (.bool true)], args := [d1, d2, d3] }
  | _ => none }
def textJoinsRow : OpenClaim := { program := "ytlklkbhopdneaaadoor", sum := "d530395611f3bd725a0ba904a58f46f8165ade6aca68996f0aa2e76749b40486", func := "knapsack/knapsacklaw02.TextJoins", spec := "textJoins", inPlace := ["internal/bytealg.IndexByteString", "internal/abi.NoEscape"], named := ["unicode/utf8.first", "unicode/utf8.acceptRanges"], apart := false, laid := [("unicode/utf8.acceptRanges", laid_unicode_utf8_acceptRanges), ("unicode/utf8.first", laid_unicode_utf8_first)] }
def TextJoinsSaid : Prop := textJoinsRow.holds Tryd.pinned (OpenSpec.ofChange textJoinsSpec)

/-- ITS FALSE NEIGHBOUR: 'it returns false'. Refute it at one input. -/
def textJoinsWrong : ChangeSpec := { name := "textJoins", fn := fun _ => fun
  | [d1, d2, d3] => { results := [.lit (.bool false)], args := [d1, d2, d3] }
  | _ => none }
def TextJoinsWrongFalsely : Prop := textJoinsRow.holds Tryd.pinned (OpenSpec.ofChange textJoinsWrong)

/-- 'knapsacklaw02.TextDecodes': WHATEVER THE INPUT: true; the input reads as it did. -/
def textDecodesSpec : ChangeSpec := { name := "textDecodes", fn := fun _ => fun
  | [d] => { results := [.lit (.bool true)], args := [d] }
  | _ => none }
def textDecodesRow : OpenClaim := { program := "ytlklkbhopdneaaadoor", sum := "d530395611f3bd725a0ba904a58f46f8165ade6aca68996f0aa2e76749b40486", func := "knapsack/knapsacklaw02.TextDecodes", spec := "textDecodes", inPlace := ["internal/bytealg.IndexByteString", "internal/abi.NoEscape"], named := ["unicode/utf8.first", "unicode/utf8.acceptRanges"], apart := false, laid := [("unicode/utf8.acceptRanges", laid_unicode_utf8_acceptRanges), ("unicode/utf8.first", laid_unicode_utf8_first)] }
def TextDecodesSaid : Prop := textDecodesRow.holds Tryd.pinned (OpenSpec.ofChange textDecodesSpec)

/-- ITS FALSE NEIGHBOUR: 'it returns false'. Refute it at one input. -/
def textDecodesWrong : ChangeSpec := { name := "textDecodes", fn := fun _ => fun
  | [d] => { results := [.lit (.bool false)], args := [d] }
  | _ => none }
def TextDecodesWrongFalsely : Prop := textDecodesRow.holds Tryd.pinned (OpenSpec.ofChange textDecodesWrong)

/-- 'knapsacklaw02.TextLines': WHATEVER THE INPUT: true; the input reads as it did. -/
def textLinesSpec : ChangeSpec := { name := "textLines", fn := fun _ => fun
  | [d] => { results := [.lit (.bool true)], args := [d] }
  | _ => none }
def textLinesRow : OpenClaim := { program := "ytlklkbhopdneaaadoor", sum := "d530395611f3bd725a0ba904a58f46f8165ade6aca68996f0aa2e76749b40486", func := "knapsack/knapsacklaw02.TextLines", spec := "textLines", inPlace := ["internal/bytealg.IndexByteString", "internal/abi.NoEscape", "internal/bytealg.CountString", "internal/bytealg.IndexString", "internal/bytealg.MakeNoZero"], named := ["internal/bytealg.MaxLen", "unicode/utf8.first", "unicode/utf8.acceptRanges"], apart := false, laid := [("unicode/utf8.acceptRanges", laid_unicode_utf8_acceptRanges), ("unicode/utf8.first", laid_unicode_utf8_first)] }
def TextLinesSaid : Prop := textLinesRow.holds Tryd.pinned (OpenSpec.ofChange textLinesSpec)

/-- ITS FALSE NEIGHBOUR: 'it returns false'. Refute it at one input. -/
def textLinesWrong : ChangeSpec := { name := "textLines", fn := fun _ => fun
  | [d] => { results := [.lit (.bool false)], args := [d] }
  | _ => none }
def TextLinesWrongFalsely : Prop := textLinesRow.holds Tryd.pinned (OpenSpec.ofChange textLinesWrong)

/-- 'knapsacklaw02.TextSpaces': WHATEVER THE INPUT: true; the input reads as it did. -/
def textSpacesSpec : ChangeSpec := { name := "textSpaces", fn := fun _ => fun
  | [d1, d2] => { results := [.lit (.bool true)], args := [d1, d2] }
  | _ => none }
def textSpacesRow : OpenClaim := { program := "ytlklkbhopdneaaadoor", sum := "d530395611f3bd725a0ba904a58f46f8165ade6aca68996f0aa2e76749b40486", func := "knapsack/knapsacklaw02.TextSpaces", spec := "textSpaces", inPlace := ["internal/bytealg.IndexByteString", "internal/abi.NoEscape", "internal/bytealg.IndexString"], unfollowed := true, recurses := true, named := ["unicode/utf8.first", "unicode/utf8.acceptRanges", "internal/bytealg.MaxLen"], apart := false, laid := [("unicode/utf8.acceptRanges", laid_unicode_utf8_acceptRanges), ("unicode/utf8.first", laid_unicode_utf8_first)] }
def TextSpacesSaid : Prop := textSpacesRow.holds Tryd.pinned (OpenSpec.ofChange textSpacesSpec)

/-- ITS FALSE NEIGHBOUR: 'it returns false'. Refute it at one input. -/
def textSpacesWrong : ChangeSpec := { name := "textSpaces", fn := fun _ => fun
  | [d1, d2] => { results := [.lit (.bool false)], args := [d1, d2] }
  | _ => none }
def TextSpacesWrongFalsely : Prop := textSpacesRow.holds Tryd.pinned (OpenSpec.ofChange textSpacesWrong)

/- THE SECOND FORM. 'bulk': how many values and letters a reading holds, each counted each time it is reached (what is shared counts as often as it is met; a slice's spare places count too). A statement '..UptoSaid' is the law's where the arguments, and the package variables that the reading takes, are together of bulk at most 1048576: NARROWER than '..Said'. Prove '..Said' where nothing that the law and all that it calls make is longer than what came in: it says more and counts as full. Else prove '..UptoSaid'. A law counts once. -/
mutual
def uptoBulk {H : Type} : DataW H → Nat
  | .lit (.string bytes) => bytes.length + 1
  | .lit _ => 1
  | .nil => 1
  | .ptr d => uptoBulk d + 1
  | .slice elems spare => uptoBulkAll elems + uptoBulkAll spare + 1
  | .agg parts => uptoBulkAll parts + 1
  | .iface _ d => uptoBulk d + 1
  | .map entries => uptoBulkEntries entries + 1
  | .held _ => 1
def uptoBulkAll {H : Type} : List (DataW H) → Nat
  | [] => 0
  | d :: r => uptoBulk d + uptoBulkAll r
def uptoBulkEntries {H : Type} : List (Lit × DataW H) → Nat
  | [] => 0
  | x :: r => uptoBulkEntry x + uptoBulkEntries r
def uptoBulkEntry {H : Type} : Lit × DataW H → Nat
  | (.string bytes, d) => bytes.length + uptoBulk d + 1
  | (_, d) => uptoBulk d + 1
 end
def uptoSmall : (H : Type) → List (DataW H) → Bool := fun _ ds => decide (uptoBulkAll ds ≤ 1048576)
def OpenSpec.upto (s : _root_.Go.ChangeSpec) : _root_.Go.OpenSpec := { _root_.Go.OpenSpec.ofChange s with cond := some uptoSmall }

/-- 'knapsacklaw02.TextRepairs', WHERE WHAT IT READS IS OF BULK AT MOST 1048576: true; the input reads as it did. -/
def textRepairsUptoRow : OpenClaim := { program := "ytlklkbhopdneaaadoor", sum := "d530395611f3bd725a0ba904a58f46f8165ade6aca68996f0aa2e76749b40486", func := "knapsack/knapsacklaw02.TextRepairs", spec := "textRepairs", inPlace := ["internal/bytealg.IndexByteString", "internal/abi.NoEscape"], named := ["unicode/utf8.first", "unicode/utf8.acceptRanges"], apart := false, laid := [("unicode/utf8.acceptRanges", laid_unicode_utf8_acceptRanges), ("unicode/utf8.first", laid_unicode_utf8_first)], narrowed := true }
def TextRepairsUptoSaid : Prop := textRepairsUptoRow.holds Tryd.pinned (OpenSpec.upto textRepairsSpec)

/-- 'knapsacklaw02.TextSlices', WHERE WHAT IT READS IS OF BULK AT MOST 1048576: true; the input reads as it did. -/
def textSlicesUptoRow : OpenClaim := { program := "ytlklkbhopdneaaadoor", sum := "d530395611f3bd725a0ba904a58f46f8165ade6aca68996f0aa2e76749b40486", func := "knapsack/knapsacklaw02.TextSlices", spec := "textSlices", inPlace := ["internal/bytealg.IndexByteString", "internal/abi.NoEscape"], named := ["unicode/utf8.first", "unicode/utf8.acceptRanges"], apart := false, laid := [("unicode/utf8.acceptRanges", laid_unicode_utf8_acceptRanges), ("unicode/utf8.first", laid_unicode_utf8_first)], narrowed := true }
def TextSlicesUptoSaid : Prop := textSlicesUptoRow.holds Tryd.pinned (OpenSpec.upto textSlicesSpec)

/-- 'knapsacklaw02.TextJoins', WHERE WHAT IT READS IS OF BULK AT MOST 1048576: true; the input reads as it did. -/
def textJoinsUptoRow : OpenClaim := { program := "ytlklkbhopdneaaadoor", sum := "d530395611f3bd725a0ba904a58f46f8165ade6aca68996f0aa2e76749b40486", func := "knapsack/knapsacklaw02.TextJoins", spec := "textJoins", inPlace := ["internal/bytealg.IndexByteString", "internal/abi.NoEscape"], named := ["unicode/utf8.first", "unicode/utf8.acceptRanges"], apart := false, laid := [("unicode/utf8.acceptRanges", laid_unicode_utf8_acceptRanges), ("unicode/utf8.first", laid_unicode_utf8_first)], narrowed := true }
def TextJoinsUptoSaid : Prop := textJoinsUptoRow.holds Tryd.pinned (OpenSpec.upto textJoinsSpec)

/-- 'knapsacklaw02.TextDecodes', WHERE WHAT IT READS IS OF BULK AT MOST 1048576: true; the input reads as it did. -/
def textDecodesUptoRow : OpenClaim := { program := "ytlklkbhopdneaaadoor", sum := "d530395611f3bd725a0ba904a58f46f8165ade6aca68996f0aa2e76749b40486", func := "knapsack/knapsacklaw02.TextDecodes", spec := "textDecodes", inPlace := ["internal/bytealg.IndexByteString", "internal/abi.NoEscape"], named := ["unicode/utf8.first", "unicode/utf8.acceptRanges"], apart := false, laid := [("unicode/utf8.acceptRanges", laid_unicode_utf8_acceptRanges), ("unicode/utf8.first", laid_unicode_utf8_first)], narrowed := true }
def TextDecodesUptoSaid : Prop := textDecodesUptoRow.holds Tryd.pinned (OpenSpec.upto textDecodesSpec)

/-- 'knapsacklaw02.TextLines', WHERE WHAT IT READS IS OF BULK AT MOST 1048576: true; the input reads as it did. -/
def textLinesUptoRow : OpenClaim := { program := "ytlklkbhopdneaaadoor", sum := "d530395611f3bd725a0ba904a58f46f8165ade6aca68996f0aa2e76749b40486", func := "knapsack/knapsacklaw02.TextLines", spec := "textLines", inPlace := ["internal/bytealg.IndexByteString", "internal/abi.NoEscape", "internal/bytealg.CountString", "internal/bytealg.IndexString", "internal/bytealg.MakeNoZero"], named := ["internal/bytealg.MaxLen", "unicode/utf8.first", "unicode/utf8.acceptRanges"], apart := false, laid := [("unicode/utf8.acceptRanges", laid_unicode_utf8_acceptRanges), ("unicode/utf8.first", laid_unicode_utf8_first)], narrowed := true }
def TextLinesUptoSaid : Prop := textLinesUptoRow.holds Tryd.pinned (OpenSpec.upto textLinesSpec)

/-- 'knapsacklaw02.TextSpaces', WHERE WHAT IT READS IS OF BULK AT MOST 1048576: true; the input reads as it did. -/
def textSpacesUptoRow : OpenClaim := { program := "ytlklkbhopdneaaadoor", sum := "d530395611f3bd725a0ba904a58f46f8165ade6aca68996f0aa2e76749b40486", func := "knapsack/knapsacklaw02.TextSpaces", spec := "textSpaces", inPlace := ["internal/bytealg.IndexByteString", "internal/abi.NoEscape", "internal/bytealg.IndexString"], unfollowed := true, recurses := true, named := ["unicode/utf8.first", "unicode/utf8.acceptRanges", "internal/bytealg.MaxLen"], apart := false, laid := [("unicode/utf8.acceptRanges", laid_unicode_utf8_acceptRanges), ("unicode/utf8.first", laid_unicode_utf8_first)], narrowed := true }
def TextSpacesUptoSaid : Prop := textSpacesUptoRow.holds Tryd.pinned (OpenSpec.upto textSpacesSpec)

end Rows
end Go.Proofs.YtlklkbhopdneaaaDoor
