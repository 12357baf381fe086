/- A world in which the listed variables hold what their texts lay: the witness of the rows. -/
import Derived.Test.YtlnginciehjlnaaGreatDoorEnv
import Derived.ProofKit
import Derived.Lib.LaidIn
import Derived.Lib.LaidTab
import Derived.Deep.DeepHandedRow
set_option linter.unusedVariables false
namespace Go.Proofs.YtlnginciehjlnaaGreatDoor
open Go.ChangeShapes Go.WideShapes Go.ChangeAt Go.RowKit Go.Shelf
namespace K

/-- A world for the witness: the settled one, the tables holding what their texts lay. -/
noncomputable def laidWorld (os : Os) : World :=
  let N := (World.settled Tryz.prog os).heap.size
  let w0 := World.holding Tryz.prog os ⟨#[.cells (Lib.whiteT.map fun (z : Nat) => Value.int .u16 (z : Int)).toArray 147, .cells #[.slice (some ⟨N, 0, none⟩) 7 7, .slice none 0 0, .int .i64 2] 144], #[], []⟩
  let put (h : Array Obj) (g : Nat) (cs : Array Value) : Array Obj := h.modify g fun
    | .cells _ t frozen => .cells cs t frozen
    | o => o
  let h1 := put w0.heap 0 (Lib.firstTab.map fun z => Value.int .u8 z).toArray
  let h2 := put h1 1 ((List.range 16).flatMap fun i => [Value.int .u8 (Lib.accLo i), Value.int .u8 (Lib.accHi i)]).toArray
  let h3 := put h2 2 (Lib.asciiSpaceTab.map fun z => Value.int .u8 z).toArray
  let h4 := put h3 5 (K.entCells).toArray
  let h5 := put h4 3 #[.pointer (some ⟨N + 1, 0, none⟩)]
  { w0 with heap := h5 }

theorem laid_met (os : Os) (args : Array Value) : laidMet Tryz.prog Rows.markupTextsRow.laid ((laidWorld os).forCall (fun _ _ => 0) ⟨#[], args, []⟩).memory :=
  (LaidIn.of_run (l := Rows.markupTextsRow.laid) [1, 3, (World.settled Tryz.prog default).heap.size, (World.settled Tryz.prog default).heap.size + 1, 2, 5, 0] 10 (by kernel_rfl) (by kernel_rfl) (by kernel_rfl) (by kernel_rfl)).met

end K
end Go.Proofs.YtlnginciehjlnaaGreatDoor
