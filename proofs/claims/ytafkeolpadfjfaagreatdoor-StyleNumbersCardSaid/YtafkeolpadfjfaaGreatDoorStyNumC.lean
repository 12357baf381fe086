/- The law StyleNumbers at any input that reads as data. -/
import Derived.Test.YtafkeolpadfjfaaGreatDoorSty23
import Derived.Test.YtafkeolpadfjfaaGreatDoorAsc25
import Derived.Test.YtafkeolpadfjfaaGreatDoorStyEnv
set_option linter.unusedVariables false
set_option linter.unusedSimpArgs false
namespace Go.Proofs.YtafkeolpadfjfaaGreatDoor
open Go.ChangeShapes Go.WideShapes Go.ChangeAt Go.RowKit Go.Shelf
namespace Y
open H

theorem red_ok : Repairs redText redText := fun w => ascRepair25 redText w (by decide) (by decide)

theorem numbersC (n z : Int) (W : World) (w0 : (Lit.int .i64 n).wf = true) (w1 : (Lit.int .u8 z).wf = true) (hL : laidMetH Tryz.prog Rows.styleNumbersRow.laid W) (hsh : W.ShapedOpen Tryz.prog) :
    Calls Tryz.prog 6 #[.int .i64 n, .int .u8 z] W (TruePost W) := by
  have r3 := Lib.laidMet.reads hL (.tail _ (.tail _ (.head _)))
  have r4 := Lib.laidMet.reads hL (.tail _ (.tail _ (.tail _ (.head _))))
  have r5 := Lib.laidMet.reads hL (.tail _ (.tail _ (.tail _ (.tail _ (.head _)))))
  simp only [Lit.wf, Bool.and_eq_true, decide_eq_true_eq] at w0 w1
  have e1 : IntKind.u8.min = 0 := rfl
  have e2 : IntKind.u8.max = 255 := rfl
  have e3 : IntKind.i64.min = -9223372036854775808 := rfl
  have e4 : IntKind.i64.max = 9223372036854775807 := rfl
  rw [e1, e2] at w1
  rw [e3, e4] at w0
  obtain ⟨kd, rfl⟩ : ∃ kd : Nat, z = kd := ⟨z.toNat, by omega⟩
  exact StyleNumbers n kd W (by omega) w0 red_ok (max_of hsh) (yenv_of r4 r5) (pow_of r3) (u64_of _ r3 (by kernel_rfl))

end Y
end Go.Proofs.YtafkeolpadfjfaaGreatDoor
