/- For every input that can be read as data, where the listed tables lie as their texts lay them (the card ties that), and where the clocks alone may move outside: the call of StyleTables returns true, and each argument reads as it did. -/
import Derived.Test.YtafkeolpadfjfaaGreatDoorCards
import Derived.Test.YtafkeolpadfjfaaGreatDoorTie
import Derived.Test.YtafkeolpadfjfaaGreatDoorStyTabC
import Derived.ProofKit
import Derived.OpenShut
import Derived.ShutString
import Derived.ChangeOld
import Derived.Below
import Derived.Lib.LaidIn
import Derived.Lib.LaidU8T
import Derived.Deep.DeepHandedRow
import Derived.Deep.DeepWitnessRowRef
import Derived.Lib.LaidTab
import Derived.SizedLaws
import Derived.Clock
import Derived.LaidLaws
import Derived.OpenVars
import Derived.LaidMore
set_option linter.unusedVariables false
set_option linter.unusedSimpArgs false
namespace Go.Proofs.YtafkeolpadfjfaaGreatDoor.styleTables
open Go.ChangeShapes Go.WideShapes Go.ChangeAt Go.RowKit Go.Shelf
open Go.ChangeMaps (open_string shut_string)
open Go.Clock
theorem own : ownKnob Tryz.prog.godebug = none := by kernel_rfl
open Y (laidWorld)
theorem laid_met (os : Os) (args : Array Value) : laidMet Tryz.prog Rows.styleTablesRow.laid ((laidWorld os).forCall (fun _ _ => 0) ⟨#[], args, []⟩).memory :=
 (LaidIn.of_run (l := Rows.styleTablesRow.laid) [1, 0, 10, 11] 10 (by kernel_rfl) (by kernel_rfl) (by kernel_rfl) (by kernel_rfl)).met
theorem laid_metH (os : Os) (args : Array Value) : laidMetH Tryz.prog Rows.styleTablesRow.laid ((laidWorld os).forCall (fun _ _ => 0) ⟨#[], args, []⟩).memory := by
 rw [MakeChecks.laidMetH_plain _ _ _ (by kernel_rfl)]
 exact laid_met os args
set_option maxHeartbeats 2000000 in
set_option maxRecDepth 100000 in
theorem contract (H : Type) (enc : TypeId × Value → H) (W : World) (base : Nat) (args : Array Value) (ds gs : List (DataW H)) (before : List MemPlace)
  (hW : DataW.Whole enc Tryz.prog Tryz.f8.params.toList Rows.styleTablesSpec.vars false W args.toList ds gs before) (hL : laidMetH Tryz.prog Rows.styleTablesRow.laid W) (hsh : W.ShapedOpen Tryz.prog) :
  Calls Tryz.prog 8 args W fun e W' => ∃ v, e = .returned v ∧ Rows.styleTablesSpec.post enc Tryz.prog Tryz.f8 false true false false W args v { W' with os := W.os } ∧ Go.Clock.Later W.os W'.os := by
 have hW' := hW
 obtain ⟨p, q, hA0, hV, rfl, hfz, hnd⟩ := hW
 have hA : DataW.TrodAll enc Tryz.prog W 0 (fun _ => true) true Tryz.f8.params.toList args.toList ds p := hA0
 rw [Tryz.params8] at hA
 obtain ⟨hargs, rfl, rfl⟩ := trodAll_nil hA
 obtain rfl : args = #[] := by
  cases args with
  | mk l => simp at hargs; subst hargs; rfl
 obtain ⟨rfl, rfl⟩ := trodVars_none hV
 clear hA0
 have hq := Y.tablesC W hL hsh
 refine hq.mono fun e W' ⟨he, bel⟩ => ?_
 subst he
 have hsince := Since.of_below bel
 exact ⟨_, rfl, ⟨_, _, _, [], _, [], hW', trodAll_mk1 (shut_bool Tryz.underlying4 _), trodAll_mk0, rfl, hsince.2.frame _, fun h => by cases h⟩, hsince.1⟩
set_option maxRecDepth 100000 in
theorem lifted (os : Os) (started : os.Started) (H : Type) (enc : TypeId × Value → H) (F : Stop.Interp) :
  ReturnsInHanded { calm := true } Tryz.checked os 8 .any (fun w args => (Rows.styleTablesSpec.pre enc Tryz.prog Tryz.f8 [] false w args ∧ laidMetH Tryz.prog Rows.styleTablesRow.laid w) ∧ sizedMet enc Tryz.prog Tryz.f8 (OpenSpec.ofChange Rows.styleTablesSpec) false w args)
   ((OpenSpec.ofChange Rows.styleTablesSpec).postWith enc Tryz.prog Tryz.f8 F (outsideKept [.timePasses]) false true false) := by
 refine returns_of_change (C := Tryz.checked) (X := fun w _ => laidMetH Tryz.prog Rows.styleTablesRow.laid w) (fun _ _ _ hh h => h.of_heap hh) own started (by kernel_rfl) Tryz.func8
  (witness_at (enc := enc) (C := Tryz.checked) (X := fun w _ => laidMetH Tryz.prog Rows.styleTablesRow.laid w) (laidWorld os) #[] 8 rfl (World.shaped_of_RefB (by kernel_rfl) (by kernel_rfl)) (by kernel_rfl) (by kernel_rfl) (by kernel_rfl)
   (laid_metH os _)) ?_
 intro W base args ds gs before hval hW _ _ hL hsh
 exact contract H enc W base args ds gs before hW hL hsh
theorem said : Rows.StyleTablesSaid :=
 holds_of_wide_time 8 Tryz.f8 rfl rfl rfl rfl rfl rfl rfl ⟨rfl, rfl, rfl, rfl, rfl⟩ rfl rfl rfl rfl rfl (by kernel_rfl) Tryz.func8 (by kernel_rfl)
  (of_decide_eq_true (by kernel_rfl)) (by unfold Func.isWrapper; first | (rw [if_pos (by decide +kernel)]; kernel_rfl) | (rw [if_neg (by decide +kernel)]; exact ⟨rfl, rfl⟩))
  (fun os started H enc _ F => lifted os started H enc F)
theorem plain (f : FuncId) (fn : Func) (hf : Tryz.pinned.checked.prog.funcNamed Tryz.f8.name = some f) (hfn : Tryz.pinned.checked.prog.funcs[f]? = some fn) :
  true = Tryz.pinned.checked.prog.looks [] ∧ ∀ (j : Nat) t, fn.params[j]? = some t → Tryz.pinned.checked.prog.wantsStandIn t = false := by
 obtain rfl : f = 8 := Option.some.inj ((show Tryz.prog.funcNamed Tryz.f8.name = some 8 by kernel_rfl).symm.trans hf) |>.symm
 obtain rfl : fn = Tryz.f8 := (Option.some.inj (Tryz.func8.symm.trans hfn)).symm
 refine ⟨by kernel_rfl, fun j t ht => ?_⟩
 rw [Tryz.params8] at ht
 simp at ht
/-- The card. -/
theorem card : Rows.StyleTablesCardSaid :=
 Claim7.holds_tied_plain_at .later [] _ _ _ _ said (fun _ h => by cases h) (by kernel_rfl) (fun _ h => by cases h) styleTables_row_tie rfl ⟨rfl, rfl⟩ (by kernel_rfl) rfl plain (by kernel_rfl)
#print axioms card
end Go.Proofs.YtafkeolpadfjfaaGreatDoor.styleTables
