/- From the rows' listed variables to what the walks of styles ask of the world; the witness's world. The law StyleTables at any input that reads as data. -/
import Derived.Test.YtafkeolpadfjfaaGreatDoorRows
import Derived.Test.YtafkeolpadfjfaaGreatDoorSty34
import Derived.Test.YtafkeolpadfjfaaGreatDoorJoin
import Derived.ProofKit
import Derived.OpenShut
import Derived.ChangeSame
import Derived.ChangeOld
import Derived.Below
import Derived.Lib.LaidIn
import Derived.Lib.LaidU8T
import Derived.Lib.LaidTab
import Derived.LaidLaws
import Derived.Deep.DeepHandedRow
import Derived.Deep.Strs
import Derived.Test.YtafkeolpadfjfaaGreatDoorSh8
set_option linter.unusedVariables false
set_option linter.unusedSimpArgs false
namespace Go.Proofs.YtafkeolpadfjfaaGreatDoor
open Go.ChangeShapes Go.WideShapes Go.ChangeAt Go.RowKit Go.Shelf
namespace Y
open H
theorem u64_of (g : Nat) {W : World} {n : String} {d : DataW Unit} (hr : Lib.VarReads Tryz.prog W n d) (hgn : Tryz.prog.globalNamed n = some g) : g < W.heap.size := by
 obtain ⟨g', t, cs, fuel, p, hg, hty, hv, hd⟩ := hr
 obtain rfl := Option.some.inj (hgn.symm.trans hg)
 unfold World.var? at hv
 rw [hgn] at hv
 simp only [Option.bind_some] at hv
 rcases Nat.lt_or_ge g W.heap.size with h' | h'
 ·exact h'
 ·rw [Array.getElem?_eq_none h'] at hv; simp at hv
theorem asc_of {W : World} (hr : Lib.VarReads Tryz.prog W "strings.asciiSpace" (Rows.laid_strings_asciiSpace : DataW Unit)) : Asc W := by
 have e : (Rows.laid_strings_asciiSpace : DataW Unit) = Lib.tabData .u8 Lib.asciiSpaceTab := by kernel_rfl
 obtain ⟨g, t, cs, fuel, p, hg, hty, hv, hd⟩ := hr
 rw [e] at hd
 have hgn : Tryz.prog.globalNamed "strings.asciiSpace" = some 1 := by kernel_rfl
 obtain rfl := Option.some.inj (hgn.symm.trans hg)
 have hty' : (Tryz.prog.globals[1]?).map (·.type) = some 158 := by kernel_rfl
 obtain rfl := Option.some.inj (hty'.symm.trans hty)
 have := Lib.cells_of_tab (P := Tryz.prog) (n := 256) Tryz.underlying158 Tryz.underlying5 (by kernel_rfl) (by kernel_rfl) hd
 unfold Asc Lib.TabIs
 rw [hv, ← this]
set_option maxRecDepth 100000 in
theorem tab_of {W : World} (hr : Lib.VarReads Tryz.prog W "knapsack/style.table" (Rows.laid_knapsack_style_table : DataW Unit)) : W.rangeAt 0 0 tcs := by
 have e : (Rows.laid_knapsack_style_table : DataW Unit) = .agg (S.tab.map fun r => .agg [.lit (.string r.1), .lit (.int .i64 r.2.1), .lit (.string (joinW r.2.2))]) := by kernel_rfl
 obtain ⟨g, t, cs, fuel, p, hg, hty, hv, hd⟩ := hr
 rw [e] at hd
 have hgn : Tryz.prog.globalNamed "knapsack/style.table" = some 0 := by kernel_rfl
 obtain rfl := Option.some.inj (hgn.symm.trans hg)
 have hty' : (Tryz.prog.globals[0]?).map (·.type) = some 72 := by kernel_rfl
 obtain rfl := Option.some.inj (hty'.symm.trans hty)
 obtain ⟨xs, m, rfl, hx, hcl, hxl, hf⟩ := DataW.trod_array Tryz.underlying72 hd
 have hc3 : Tryz.prog.cellsOf 71 = 3 := by kernel_rfl
 have hc1 : Tryz.prog.cellsOf 9 = 1 := by kernel_rfl
 have hci : Tryz.prog.cellsOf 3 = 1 := by kernel_rfl
 rw [hc3] at hf
 have hxs : xs.map (·.1) = S.tab.map fun r => (.agg [.lit (.string r.1), .lit (.int .i64 r.2.1), .lit (.string (joinW r.2.2))] : DataW Unit) := by
  have := congrArg Prod.fst hx
  simpa using this.symm
 have hcell : ∀ i, i < 37 → cs.toList[i * 3]? = some (.string ⟨(trow i).1.toArray⟩) ∧ cs.toList[i * 3 + 1]? = some (.int .i64 ((trow i).2.1 : Nat)) ∧ cs.toList[i * 3 + 2]? = some (.string ⟨(joinW (trow i).2.2).toArray⟩) := by
  intro i hi
  have hxi : i < xs.length := by omega
  have h1 := hf i hi
  rw [List.getElem?_eq_getElem hxi] at h1
  obtain ⟨y0, y1, y2, n, hy, _, hy0, hy1, hy2⟩ := Go.Deep.trod_struct3 Tryz.underlying71 h1
  have h2 : (xs.map (·.1))[i]? = some (xs[i].1) := by simp [hxi]
  have hti := trow_at i hi
  rw [hxs, List.getElem?_map, hti] at h2
  generalize trow i = tr at *
  have h3 := Option.some.inj h2
  rw [hy] at h3
  injection h3 with h3
  injection h3 with g0 h3
  injection h3 with g1 h3
  injection h3 with g2 _
  obtain ⟨s0, hs0, hz0, _⟩ := DataW.trod_string Tryz.underlying9 hy0
  obtain ⟨s1, hs1, hz1, _⟩ := DataW.trod_int Tryz.underlying3 hy1
  obtain ⟨s2, hs2, hz2, _⟩ := DataW.trod_string Tryz.underlying9 hy2
  rw [hz0] at g0
  rw [hz1] at g1
  rw [hz2] at g2
  have q0 : s0.data.toList = tr.1 := by injection g0 with g0; injection g0 with g0; exact g0.symm
  have q1 : s1 = (tr.2.1 : Int) := by injection g1 with g1; injection g1 with g1 g2; exact g2.symm
  have q2 : s2.data.toList = joinW tr.2.2 := by injection g2 with g2; injection g2 with g2; exact g2.symm
  have b0 : (⟨tr.1.toArray⟩ : ByteArray) = s0 := by rw [← q0]
  have b2 : (⟨(joinW tr.2.2).toArray⟩ : ByteArray) = s2 := by rw [← q2]
  rw [b0, b2, ← q1]
  dsimp only at hs0 hs1 hs2
  rw [hc1] at hs0 hs2
  rw [hci] at hs1
  have u0 := congrArg (fun l : List Value => l[0]?) hs0
  have u1 := congrArg (fun l : List Value => l[0]?) hs1
  have u2 := congrArg (fun l : List Value => l[0]?) hs2
  simp [List.getElem?_take, List.getElem?_drop] at u0 u1 u2
  simp
  exact ⟨u0, u1, u2⟩
 have hcW : ∀ j, W.cell? ⟨0, j, none⟩ = cs.toList[j]? := fun j => by
  have := World.var?_cell hgn hv j
  simpa using this
 intro j v hj
 rw [Nat.zero_add, hcW]
 have hjl : j < 111 := by
  have := (List.getElem?_eq_some_iff.1 hj).1
  rw [tcs_len] at this; exact this
 obtain ⟨c0, c1, c2⟩ := hcell (j / 3) (by omega)
 have hfl := flat_at (f := rcells) (size := 3) (fun _ => rfl) S.tab (j / 3) (by rw [tab_len]; omega) (j % 3) (by omega)
 rw [show j / 3 * 3 + j % 3 = j by omega] at hfl
 have hti := trow_at (j / 3) (by omega)
 rw [List.getElem?_eq_getElem (by rw [tab_len]; omega)] at hti
 rw [Option.some.inj hti] at hfl
 rw [show S.tab.flatMap rcells = tcs from rfl, hj] at hfl
 rw [hfl]
 have hm : j % 3 = 0 ∨ j % 3 = 1 ∨ j % 3 = 2 := by omega
 rcases hm with h | h | h
 ·rw [h]; rw [show j = j / 3 * 3 by omega, c0]
  rw [show j / 3 * 3 / 3 = j / 3 by omega]; rfl
 ·rw [h]; rw [show j = j / 3 * 3 + 1 by omega, c1]
  rw [show (j / 3 * 3 + 1) / 3 = j / 3 by omega]; rfl
 ·rw [h]; rw [show j = j / 3 * 3 + 2 by omega, c2]
  rw [show (j / 3 * 3 + 2) / 3 = j / 3 by omega]; rfl
theorem yenv_of {W : World} (r1 : Lib.VarReads Tryz.prog W "strings.asciiSpace" (Rows.laid_strings_asciiSpace : DataW Unit)) (r2 : Lib.VarReads Tryz.prog W "knapsack/style.table" (Rows.laid_knapsack_style_table : DataW Unit)) : YEnv W :=
 ⟨asc_of r1, tab_of r2, u64_of _ r1 (by kernel_rfl), u64_of _ r2 (by kernel_rfl)⟩
theorem max_of {w : World} (h : w.ShapedOpen Tryz.prog) : HasMax w := by
 obtain ⟨m, hm⟩ := cell_of_shapedOpen_int (zero := #[.int .i64 0]) (t := 3) (g := 6) (k := .i64) h (of_decide_eq_true (by kernel_rfl)) (by kernel_rfl) rfl (by kernel_rfl) (by kernel_rfl) Tryz.underlying3
 refine ⟨⟨m, hm⟩, ?_⟩
 rcases Nat.lt_or_ge 6 w.heap.size with h' | h'
 ·exact h'
 ·simp [World.cell?, Array.getElem?_eq_none h'] at hm
/-- The cells of a table of numbers. -/
def litCells (d : DataW Unit) : Array Value := match d with
 | .agg l => (l.filterMap fun | .lit (.int k z) => some (Value.int k z) | _ => none).toArray
 | _ => #[]
/-- A world for the witness: the settled one, the tables holding what their texts lay. -/
noncomputable def laidWorld (os : Os) : World :=
 let w0 := World.settled Tryz.prog os
 let put (h : Array Obj) (g : Nat) (cs : Array Value) : Array Obj := h.modify g fun
  | .cells _ t frozen => .cells cs t frozen
  | o => o
 let h1 := put w0.heap 3 (Lib.firstTab.map fun z => Value.int .u8 z).toArray
 let h2 := put h1 4 ((List.range 16).flatMap fun i => [Value.int .u8 (Lib.accLo i), Value.int .u8 (Lib.accHi i)]).toArray
 let h3 := put h2 7 (Lib.pow10Tab.map fun z => Value.int .u64 z).toArray
 let h4 := put h3 1 (Lib.asciiSpaceTab.map fun z => Value.int .u8 z).toArray
 let h5 := put h4 0 tcs.toArray
 let h7 := put h5 10 (litCells Rows.laid_math_bits_deBruijn32tab)
 let h8 := put h7 11 (litCells Rows.laid_math_bits_deBruijn64tab)
 { w0 with heap := h8 }
end Y
end Go.Proofs.YtafkeolpadfjfaaGreatDoor
namespace Go.Proofs.YtafkeolpadfjfaaGreatDoor
open Go.ChangeShapes Go.WideShapes Go.ChangeAt Go.RowKit Go.Shelf
namespace Y
open H
theorem tablesC (W : World) (hL : laidMetH Tryz.prog Rows.styleTablesRow.laid W) (hsh : W.ShapedOpen Tryz.prog) :
  Calls Tryz.prog 8 #[] W (TruePost W) := by
 have r3 := Lib.laidMet.reads hL (.tail _ (.tail _ (.head _)))
 have r4 := Lib.laidMet.reads hL (.tail _ (.tail _ (.tail _ (.head _))))
 exact StyleTables W tables_red_ok (max_of hsh) (yenv_of r3 r4)
end Y
end Go.Proofs.YtafkeolpadfjfaaGreatDoor
