/- From the row's listed variables to what the walks of selectors ask of the world; the witness's world. -/
import Derived.Test.YtnmcgmbhkmfiaaaGreatDoorRows
import Derived.Test.YtnmcgmbhkmfiaaaGreatDoorAwk
import Derived.ProofKit
import Derived.OpenShut
import Derived.ChangeSame
import Derived.ChangeOld
import Derived.Below
import Derived.Lib.LaidIn
import Derived.Lib.LaidU8T
import Derived.Lib.LaidTab
import Derived.LaidLaws
import Derived.Deep.DeepHandedRow
set_option linter.unusedVariables false
set_option linter.unusedSimpArgs false
namespace Go.Proofs.YtnmcgmbhkmfiaaaGreatDoor
open Go.ChangeShapes Go.WideShapes Go.ChangeAt Go.RowKit Go.Shelf
namespace K

theorem bytes_mk (s : ByteArray) : s = ⟨s.data.toList.toArray⟩ := by cases s; simp

theorem utf_of_laid {W : World} (h : laidMetH Tryz.prog Rows.selectorParsesRow.laid W) : Lib.Utf8Tabs 0 1 W := by
  have e1 : Rows.laid_unicode_utf8_first = Lib.firstData := by kernel_rfl
  have e2 : (Rows.laid_unicode_utf8_acceptRanges : DataW Unit) = Lib.acceptData := by kernel_rfl
  have r2 := Lib.laidMet.reads h (.tail _ (.tail _ (.tail _ (.head _))))
  have r1 := Lib.laidMet.reads h (.tail _ (.tail _ (.tail _ (.tail _ (.tail _ (.tail _ (.tail _ (.head _))))))))
  rw [e1] at r1
  rw [e2] at r2
  exact utf8Tabs_of_readsT (U8Types.of196 Tryz.lays196) ⟨by kernel_rfl, by kernel_rfl, by kernel_rfl, by kernel_rfl, by kernel_rfl, by kernel_rfl, by kernel_rfl⟩ r1 r2

theorem tab_of_laid {W : World} (h : laidMetH Tryz.prog Rows.selectorParsesRow.laid W) : Lib.TabIs Tryz.prog W "internal/strconv.uint64pow10" .u64 Lib.pow10Tab := by
  have e : (Rows.laid_internal_strconv_uint64pow10 : DataW Unit) = Lib.tabData .u64 Lib.pow10Tab := by kernel_rfl
  obtain ⟨g, t, cs, fuel, p, hg, hty, hv, hd⟩ := Lib.laidMet.reads h (.tail _ (.tail _ (.head _)))
  rw [e] at hd
  have hgn : Tryz.prog.globalNamed "internal/strconv.uint64pow10" = some 4 := by kernel_rfl
  obtain rfl := Option.some.inj (hgn.symm.trans hg)
  have hty' : (Tryz.prog.globals[4]?).map (·.type) = some 139 := by kernel_rfl
  obtain rfl := Option.some.inj (hty'.symm.trans hty)
  have := Lib.cells_of_tab (P := Tryz.prog) (n := 20) Tryz.underlying139 Tryz.underlying106 (by kernel_rfl) (by kernel_rfl) hd
  unfold Lib.TabIs
  rw [hv, ← this]

theorem undError : (match Tryz.prog.underlying 83 with | some (.interface _) => true | _ => false) = true := by kernel_rfl

theorem err_cell {W : World} {g : Nat} {n : String} {d : DataW Unit} (hr : Lib.VarReads Tryz.prog W n (.iface "*errors.errorString" d)) (hgn : Tryz.prog.globalNamed n = some g) (hty' : (Tryz.prog.globals[g]?).map (·.type) = some 83) :
    ∃ te pe, W.cell? ⟨g, 0, none⟩ = some (.iface te pe) := by
  obtain ⟨g', t, cs, fuel, p, hg, hty, hv, hd⟩ := hr
  obtain rfl := Option.some.inj (hgn.symm.trans hg)
  obtain rfl := Option.some.inj (hty'.symm.trans hty)
  have hu := undError
  cases hq : Tryz.prog.underlying 83 with
  | none => rw [hq] at hu; cases hu
  | some u =>
    rw [hq] at hu
    cases u <;> first | (cases hu; done) | skip
    obtain ⟨f', u, v, hcs, _⟩ := iface_of_trod hq hd
    refine ⟨u, v, ?_⟩
    have := World.var?_cell hgn hv 0
    rw [this]
    have h2 : cs[0]? = cs.toList[0]? := by simp
    rw [h2, hcs]; rfl

theorem lt_of_cell {W : World} {g o : Nat} {v : Value} (h : W.cell? ⟨g, o, none⟩ = some v) : g < W.heap.size := blk_lt h

set_option maxRecDepth 100000 in
theorem pse_of_laid {W : World} (h : laidMetH Tryz.prog Rows.selectorParsesRow.laid W) (k : Nat) (hk : k < 6) :
    W.cell? ⟨2, k * 2, none⟩ = some (.string ⟨(pname k).toArray⟩) ∧ W.cell? ⟨2, k * 2 + 1, none⟩ = some (.int .i64 (pkind k)) := by
  have e : (Rows.laid_knapsack_selector_pseudos : DataW Unit) = .agg (L.pseudos.map fun p => .agg [.lit (.string p.1), .lit (.int .i64 p.2)]) := by kernel_rfl
  obtain ⟨g, t, cs, fuel, p, hg, hty, hv, hd⟩ := Lib.laidMet.reads h (.tail _ (.tail _ (.tail _ (.tail _ (.tail _ (.tail _ (.head _)))))))
  rw [e] at hd
  have hgn : Tryz.prog.globalNamed "knapsack/selector.pseudos" = some 2 := by kernel_rfl
  obtain rfl := Option.some.inj (hgn.symm.trans hg)
  have hty' : (Tryz.prog.globals[2]?).map (·.type) = some 104 := by kernel_rfl
  obtain rfl := Option.some.inj (hty'.symm.trans hty)
  obtain ⟨xs, m, rfl, hx, hcl, hxl, hf⟩ := DataW.trod_array Tryz.underlying104 hd
  have hc2 : Tryz.prog.cellsOf 103 = 2 := by kernel_rfl
  have hc1 : Tryz.prog.cellsOf 9 = 1 := by kernel_rfl
  have hc3 : Tryz.prog.cellsOf 3 = 1 := by kernel_rfl
  rw [hc2] at hf
  have hxs : xs.map (·.1) = L.pseudos.map fun p => (.agg [.lit (.string p.1), .lit (.int .i64 p.2)] : DataW Unit) := by
    have := congrArg Prod.fst hx
    simpa using this.symm
  have htl : L.pseudos.length = 6 := rfl
  have hxi : k < xs.length := by omega
  have h1 := hf k hk
  rw [List.getElem?_eq_getElem hxi] at h1
  obtain ⟨y0, y1, n, hy, _, hy0, hy1⟩ := trod_struct2 Tryz.underlying103 h1
  have h2 : (xs.map (·.1))[k]? = some (xs[k].1) := by simp [hxi]
  rw [hxs, List.getElem?_map, List.getElem?_eq_getElem (by omega)] at h2
  have h3 := Option.some.inj h2
  rw [hy] at h3
  injection h3 with h3
  injection h3 with g0 h3
  injection h3 with g1 _
  obtain ⟨s0, hs0, hz0, _⟩ := DataW.trod_string Tryz.underlying9 hy0
  obtain ⟨z1, hs1, hz1, _⟩ := DataW.trod_int Tryz.underlying3 hy1
  rw [hz0] at g0
  rw [hz1] at g1
  have q0 : s0.data.toList = (L.pseudos[k]'(by omega)).1 := by injection g0 with g0; injection g0 with g0; exact g0.symm
  have q1 : z1 = ((L.pseudos[k]'(by omega)).2 : Int) := by injection g1 with g1; injection g1 with g1 g2; exact g2.symm
  have n0 : pname k = s0.data.toList := by rw [q0]; unfold pname; rw [List.getD_eq_getElem?_getD, List.getElem?_eq_getElem (by omega)]; rfl
  have n1 : ((pkind k : Nat) : Int) = z1 := by rw [q1]; unfold pkind; rw [List.getD_eq_getElem?_getD, List.getElem?_eq_getElem (by omega)]; rfl
  have b0 : (⟨(pname k).toArray⟩ : ByteArray) = s0 := by rw [n0]
  rw [b0, n1]
  dsimp only at hs0 hs1
  rw [hc1] at hs0
  rw [hc3] at hs1
  have u0 := congrArg (fun l : List Value => l[0]?) hs0
  have u1 := congrArg (fun l : List Value => l[0]?) hs1
  simp [List.getElem?_take, List.getElem?_drop] at u0 u1
  have hcW : ∀ j, W.cell? ⟨2, j, none⟩ = cs[j]? := fun j => by
    have := World.var?_cell hgn hv j
    simpa using this
  rw [hcW, hcW]
  exact ⟨u0, u1⟩

theorem big_of_laid {W : World} (h : laidMetH Tryz.prog Rows.selectorParsesRow.laid W) : top ≤ W.heap.size := by
  obtain ⟨g, t, cs, fuel, p, hg, hty, hv, hd⟩ := Lib.laidMet.reads h (.tail _ (.head _))
  have hgn : Tryz.prog.globalNamed "math/bits.deBruijn64tab" = some 8 := by kernel_rfl
  have hlt : 8 < W.heap.size := by
    unfold World.var? at hv
    rw [hgn] at hv
    simp only [Option.bind_some] at hv
    rcases Nat.lt_or_ge 8 W.heap.size with h' | h'
    · exact h'
    · rw [Array.getElem?_eq_none h'] at hv; simp at hv
  unfold top
  omega

theorem env_of_laid {W : World} (h : laidMetH Tryz.prog Rows.selectorParsesRow.laid W) : LEnv W := by
  have r1 := Lib.laidMet.reads h (.tail _ (.tail _ (.tail _ (.tail _ (.head _)))))
  have r2 := Lib.laidMet.reads h (.tail _ (.tail _ (.tail _ (.tail _ (.tail _ (.head _))))))
  exact ⟨⟨⟨⟨err_cell r2 (by kernel_rfl) (by kernel_rfl), err_cell r1 (by kernel_rfl) (by kernel_rfl)⟩, fun k hk => (pse_of_laid h k hk).1, fun k hk => (pse_of_laid h k hk).2⟩, utf_of_laid h, big_of_laid h⟩, tab_of_laid h⟩

/-- The cells of a table of numbers. -/
def litCells (d : DataW Unit) : Array Value := match d with
  | .agg l => (l.filterMap fun | .lit (.int k z) => some (Value.int k z) | _ => none).toArray
  | _ => #[]

/-- A world for the witness: the settled one, the tables holding what their texts lay. -/
noncomputable def laidWorld (os : Os) : World :=
  let N := (World.settled Tryz.prog os).heap.size
  let w0 := World.holding Tryz.prog os ⟨#[.cells #[.string ⟨#[118, 97, 108, 117, 101, 32, 111, 117, 116, 32, 111, 102, 32, 114, 97, 110, 103, 101]⟩] 152, .cells #[.string ⟨#[105, 110, 118, 97, 108, 105, 100, 32, 115, 121, 110, 116, 97, 120]⟩] 152], #[], []⟩
  let put (h : Array Obj) (g : Nat) (cs : Array Value) : Array Obj := h.modify g fun
    | .cells _ t frozen => .cells cs t frozen
    | o => o
  let h1 := put w0.heap 0 (Lib.firstTab.map fun z => Value.int .u8 z).toArray
  let h2 := put h1 1 ((List.range 16).flatMap fun i => [Value.int .u8 (Lib.accLo i), Value.int .u8 (Lib.accHi i)]).toArray
  let h3 := put h2 4 (Lib.pow10Tab.map fun z => Value.int .u64 z).toArray
  let h4 := put h3 2 pcells
  let h5 := put h4 6 #[.iface 150 (.pointer (some ⟨N, 0, none⟩))]
  let h6 := put h5 5 #[.iface 150 (.pointer (some ⟨N + 1, 0, none⟩))]
  let h7 := put h6 7 (litCells Rows.laid_math_bits_deBruijn32tab)
  let h8 := put h7 8 (litCells Rows.laid_math_bits_deBruijn64tab)
  { w0 with heap := h8 }

theorem laid_met (os : Os) (args : Array Value) : laidMet Tryz.prog Rows.selectorParsesRow.laid ((laidWorld os).forCall (fun _ _ => 0) ⟨#[], args, []⟩).memory :=
  (LaidIn.of_run (l := Rows.selectorParsesRow.laid) [1, (World.settled Tryz.prog default).heap.size, (World.settled Tryz.prog default).heap.size + 1, 4, 2, 0, 6, 5, 7, 8] 10 (by kernel_rfl) (by kernel_rfl) (by kernel_rfl) (by kernel_rfl)).met

end K
end Go.Proofs.YtnmcgmbhkmfiaaaGreatDoor
