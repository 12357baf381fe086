/- From a row's listed variables to what the walks ask of the world. -/
import Derived.Test.YtlnginciehjlnaaGreatDoorRows
import Derived.Test.YtlnginciehjlnaaGreatDoorDecode
import Derived.ProofKit
import Derived.OpenShut
import Derived.SliceStrings
import Derived.ChangeOld
import Derived.Below
import Derived.Lib.LaidIn
import Derived.Lib.LaidU8T
set_option linter.unusedVariables false
set_option linter.unusedSimpArgs false
namespace Go.Proofs.YtlnginciehjlnaaGreatDoor
open Go.ChangeShapes Go.WideShapes Go.ChangeAt Go.RowKit Go.Shelf
namespace K

/-- The cells of the program's table of names. -/
def entCells : List Value := E.tab.flatMap fun p => [.string ⟨p.1.toArray⟩, .string ⟨p.2.toArray⟩]

theorem bytes_mk (s : ByteArray) : s = ⟨s.data.toList.toArray⟩ := by cases s; simp

theorem tabs_of_laid {W : World} (h : laidMetH Tryz.prog Rows.markupTextsRow.laid W) : T.Tabs W := by
  have e1 : Rows.laid_unicode_utf8_first = Lib.firstData := by kernel_rfl
  have e2 : (Rows.laid_unicode_utf8_acceptRanges : DataW Unit) = Lib.acceptData := by kernel_rfl
  have r2 := Lib.laidMet.reads h (.head _)
  have r1 := Lib.laidMet.reads h (.tail _ (.tail _ (.tail _ (.tail _ (.head _)))))
  rw [e1] at r1
  rw [e2] at r2
  have ht : Lib.Utf8Tabs 0 1 W := utf8Tabs_of_readsT (U8Types.of196 Tryz.lays196) ⟨by kernel_rfl, by kernel_rfl, by kernel_rfl, by kernel_rfl, by kernel_rfl, by kernel_rfl, by kernel_rfl⟩ r1 r2
  refine ⟨ht, ?_⟩
  have h0 := ht.1 0 (by decide)
  have h1 := (ht.2 0 (by decide)).1
  have k0 : (0 : Nat) < W.heap.size := by
    rcases Nat.lt_or_ge 0 W.heap.size with h' | h'
    · exact h'
    · simp [World.cell?, Array.getElem?_eq_none h'] at h0
  have k1 : (1 : Nat) < W.heap.size := by
    rcases Nat.lt_or_ge 1 W.heap.size with h' | h'
    · exact h'
    · simp [World.cell?, Array.getElem?_eq_none h'] at h1
  omega

theorem asc_of_laid {W : World} (h : laidMetH Tryz.prog Rows.markupTextsRow.laid W) : Lib.TabIs Tryz.prog W "strings.asciiSpace" .u8 Lib.asciiSpaceTab := by
  have e : (Rows.laid_strings_asciiSpace : DataW Unit) = Lib.tabData .u8 Lib.asciiSpaceTab := by kernel_rfl
  obtain ⟨g, t, cs, fuel, p, hg, hty, hv, hd⟩ := Lib.laidMet.reads h (.tail _ (.tail _ (.head _)))
  rw [e] at hd
  have hgn : Tryz.prog.globalNamed "strings.asciiSpace" = some 2 := by kernel_rfl
  obtain rfl := Option.some.inj (hgn.symm.trans hg)
  have hty' : (Tryz.prog.globals[2]?).map (·.type) = some 91 := by kernel_rfl
  obtain rfl := Option.some.inj (hty'.symm.trans hty)
  have := Lib.cells_of_tab (P := Tryz.prog) (n := 256) Tryz.underlying91 Tryz.underlying5 (by kernel_rfl) (by kernel_rfl) hd
  unfold Lib.TabIs
  rw [hv, ← this]

set_option maxRecDepth 100000 in
theorem ent_of_laid {W : World} (h : laidMetH Tryz.prog Rows.markupTextsRow.laid W) : EntTab W := by
  have e : (Rows.laid_knapsack_entity_table : DataW Unit) = .agg (E.tab.map fun p => .agg [.lit (.string p.1), .lit (.string p.2)]) := by kernel_rfl
  obtain ⟨g, t, cs, fuel, p, hg, hty, hv, hd⟩ := Lib.laidMet.reads h (.tail _ (.tail _ (.tail _ (.head _))))
  rw [e] at hd
  have hgn : Tryz.prog.globalNamed "knapsack/entity.table" = some 5 := by kernel_rfl
  obtain rfl := Option.some.inj (hgn.symm.trans hg)
  have hty' : (Tryz.prog.globals[5]?).map (·.type) = some 162 := by kernel_rfl
  obtain rfl := Option.some.inj (hty'.symm.trans hty)
  obtain ⟨xs, m, rfl, hx, hcl, hxl, hf⟩ := DataW.trod_array Tryz.underlying162 hd
  have hc2 : Tryz.prog.cellsOf 161 = 2 := by kernel_rfl
  have hc1 : Tryz.prog.cellsOf 9 = 1 := by kernel_rfl
  rw [hc2] at hf
  have hxs : xs.map (·.1) = E.tab.map fun p => (.agg [.lit (.string p.1), .lit (.string p.2)] : DataW Unit) := by
    have := congrArg Prod.fst hx
    simpa using this.symm
  have hcell : ∀ i, i < 30 → cs.toList[i * 2]? = some (.string ⟨(E.nm i).toArray⟩) ∧ cs.toList[i * 2 + 1]? = some (.string ⟨(E.ch i).toArray⟩) := by
    intro i hi
    have hxi : i < xs.length := by omega
    have h1 := hf i hi
    rw [List.getElem?_eq_getElem hxi] at h1
    obtain ⟨y0, y1, n, hy, _, hy0, hy1⟩ := trod_struct2 Tryz.underlying161 h1
    have h2 : (xs.map (·.1))[i]? = some (xs[i].1) := by simp [hxi]
    have htl : E.tab.length = 30 := rfl
    rw [hxs, List.getElem?_map, List.getElem?_eq_getElem (by omega)] at h2
    have h3 := Option.some.inj h2
    rw [hy] at h3
    injection h3 with h3
    injection h3 with g0 h3
    injection h3 with g1 _
    obtain ⟨s0, hs0, hz0, _⟩ := DataW.trod_string Tryz.underlying9 hy0
    obtain ⟨s1, hs1, hz1, _⟩ := DataW.trod_string Tryz.underlying9 hy1
    rw [hz0] at g0
    rw [hz1] at g1
    have q0 : s0.data.toList = (E.tab[i]'(by omega)).1 := by injection g0 with g0; injection g0 with g0; exact g0.symm
    have q1 : s1.data.toList = (E.tab[i]'(by omega)).2 := by injection g1 with g1; injection g1 with g1; exact g1.symm
    have n0 : E.nm i = s0.data.toList := by rw [q0]; unfold E.nm; rw [List.getD_eq_getElem?_getD, List.getElem?_eq_getElem (by omega)]; rfl
    have n1 : E.ch i = s1.data.toList := by rw [q1]; unfold E.ch; rw [List.getD_eq_getElem?_getD, List.getElem?_eq_getElem (by omega)]; rfl
    have b0 : (⟨(E.nm i).toArray⟩ : ByteArray) = s0 := by rw [n0]
    have b1 : (⟨(E.ch i).toArray⟩ : ByteArray) = s1 := by rw [n1]
    rw [b0, b1]
    dsimp only at hs0 hs1
    rw [hc1] at hs0 hs1
    have u0 := congrArg (fun l : List Value => l[0]?) hs0
    have u1 := congrArg (fun l : List Value => l[0]?) hs1
    simp [List.getElem?_take, List.getElem?_drop] at u0 u1
    simp
    exact ⟨u0, u1⟩
  have hcW : ∀ j, W.cell? ⟨5, j, none⟩ = cs.toList[j]? := fun j => by
    have := World.var?_cell hgn hv j
    simpa using this
  refine ⟨fun i hi => ⟨by rw [hcW]; exact (hcell i hi).1, by rw [hcW]; exact (hcell i hi).2⟩, ?_⟩
  have h0 := hcW 0
  rw [(hcell 0 (by omega)).1] at h0
  rcases Nat.lt_or_ge 5 W.heap.size with h' | h'
  · exact h'
  · simp [World.cell?, Array.getElem?_eq_none h'] at h0

theorem top_le {n : Nat} (k1 : 2 ≤ n) (k2 : 4 < n) (k3 : 5 < n) (k4 : 2 < n) : top ≤ n :=
  Nat.max_le.2 ⟨Nat.le_trans (by decide) k1, Nat.max_le.2 ⟨Nat.le_trans (by decide) k1, Nat.max_le.2 ⟨k2, Nat.max_le.2 ⟨k3, k4⟩⟩⟩⟩

set_option maxRecDepth 100000 in
theorem env_of_laid {W : World} (h : laidMetH Tryz.prog Rows.markupTextsRow.laid W) (hsh : W.ShapedOpen Tryz.prog) : Env W := by
  have t1 := tabs_of_laid h
  have t2 := T.hasMax_of_shaped hsh
  have t3 := ent_of_laid h
  have t4 := asc_of_laid h
  have k1 := t1.2
  have k2 := t2.2
  have k3 := t3.2
  have k4 : (2 : Nat) < W.heap.size := by
    have h0 := Lib.TabIs.cell t4 (g := 2) (by kernel_rfl) 0 (by decide)
    rcases Nat.lt_or_ge 2 W.heap.size with h' | h'
    · exact h'
    · simp [World.cell?, Array.getElem?_eq_none h'] at h0
  exact ⟨t1, t2, t3, t4, top_le k1 k2 k3 k4⟩

/-- What is known of a slice of strings that came in. -/
def StrArg (w : World) (ao : Option Addr) (len : Nat) (S : Nat → List UInt8) : Prop :=
  0 < len → ∃ b off, ao = some ⟨b, off, none⟩ ∧ b < w.heap.size ∧ ∀ j, j < len → w.cell? ⟨b, off + j, none⟩ = some (.string ⟨(S j).toArray⟩) ∧ (S j).length ≤ 140737488351232


theorem weights_all {H : Type} {P : Program} {e : TypeId} : ∀ {l : List (DataW H)} {d : DataW H}, d ∈ l → ∀ n ∈ d.weights P e, n ∈ DataW.weightsAll P e l
  | d0 :: r, d, h, n, hn => by
    simp only [DataW.weightsAll, List.mem_append]
    rcases List.mem_cons.1 h with rfl | h
    · exact Or.inl hn
    · exact Or.inr (weights_all h n hn)

/-- A slice of strings that came in, and how long each is. -/
theorem open_strs {H : Type} {enc : TypeId × Value → H} {W : World} {ao : Option Addr} {len cap : Nat} {d : DataW H} {p : List MemPlace}
    (h : ∃ fuel, DataW.trod enc Tryz.prog W 0 (fun _ => true) true fuel 35 (Value.slice ao len cap).cells.toList = some (d, p)) (hlt : ∀ x ∈ p, x.block < W.heap.size)
    (hs : (d.weights Tryz.prog 35).all (· ≤ reachBytes) = true) :
    ∃ S : Nat → List UInt8, len ≤ 9223372036854775807 ∧ StrArg W ao len S := by
  obtain ⟨fuel, hf⟩ := h
  rcases open_strings Tryz.underlying35 Tryz.underlying9 (by kernel_rfl) hf with ⟨hcs, hx⟩ | ⟨a, len', cap', ss, hcs, _, hl, hm, hz, hx, hcell, hws⟩
  · simp [Value.cells] at hcs
    obtain ⟨rfl, rfl, rfl⟩ := hcs
    exact ⟨fun _ => [], by omega, fun h => by omega⟩
  · simp [Value.cells] at hcs
    obtain ⟨rfl, rfl, rfl⟩ := hcs
    simp only [Prod.mk.injEq] at hx
    obtain ⟨rfl, rfl⟩ := hx
    simp only [if_true] at hz
    unfold maxLen at hm
    refine ⟨fun j => (ss.getD j ByteArray.empty).data.toList, by omega, fun hpos => ?_⟩
    obtain ⟨b, off, spot⟩ := a
    have hspot : spot = none := by simpa [Addr.add] using World.cell?_spot (hcell 0 (by omega))
    subst hspot
    have hbW : b < W.heap.size := hlt (.cell b off) (MemPlace.mem_row.2 ⟨0, by omega, by simp⟩)
    refine ⟨b, off, rfl, hbW, fun j hj => ⟨?_, ?_⟩⟩
    · have h1 := hcell j (by omega)
      rw [show (Addr.add ⟨b, off, none⟩ j) = ⟨b, off + j, none⟩ by simp [Addr.add]] at h1
      rw [h1]
    · have hmem : (.lit (.string (ss.getD j ByteArray.empty).data.toList) : DataW H) ∈ ChangeShapes.strs (H := H) (ss.take len) := by
        unfold ChangeShapes.strs
        rw [List.mem_map]
        refine ⟨ss.getD j ByteArray.empty, ?_, rfl⟩
        have hj' : j < (ss.take len).length := by rw [List.length_take]; omega
        have : (ss.take len)[j] = ss.getD j ByteArray.empty := by
          rw [List.getElem_take]; simp [List.getD, (by omega : j < ss.length)]
        rw [← this]
        exact List.getElem_mem hj'
      have hw : (ss.getD j ByteArray.empty).data.toList.length ∈ (DataW.slice (ChangeShapes.strs (H := H) (ss.take len)) (ChangeShapes.strs (ss.drop len))).weights Tryz.prog 35 := by
        simp only [DataW.weights, Tryz.underlying35, List.mem_cons, List.mem_append]
        exact Or.inr (Or.inl (weights_all hmem _ (by simp [DataW.weights])))
      have := List.all_eq_true.1 hs _ hw
      simpa [reachBytes] using this

/-- What is known of a slice of bytes that came in. -/
def ByteArg (w : World) (ao : Option Addr) (len : Nat) (B : Nat → Nat) : Prop :=
  0 < len → ∃ b off, ao = some ⟨b, off, none⟩ ∧ b < w.heap.size ∧ ∀ j, j < len → w.cell? ⟨b, off + j, none⟩ = some (.int .u8 (B j)) ∧ B j < 256

theorem open_bytes {H : Type} {enc : TypeId × Value → H} {W : World} {ao : Option Addr} {len cap : Nat} {d : DataW H} {p : List MemPlace}
    (h : ∃ fuel, DataW.trod enc Tryz.prog W 0 (fun _ => true) true fuel 53 (Value.slice ao len cap).cells.toList = some (d, p)) (hlt : ∀ x ∈ p, x.block < W.heap.size) :
    ∃ B : Nat → Nat, len ≤ 9223372036854775807 ∧ ByteArg W ao len B := by
  obtain ⟨fuel, hf⟩ := h
  rcases open_ints Tryz.underlying53 Tryz.underlying5 (by kernel_rfl) hf with ⟨hcs, hx⟩ | ⟨a, len', cap', zs, hcs, _, hl, hm, hz, hx, hcell, hwz⟩
  · simp [Value.cells] at hcs
    obtain ⟨rfl, rfl, rfl⟩ := hcs
    exact ⟨fun _ => 0, by omega, fun h => by omega⟩
  · simp [Value.cells] at hcs
    obtain ⟨rfl, rfl, rfl⟩ := hcs
    simp only [Prod.mk.injEq] at hx
    obtain ⟨rfl, rfl⟩ := hx
    simp only [if_true] at hz
    unfold maxLen at hm
    refine ⟨fun j => (zs.getD j 0).toNat, by omega, fun hpos => ?_⟩
    obtain ⟨b, off, spot⟩ := a
    have hspot : spot = none := by simpa [Addr.add] using World.cell?_spot (hcell 0 (by omega))
    subst hspot
    have hbW : b < W.heap.size := hlt (.cell b off) (MemPlace.mem_row.2 ⟨0, by omega, by simp⟩)
    refine ⟨b, off, rfl, hbW, fun j hj => ?_⟩
    have h1 := hcell j (by omega)
    rw [show (Addr.add ⟨b, off, none⟩ j) = ⟨b, off + j, none⟩ by simp [Addr.add]] at h1
    have hj' : j < zs.length := by omega
    have hw := hwz zs[j] (List.getElem_mem hj')
    have hg : zs.getD j 0 = zs[j] := by simp [List.getD, hj']
    have hbd : 0 ≤ zs[j] ∧ zs[j] ≤ 255 := bounds_u8 hw
    rw [hg] at h1
    show W.cell? ⟨b, off + j, none⟩ = some (.int .u8 (((zs.getD j 0).toNat : Nat) : Int)) ∧ (zs.getD j 0).toNat < 256
    rw [hg]
    refine ⟨?_, by omega⟩
    rw [h1, Int.toNat_of_nonneg hbd.1]

end K
end Go.Proofs.YtlnginciehjlnaaGreatDoor
