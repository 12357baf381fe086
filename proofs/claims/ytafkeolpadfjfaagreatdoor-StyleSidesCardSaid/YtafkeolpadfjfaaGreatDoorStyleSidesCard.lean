/- What utf8.ValidString and text.Repair come to at a string of ASCII: no table is read. From the rows' listed variables to what the walks of styles ask of the world; the witness's world. The law StyleSides at any input that reads as data. For every input that can be read as data, where Go's own tables unicode/utf8.first and acceptRanges lie as their texts lay them (the card ties that): the call of StyleSides returns true, and each argument reads as it did. -/
import Derived.Test.YtafkeolpadfjfaaGreatDoorValid
import Derived.Test.YtafkeolpadfjfaaGreatDoorUtfMore
import Derived.Test.YtafkeolpadfjfaaGreatDoorHeap
import Derived.Shelf.Unicode.WordAny
import Derived.Lib.ValidAsc
import Derived.Laws.BitsAllLaws
import Derived.Deep.LoopGhost
import Derived.Deep.DeepMust
import Derived.Deep.DeepBigQuietO
import Derived.Test.YtafkeolpadfjfaaGreatDoorRows
import Derived.Test.YtafkeolpadfjfaaGreatDoorSty22
import Derived.Test.YtafkeolpadfjfaaGreatDoorTRepair
import Derived.ProofKit
import Derived.OpenShut
import Derived.ChangeSame
import Derived.ChangeOld
import Derived.Below
import Derived.Lib.LaidIn
import Derived.Lib.LaidU8T
import Derived.Lib.LaidTab
import Derived.LaidLaws
import Derived.Deep.DeepHandedRow
import Derived.Deep.Strs
import Derived.Test.YtafkeolpadfjfaaGreatDoorSty45
import Derived.SliceStrings
import Derived.Test.YtafkeolpadfjfaaGreatDoorCards
import Derived.Test.YtafkeolpadfjfaaGreatDoorTie
import Derived.ShutString
import Derived.Deep.DeepWitnessRowRef
import Derived.SizedLaws
set_option linter.unusedVariables false
set_option linter.unusedSimpArgs false
namespace Go.Proofs.YtafkeolpadfjfaaGreatDoor
open Go.RowKit
namespace Y
open H

/-- All bytes lie below 128. -/
def AscAll (t : ByteArray) : Prop := ∀ b ∈ t.data.toList, b.toNat < 128
theorem AscAll.drop {t : ByteArray} (h : AscAll t) (k : Nat) : AscAll (t.extract k t.size) := fun b hb => by
  rw [Lib.ext_list] at hb
  exact h b (List.mem_of_mem_drop hb)
theorem AscAll.head {t : ByteArray} (h : AscAll t) (h0 : 0 < t.size) : (t.get! 0).toNat < 128 := by
  rw [Utf8W.get!_of_lt t 0 h0]
  exact h _ (by simp [ByteArray.getElem_eq_getElem_data])
/-- Eight bytes as a word: none has its high bit. -/
theorem ascWord (t : ByteArray) (h8 : 8 ≤ t.size) (h : AscAll t) : ∃ A : Nat, A < 18446744073709551616 ∧ A &&& 9259542123273814144 = 0 ∧
    ∀ W, Calls Tryz.prog 144 #[.string t] W fun e w' => e = .returned (.int .u64 A) ∧ ∃ q, w' = W.drewN q :=
  ⟨_, Lib.word_lt t, (Lib.word_asc t h8).2 (fun b hb => h b (List.mem_of_mem_take hb)), fun W => Any.utf8_word { Tryz.lays196 with } t W h8⟩
theorem belowN {B : Nat} {a w : World} (h : Below B a w) : ∀ q, Below B a (w.drewN q)
  | 0 => h
  | q + 1 => (belowN h q).drew

set_option maxHeartbeats 100000000 in
set_option maxRecDepth 1000000 in
theorem ascValid (s : ByteArray) (w : World) (hs : s.size ≤ 140737488351232) (hA : AscAll s) :
    Calls Tryz.prog 107 #[.string s] w fun e w' => e = .returned (.bool true) ∧ Below w.heap.size w w' := by
  have mixed : Tryz.prog.follows Departure.mixedOrders = true := by kernel_rfl
  go_enter Tryz.func107, Tryz.ntmps107
  go_wp2_with fail
  go_loopg [0] (s.size + 1) (fun gk s0 wx => Below w.heap.size w wx ∧ ∃ t : ByteArray, s0 = .string t ∧ AscAll t ∧ t.size < gk ∧ t.size ≤ 140737488351232)
  case atStart => exact ⟨Below.refl _ _, s, rfl, hA, by omega, hs⟩
  case round =>
    obtain ⟨hbw, t, rfl, hv, hg, hts⟩ := hrel
    clear hA
    by_cases h0 : 0 < t.size
    · obtain ⟨g', rfl⟩ : ∃ g', gk = g' + 1 := ⟨gk - 1, by omega⟩
      have h0z : (0 : Int) < (t.size : Int) := by omega
      have hasc := hv.head h0
      obtain ⟨x0, hx0⟩ : ∃ x0, t.get! 0 = x0 := ⟨_, rfl⟩
      have hs0 : t[0]'(by omega) = x0 := by rw [← hx0]; exact (Utf8W.get!_of_lt t 0 (by omega)).symm
      rw [hx0] at hasc
      have hascz : (x0.toNat : Int) < 128 := by omega
      have v1 := hv.drop 1
      obtain ⟨t1, ht1⟩ : ∃ t1, t.extract 1 t.size = t1 := ⟨_, rfl⟩
      have z1 : t1.size + 1 = t.size := by rw [← ht1, Lib.ext_size]; omega
      rw [ht1] at v1
      clear hv hasc
      by_cases c8 : 8 < t1.size
      · have c8z : (8 : Int) < (t1.size : Int) := by omega
        obtain ⟨A1, lA1, mA1, cW1⟩ := ascWord t1 (by omega) v1
        obtain ⟨Z1, hZ1⟩ : ∃ Z1 : Nat, Z1 = 0 := ⟨0, rfl⟩
        have hz1b : ((Z1 : Int) == 0) = true := by rw [hZ1]; rfl
        have hand1 : bits .and .u64 (A1 : Int) 9259542123273814144 = (Z1 : Int) := by rw [hZ1]; exact (u64_and_nat A1 9259542123273814144 lA1 (by omega)).trans (congrArg Int.ofNat mA1)
        have v2 := v1.drop 8
        obtain ⟨t2, ht2⟩ : ∃ t2, t1.extract 8 t1.size = t2 := ⟨_, rfl⟩
        have z2 : t2.size + 8 = t1.size := by rw [← ht2, Lib.ext_size]; omega
        rw [ht2] at v2
        clear v1 mA1 lA1
        go_wp2_with (go_at_call 144; refine (cW1 _).mono ?_; rintro e W1 ⟨rfl, q1, rfl⟩)
        have hb1 : Below w.heap.size w (wr.drewN q1) := belowN hbw q1
        generalize wr.drewN q1 = wq at hb1 ⊢
        clear cW1 hbw
        by_cases c16 : 16 < t2.size
        · have c16z : (16 : Int) < (t2.size : Int) := by omega
          have s8z : (8 : Int) ≤ (t2.size : Int) := by omega
          have v2b := v2.drop 8
          obtain ⟨t2b, ht2b⟩ : ∃ t2b, t2.extract 8 t2.size = t2b := ⟨_, rfl⟩
          have z2b : t2b.size + 8 = t2.size := by rw [← ht2b, Lib.ext_size]; omega
          rw [ht2b] at v2b
          obtain ⟨A2, lA2, mA2, cW2⟩ := ascWord t2 (by omega) v2
          obtain ⟨A3, lA3, mA3, cW3⟩ := ascWord t2b (by omega) v2b
          have hor2 : bits .or .u64 (A2 : Int) (A3 : Int) = ((A2 ||| A3 : Nat) : Int) := u64_or_nat A2 A3 lA2 lA3
          have lor2 : A2 ||| A3 < 18446744073709551616 := Nat.or_lt_two_pow (n := 64) lA2 lA3
          obtain ⟨Z2, hZ2⟩ : ∃ Z2 : Nat, Z2 = 0 := ⟨0, rfl⟩
          have hz2b : ((Z2 : Int) == 0) = true := by rw [hZ2]; rfl
          have hand2 : bits .and .u64 ((A2 ||| A3 : Nat) : Int) 9259542123273814144 = (Z2 : Int) := by
            rw [hZ2]; exact (u64_and_nat _ 9259542123273814144 lor2 (by omega)).trans (congrArg Int.ofNat ((Lib.or_mask A2 A3 _).2 ⟨mA2, mA3⟩))
          obtain ⟨O2, hO2⟩ : ∃ O2, A2 ||| A3 = O2 := ⟨_, rfl⟩
          rw [hO2] at hor2 hand2
          have v3 := v2.drop 16
          obtain ⟨t3, ht3⟩ : ∃ t3, t2.extract 16 t2.size = t3 := ⟨_, rfl⟩
          have z3 : t3.size + 16 = t2.size := by rw [← ht3, Lib.ext_size]; omega
          rw [ht3] at v3
          clear lor2 hO2 v2 v2b mA2 mA3
          go_big_quiet_o (first | (go_at_call 144; with_reducible refine Calls.quiet_of (cW2 _)) | (go_at_call 144; with_reducible refine Calls.quiet_of (cW3 _)))
          have hb2 : Below w.heap.size w (wq.drewN nq) := belowN hb1 nq
          generalize wq.drewN nq = wq2 at hb2 ⊢
          clear cW2 cW3 hb1
          go_wp2_with fail
          go_loopg [0] (t3.size + 1) (fun g2 s0 wx => Below w.heap.size w wx ∧ ∃ u : ByteArray, s0 = .string u ∧ AscAll u ∧ u.size < g2 ∧ u.size ≤ t3.size)
          case atStart => exact ⟨hb2, t3, rfl, v3, by omega, Nat.le_refl _⟩
          case round =>
            obtain ⟨hbu, u, rfl, vu, hgu, hut⟩ := hrel
            by_cases c32 : 32 < u.size
            · obtain ⟨g3, rfl⟩ : ∃ g3, gk = g3 + 1 := ⟨gk - 1, by omega⟩
              have c32z : (32 : Int) < (u.size : Int) := by omega
              have s8u : (8 : Int) ≤ (u.size : Int) := by omega
              have s16u : (16 : Int) ≤ (u.size : Int) := by omega
              have s24u : (24 : Int) ≤ (u.size : Int) := by omega
              have vb := vu.drop 8
              have vc := vu.drop 16
              have vd := vu.drop 24
              have ve := vu.drop 32
              obtain ⟨ub, hub⟩ : ∃ ub, u.extract 8 u.size = ub := ⟨_, rfl⟩
              have zub : ub.size + 8 = u.size := by rw [← hub, Lib.ext_size]; omega
              obtain ⟨uc, huc⟩ : ∃ uc, u.extract 16 u.size = uc := ⟨_, rfl⟩
              have zuc : uc.size + 16 = u.size := by rw [← huc, Lib.ext_size]; omega
              obtain ⟨ud, hud⟩ : ∃ ud, u.extract 24 u.size = ud := ⟨_, rfl⟩
              have zud : ud.size + 24 = u.size := by rw [← hud, Lib.ext_size]; omega
              obtain ⟨u2, hu2⟩ : ∃ u2, u.extract 32 u.size = u2 := ⟨_, rfl⟩
              have zu2 : u2.size + 32 = u.size := by rw [← hu2, Lib.ext_size]; omega
              rw [hub] at vb
              rw [huc] at vc
              rw [hud] at vd
              rw [hu2] at ve
              obtain ⟨B0, lB0, mB0, cB0⟩ := ascWord u (by omega) vu
              obtain ⟨B1, lB1, mB1, cB1⟩ := ascWord ub (by omega) vb
              obtain ⟨B2, lB2, mB2, cB2⟩ := ascWord uc (by omega) vc
              obtain ⟨B3, lB3, mB3, cB3⟩ := ascWord ud (by omega) vd
              have ho1 : bits .or .u64 (B0 : Int) (B1 : Int) = ((B0 ||| B1 : Nat) : Int) := u64_or_nat B0 B1 lB0 lB1
              have ho2 : bits .or .u64 (B2 : Int) (B3 : Int) = ((B2 ||| B3 : Nat) : Int) := u64_or_nat B2 B3 lB2 lB3
              have lo1 : B0 ||| B1 < 18446744073709551616 := Nat.or_lt_two_pow (n := 64) lB0 lB1
              have lo2 : B2 ||| B3 < 18446744073709551616 := Nat.or_lt_two_pow (n := 64) lB2 lB3
              have mo1 := (Lib.or_mask B0 B1 _).2 ⟨mB0, mB1⟩
              have mo2 := (Lib.or_mask B2 B3 _).2 ⟨mB2, mB3⟩
              obtain ⟨P1, hP1⟩ : ∃ P1, B0 ||| B1 = P1 := ⟨_, rfl⟩
              obtain ⟨P2, hP2⟩ : ∃ P2, B2 ||| B3 = P2 := ⟨_, rfl⟩
              rw [hP1] at ho1 lo1 mo1
              rw [hP2] at ho2 lo2 mo2
              have ho3 : bits .or .u64 (P1 : Int) (P2 : Int) = ((P1 ||| P2 : Nat) : Int) := u64_or_nat _ _ lo1 lo2
              have lo3 : P1 ||| P2 < 18446744073709551616 := Nat.or_lt_two_pow (n := 64) lo1 lo2
              have mo3 := (Lib.or_mask P1 P2 _).2 ⟨mo1, mo2⟩
              obtain ⟨P3, hP3⟩ : ∃ P3, P1 ||| P2 = P3 := ⟨_, rfl⟩
              rw [hP3] at ho3 lo3 mo3
              obtain ⟨Z3, hZ3⟩ : ∃ Z3 : Nat, Z3 = 0 := ⟨0, rfl⟩
              have hz3b : ((Z3 : Int) == 0) = true := by rw [hZ3]; rfl
              have hand3 : bits .and .u64 (P3 : Int) 9259542123273814144 = (Z3 : Int) := by rw [hZ3]; exact (u64_and_nat _ 9259542123273814144 lo3 (by omega)).trans (congrArg Int.ofNat mo3)
              clear vu vb vc vd lo1 lo2 lo3 mo1 mo2 mo3 hP1 hP2 hP3 mB0 mB1 mB2 mB3
              go_wp2_with fail
              go_big_quiet_o (first | (go_at_call 144; with_reducible refine Calls.quiet_of (cB0 _)) | (go_at_call 144; with_reducible refine Calls.quiet_of (cB1 _)) | (go_at_call 144; with_reducible refine Calls.quiet_of (cB2 _)) | (go_at_call 144; with_reducible refine Calls.quiet_of (cB3 _)))
              go_wp2_with fail
              go_roundg g3
              case measure => omega
              case rel => exact ⟨belowN hbu nq, u2, rfl, ve, by omega, by omega⟩
            · have c32z : ¬ ((32 : Int) < (u.size : Int)) := by omega
              have c32b : decide ((32 : Int) < (u.size : Int)) = false := decide_eq_false c32z
              go_wp2_with fail
              go_big_quiet_o (fail)
              go_wp2_with fail
              go_roundg g'
              case measure => omega
              case rel => exact ⟨belowN hbu nq, u, rfl, vu, by omega, by omega⟩
        · have c16z : ¬ ((16 : Int) < (t2.size : Int)) := by omega
          have c16b : decide ((16 : Int) < (t2.size : Int)) = false := decide_eq_false c16z
          go_big_quiet_o (fail)
          go_wp2_with fail
          go_roundg g'
          case measure => omega
          case rel => exact ⟨belowN hb1 nq, t2, rfl, v2, by omega, by omega⟩
      · have c8z : ¬ ((8 : Int) < (t1.size : Int)) := by omega
        go_wp2_with fail
        go_roundg g'
        case measure => omega
        case rel => exact ⟨hbw, t1, rfl, v1, by omega, by omega⟩
    · have h0z : ¬ (0 : Int) < (t.size : Int) := by omega
      go_wp2_with fail
      go_ret
      exact ⟨rfl, hbw⟩

set_option maxHeartbeats 400000 in
theorem ascRepair (s : List UInt8) (w : World) (hs : s.length ≤ 1000000) (hA : ∀ b ∈ s, b.toNat < 128) :
    Calls Tryz.prog 65 #[.string ⟨s.toArray⟩] w fun e w' => e = .returned (.string ⟨s.toArray⟩) ∧ Below w.heap.size w w' := by
  have hv := Lib.hid (ascValid ⟨s.toArray⟩ w (by rw [bytes_size]; omega) (fun b hb => hA b (by rw [bytes_toList] at hb; exact hb)))
  go_enter Tryz.func65, Tryz.ntmps65
  go_wp2_with (go_at_call 107; refine hv.out.mono ?_)
  rintro e w1 ⟨rfl, b1⟩
  go_wp2_with fail
  go_ret
  exact ⟨rfl, b1⟩

end Y
end Go.Proofs.YtafkeolpadfjfaaGreatDoor

namespace Go.Proofs.YtafkeolpadfjfaaGreatDoor
open Go.ChangeShapes Go.WideShapes Go.ChangeAt Go.RowKit Go.Shelf
namespace Y
open H

theorem bytes_mk (s : ByteArray) : s = ⟨s.data.toList.toArray⟩ := by cases s; simp
theorem u64_of (g : Nat) {W : World} {n : String} {d : DataW Unit} (hr : Lib.VarReads Tryz.prog W n d) (hgn : Tryz.prog.globalNamed n = some g) : g < W.heap.size := by
  obtain ⟨g', t, cs, fuel, p, hg, hty, hv, hd⟩ := hr
  obtain rfl := Option.some.inj (hgn.symm.trans hg)
  unfold World.var? at hv
  rw [hgn] at hv
  simp only [Option.bind_some] at hv
  rcases Nat.lt_or_ge g W.heap.size with h' | h'
  · exact h'
  · rw [Array.getElem?_eq_none h'] at hv; simp at hv

theorem asc_of {W : World} (hr : Lib.VarReads Tryz.prog W "strings.asciiSpace" (Rows.laid_strings_asciiSpace : DataW Unit)) : Asc W := by
  have e : (Rows.laid_strings_asciiSpace : DataW Unit) = Lib.tabData .u8 Lib.asciiSpaceTab := by kernel_rfl
  obtain ⟨g, t, cs, fuel, p, hg, hty, hv, hd⟩ := hr
  rw [e] at hd
  have hgn : Tryz.prog.globalNamed "strings.asciiSpace" = some 1 := by kernel_rfl
  obtain rfl := Option.some.inj (hgn.symm.trans hg)
  have hty' : (Tryz.prog.globals[1]?).map (·.type) = some 158 := by kernel_rfl
  obtain rfl := Option.some.inj (hty'.symm.trans hty)
  have := Lib.cells_of_tab (P := Tryz.prog) (n := 256) Tryz.underlying158 Tryz.underlying5 (by kernel_rfl) (by kernel_rfl) hd
  unfold Asc Lib.TabIs
  rw [hv, ← this]

theorem pow_of {W : World} (hr : Lib.VarReads Tryz.prog W "internal/strconv.uint64pow10" (Rows.laid_internal_strconv_uint64pow10 : DataW Unit)) : Pow W := by
  have e : (Rows.laid_internal_strconv_uint64pow10 : DataW Unit) = Lib.tabData .u64 Lib.pow10Tab := by kernel_rfl
  obtain ⟨g, t, cs, fuel, p, hg, hty, hv, hd⟩ := hr
  rw [e] at hd
  have hgn : Tryz.prog.globalNamed "internal/strconv.uint64pow10" = some 7 := by kernel_rfl
  obtain rfl := Option.some.inj (hgn.symm.trans hg)
  have hty' : (Tryz.prog.globals[7]?).map (·.type) = some 232 := by kernel_rfl
  obtain rfl := Option.some.inj (hty'.symm.trans hty)
  have := Lib.cells_of_tab (P := Tryz.prog) (n := 20) Tryz.underlying232 Tryz.underlying198 (by kernel_rfl) (by kernel_rfl) hd
  unfold Pow Lib.TabIs
  rw [hv, ← this]

theorem utf_of {W : World} (r1 : Lib.VarReads Tryz.prog W "unicode/utf8.first" (Rows.laid_unicode_utf8_first : DataW Unit)) (r2 : Lib.VarReads Tryz.prog W "unicode/utf8.acceptRanges" (Rows.laid_unicode_utf8_acceptRanges : DataW Unit)) : Lib.Utf8Tabs 3 4 W := by
  have e1 : Rows.laid_unicode_utf8_first = Lib.firstData := by kernel_rfl
  have e2 : (Rows.laid_unicode_utf8_acceptRanges : DataW Unit) = Lib.acceptData := by kernel_rfl
  rw [e1] at r1
  rw [e2] at r2
  exact utf8Tabs_of_readsT (U8Types.of196 Tryz.lays196) ⟨by kernel_rfl, by kernel_rfl, by kernel_rfl, by kernel_rfl, by kernel_rfl, by kernel_rfl, by kernel_rfl⟩ r1 r2

set_option maxRecDepth 100000 in
theorem tab_of {W : World} (hr : Lib.VarReads Tryz.prog W "knapsack/style.table" (Rows.laid_knapsack_style_table : DataW Unit)) : W.rangeAt 0 0 tcs := by
  have e : (Rows.laid_knapsack_style_table : DataW Unit) = .agg (S.tab.map fun r => .agg [.lit (.string r.1), .lit (.int .i64 r.2.1), .lit (.string (joinW r.2.2))]) := by kernel_rfl
  obtain ⟨g, t, cs, fuel, p, hg, hty, hv, hd⟩ := hr
  rw [e] at hd
  have hgn : Tryz.prog.globalNamed "knapsack/style.table" = some 0 := by kernel_rfl
  obtain rfl := Option.some.inj (hgn.symm.trans hg)
  have hty' : (Tryz.prog.globals[0]?).map (·.type) = some 72 := by kernel_rfl
  obtain rfl := Option.some.inj (hty'.symm.trans hty)
  obtain ⟨xs, m, rfl, hx, hcl, hxl, hf⟩ := DataW.trod_array Tryz.underlying72 hd
  have hc3 : Tryz.prog.cellsOf 71 = 3 := by kernel_rfl
  have hc1 : Tryz.prog.cellsOf 9 = 1 := by kernel_rfl
  have hci : Tryz.prog.cellsOf 3 = 1 := by kernel_rfl
  rw [hc3] at hf
  have hxs : xs.map (·.1) = S.tab.map fun r => (.agg [.lit (.string r.1), .lit (.int .i64 r.2.1), .lit (.string (joinW r.2.2))] : DataW Unit) := by
    have := congrArg Prod.fst hx
    simpa using this.symm
  have hcell : ∀ i, i < 37 → cs.toList[i * 3]? = some (.string ⟨(trow i).1.toArray⟩) ∧ cs.toList[i * 3 + 1]? = some (.int .i64 ((trow i).2.1 : Nat)) ∧ cs.toList[i * 3 + 2]? = some (.string ⟨(joinW (trow i).2.2).toArray⟩) := by
    intro i hi
    have hxi : i < xs.length := by omega
    have h1 := hf i hi
    rw [List.getElem?_eq_getElem hxi] at h1
    obtain ⟨y0, y1, y2, n, hy, _, hy0, hy1, hy2⟩ := Go.Deep.trod_struct3 Tryz.underlying71 h1
    have h2 : (xs.map (·.1))[i]? = some (xs[i].1) := by simp [hxi]
    have hti := trow_at i hi
    rw [hxs, List.getElem?_map, hti] at h2
    generalize trow i = tr at *
    have h3 := Option.some.inj h2
    rw [hy] at h3
    injection h3 with h3
    injection h3 with g0 h3
    injection h3 with g1 h3
    injection h3 with g2 _
    obtain ⟨s0, hs0, hz0, _⟩ := DataW.trod_string Tryz.underlying9 hy0
    obtain ⟨s1, hs1, hz1, _⟩ := DataW.trod_int Tryz.underlying3 hy1
    obtain ⟨s2, hs2, hz2, _⟩ := DataW.trod_string Tryz.underlying9 hy2
    rw [hz0] at g0
    rw [hz1] at g1
    rw [hz2] at g2
    have q0 : s0.data.toList = tr.1 := by injection g0 with g0; injection g0 with g0; exact g0.symm
    have q1 : s1 = (tr.2.1 : Int) := by injection g1 with g1; injection g1 with g1 g2; exact g2.symm
    have q2 : s2.data.toList = joinW tr.2.2 := by injection g2 with g2; injection g2 with g2; exact g2.symm
    have b0 : (⟨tr.1.toArray⟩ : ByteArray) = s0 := by rw [← q0]
    have b2 : (⟨(joinW tr.2.2).toArray⟩ : ByteArray) = s2 := by rw [← q2]
    rw [b0, b2, ← q1]
    dsimp only at hs0 hs1 hs2
    rw [hc1] at hs0 hs2
    rw [hci] at hs1
    have u0 := congrArg (fun l : List Value => l[0]?) hs0
    have u1 := congrArg (fun l : List Value => l[0]?) hs1
    have u2 := congrArg (fun l : List Value => l[0]?) hs2
    simp [List.getElem?_take, List.getElem?_drop] at u0 u1 u2
    simp
    exact ⟨u0, u1, u2⟩
  have hcW : ∀ j, W.cell? ⟨0, j, none⟩ = cs.toList[j]? := fun j => by
    have := World.var?_cell hgn hv j
    simpa using this
  intro j v hj
  rw [Nat.zero_add, hcW]
  have hjl : j < 111 := by
    have := (List.getElem?_eq_some_iff.1 hj).1
    rw [tcs_len] at this; exact this
  obtain ⟨c0, c1, c2⟩ := hcell (j / 3) (by omega)
  have hfl := flat_at (f := rcells) (size := 3) (fun _ => rfl) S.tab (j / 3) (by rw [tab_len]; omega) (j % 3) (by omega)
  rw [show j / 3 * 3 + j % 3 = j by omega] at hfl
  have hti := trow_at (j / 3) (by omega)
  rw [List.getElem?_eq_getElem (by rw [tab_len]; omega)] at hti
  rw [Option.some.inj hti] at hfl
  rw [show S.tab.flatMap rcells = tcs from rfl, hj] at hfl
  rw [hfl]
  have hm : j % 3 = 0 ∨ j % 3 = 1 ∨ j % 3 = 2 := by omega
  rcases hm with h | h | h
  · rw [h]; rw [show j = j / 3 * 3 by omega, c0]
    rw [show j / 3 * 3 / 3 = j / 3 by omega]; rfl
  · rw [h]; rw [show j = j / 3 * 3 + 1 by omega, c1]
    rw [show (j / 3 * 3 + 1) / 3 = j / 3 by omega]; rfl
  · rw [h]; rw [show j = j / 3 * 3 + 2 by omega, c2]
    rw [show (j / 3 * 3 + 2) / 3 = j / 3 by omega]; rfl

theorem yenv_of {W : World} (r1 : Lib.VarReads Tryz.prog W "strings.asciiSpace" (Rows.laid_strings_asciiSpace : DataW Unit)) (r2 : Lib.VarReads Tryz.prog W "knapsack/style.table" (Rows.laid_knapsack_style_table : DataW Unit)) : YEnv W :=
  ⟨asc_of r1, tab_of r2, u64_of _ r1 (by kernel_rfl), u64_of _ r2 (by kernel_rfl)⟩

theorem max_of {w : World} (h : w.ShapedOpen Tryz.prog) : HasMax w := by
  obtain ⟨m, hm⟩ := cell_of_shapedOpen_int (zero := #[.int .i64 0]) (t := 3) (g := 6) (k := .i64) h (of_decide_eq_true (by kernel_rfl)) (by kernel_rfl) rfl (by kernel_rfl) (by kernel_rfl) Tryz.underlying3
  refine ⟨⟨m, hm⟩, ?_⟩
  rcases Nat.lt_or_ge 6 w.heap.size with h' | h'
  · exact h'
  · simp [World.cell?, Array.getElem?_eq_none h'] at hm

/-- The cells of a table of numbers. -/
def litCells (d : DataW Unit) : Array Value := match d with
  | .agg l => (l.filterMap fun | .lit (.int k z) => some (Value.int k z) | _ => none).toArray
  | _ => #[]

/-- A world for the witness: the settled one, the tables holding what their texts lay. -/
noncomputable def laidWorld (os : Os) : World :=
  let w0 := World.settled Tryz.prog os
  let put (h : Array Obj) (g : Nat) (cs : Array Value) : Array Obj := h.modify g fun
    | .cells _ t frozen => .cells cs t frozen
    | o => o
  let h1 := put w0.heap 3 (Lib.firstTab.map fun z => Value.int .u8 z).toArray
  let h2 := put h1 4 ((List.range 16).flatMap fun i => [Value.int .u8 (Lib.accLo i), Value.int .u8 (Lib.accHi i)]).toArray
  let h3 := put h2 7 (Lib.pow10Tab.map fun z => Value.int .u64 z).toArray
  let h4 := put h3 1 (Lib.asciiSpaceTab.map fun z => Value.int .u8 z).toArray
  let h5 := put h4 0 tcs.toArray
  let h7 := put h5 10 (litCells Rows.laid_math_bits_deBruijn32tab)
  let h8 := put h7 11 (litCells Rows.laid_math_bits_deBruijn64tab)
  { w0 with heap := h8 }

end Y
end Go.Proofs.YtafkeolpadfjfaaGreatDoor

namespace Go.Proofs.YtafkeolpadfjfaaGreatDoor
open Go.ChangeShapes Go.WideShapes Go.ChangeAt Go.RowKit Go.Shelf
namespace Y
open H

theorem weights_all {H : Type} {P : Program} {e : TypeId} : ∀ {l : List (DataW H)} {d : DataW H}, d ∈ l → ∀ n ∈ d.weights P e, n ∈ DataW.weightsAll P e l
  | d0 :: r, d, h, n, hn => by
    simp only [DataW.weightsAll, List.mem_append]
    rcases List.mem_cons.1 h with rfl | h
    · exact Or.inl hn
    · exact Or.inr (weights_all h n hn)

/-- A slice of strings that came in, and how long each is. -/
theorem open_strs {H : Type} {enc : TypeId × Value → H} {W : World} {ao : Option Addr} {len cap : Nat} {d : DataW H} {p : List MemPlace}
    (h : ∃ fuel, DataW.trod enc Tryz.prog W 0 (fun _ => true) true fuel 29 (Value.slice ao len cap).cells.toList = some (d, p)) (hlt : ∀ x ∈ p, x.block < W.heap.size)
    (hs : (d.weights Tryz.prog 29).all (· ≤ reachBytes) = true) :
    ∃ S : Nat → List UInt8, len ≤ 9223372036854775807 ∧ StrArg W ao len S := by
  obtain ⟨fuel, hf⟩ := h
  rcases open_strings Tryz.underlying29 Tryz.underlying9 (by kernel_rfl) hf with ⟨hcs, hx⟩ | ⟨a, len', cap', ss, hcs, _, hl, hm, hz, hx, hcell, hws⟩
  · simp [Value.cells] at hcs
    obtain ⟨rfl, rfl, rfl⟩ := hcs
    exact ⟨fun _ => [], by omega, fun h => by omega⟩
  · simp [Value.cells] at hcs
    obtain ⟨rfl, rfl, rfl⟩ := hcs
    simp only [Prod.mk.injEq] at hx
    obtain ⟨rfl, rfl⟩ := hx
    simp only [if_true] at hz
    unfold maxLen at hm
    refine ⟨fun j => (ss.getD j ByteArray.empty).data.toList, by omega, fun hpos => ?_⟩
    obtain ⟨b, off, spot⟩ := a
    have hspot : spot = none := by simpa [Addr.add] using World.cell?_spot (hcell 0 (by omega))
    subst hspot
    have hbW : b < W.heap.size := hlt (.cell b off) (MemPlace.mem_row.2 ⟨0, by omega, by simp⟩)
    refine ⟨b, off, rfl, hbW, fun j hj => ⟨?_, ?_⟩⟩
    · have h1 := hcell j (by omega)
      rw [show (Addr.add ⟨b, off, none⟩ j) = ⟨b, off + j, none⟩ by simp [Addr.add]] at h1
      rw [h1]
    · have hmem : (.lit (.string (ss.getD j ByteArray.empty).data.toList) : DataW H) ∈ ChangeShapes.strs (H := H) (ss.take len) := by
        unfold ChangeShapes.strs
        rw [List.mem_map]
        refine ⟨ss.getD j ByteArray.empty, ?_, rfl⟩
        have hj' : j < (ss.take len).length := by rw [List.length_take]; omega
        have : (ss.take len)[j] = ss.getD j ByteArray.empty := by
          rw [List.getElem_take]; simp [List.getD, (by omega : j < ss.length)]
        rw [← this]
        exact List.getElem_mem hj'
      have hw : (ss.getD j ByteArray.empty).data.toList.length ∈ (DataW.slice (ChangeShapes.strs (H := H) (ss.take len)) (ChangeShapes.strs (ss.drop len))).weights Tryz.prog 29 := by
        simp only [DataW.weights, Tryz.underlying29, List.mem_cons, List.mem_append]
        exact Or.inr (Or.inl (weights_all hmem _ (by simp [DataW.weights])))
      have := List.all_eq_true.1 hs _ hw
      simpa [reachBytes] using this


theorem red_ok : Repairs redText redText := fun w => ascRepair redText w (by decide) (by decide)

theorem sidesC (z : Int) (ao : Option Addr) (len cap : Nat) (SS : Nat → List UInt8) (imp : Bool) (W : World) (w0 : (Lit.int .u8 z).wf = true) (l1 : len ≤ 9223372036854775807) (w1 : StrArg W ao len SS) (hL : laidMetH Tryz.prog Rows.styleSidesRow.laid W) (hsh : W.ShapedOpen Tryz.prog) :
    Calls Tryz.prog 4 #[.int .u8 z, .slice ao len cap, .bool imp] W (TruePost W) := by
  have r3 := Lib.laidMet.reads hL (.tail _ (.tail _ (.head _)))
  have r4 := Lib.laidMet.reads hL (.tail _ (.tail _ (.tail _ (.head _))))
  simp only [Lit.wf, Bool.and_eq_true, decide_eq_true_eq] at w0
  have e1 : IntKind.u8.min = 0 := rfl
  have e2 : IntKind.u8.max = 255 := rfl
  rw [e1, e2] at w0
  obtain ⟨kd, rfl⟩ : ∃ kd : Nat, z = kd := ⟨z.toNat, by omega⟩
  exact StyleSides kd ao len cap SS imp W (by omega) l1 w1 red_ok (fun s hs hc W2 => ascRepair s W2 (by omega) hc) (max_of hsh) (yenv_of r3 r4)

end Y
end Go.Proofs.YtafkeolpadfjfaaGreatDoor

namespace Go.Proofs.YtafkeolpadfjfaaGreatDoor.styleSides
open Go.ChangeShapes Go.WideShapes Go.ChangeAt Go.RowKit Go.Shelf
open Go.ChangeMaps (open_string shut_string)

theorem own : ownKnob Tryz.prog.godebug = none := by kernel_rfl
theorem laidOut : laidOutB Tryz.prog = true := by kernel_rfl

open Y (laidWorld)

theorem laid_met (os : Os) (args : Array Value) : laidMet Tryz.prog Rows.styleSidesRow.laid ((laidWorld os).forCall (fun _ _ => 0) ⟨#[], args, []⟩).memory :=
  (LaidIn.of_run (l := Rows.styleSidesRow.laid) [1, 0, 10, 11] 10 (by kernel_rfl) (by kernel_rfl) (by kernel_rfl) (by kernel_rfl)).met

theorem reads (os : Os) {H : Type} (enc : TypeId × Value → H) : ∃ places, DataW.whole enc Tryz.prog ((laidWorld os).forCall (fun _ _ => 0) ⟨#[], #[.int .u8 0, .slice none 0 0, .bool false], []⟩).memory Tryz.f4.params.toList Rows.styleSidesSpec.vars false #[(.int .u8 0 : Value), (.slice none 0 0 : Value), (.bool false : Value)].toList 8 = some ([.lit (.int .u8 0), .nil, .lit (.bool false)], [], places) :=
  ⟨[], by kernel_rfl⟩

set_option maxHeartbeats 2000000 in
set_option maxRecDepth 100000 in
theorem contract (H : Type) (enc : TypeId × Value → H) (W : World) (base : Nat) (args : Array Value) (ds gs : List (DataW H)) (before : List MemPlace)
    (hval : ∀ (j : Nat) t v, Tryz.f4.params[j]? = some t → args[j]? = some v → Value.okWide Tryz.prog W .any base t v)
    (hW : DataW.Whole enc Tryz.prog Tryz.f4.params.toList Rows.styleSidesSpec.vars false W args.toList ds gs before) (hL : laidMetH Tryz.prog Rows.styleSidesRow.laid W) (hsh : W.ShapedOpen Tryz.prog) (hsz : (DataW.weightsEach Tryz.prog (Tryz.f4.params.toList ++ (OpenSpec.ofChange Rows.styleSidesSpec).bare.plain.varTypes Tryz.prog) (ds ++ gs)).all (· ≤ reachBytes) = true) :
    Calls Tryz.prog 4 args W fun e W' => ∃ v, e = .returned v ∧ Rows.styleSidesSpec.post enc Tryz.prog Tryz.f4 false true false false W args v W' := by
  have hW' := hW
  obtain ⟨p, q, hA0, hV, rfl, hfz, hnd⟩ := hW
  have hA : DataW.TrodAll enc Tryz.prog W 0 (fun _ => true) true Tryz.f4.params.toList args.toList ds p := hA0
  rw [Tryz.params4] at hA hval
  obtain ⟨v0, vs0, d0, ds0, p0, q0, hargs, rfl, rfl, h0, r0⟩ := trodAll_cons hA
  obtain ⟨v1, vs1, d1, ds1, p1, q1, rfl, rfl, rfl, h1, r1⟩ := trodAll_cons r0
  obtain ⟨v2, vs2, d2, ds2, p2, q2, rfl, rfl, rfl, h2, r2⟩ := trodAll_cons r1
  obtain ⟨rfl, rfl, rfl⟩ := trodAll_nil r2
  obtain rfl : args = #[v0, v1, v2] := by cases args; simp_all
  obtain ⟨rfl, rfl⟩ := trodVars_none hV
  obtain ⟨a0, rfl, rfl, rfl, w0⟩ := open_int Tryz.underlying5 (hval 0 5 v0 rfl rfl) h0
  obtain ⟨a1, len1, cap1, rfl⟩ := okWide_slice Tryz.underlying29 (hval 1 29 v1 rfl rfl)
  have k1 := h1
  have lt1 : ∀ x ∈ p1, x.block < W.heap.size := by obtain ⟨m, hm⟩ := k1; exact DataW.trod_lt m _ _ _ hm
  have z1 : (d1.weights Tryz.prog 29).all (· ≤ reachBytes) = true := List.all_eq_true.2 fun n hn => List.all_eq_true.1 hsz n (DataW.weights_mem_each (j := 1) (by rw [Tryz.params4]; rfl) rfl n hn)
  obtain ⟨ss1, l1, w1⟩ := Y.open_strs h1 lt1 z1
  obtain ⟨a2, rfl, rfl, rfl⟩ := open_bool Tryz.underlying4 (hval 2 4 v2 rfl rfl) h2
  clear hA0
  have hq := Y.sidesC a0 a1 len1 cap1 ss1 a2 W w0 l1 w1 hL hsh
  refine hq.mono fun e W' ⟨he, bel⟩ => ?_
  subst he
  exact ⟨_, rfl, _, _, _, [], _, [], hW', trodAll_mk1 (shut_bool Tryz.underlying4 _), (trodAll_cons_mk (shut_int Tryz.underlying5 w0) (trodAll_cons_mk (Below.trod laidOut (by kernel_rfl) (of_decide_eq_true (by kernel_rfl)) k1 bel lt1) (trodAll_cons_mk (shut_bool Tryz.underlying4 a2) trodAll_mk0))), rfl, bel.frame _, fun h => by cases h⟩

set_option maxRecDepth 100000 in
theorem lifted (os : Os) (started : os.Started) (H : Type) (enc : TypeId × Value → H) (F : Stop.Interp) :
    ReturnsInHanded {} Tryz.checked os 4 .any ((OpenSpec.ofChange Rows.styleSidesSpec).preRow enc Tryz.prog Tryz.f4 Rows.styleSidesRow.domain false Rows.styleSidesRow.laid) (((OpenSpec.ofChange Rows.styleSidesSpec).at F).post enc Tryz.prog Tryz.f4 false true false false) := by
  obtain ⟨places, hx⟩ := reads os enc
  refine returnsInHanded_of_row (C := Tryz.checked) (s := OpenSpec.ofChange Rows.styleSidesSpec) own started (by kernel_rfl) Tryz.func4
    (witness_row_atRef (enc := enc) (C := Tryz.checked) false (laidWorld os) #[.int .u8 0, .slice none 0 0, .bool false] rfl (by kernel_rfl) (by kernel_rfl) (by kernel_rfl)
      (OpenSpec.preRow_of_cond 8 hx (by kernel_rfl) (fun k hk => by cases hk) (by kernel_rfl) (laid_met os _))) ?_
  intro W base args ds gs before hval hW _ _ hsz hL hX1 hX2
  exact contract H enc W base args ds gs before hval hW hL hX1 hsz

theorem said : Rows.StyleSidesSaid :=
  OpenClaim.holds_of_cond 4 Tryz.f4 rfl rfl rfl rfl rfl rfl rfl ⟨rfl, rfl, rfl, rfl, rfl⟩ rfl rfl rfl rfl rfl (by kernel_rfl) Tryz.func4 (by kernel_rfl)
    (of_decide_eq_true (by kernel_rfl)) (by unfold Func.isWrapper; first | (rw [if_pos (by decide +kernel)]; kernel_rfl) | (rw [if_neg (by decide +kernel)]; exact ⟨rfl, rfl⟩))
    (fun os started H enc _ F => by rw [OpenClaim.pre_eq_preRow]; exact lifted os started H enc F)

theorem plain (f : FuncId) (fn : Func) (hf : Tryz.pinned.checked.prog.funcNamed Tryz.f4.name = some f) (hfn : Tryz.pinned.checked.prog.funcs[f]? = some fn) :
    true = Tryz.pinned.checked.prog.looks [] ∧ ∀ (j : Nat) t, fn.params[j]? = some t → Tryz.pinned.checked.prog.wantsStandIn t = false := by
  obtain rfl : f = 4 := Option.some.inj ((show Tryz.prog.funcNamed Tryz.f4.name = some 4 by kernel_rfl).symm.trans hf) |>.symm
  obtain rfl : fn = Tryz.f4 := (Option.some.inj (Tryz.func4.symm.trans hfn)).symm
  refine ⟨by kernel_rfl, fun j t ht => ?_⟩
  rw [Tryz.params4] at ht
  have hm := Array.mem_of_getElem? ht
  have ho : t = 5 ∨ t = 29 ∨ t = 4 := by simpa using hm
  rcases ho with rfl | rfl | rfl
  · exact (show Tryz.prog.wantsStandIn 5 = false by kernel_rfl)
  · exact (show Tryz.prog.wantsStandIn 29 = false by kernel_rfl)
  · exact (show Tryz.prog.wantsStandIn 4 = false by kernel_rfl)

/-- The card. -/
theorem card : Rows.StyleSidesCardSaid :=
  Claim7.holds_tied_plain_at .later [] _ _ _ _ said (fun _ h => by cases h) (by kernel_rfl) (fun _ h => by cases h) styleSides_row_tie rfl ⟨rfl, rfl⟩ (by kernel_rfl) rfl plain (by kernel_rfl)
#print axioms card
end Go.Proofs.YtafkeolpadfjfaaGreatDoor.styleSides
