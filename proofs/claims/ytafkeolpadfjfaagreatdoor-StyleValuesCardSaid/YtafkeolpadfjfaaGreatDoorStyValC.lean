/- What Properties comes to. The law StyleValues. The law StyleValues at any input that reads as data. -/
import Derived.Test.YtafkeolpadfjfaaGreatDoorSty28
import Derived.Test.YtafkeolpadfjfaaGreatDoorSty22
import Derived.Test.YtafkeolpadfjfaaGreatDoorPts
import Derived.Test.YtafkeolpadfjfaaGreatDoorAsc25
import Derived.Test.YtafkeolpadfjfaaGreatDoorStyEnv
set_option linter.unusedVariables false
set_option linter.unusedSimpArgs false
namespace Go.Proofs.YtafkeolpadfjfaaGreatDoor
open Go.RowKit
namespace Y
open H

def propNames : List (List UInt8) := S.tab.map (·.1)
theorem props_take (k : Nat) (hk : k < 37) : propNames.take (k + 1) = propNames.take k ++ [(trow k).1] := by
  have h1 := trow_at k hk
  unfold propNames
  rw [List.take_add_one, List.getElem?_map, h1]
  rfl
theorem props_len : propNames.length = 37 := by unfold propNames; rw [List.length_map, tab_len]

set_option maxHeartbeats 16000000 in
set_option maxRecDepth 100000 in
theorem properties (w : World) (hE : YEnv w) :
    Calls Tryz.prog 20 #[] w fun e w' => ∃ v, e = .returned v ∧ w'.ownsRow w.heap.size 9 1 v 37 (sCells propNames) ∧ Below w.heap.size w w' := by
  have HE := Lib.hid hE
  clear hE
  obtain ⟨i0, hi0, hz0, hz1, hz2⟩ := info_parts T.infoString
  go_enter Tryz.func20, Tryz.ntmps20
  go_upto_region 2 with fail
  refine wp_region_list ?_
  refine wpList_load_mid rfl 72 _ rfl 0 0 rfl tcs _ HE.out.tab undTab rfl (by rw [infoTab, tcs_len]) ?_
  clear HE
  have HO0 : Hid (w.ownsRow w.heap.size 9 1 (.slice none 0 0) 0 (sCells (propNames.take 0))) := Lib.hid (World.ownsRow_nil _ _ _ _)
  have HU0 := Lib.hid (Below.refl w.heap.size w)
  go_wp2_with fail
  go_loopw [1, 5] (fun v1 v5 wr => ∃ k : Nat, v5 = .int .i64 k ∧ k ≤ 37 ∧ Hid (wr.ownsRow w.heap.size 9 1 v1 k (sCells (propNames.take k))) ∧ Hid (Below w.heap.size w wr)) (fun _ v5 _ => 37 - (intOf v5).toNat)
  case atStart => exact ⟨0, rfl, by omega, HO0, HU0⟩
  case round =>
    obtain ⟨k, rfl, hk, HO, HU⟩ := hrel
    clear HO0 HU0
    by_cases hk37 : k < 37
    · have hkI : (k : Int) < 37 := by omega
      have HP := Lib.hid (row_at hk37 .i64 wr)
      have HT := Lib.hid (props_take k hk37)
      have hU := HU.out.size
      generalize trow k = row at *
      obtain ⟨nm, tk, ws⟩ := row
      dsimp only at HP HT
      generalize joinW ws = raw at *
      have HU3 := Lib.hid (HU.out.alloc hU (.cells #[.string ⟨nm.toArray⟩, .int .i64 tk, .string ⟨raw.toArray⟩] 71))
      have HY3 := Lib.hid (Blk.new wr #[.string ⟨nm.toArray⟩, .int .i64 tk, .string ⟨raw.toArray⟩] 71)
      have HO3 := Lib.hid (HO.out.alloc (.cells #[.string ⟨nm.toArray⟩, .int .i64 tk, .string ⟨raw.toArray⟩] 71))
      clear HU HO
      go_wp2_with fail
      rw [HP.out]
      simp only [Result.andThen]
      rw [Oper.upon_value]
      clear HP
      go_upto_region 5 with fail
      generalize (wr.alloc (.cells #[.string ⟨nm.toArray⟩, .int .i64 tk, .string ⟨raw.toArray⟩] 71)) = W1 at *
      generalize wr.heap.size = Yb at *
      obtain ⟨hcy, hfy⟩ := cells_of HY3.out
      have y0 : W1.cell? ⟨Yb, 0, none⟩ = some (.string ⟨nm.toArray⟩) := hcy 0
      clear hcy hfy HY3
      have hsu2 := HU3.out.size
      go_wp2_with (at_builtin; refine wpList_append_lies _ rfl _ _ 29 rfl w.heap.size 9 i0 _ 1 16 Tryz.underlying29 hi0 hz0 hz1 hz2 rfl (by decide) _ k (sCells (propNames.take k)) rfl (HO3.out.alloc _) ⟨W1.heap.size, 0, none⟩ 1 1 [.string ⟨nm.toArray⟩] rfl rfl ?c1 ?c2 ?c3 ?c4 ?c5 ?c6 (W1.heap.size + 1) ?c7 ?_)
      case c1 => exact World.news_of_block (heap_alloc_new W1 (.cells #[.string ⟨nm.toArray⟩] 9))
      case c2 => simp [Value.oneCell']
      case c3 => omega
      case c4 => unfold maxLen; omega
      case c5 => omega
      case c6 => simp; omega
      case c7 => simp
      intro gg cap2 w5 hown5 hgrow hat hlt5
      have HO5 : Hid (w5.ownsRow w.heap.size 9 1 (.slice (some ⟨gg, 0, none⟩) (k + 1) cap2) (k + 1) (sCells (propNames.take (k + 1)))) := Lib.hid (by
        rw [HT.out]
        unfold sCells at *
        rw [List.map_append]
        exact hown5)
      have HB5 : Hid (Below w.heap.size w w5) := Lib.hid (by
        have h1 := HU3.out.alloc (o := .cells #[.string ⟨nm.toArray⟩] 9) (by omega)
        exact h1.grown hgrow (by simp; omega) (fun q hq => (HO3.out.lt q hq).1))
      clear hown5 hgrow hat HO3 HU3 HT
      go_wp2_with fail
      go_roundw
      case rel => exact ⟨k + 1, by go_num, by omega, HO5, HB5⟩
      case measure => simp [intOf]; omega
    · obtain rfl : k = 37 := by omega
      have HO5 : Hid (wr.ownsRow w.heap.size 9 1 u1 37 (sCells propNames)) := Lib.hid (by
        have h := HO.out
        rwa [List.take_of_length_le (by rw [props_len]; exact Nat.le_refl _)] at h)
      clear HO
      go_wp2_with fail
      go_ret
      exact ⟨_, rfl, HO5.out, HU.out⟩

end Y
end Go.Proofs.YtafkeolpadfjfaaGreatDoor

namespace Go.Proofs.YtafkeolpadfjfaaGreatDoor
open Go.RowKit Go.Sort
namespace Y
open H V

theorem value_known (pn s : List UInt8) : (propNames.contains pn = true ∧ ∃ x, S.value pn s = some x ∧ S.rparse pn s = x) ∨ (propNames.contains pn = false ∧ S.value pn s = none) := by
  have hr := S.rparse_law pn s
  unfold S.good at hr
  cases h : S.tab.find? (fun r => r.1 == pn) with
  | none =>
    refine Or.inr ⟨?_, by unfold S.value; rw [h]⟩
    cases hc : propNames.contains pn with
    | false => rfl
    | true =>
      obtain ⟨r, hr1, hr2⟩ := List.mem_map.1 (List.contains_iff_mem.1 hc)
      have := List.find?_eq_none.1 h r hr1
      exact absurd (beq_iff_eq.2 hr2) this
  | some r =>
    have hv : ∃ x, S.value pn s = some x := by unfold S.value; rw [h]; exact ⟨_, rfl⟩
    obtain ⟨x, hx⟩ := hv
    rw [hx] at hr
    refine Or.inl ⟨?_, x, hx, hr⟩
    rw [List.contains_iff_mem]
    have h2 := List.find?_some h
    rw [beq_iff_eq] at h2
    exact List.mem_map.2 ⟨r, List.mem_of_find?_eq_some h, h2⟩

set_option maxHeartbeats 16000000 in
set_option maxRecDepth 100000 in
theorem StyleValues (pn s : List UInt8) (w : World) (hR : Repairs redText redText) (hM : HasMax w) (hE : YEnv w) :
    Calls Tryz.prog 5 #[.string ⟨pn.toArray⟩, .string ⟨s.toArray⟩] w (TruePost w) := by
  have HE := Lib.hid hE
  have HM := Lib.hid hM
  have hg1 := hE.big
  have hg2 := hE.big2
  have hMz := hM.2
  have QA := Lib.hid (fun W (h : Below w.heap.size w W) => awake W hR (HM.out.below h hMz) (HE.out.below h hg1 hg2))
  have zs := bytes_size s
  clear hR hM hE
  by_cases hl : 1000 < s.length
  · have e1 : (1000 : Int) < (s.length : Int) := by omega
    have f1 : decide ((1000 : Int) < (s.length : Int)) = true := decide_eq_true e1
    go_enter Tryz.func5, Tryz.ntmps5
    go_wp2_with fail
    refine (QA.out _ (Below.refl _ _)).mono ?_
    rintro e w1 ⟨rfl, hb⟩
    have HB := Lib.hid hb
    have Q2 := Lib.hid (QA.out w1 hb)
    clear hb QA
    go_wp2_with fail
    refine Q2.out.mono ?_
    rintro e w2 ⟨rfl, hb⟩
    have HB2 := Lib.hid (HB.out.trans (hb.mono HB.out.size))
    clear hb Q2
    go_wp2_with fail
    go_ret
    exact ⟨rfl, HB2.out⟩
  · have e1 : ¬ (1000 : Int) < (s.length : Int) := by omega
    have f1 : decide ((1000 : Int) < (s.length : Int)) = false := decide_eq_false e1
    have HK := Lib.hid (value_known pn s)
    have QV := Lib.hid (fun W h => parseValue pn s W (by omega) h)
    have QP := Lib.hid (fun W h => properties W h)
    have QR := Lib.hid (fun W => V.parse pn s W (by omega))
    generalize S.value pn s = o at *
    generalize S.rparse pn s = ro at *
    clear hl
    go_enter Tryz.func5, Tryz.ntmps5
    go_wp2_with fail
    refine (QA.out _ (Below.refl _ _)).mono ?_
    rintro e w1 ⟨rfl, hb⟩
    have HB := Lib.hid hb
    have Q2 := Lib.hid (QV.out w1 (HE.out.below hb hg1 hg2))
    clear hb QA QV
    go_wp2_with fail
    refine Q2.out.mono ?_
    rintro e w2 ⟨⟨vk, vn, vw⟩, er, rfl, hb, ho⟩
    unfold vval vcells
    dsimp only
    have HB2 := Lib.hid (HB.out.trans (hb.mono HB.out.size))
    have HV := Lib.hid (Blk.new w2 #[.int .i64 (vk : Nat), .int .i64 vn, .string ⟨vw.toArray⟩] 32)
    have HB3 := Lib.hid (HB2.out.alloc HB2.out.size (.cells #[.int .i64 (vk : Nat), .int .i64 vn, .string ⟨vw.toArray⟩] 32))
    clear hb Q2 HB HB2
    go_upto_region 4 with fail
    generalize (w2.alloc (.cells #[.int .i64 (vk : Nat), .int .i64 vn, .string ⟨vw.toArray⟩] 32)) = w3 at *
    generalize w2.heap.size = Vb at *
    have Q3 := Lib.hid (QP.out w3 (HE.out.below HB3.out hg1 hg2))
    clear QP
    go_wp2_with fail
    refine Q3.out.mono ?_
    rintro e w4 ⟨v, rfl, hown, hb⟩
    have HB4 := Lib.hid (HB3.out.trans (hb.mono HB3.out.size))
    have HV4 := Lib.hid (Blk.below HV.out hb)
    have hst : StrsAt (w3.heap.size ≤ ·) w4 v propNames := strs_own (l := propNames) (T := 9) (by rw [props_len]; exact hown) (fun h => by rw [props_len] at h; cases h)
    have HS := Lib.hid hst
    obtain ⟨ao, cap, hv⟩ := hst.form
    rw [props_len] at hv
    subst hv
    obtain ⟨g, hg⟩ := lsl HS.out (by rw [props_len]; omega)
    subst hg
    clear hb hown hst Q3 HB3 HV
    have HC0 : Hid (false = (propNames.take 0).contains pn) := Lib.hid rfl
    go_wp2_with fail
    go_loopw [8, 9] (fun v8 v9 wr => ∃ (k : Nat) (b : Bool), v8 = .bool b ∧ v9 = .int .i64 k ∧ k ≤ 37 ∧ Hid (b = (propNames.take k).contains pn) ∧ Hid (w4 = wr)) (fun _ v9 _ => 37 - (intOf v9).toNat)
    case atStart => exact ⟨0, false, rfl, rfl, by omega, HC0, Lib.hid (by first | rfl | trivial)⟩
    case round =>
      obtain ⟨k, b, rfl, rfl, hk, HC, HW⟩ := hrel
      obtain rfl := HW.out
      clear HW HC0
      by_cases hlt : k < 37
      · have hkI : (k : Int) < 37 := by omega
        have hkl : k < propNames.length := by rw [props_len]; exact hlt
        obtain ⟨hglt, hnl, hgS, vx, hc, hp⟩ := ListAt.at_ cStr_len HS.out hkl
        have c0 : w4.cell? ⟨g, k, none⟩ = some (.string ⟨(propNames[k]).toArray⟩) := by have := hc 0 (by omega); simp only [Nat.mul_one, Nat.add_zero] at this; exact this
        have htk : propNames.take (k + 1) = propNames.take k ++ [propNames[k]] := by rw [List.take_add_one, List.getElem?_eq_getElem hkl]; rfl
        have HT := Lib.hid htk
        clear hc hp hgS hnl htk
        generalize propNames[k] = nm at *
        clear hkl
        cases b with
        | true =>
          have HC2 : Hid (true = (propNames.take (k + 1)).contains pn) := Lib.hid (by
            rw [HT.out, eq_comm, List.contains_iff_mem]
            exact List.mem_append_left _ (List.contains_iff_mem.1 HC.out.symm))
          clear HT HC
          go_wp2_with fail
          go_roundw
          case rel => exact ⟨k + 1, true, rfl, by go_num, by omega, HC2, Lib.hid (by first | rfl | trivial)⟩
          case measure => simp [intOf]; omega
        | false =>
          cases hx : nm == pn with
          | true =>
            have HC2 : Hid (true = (propNames.take (k + 1)).contains pn) := Lib.hid (by
              rw [HT.out, eq_comm, List.contains_iff_mem]
              exact List.mem_append_right _ (List.mem_singleton.2 (beq_iff_eq.1 hx).symm))
            clear HT HC
            go_wp2_with fail
            go_roundw
            case rel => exact ⟨k + 1, true, rfl, by go_num, by omega, HC2, Lib.hid (by first | rfl | trivial)⟩
            case measure => simp [intOf]; omega
          | false =>
            have HC2 : Hid (false = (propNames.take (k + 1)).contains pn) := Lib.hid (by
              rw [HT.out, eq_comm, Bool.eq_false_iff]
              intro h
              rcases List.mem_append.1 (List.contains_iff_mem.1 h) with h | h
              · rw [List.contains_iff_mem.2 h] at HC; exact absurd HC.out (by decide)
              · rw [List.mem_singleton.1 h] at hx; simp at hx)
            clear HT HC
            go_wp2_with fail
            go_roundw
            case rel => exact ⟨k + 1, false, rfl, by go_num, by omega, HC2, Lib.hid (by first | rfl | trivial)⟩
            case measure => simp [intOf]; omega
      · obtain rfl : k = 37 := by omega
        have hcont : b = propNames.contains pn := by
          have h := HC.out
          rwa [List.take_of_length_le (by rw [props_len]; exact Nat.le_refl _)] at h
        have hall : (b = true ∧ ∃ x, o = some x ∧ ro = x) ∨ (b = false ∧ o = none) := by
          rcases HK.out with ⟨h1, h2⟩ | ⟨h1, h2⟩
          · exact Or.inl ⟨hcont.trans h1, h2⟩
          · exact Or.inr ⟨hcont.trans h1, h2⟩
        clear HC hcont HK HS
        obtain ⟨hcv, hfv⟩ := cells_of HV4.out
        have v0 : w4.cell? ⟨Vb, 0, none⟩ = some (.int .i64 (vk : Nat)) := hcv 0
        have v1 : w4.cell? ⟨Vb, 1, none⟩ = some (.int .i64 vn) := hcv 1
        have v2 : w4.cell? ⟨Vb, 2, none⟩ = some (.string ⟨vw.toArray⟩) := hcv 2
        clear hcv hfv
        rcases hall with ⟨rfl, x, hox, hrx⟩ | ⟨rfl, hox⟩
        · have Q4 := Lib.hid (QR.out w4)
          clear QR
          go_wp2_with fail
          refine Q4.out.mono ?_
          rintro e w5 ⟨⟨rk, rn, rw'⟩, ok, rfl, hb, hok, hno⟩
          unfold V.rval V.rcells
          dsimp only
          have HV5 := Lib.hid ((Blk.below HV4.out hb).alloc (.cells #[.int .i64 (rk : Nat), .int .i64 rn, .string ⟨rw'.toArray⟩, .bool ok] 44))
          have HR5 := Lib.hid (Blk.new w5 #[.int .i64 (rk : Nat), .int .i64 rn, .string ⟨rw'.toArray⟩, .bool ok] 44)
          have hb5 := HB4.out.trans (hb.mono HB4.out.size)
          have HB5 := Lib.hid (hb5.alloc hb5.size (.cells #[.int .i64 (rk : Nat), .int .i64 rn, .string ⟨rw'.toArray⟩, .bool ok] 44))
          clear hb hb5 HB4 HV4 Q4 v0 v1 v2
          go_upto_region 13 with fail
          generalize (w5.alloc (.cells #[.int .i64 (rk : Nat), .int .i64 rn, .string ⟨rw'.toArray⟩, .bool ok] 44)) = w6 at *
          generalize w5.heap.size = Rb at *
          obtain ⟨hcv, hfv⟩ := cells_of HV5.out
          have v0 : w6.cell? ⟨Vb, 0, none⟩ = some (.int .i64 (vk : Nat)) := hcv 0
          have v1 : w6.cell? ⟨Vb, 1, none⟩ = some (.int .i64 vn) := hcv 1
          have v2 : w6.cell? ⟨Vb, 2, none⟩ = some (.string ⟨vw.toArray⟩) := hcv 2
          clear hcv hfv
          obtain ⟨hcr, hfr⟩ := cells_of HR5.out
          have r0 : w6.cell? ⟨Rb, 0, none⟩ = some (.int .i64 (rk : Nat)) := hcr 0
          have r1 : w6.cell? ⟨Rb, 1, none⟩ = some (.int .i64 rn) := hcr 1
          have r2 : w6.cell? ⟨Rb, 2, none⟩ = some (.string ⟨rw'.toArray⟩) := hcr 2
          have r3 : w6.cell? ⟨Rb, 3, none⟩ = some (.bool ok) := hcr 3
          clear hcr hfr HV5 HR5
          have hcase : (ok = true ∧ er = 0 ∧ (⟨vk, vn, vw⟩ : S.Val) = ⟨rk, rn, rw'⟩) ∨ (ok = false ∧ er = 4 ∧ (⟨vk, vn, vw⟩ : S.Val) = zval) := by
            cases ok with
            | true =>
              have h1 := hok.out rfl
              rcases ho.out with ⟨h, h2⟩ | ⟨h, h3, h2⟩ | ⟨h, _, h2⟩
              · rw [hox, ← hrx, h1] at h
                exact Or.inl ⟨rfl, h2, by injection h with h; injection h with h; exact h.symm⟩
              · rw [hox, ← hrx, h1] at h; cases h
              · rw [hox] at h; cases h
            | false =>
              have h1 := hno.out rfl
              rcases ho.out with ⟨h, h2⟩ | ⟨h, h3, h2⟩ | ⟨h, _, h2⟩
              · rw [hox, ← hrx, h1] at h; cases h
              · exact Or.inr ⟨rfl, h2, h3⟩
              · rw [hox] at h; cases h
          clear ho hok hno hox hrx
          rcases hcase with ⟨rfl, rfl, heq⟩ | ⟨rfl, rfl, heq⟩
          · injection heq with q1 q2 q3
            subst q1 q2 q3
            go_wp2_with fail
            go_ret
            exact ⟨rfl, HB5.out⟩
          · unfold zval at heq
            injection heq with q1 q2 q3
            subst q1 q2 q3
            go_wp2_with fail
            go_ret
            exact ⟨rfl, HB5.out⟩
        · have hz : er = 6 ∧ (⟨vk, vn, vw⟩ : S.Val) = zval := by
            rcases ho.out with ⟨h, h2⟩ | ⟨h, h3, h2⟩ | ⟨h, h3, h2⟩
            · rw [hox] at h; cases h
            · rw [hox] at h; cases h
            · exact ⟨h2, h3⟩
          obtain ⟨rfl, heq⟩ := hz
          unfold zval at heq
          injection heq with q1 q2 q3
          subst q1 q2 q3
          clear ho hox
          go_wp2_with fail
          go_ret
          exact ⟨rfl, HB4.out⟩

end Y
end Go.Proofs.YtafkeolpadfjfaaGreatDoor

namespace Go.Proofs.YtafkeolpadfjfaaGreatDoor
open Go.ChangeShapes Go.WideShapes Go.ChangeAt Go.RowKit Go.Shelf
namespace Y
open H

theorem red_ok : Repairs redText redText := fun w => ascRepair25 redText w (by decide) (by decide)

theorem valuesC (pn s : List UInt8) (W : World) (hL : laidMetH Tryz.prog Rows.styleValuesRow.laid W) (hsh : W.ShapedOpen Tryz.prog) :
    Calls Tryz.prog 5 #[.string ⟨pn.toArray⟩, .string ⟨s.toArray⟩] W (TruePost W) := by
  have r3 := Lib.laidMet.reads hL (.tail _ (.tail _ (.head _)))
  have r4 := Lib.laidMet.reads hL (.tail _ (.tail _ (.tail _ (.head _))))
  exact StyleValues pn s W red_ok (max_of hsh) (yenv_of r3 r4)

end Y
end Go.Proofs.YtafkeolpadfjfaaGreatDoor
