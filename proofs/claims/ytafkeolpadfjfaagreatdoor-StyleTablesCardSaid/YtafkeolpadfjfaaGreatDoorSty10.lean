/- What ParseValue comes to. What part and each come to. What each comes to. -/
import Derived.Test.YtafkeolpadfjfaaGreatDoorSty7
import Derived.Deep.AppendLies
set_option linter.unusedVariables false
set_option linter.unusedSimpArgs false
namespace Go.Proofs.YtafkeolpadfjfaaGreatDoor
open Go.RowKit
namespace Y
open H
def PvPost (o : Option (Option S.Val)) (w : World) (e : Ending) (w' : World) : Prop :=
 ∃ (v : S.Val) (er : Int), e = .returned (.tuple #[vval v, .int .i64 er]) ∧ Below w.heap.size w w' ∧
  Hid ((o = some (some v) ∧ er = 0) ∨ (o = some none ∧ v = zval ∧ er = 4) ∨ (o = none ∧ v = zval ∧ er = 6))
theorem trim_len (l : List UInt8) : (S.trim l).length ≤ l.length := by
 have h1 : ∀ l : List UInt8, (T.lt l).length ≤ l.length := fun l => by
  induction l with
  | nil => simp [T.lt]
  | cons b r ih => unfold T.lt; split <;> simp <;> omega
 have h2 : ∀ l : List UInt8, (T.rt l).length ≤ l.length := fun l => by
  induction l with
  | nil => simp [T.rt]
  | cons b r ih => unfold T.rt; split <;> simp <;> omega
 exact Nat.le_trans (h2 _) (h1 _)
theorem lowerY (s : List UInt8) (w : World) (hs : s.length ≤ 100000) : Calls Tryz.prog 38 #[.string ⟨s.toArray⟩] w fun e w' => e = .returned (.string ⟨(S.lower s).toArray⟩) ∧ Below w.heap.size w w' := by
 have := T.Lower ⟨s.toArray⟩ w (by rw [bytes_size]; omega)
 rw [bytes_toList] at this
 exact this
theorem trimY (s : List UInt8) (w : World) (hs : s.length ≤ 100000) : Calls Tryz.prog 37 #[.string ⟨s.toArray⟩] w fun e w' => e = .returned (.string ⟨(S.trim s).toArray⟩) ∧ Below w.heap.size w w' := by
 have := T.Trim ⟨s.toArray⟩ w (by rw [bytes_size]; omega)
 rw [bytes_toList] at this
 exact this
set_option maxHeartbeats 16000000 in
set_option maxRecDepth 100000 in
theorem parseValue (pn s : List UInt8) (w : World) (hs : s.length ≤ 90000) (hE : YEnv w) :
  Calls Tryz.prog 17 #[.string ⟨pn.toArray⟩, .string ⟨s.toArray⟩] w (PvPost (S.value pn s) w) := by
 have HE := Lib.hid hE
 have hg1 := hE.big
 have hg2 := hE.big2
 have hll : (S.lower s).length ≤ 90000 := by unfold S.lower; rw [List.length_map]; exact hs
 have htl : (S.trim (S.lower s)).length ≤ 90000 := Nat.le_trans (trim_len _) hll
 have QL := Lib.hid (fun W => lowerY s W (by omega))
 have QT := Lib.hid (fun W => trimY (S.lower s) W (by omega))
 have HV := Lib.hid (fun (k : Nat) (hk : k < 37) hn h => value_at (p := pn) (s := s) hk hn h)
 have HN := Lib.hid (fun hn => value_none (p := pn) (s := s) hn)
 generalize S.value pn s = o at *
 generalize S.trim (S.lower s) = t at *
 generalize S.lower s = sl at *
 clear hE hll
 have zt := bytes_size t
 go_enter Tryz.func17, Tryz.ntmps17
 go_upto_region 1 with fail
 have HX0 : Hid (Blk w.heap.size #[.int .i64 0, .int .i64 0, .string ⟨#[]⟩] 32 (w.alloc (.cells #[.int .i64 0, .int .i64 0, .string ⟨#[]⟩] 32))) := Lib.hid (Blk.new w _ _)
 have HU0 : Hid (Below w.heap.size w (w.alloc (.cells #[.int .i64 0, .int .i64 0, .string ⟨#[]⟩] 32))) := Lib.hid ((Below.refl _ w).alloc (Nat.le_refl _) _)
 generalize (w.alloc (.cells #[.int .i64 0, .int .i64 0, .string ⟨#[]⟩] 32)) = W0 at *
 go_wp2_with fail
 refine (QL.out _).mono ?_
 rintro e w1 ⟨rfl, hb⟩
 have HX1 := Lib.hid (HX0.out.below hb)
 have HU1 := Lib.hid (HU0.out.trans (hb.mono HU0.out.size))
 clear hb HX0 HU0 QL
 go_wp2_with fail
 refine (QT.out _).mono ?_
 rintro e w2 ⟨rfl, hb⟩
 have HX2 := Lib.hid (HX1.out.below hb)
 have HU2 := Lib.hid (HU1.out.trans (hb.mono HU1.out.size))
 have HE2 := Lib.hid (HE.out.below HU2.out hg1 hg2)
 clear hb HX1 HU1 QT
 go_upto_region 2 with fail
 refine wp_region_list ?_
 refine wpList_load_mid rfl 72 _ rfl 0 0 rfl tcs _ HE2.out.tab undTab rfl (by rw [infoTab, tcs_len]) ?_
 clear HE2
 have HK0 : Hid (∀ m, m < 0 → (trow m).1 ≠ pn) := Lib.hid (fun m hm => by omega)
 go_wp2_with fail
 go_loopw [16] (fun v16 wr => ∃ k : Nat, v16 = .int .i64 k ∧ k ≤ 37 ∧ Hid (∀ m, m < k → (trow m).1 ≠ pn) ∧ Hid (Blk w.heap.size #[.int .i64 0, .int .i64 0, .string ⟨#[]⟩] 32 wr) ∧ Hid (Below w.heap.size w wr)) (fun v16 _ => 37 - (intOf v16).toNat)
 case atStart => exact ⟨0, rfl, by omega, HK0, HX2, HU2⟩
 case round =>
  obtain ⟨k, rfl, hk, HK, HX, HU⟩ := hrel
  clear HK0 HX2 HU2
  by_cases hk37 : k < 37
  ·have hkI : (k : Int) < 37 := by omega
   have HP := Lib.hid (row_at hk37 .i64 wr)
   have HV2 := Lib.hid (fun h => HV.out k hk37 HK.out h)
   have HW := Lib.hid (words_at k hk37)
   have HBt := Lib.hid (bits_at k hk37)
   have HK2 := Lib.hid (fun (h : (trow k).1 ≠ pn) (m : Nat) (hm : m < k + 1) => (show (trow m).1 ≠ pn from (Nat.lt_or_ge m k).elim (fun h1 => HK.out m h1) (fun h1 => (show m = k by omega) ▸ h)))
   clear HK HV
   generalize trow k = row at *
   obtain ⟨nm, tk, ws⟩ := row
   dsimp only at HP HV2 HW HBt HK2
   generalize joinW ws = raw at *
   have hlt := HX.out.lt
   have HX3 := Lib.hid (HX.out.alloc (.cells #[.string ⟨nm.toArray⟩, .int .i64 tk, .string ⟨raw.toArray⟩] 71))
   have HU3 := Lib.hid (HU.out.alloc (by omega) (.cells #[.string ⟨nm.toArray⟩, .int .i64 tk, .string ⟨raw.toArray⟩] 71))
   have HY3 := Lib.hid (Blk.new wr #[.string ⟨nm.toArray⟩, .int .i64 tk, .string ⟨raw.toArray⟩] 71)
   go_wp2_with fail
   rw [HP.out]
   simp only [Result.andThen]
   rw [Oper.upon_value]
   clear HP
   by_cases hnm : nm = pn
   ·subst hnm
    have HO := Lib.hid (HV2.out rfl)
    clear HV2 HK2 HN
    go_upto_region 6 with fail
    generalize (wr.alloc (.cells #[.string ⟨nm.toArray⟩, .int .i64 tk, .string ⟨raw.toArray⟩] 71)) = W1 at *
    clear HX HU
    have HX := HX3
    have HU := HU3
    have HY := HY3
    clear HX3 HU3 HY3
    obtain ⟨hcy, hfy⟩ := cells_of HY.out
    have y2 : W1.cell? ⟨wr.heap.size, 2, none⟩ = some (.string ⟨raw.toArray⟩) := hcy 2
    clear hcy hfy
    have QA1 := Lib.hid (fun W (h : Asc W) => among t raw ws W HW.out.1 HW.out.2.1 HW.out.2.2.1 (fun b hb => by have := List.all_eq_true.1 HW.out.2.2.2.1 b hb; simpa using this) h)
    have QA2 := Lib.hid (fun W (h : Asc W) => among t [105, 110, 104, 101, 114, 105, 116, 32, 105, 110, 105, 116, 105, 97, 108] S.globals W globals_fields (by decide) (by decide) (fun b hb => by have := List.all_eq_true.1 (show ([105, 110, 104, 101, 114, 105, 116, 32, 105, 110, 105, 116, 105, 97, 108] : List UInt8).all (fun b => decide (b.toNat < 128)) = true by decide) b hb; simpa using this) h)
    have HO2 : Hid (o = some (if ws.contains t || S.globals.contains t then some ⟨1, 0, t⟩ else if tk.testBit 0 then (match S.paint t with | some v => some v | none => S.measure tk t) else S.measure tk t)) := HO
    clear HO HW
    go_wp2_with fail
    refine (QA1.out _ (HE.out.below HU.out hg1 hg2).asc).mono ?_
    rintro e w3 ⟨rfl, hb⟩
    have HXn := Lib.hid (HX.out.below hb)
    have HYn := Lib.hid (HY.out.below hb)
    have HUn := Lib.hid (HU.out.trans (hb.mono HU.out.size))
    clear hb HX HY HU
    have HX := HXn
    have HY := HYn
    have HU := HUn
    clear HXn HYn HUn
    clear QA1 y2
    generalize ws.contains t = a1 at *
    cases a1 with
    | true =>
     have HO3 : Hid (o = some (some ⟨1, 0, t⟩)) := Lib.hid (HO2.out.trans (by simp))
     clear HO2
     obtain ⟨hcx, hfx⟩ := cells_of HX.out
     have x0 : w3.cell? ⟨w.heap.size, 0, none⟩ = some (.int .i64 0) := hcx 0
     have x1 : w3.cell? ⟨w.heap.size, 1, none⟩ = some (.int .i64 0) := hcx 1
     have x2 : w3.cell? ⟨w.heap.size, 2, none⟩ = some (.string ⟨#[]⟩) := hcx 2
     have f0 : w3.frozen? ⟨w.heap.size, 0, none⟩ = false := hfx 0 (by show 0 < 3; omega)
     have f1 : w3.frozen? ⟨w.heap.size, 1, none⟩ = false := hfx 1 (by show 1 < 3; omega)
     have f2 : w3.frozen? ⟨w.heap.size, 2, none⟩ = false := hfx 2 (by show 2 < 3; omega)
     clear hcx hfx
     go_wp2_with fail
     have HXR := Lib.hid (blk3 HX.out (.int .i64 1) (.int .i64 0) (.string ⟨(t).toArray⟩))
     have HUR := Lib.hid (below_three HU.out (Nat.le_refl _) (.int .i64 1) (.int .i64 0) (.string ⟨(t).toArray⟩))
     generalize (((w3.setCell ⟨w.heap.size, 0, none⟩ (.int .i64 1)).setCell ⟨w.heap.size, 1, none⟩ (.int .i64 0)).setCell ⟨w.heap.size, 2, none⟩ (.string ⟨(t).toArray⟩)) = WR at *
     obtain ⟨hcr, hfr⟩ := cells_of HXR.out
     have r0 : WR.cell? ⟨w.heap.size, 0, none⟩ = some (.int .i64 1) := hcr 0
     have r1 : WR.cell? ⟨w.heap.size, 1, none⟩ = some (.int .i64 0) := hcr 1
     have r2 : WR.cell? ⟨w.heap.size, 2, none⟩ = some (.string ⟨(t).toArray⟩) := hcr 2
     clear hcr hfr
     (try simp only [Exit.inBlock, Exit.then])
     refine bodyPost_ret (v := .tuple #[vval ⟨1, 0, t⟩, .int .i64 0]) (by simp [results, Tryz.results17, go_sem, r0, r1, r2, vval, vcells, zval]) rfl ⟨⟨1, 0, t⟩, _, rfl, HUR.out, Lib.hid (Or.inl ⟨HO3.out, rfl⟩)⟩
    | false =>
     go_wp2_with fail
     refine (QA2.out _ (HE.out.below HU.out hg1 hg2).asc).mono ?_
     rintro e w4 ⟨rfl, hb⟩
     have HXn := Lib.hid (HX.out.below hb)
     have HYn := Lib.hid (HY.out.below hb)
     have HUn := Lib.hid (HU.out.trans (hb.mono HU.out.size))
     clear hb HX HY HU
     have HX := HXn
     have HY := HYn
     have HU := HUn
     clear HXn HYn HUn
     clear QA2
     generalize S.globals.contains t = a2 at *
     cases a2 with
     | true =>
      have HO3 : Hid (o = some (some ⟨1, 0, t⟩)) := Lib.hid (HO2.out.trans (by simp))
      clear HO2
      obtain ⟨hcx, hfx⟩ := cells_of HX.out
      have x0 : w4.cell? ⟨w.heap.size, 0, none⟩ = some (.int .i64 0) := hcx 0
      have x1 : w4.cell? ⟨w.heap.size, 1, none⟩ = some (.int .i64 0) := hcx 1
      have x2 : w4.cell? ⟨w.heap.size, 2, none⟩ = some (.string ⟨#[]⟩) := hcx 2
      have f0 : w4.frozen? ⟨w.heap.size, 0, none⟩ = false := hfx 0 (by show 0 < 3; omega)
      have f1 : w4.frozen? ⟨w.heap.size, 1, none⟩ = false := hfx 1 (by show 1 < 3; omega)
      have f2 : w4.frozen? ⟨w.heap.size, 2, none⟩ = false := hfx 2 (by show 2 < 3; omega)
      clear hcx hfx
      go_wp2_with fail
      have HXR := Lib.hid (blk3 HX.out (.int .i64 1) (.int .i64 0) (.string ⟨(t).toArray⟩))
      have HUR := Lib.hid (below_three HU.out (Nat.le_refl _) (.int .i64 1) (.int .i64 0) (.string ⟨(t).toArray⟩))
      generalize (((w4.setCell ⟨w.heap.size, 0, none⟩ (.int .i64 1)).setCell ⟨w.heap.size, 1, none⟩ (.int .i64 0)).setCell ⟨w.heap.size, 2, none⟩ (.string ⟨(t).toArray⟩)) = WR at *
      obtain ⟨hcr, hfr⟩ := cells_of HXR.out
      have r0 : WR.cell? ⟨w.heap.size, 0, none⟩ = some (.int .i64 1) := hcr 0
      have r1 : WR.cell? ⟨w.heap.size, 1, none⟩ = some (.int .i64 0) := hcr 1
      have r2 : WR.cell? ⟨w.heap.size, 2, none⟩ = some (.string ⟨(t).toArray⟩) := hcr 2
      clear hcr hfr
      (try simp only [Exit.inBlock, Exit.then])
      refine bodyPost_ret (v := .tuple #[vval ⟨1, 0, t⟩, .int .i64 0]) (by simp [results, Tryz.results17, go_sem, r0, r1, r2, vval, vcells, zval]) rfl ⟨⟨1, 0, t⟩, _, rfl, HUR.out, Lib.hid (Or.inl ⟨HO3.out, rfl⟩)⟩
     | false =>
      have HO3 : Hid (o = some (if tk.testBit 0 then (match S.paint t with | some v => some v | none => S.measure tk t) else S.measure tk t)) := Lib.hid (HO2.out.trans (by simp))
      clear HO2
      have QP := Lib.hid (fun W (h : YEnv W) => paint t W (by omega) h.asc h.big)
      have QM := Lib.hid (fun W => measure t tk W (by omega) HBt.out)
      have hb0 := HBt.out.b0
      clear HBt
      go_wp2_with fail
      refine (QP.out _ (HE.out.below HU.out hg1 hg2)).mono ?_
      rintro e w5 ⟨v1, ok1, rfl, hb, hok1, hno1⟩
      have HXn := Lib.hid (HX.out.below hb)
      have HYn := Lib.hid (HY.out.below hb)
      have HUn := Lib.hid (HU.out.trans (hb.mono HU.out.size))
      clear hb HX HY HU
      have HX := HXn
      have HY := HYn
      have HU := HUn
      clear HXn HYn HUn
      obtain ⟨vk, vn, vw⟩ := v1
      unfold vval vcells
      dsimp only
      have hlt5 := HX.out.lt
      have hly5 := HY.out.lt
      have HXn := Lib.hid (HX.out.alloc (.cells #[.int .i64 (vk : Nat), .int .i64 vn, .string ⟨vw.toArray⟩] 32))
      have HYn := Lib.hid (HY.out.alloc (.cells #[.int .i64 (vk : Nat), .int .i64 vn, .string ⟨vw.toArray⟩] 32))
      have HUn := Lib.hid (HU.out.alloc (by omega) (.cells #[.int .i64 (vk : Nat), .int .i64 vn, .string ⟨vw.toArray⟩] 32))
      have HZ := Lib.hid (Blk.new w5 #[.int .i64 (vk : Nat), .int .i64 vn, .string ⟨vw.toArray⟩] 32)
      clear HX HY HU
      go_upto_region 9 with fail
      generalize (w5.alloc (.cells #[.int .i64 (vk : Nat), .int .i64 vn, .string ⟨vw.toArray⟩] 32)) = w6 at *
      generalize w5.heap.size = Z at *
      have HX := HXn
      have HY := HYn
      have HU := HUn
      clear HXn HYn HUn
      obtain ⟨hcy, hfy⟩ := cells_of HY.out
      have y1 : w6.cell? ⟨wr.heap.size, 1, none⟩ = some (.int .i64 tk) := hcy 1
      clear hcy hfy
      cases hB : (ok1 && tk.testBit 0) with
      | true =>
       rw [Bool.and_eq_true] at hB
       obtain ⟨rfl, hb1⟩ := hB
       rw [hb1] at hb0
       have HO4 : Hid (o = some (some ⟨vk, vn, vw⟩)) := Lib.hid (HO3.out.trans (by rw [if_pos hb1, hok1.out rfl]))
       clear HO3 hok1 hno1 hb1
       obtain ⟨hcz, hfz⟩ := cells_of HZ.out
       have z0 : w6.cell? ⟨Z, 0, none⟩ = some (.int .i64 (vk : Nat)) := hcz 0
       have z1 : w6.cell? ⟨Z, 1, none⟩ = some (.int .i64 vn) := hcz 1
       have z2 : w6.cell? ⟨Z, 2, none⟩ = some (.string ⟨vw.toArray⟩) := hcz 2
       clear hcz hfz
       obtain ⟨hcx, hfx⟩ := cells_of HX.out
       have x0 : w6.cell? ⟨w.heap.size, 0, none⟩ = some (.int .i64 0) := hcx 0
       have x1 : w6.cell? ⟨w.heap.size, 1, none⟩ = some (.int .i64 0) := hcx 1
       have x2 : w6.cell? ⟨w.heap.size, 2, none⟩ = some (.string ⟨#[]⟩) := hcx 2
       have f0 : w6.frozen? ⟨w.heap.size, 0, none⟩ = false := hfx 0 (by show 0 < 3; omega)
       have f1 : w6.frozen? ⟨w.heap.size, 1, none⟩ = false := hfx 1 (by show 1 < 3; omega)
       have f2 : w6.frozen? ⟨w.heap.size, 2, none⟩ = false := hfx 2 (by show 2 < 3; omega)
       clear hcx hfx
       go_wp2_with fail
       have HXR := Lib.hid (blk3 HX.out (.int .i64 (vk : Nat)) (.int .i64 vn) (.string ⟨(vw).toArray⟩))
       have HUR := Lib.hid (below_three HU.out (Nat.le_refl _) (.int .i64 (vk : Nat)) (.int .i64 vn) (.string ⟨(vw).toArray⟩))
       generalize (((w6.setCell ⟨w.heap.size, 0, none⟩ (.int .i64 (vk : Nat))).setCell ⟨w.heap.size, 1, none⟩ (.int .i64 vn)).setCell ⟨w.heap.size, 2, none⟩ (.string ⟨(vw).toArray⟩)) = WR at *
       obtain ⟨hcr, hfr⟩ := cells_of HXR.out
       have r0 : WR.cell? ⟨w.heap.size, 0, none⟩ = some (.int .i64 (vk : Nat)) := hcr 0
       have r1 : WR.cell? ⟨w.heap.size, 1, none⟩ = some (.int .i64 vn) := hcr 1
       have r2 : WR.cell? ⟨w.heap.size, 2, none⟩ = some (.string ⟨(vw).toArray⟩) := hcr 2
       clear hcr hfr
       (try simp only [Exit.inBlock, Exit.then])
       refine bodyPost_ret (v := .tuple #[vval ⟨vk, vn, vw⟩, .int .i64 0]) (by simp [results, Tryz.results17, go_sem, r0, r1, r2, vval, vcells, zval]) rfl ⟨⟨vk, vn, vw⟩, _, rfl, HUR.out, Lib.hid (Or.inl ⟨HO4.out, rfl⟩)⟩
      | false =>
       have HO4 : Hid (o = some (S.measure tk t)) := Lib.hid (HO3.out.trans (by
        cases h0 : tk.testBit 0 with
        | false => simp
        | true =>
         cases ok1 with
         | true => rw [h0] at hB; cases hB
         | false => rw [if_pos rfl, hno1.out rfl]))
       have hBc : (ok1 = false) ∨ (ok1 = true ∧ tk.testBit 0 = false) := by cases ok1 <;> simp_all
       clear HO3 hok1 hno1 hB HZ
       rcases hBc with rfl | ⟨rfl, hb1⟩
       case' inr => rw [hb1] at hb0; clear hb1
       all_goals
        go_wp2_with fail
        refine (QM.out _).mono ?_
        rintro e w7 ⟨v2, ok2, rfl, hb, hok2, hno2⟩
        have HXn := Lib.hid (HX.out.below hb)
        have HYn := Lib.hid (HY.out.below hb)
        have HUn := Lib.hid (HU.out.trans (hb.mono HU.out.size))
        clear hb HX HY HU
        have HX := HXn
        have HY := HYn
        have HU := HUn
        clear HXn HYn HUn
        obtain ⟨uk, un, uw⟩ := v2
        unfold vval vcells
        dsimp only
        have hlt7 := HX.out.lt
        have HXn := Lib.hid (HX.out.alloc (.cells #[.int .i64 (uk : Nat), .int .i64 un, .string ⟨uw.toArray⟩] 32))
        have HUn := Lib.hid (HU.out.alloc (by omega) (.cells #[.int .i64 (uk : Nat), .int .i64 un, .string ⟨uw.toArray⟩] 32))
        have HZ := Lib.hid (Blk.new w7 #[.int .i64 (uk : Nat), .int .i64 un, .string ⟨uw.toArray⟩] 32)
        clear HX HY HU y1 QP QM
        go_upto_region 12 with fail
        generalize (w7.alloc (.cells #[.int .i64 (uk : Nat), .int .i64 un, .string ⟨uw.toArray⟩] 32)) = w8 at *
        generalize w7.heap.size = Z2 at *
        have HX := HXn
        have HU := HUn
        clear HXn HUn
        cases ok2 with
        | true =>
         have HO5 : Hid (o = some (some ⟨uk, un, uw⟩)) := Lib.hid (HO4.out.trans (by rw [hok2.out rfl]))
         clear HO4 hok2 hno2
         obtain ⟨hcz, hfz⟩ := cells_of HZ.out
         have z0 : w8.cell? ⟨Z2, 0, none⟩ = some (.int .i64 (uk : Nat)) := hcz 0
         have z1 : w8.cell? ⟨Z2, 1, none⟩ = some (.int .i64 un) := hcz 1
         have z2 : w8.cell? ⟨Z2, 2, none⟩ = some (.string ⟨uw.toArray⟩) := hcz 2
         clear hcz hfz
         obtain ⟨hcx, hfx⟩ := cells_of HX.out
         have x0 : w8.cell? ⟨w.heap.size, 0, none⟩ = some (.int .i64 0) := hcx 0
         have x1 : w8.cell? ⟨w.heap.size, 1, none⟩ = some (.int .i64 0) := hcx 1
         have x2 : w8.cell? ⟨w.heap.size, 2, none⟩ = some (.string ⟨#[]⟩) := hcx 2
         have f0 : w8.frozen? ⟨w.heap.size, 0, none⟩ = false := hfx 0 (by show 0 < 3; omega)
         have f1 : w8.frozen? ⟨w.heap.size, 1, none⟩ = false := hfx 1 (by show 1 < 3; omega)
         have f2 : w8.frozen? ⟨w.heap.size, 2, none⟩ = false := hfx 2 (by show 2 < 3; omega)
         clear hcx hfx
         go_wp2_with fail
         have HXR := Lib.hid (blk3 HX.out (.int .i64 (uk : Nat)) (.int .i64 un) (.string ⟨(uw).toArray⟩))
         have HUR := Lib.hid (below_three HU.out (Nat.le_refl _) (.int .i64 (uk : Nat)) (.int .i64 un) (.string ⟨(uw).toArray⟩))
         generalize (((w8.setCell ⟨w.heap.size, 0, none⟩ (.int .i64 (uk : Nat))).setCell ⟨w.heap.size, 1, none⟩ (.int .i64 un)).setCell ⟨w.heap.size, 2, none⟩ (.string ⟨(uw).toArray⟩)) = WR at *
         obtain ⟨hcr, hfr⟩ := cells_of HXR.out
         have r0 : WR.cell? ⟨w.heap.size, 0, none⟩ = some (.int .i64 (uk : Nat)) := hcr 0
         have r1 : WR.cell? ⟨w.heap.size, 1, none⟩ = some (.int .i64 un) := hcr 1
         have r2 : WR.cell? ⟨w.heap.size, 2, none⟩ = some (.string ⟨(uw).toArray⟩) := hcr 2
         clear hcr hfr
         (try simp only [Exit.inBlock, Exit.then])
         refine bodyPost_ret (v := .tuple #[vval ⟨uk, un, uw⟩, .int .i64 0]) (by simp [results, Tryz.results17, go_sem, r0, r1, r2, vval, vcells, zval]) rfl ⟨⟨uk, un, uw⟩, _, rfl, HUR.out, Lib.hid (Or.inl ⟨HO5.out, rfl⟩)⟩
        | false =>
         have HO5 : Hid (o = some none) := Lib.hid (HO4.out.trans (by rw [hno2.out rfl]))
         clear HO4 hok2 hno2 HZ
         obtain ⟨hcx, hfx⟩ := cells_of HX.out
         have x0 : w8.cell? ⟨w.heap.size, 0, none⟩ = some (.int .i64 0) := hcx 0
         have x1 : w8.cell? ⟨w.heap.size, 1, none⟩ = some (.int .i64 0) := hcx 1
         have x2 : w8.cell? ⟨w.heap.size, 2, none⟩ = some (.string ⟨#[]⟩) := hcx 2
         have f0 : w8.frozen? ⟨w.heap.size, 0, none⟩ = false := hfx 0 (by show 0 < 3; omega)
         have f1 : w8.frozen? ⟨w.heap.size, 1, none⟩ = false := hfx 1 (by show 1 < 3; omega)
         have f2 : w8.frozen? ⟨w.heap.size, 2, none⟩ = false := hfx 2 (by show 2 < 3; omega)
         clear hcx hfx
         go_wp2_with fail
         have HXR := Lib.hid (blk3 HX.out (.int .i64 0) (.int .i64 0) (.string ⟨#[]⟩))
         have HUR := Lib.hid (below_three HU.out (Nat.le_refl _) (.int .i64 0) (.int .i64 0) (.string ⟨#[]⟩))
         generalize (((w8.setCell ⟨w.heap.size, 0, none⟩ (.int .i64 0)).setCell ⟨w.heap.size, 1, none⟩ (.int .i64 0)).setCell ⟨w.heap.size, 2, none⟩ (.string ⟨#[]⟩)) = WR at *
         obtain ⟨hcr, hfr⟩ := cells_of HXR.out
         have r0 : WR.cell? ⟨w.heap.size, 0, none⟩ = some (.int .i64 0) := hcr 0
         have r1 : WR.cell? ⟨w.heap.size, 1, none⟩ = some (.int .i64 0) := hcr 1
         have r2 : WR.cell? ⟨w.heap.size, 2, none⟩ = some (.string ⟨#[]⟩) := hcr 2
         clear hcr hfr
         (try simp only [Exit.inBlock, Exit.then])
         refine bodyPost_ret (v := .tuple #[vval zval, .int .i64 4]) (by simp [results, Tryz.results17, go_sem, r0, r1, r2, vval, vcells, zval]) rfl ⟨zval, _, rfl, HUR.out, Lib.hid (Or.inr (Or.inl ⟨HO5.out, rfl, rfl⟩))⟩
   ·have g0 : (nm == pn) = false := by simpa using hnm
    have g1 : (nm != pn) = true := by simpa using hnm
    have HK3 := Lib.hid (HK2.out hnm)
    clear HK2 HV2 hnm HW HBt HY3
    go_wp2_with fail
    go_roundw
    case rel => exact ⟨k + 1, by go_num, by omega, HK3, HX3, HU3⟩
    case measure => simp [intOf]; omega
  ·have HO := Lib.hid (HN.out (fun m hm => HK.out m (by omega)))
   have e1 : ¬ (k : Int) < 37 := by omega
   obtain ⟨hcx, hfx⟩ := cells_of HX.out
   have x0 : wr.cell? ⟨w.heap.size, 0, none⟩ = some (.int .i64 0) := hcx 0
   have x1 : wr.cell? ⟨w.heap.size, 1, none⟩ = some (.int .i64 0) := hcx 1
   have x2 : wr.cell? ⟨w.heap.size, 2, none⟩ = some (.string ⟨#[]⟩) := hcx 2
   have f0 : wr.frozen? ⟨w.heap.size, 0, none⟩ = false := hfx 0 (by show 0 < 3; omega)
   have f1 : wr.frozen? ⟨w.heap.size, 1, none⟩ = false := hfx 1 (by show 1 < 3; omega)
   have f2 : wr.frozen? ⟨w.heap.size, 2, none⟩ = false := hfx 2 (by show 2 < 3; omega)
   clear hcx hfx
   go_wp2_with fail
   have HXR := Lib.hid (blk3 HX.out (.int .i64 0) (.int .i64 0) (.string ⟨#[]⟩))
   have HUR := Lib.hid (below_three HU.out (Nat.le_refl _) (.int .i64 0) (.int .i64 0) (.string ⟨#[]⟩))
   generalize (((wr.setCell ⟨w.heap.size, 0, none⟩ (.int .i64 0)).setCell ⟨w.heap.size, 1, none⟩ (.int .i64 0)).setCell ⟨w.heap.size, 2, none⟩ (.string ⟨#[]⟩)) = WR at *
   obtain ⟨hcr, hfr⟩ := cells_of HXR.out
   have r0 : WR.cell? ⟨w.heap.size, 0, none⟩ = some (.int .i64 0) := hcr 0
   have r1 : WR.cell? ⟨w.heap.size, 1, none⟩ = some (.int .i64 0) := hcr 1
   have r2 : WR.cell? ⟨w.heap.size, 2, none⟩ = some (.string ⟨#[]⟩) := hcr 2
   clear hcr hfr
   (try simp only [Exit.inBlock, Exit.then])
   refine bodyPost_ret (v := .tuple #[vval zval, .int .i64 6]) (by simp [results, Tryz.results17, go_sem, r0, r1, r2, vval, vcells, zval]) rfl ⟨zval, _, rfl, HUR.out, Lib.hid (Or.inr (Or.inr ⟨HO.out, rfl, rfl⟩))⟩
end Y
end Go.Proofs.YtafkeolpadfjfaaGreatDoor
namespace Go.Proofs.YtafkeolpadfjfaaGreatDoor
open Go.RowKit Go.Sort
namespace Y
open H
theorem globalsY (t : List UInt8) (W : World) (h : Asc W) : Calls Tryz.prog 39 #[.string ⟨t.toArray⟩, .string ⟨#[105, 110, 104, 101, 114, 105, 116, 32, 105, 110, 105, 116, 105, 97, 108]⟩] W fun e w' => e = .returned (.bool (S.globals.contains t)) ∧ Below W.heap.size W w' :=
 among t [105, 110, 104, 101, 114, 105, 116, 32, 105, 110, 105, 116, 105, 97, 108] S.globals W globals_fields (by decide) (by decide) (fun b hb => by have := List.all_eq_true.1 (show ([105, 110, 104, 101, 114, 105, 116, 32, 105, 110, 105, 116, 105, 97, 108] : List UInt8).all (fun b => decide (b.toNat < 128)) = true by decide) b hb; simpa using this) h
set_option maxHeartbeats 4000000 in
set_option maxRecDepth 100000 in
theorem part (nm t : List UInt8) (w : World) (ht : t.length ≤ 90000) (hE : YEnv w) :
  Calls Tryz.prog 142 #[.string ⟨nm.toArray⟩, .string ⟨t.toArray⟩] w fun e w' => e = .returned (.bool (S.part nm t)) ∧ Below w.heap.size w w' := by
 have HE := Lib.hid hE
 have hg1 := hE.big
 have hg2 := hE.big2
 have QV := Lib.hid (fun W (h : YEnv W) => parseValue nm t W ht h)
 have QG := Lib.hid (fun W (h : Asc W) => globalsY t W h)
 have HB : Hid (S.part nm t = match S.value nm t with | some (some _) => !S.globals.contains t | _ => false) := Lib.hid rfl
 generalize S.part nm t = B at *
 generalize S.value nm t = o at *
 generalize S.globals.contains t = G at *
 clear hE
 go_enter Tryz.func142, Tryz.ntmps142
 go_wp2_with fail
 refine (QV.out _ HE.out).mono ?_
 rintro e w1 ⟨v, er, rfl, hb, ho⟩
 obtain ⟨vk, vn, vw⟩ := v
 unfold vval vcells
 dsimp only
 have hsz := hb.size
 have HU := Lib.hid (hb.alloc (by omega) (.cells #[.int .i64 (vk : Nat), .int .i64 vn, .string ⟨vw.toArray⟩] 32))
 go_upto_region 2 with fail
 generalize (w1.alloc (.cells #[.int .i64 (vk : Nat), .int .i64 vn, .string ⟨vw.toArray⟩] 32)) = w2 at *
 clear hb QV
 have hcase : (er = 0 ∧ B = !G) ∨ ((er = 4 ∨ er = 6) ∧ B = false) := by
  rcases ho.out with ⟨h, h2⟩ | ⟨h, _, h2⟩ | ⟨h, _, h2⟩
  ·exact Or.inl ⟨h2, by rw [HB.out, h]⟩
  ·exact Or.inr ⟨Or.inl h2, by rw [HB.out, h]⟩
  ·exact Or.inr ⟨Or.inr h2, by rw [HB.out, h]⟩
 clear HB ho
 rcases hcase with ⟨rfl, rfl⟩ | ⟨rfl | rfl, rfl⟩
 ·go_wp2_with fail
  refine (QG.out _ (HE.out.below HU.out hg1 hg2).asc).mono ?_
  rintro e w3 ⟨rfl, hb⟩
  have HU3 := Lib.hid (HU.out.trans (hb.mono HU.out.size))
  clear hb
  go_wp2_with fail
  go_ret
  exact ⟨rfl, HU3.out⟩
 ·go_wp2_with fail
  go_ret
  exact ⟨rfl, HU.out⟩
 ·go_wp2_with fail
  go_ret
  exact ⟨rfl, HU.out⟩
/-- Strings in a row. -/
def cStr (s : List UInt8) (_ : Value) : List Value := [.string ⟨s.toArray⟩]
def iAny {α : Type} (_ : Nat → Prop) (_ : World) (_ : Value) (_ : α) : Prop := True
theorem keeps_any {α : Type} : Keeps (iAny (α := α)) := fun _ _ => trivial
theorem cStr_len (t : List UInt8) (v : Value) : (cStr t v).length = 1 := rfl
def StrsAt (S : Nat → Prop) (w : World) (v : Value) (l : List (List UInt8)) : Prop := ListAt cStr iAny S w v l
theorem keeps_strs : Keeps StrsAt := fun h k => ListAt.keep keeps_any h k
/-- Declarations as cells. -/
def dcells (d : S.Decl) : List Value := [.string ⟨d.name.toArray⟩, .int .i64 (d.val.kind : Nat), .int .i64 d.val.num, .string ⟨d.val.word.toArray⟩, .bool d.imp]
def decCells (l : List S.Decl) : List Value := l.flatMap dcells
theorem infoDecl : (Tryz.prog.info? 40).map (fun i => (i.zero, i.size, i.bytes)) = some (some (.agg #[.string ByteArray.empty, .int .i64 0, .int .i64 0, .string ByteArray.empty, .bool false]), 5, 56) := by kernel_rfl
end Y
end Go.Proofs.YtafkeolpadfjfaaGreatDoor
namespace Go.Proofs.YtafkeolpadfjfaaGreatDoor
open Go.RowKit Go.Sort
namespace Y
open H
def plainD (p : List UInt8 × S.Val) : S.Decl := ⟨p.1, p.2, false⟩
/-- Declarations in a row that the call owns. -/
def OwnD (base : Nat) (w : World) (v : Value) (l : List S.Decl) : Prop := w.ownsRow base 40 5 v l.length (decCells l) ∧ (l.length = 0 → v = .slice none 0 0)
def cDecl (d : S.Decl) (_ : Value) : List Value := dcells d
def DeclsAt (B : Nat → Prop) (w : World) (v : Value) (l : List S.Decl) : Prop := ListAt cDecl iAny B w v l
theorem keeps_decls : Keeps DeclsAt := fun h k => ListAt.keep keeps_any h k
theorem OwnD.list {base : Nat} {w : World} {v : Value} {l : List S.Decl} (h : OwnD base w v l) : DeclsAt (base ≤ ·) w v l := by
 refine ⟨l.map (fun d => (d, .bool false)), by rw [List.map_map]; exact List.map_id l, ?_, fun _ _ => trivial⟩
 have := RowAt.of_own (S := (base ≤ ·)) h.1 h.2 (fun g _ hb => hb)
 rw [List.flatMap_map]
 exact this
theorem OwnD.form {base : Nat} {w : World} {v : Value} {l : List S.Decl} (h : OwnD base w v l) : ∃ ao cap, v = .slice ao l.length cap := by
 rcases h.1.2 with ⟨hv, hn⟩ | ⟨g, cap, cur, rfl, _⟩
 ·exact ⟨none, 0, by rw [hv, hn]⟩
 ·exact ⟨_, cap, rfl⟩
def EachPost (o : Option (List (List UInt8 × S.Val))) (w : World) (e : Ending) (w' : World) : Prop :=
 Below w.heap.size w w' ∧
 ((∃ l v, o = some l ∧ e = .returned (.tuple #[v, .bool true]) ∧ OwnD w.heap.size w' v (l.map plainD)) ∨ (o = none ∧ e = .returned (.tuple #[.slice none 0 0, .bool false])))
theorem own_keepD {w w' : World} {base : Nat} {e : TypeId} {size : Nat} {v : Value} {n : Nat} {xs : List Value} (h : w.ownsRow base e size v n xs) (b : Below w.heap.size w w') : w'.ownsRow base e size v n xs := by
 refine ⟨h.1, ?_⟩
 rcases h.2 with hn | ⟨g, cap, cur, rfl, hb, hgg, rest⟩
 ·exact Or.inl hn
 ·exact Or.inr ⟨g, cap, cur, rfl, hb, (b.block g (lt_of_block hgg)).trans hgg, rest⟩
theorem OwnD.keep {base : Nat} {w w' : World} {v : Value} {l : List S.Decl} (h : OwnD base w v l) (b : Below w.heap.size w w') : OwnD base w' v l := ⟨own_keepD h.1 b, h.2⟩
theorem lsl {α : Type} {c : α → Value → List Value} {I : (Nat → Prop) → World → Value → α → Prop} {B : Nat → Prop} {w : World} {a : Option Addr} {n cap : Nat} {l : List α} (h : ListAt c I B w (.slice a n cap) l) (hn : 0 < l.length) : ∃ g, a = some ⟨g, 0, none⟩ := by
 obtain ⟨ps, h1, h2, h3⟩ := h
 rcases h2 with ⟨hv, hn'⟩ | ⟨g, cap', hv, _, hS, _⟩
 ·omega
 ·simp only [Value.slice.injEq] at hv
  exact ⟨g, hv.1⟩
theorem each_some {n v : List UInt8} {r : List (List UInt8 × List UInt8)} {x : S.Val} (h : S.value n v = some (some x)) : S.each ((n, v) :: r) = match S.each r with | some l => some ((n, x) :: l) | none => none := by
 rw [S.each]
 dsimp only
 rw [h]
 rfl
theorem each_no {n v : List UInt8} {r : List (List UInt8 × List UInt8)} (h : S.value n v = some none ∨ S.value n v = none) : S.each ((n, v) :: r) = none := by
 rw [S.each]
 dsimp only
 rcases h with h | h <;> rw [h]
set_option maxHeartbeats 8000000 in
set_option maxRecDepth 100000 in
theorem each (v1 v2 : Value) (ns vs : List (List UInt8)) (w : World) (B1 B2 : Nat → Prop) (h1 : StrsAt B1 w v1 ns) (h2 : StrsAt B2 w v2 vs) (hl : ns.length ≤ vs.length) (hm : ns.length ≤ 1000) (hv : ∀ x ∈ vs, x.length ≤ 90000) (hE : YEnv w) :
  Calls Tryz.prog 104 #[v1, v2] w (EachPost (S.each (ns.zip vs)) w) := by
 have HE := Lib.hid hE
 have hg1 := hE.big
 have hg2 := hE.big2
 have H1 := Lib.hid h1
 have H2 := Lib.hid h2
 have HV := Lib.hid hv
 obtain ⟨a1, c1, e1⟩ := h1.form
 obtain ⟨a2, c2, e2⟩ := h2.form
 generalize hNN : ns.length = N at e1 hl hm
 have HN := Lib.hid hNN
 generalize hMM : vs.length = M at e2 hl
 have HM := Lib.hid hMM
 subst e1 e2
 have HA0 : Hid (S.each (ns.zip vs) = match S.each ((ns.zip vs).drop 0) with | some l => some ([] ++ l) | none => none) := Lib.hid (by rw [List.drop_zero]; cases S.each (ns.zip vs) <;> rfl)
 have HO0 : Hid (OwnD w.heap.size w (.slice none 0 0) (([] : List (List UInt8 × S.Val)).map plainD)) := Lib.hid ⟨World.ownsRow_nil _ _ _ _, fun _ => rfl⟩
 have HU0 := Lib.hid (Below.refl w.heap.size w)
 generalize S.each (ns.zip vs) = q at *
 clear h1 h2 hE hv hNN hMM
 go_enter Tryz.func104, Tryz.ntmps104
 go_wp2_with fail
 go_loopw [6, 13] (fun v6 v13 wr => ∃ k : Nat, v13 = .int .i64 k ∧ k ≤ N ∧ (∃ acc : List (List UInt8 × S.Val), acc.length = k ∧ Hid (q = match S.each ((ns.zip vs).drop k) with | some l => some (acc ++ l) | none => none) ∧ Hid (OwnD w.heap.size wr v6 (acc.map plainD))) ∧ Hid (Below w.heap.size w wr)) (fun _ v13 _ => N - (intOf v13).toNat)
 case atStart => exact ⟨0, rfl, Nat.zero_le _, ⟨[], rfl, HA0, HO0⟩, HU0⟩
 case round =>
  obtain ⟨k, rfl, hk, ⟨acc, hac, HA, HO⟩, HU⟩ := hrel
  clear HA0 HO0 HU0
  obtain ⟨ov, cv, hov⟩ := HO.out.form
  rw [List.length_map, hac] at hov
  subst hov
  by_cases hkN : k < N
  ·have hkI : (k : Int) < (N : Int) := by omega
   have hkM : (k : Int) < (M : Int) := by omega
   have hkl : k < ns.length := by rw [HN.out]; exact hkN
   have hkv : k < vs.length := by rw [HM.out]; omega
   have s1 := keeps_strs H1.out (Kept.below HU.out)
   have s2 := keeps_strs H2.out (Kept.below HU.out)
   obtain ⟨g1, hg1'⟩ := lsl s1 (by omega)
   obtain ⟨g2, hg2'⟩ := lsl s2 (by omega)
   subst hg1' hg2'
   obtain ⟨hlt1, hnl1, hs1, n1, hc1, hp1⟩ := ListAt.at_ cStr_len s1 hkl
   obtain ⟨hlt2, hnl2, hs2, n2, hc2, hp2⟩ := ListAt.at_ cStr_len s2 hkv
   have d1 := hc1 0 (by omega)
   have d2 := hc2 0 (by omega)
   simp only [Nat.mul_one, Nat.add_zero] at d1 d2
   have k1 : wr.cell? ⟨g1, k, none⟩ = some (.string ⟨(ns[k]).toArray⟩) := d1
   have k2 : wr.cell? ⟨g2, k, none⟩ = some (.string ⟨(vs[k]).toArray⟩) := d2
   have hdr : (ns.zip vs).drop k = (ns[k], vs[k]) :: (ns.zip vs).drop (k + 1) := by
    rw [List.drop_eq_getElem_cons (by rw [List.length_zip]; omega), List.getElem_zip]
   have hvl := HV.out vs[k] (List.getElem_mem hkv)
   have HA2 := Lib.hid (HA.out.trans (by rw [hdr]))
   clear hnl1 hs1 hnl2 hs2 s1 s2 hc1 hc2 d1 d2 hp1 hp2 hdr HA
   generalize ns[k] = nm at *
   generalize vs[k] = vl at *
   clear hkl hkv
   have QV := Lib.hid (parseValue nm vl wr hvl (HE.out.below HU.out hg1 hg2))
   have HS := Lib.hid (fun x h => each_some (n := nm) (v := vl) (r := (ns.zip vs).drop (k + 1)) (x := x) h)
   have HF := Lib.hid (fun h => each_no (n := nm) (v := vl) (r := (ns.zip vs).drop (k + 1)) h)
   generalize S.value nm vl = o at *
   generalize S.each ((nm, vl) :: (ns.zip vs).drop (k + 1)) = qe at *
   go_wp2_with fail
   refine QV.out.mono ?_
   rintro e w1 ⟨v, er, rfl, hb, ho⟩
   obtain ⟨vk, vn, vw⟩ := v
   unfold vval vcells
   dsimp only
   have hsz := hb.size
   have HU1 := Lib.hid (HU.out.trans (hb.mono HU.out.size))
   have HO1 := Lib.hid (HO.out.keep hb)
   have hsu := HU1.out.size
   have HU2 := Lib.hid (HU1.out.alloc hsu (.cells #[.int .i64 (vk : Nat), .int .i64 vn, .string ⟨vw.toArray⟩] 32))
   have HO2 := Lib.hid (HO1.out.keep ((Below.refl w1.heap.size w1).alloc (Nat.le_refl _) (.cells #[.int .i64 (vk : Nat), .int .i64 vn, .string ⟨vw.toArray⟩] 32)))
   have HZ := Lib.hid (Blk.new w1 #[.int .i64 (vk : Nat), .int .i64 vn, .string ⟨vw.toArray⟩] 32)
   clear hb QV HU HO k1 k2 HU1 HO1
   have hcase : (er = 0 ∧ o = some (some ⟨vk, vn, vw⟩)) ∨ ((er = 4 ∨ er = 6) ∧ (o = some none ∨ o = none)) := by
    rcases ho.out with ⟨h, h2⟩ | ⟨h, _, h2⟩ | ⟨h, _, h2⟩
    ·exact Or.inl ⟨h2, h⟩
    ·exact Or.inr ⟨Or.inl h2, Or.inl h⟩
    ·exact Or.inr ⟨Or.inr h2, Or.inr h⟩
   clear ho
   go_upto_region 6 with fail
   generalize (w1.alloc (.cells #[.int .i64 (vk : Nat), .int .i64 vn, .string ⟨vw.toArray⟩] 32)) = w2 at *
   generalize w1.heap.size = Z at *
   rcases hcase with ⟨rfl, ho⟩ | ⟨her, ho⟩
   ·have HA3 : Hid (q = match S.each ((ns.zip vs).drop (k + 1)) with | some l => some ((acc ++ [(nm, (⟨vk, vn, vw⟩ : S.Val))]) ++ l) | none => none) := Lib.hid (by
     rw [HA2.out, HS.out _ ho]
     cases S.each ((ns.zip vs).drop (k + 1)) <;> simp)
    obtain ⟨hcz, hfz⟩ := cells_of HZ.out
    have z0 : w2.cell? ⟨Z, 0, none⟩ = some (.int .i64 (vk : Nat)) := hcz 0
    have z1 : w2.cell? ⟨Z, 1, none⟩ = some (.int .i64 vn) := hcz 1
    have z2 : w2.cell? ⟨Z, 2, none⟩ = some (.string ⟨vw.toArray⟩) := hcz 2
    clear hcz hfz HA2 HS HF ho HZ
    obtain ⟨i0, hi0, hz0, hz1, hz2⟩ := info_parts infoDecl
    have HOr := Lib.hid HO2.out.1
    rw [List.length_map, hac] at HOr
    have hsu2 := HU2.out.size
    go_wp2_with (at_builtin; refine wpList_append_lies _ rfl _ _ 24 rfl w.heap.size 40 i0 _ 5 56 Tryz.underlying24 hi0 hz0 hz1 hz2 rfl (by decide) (.slice ov k cv) k (decCells (acc.map plainD)) rfl (HOr.out.alloc _) ⟨w2.heap.size, 0, none⟩ 1 1 [.string ⟨nm.toArray⟩, .int .i64 (vk : Nat), .int .i64 vn, .string ⟨vw.toArray⟩, .bool false] rfl rfl ?c1 ?c2 ?c3 ?c4 ?c5 ?c6 (w2.heap.size + 1) ?c7 ?_)
    case c1 => exact World.news_of_block (heap_alloc_new w2 (.cells #[.string ⟨nm.toArray⟩, .int .i64 (vk : Nat), .int .i64 vn, .string ⟨vw.toArray⟩, .bool false] 40))
    case c2 => simp [Value.oneCell']
    case c3 => omega
    case c4 => unfold maxLen; omega
    case c5 => omega
    case c6 => simp; omega
    case c7 => simp
    intro gg cap2 w5 hown5 hgrow hat hlt5
    have HO5 : Hid (OwnD w.heap.size w5 (.slice (some ⟨gg, 0, none⟩) (k + 1) cap2) ((acc ++ [(nm, (⟨vk, vn, vw⟩ : S.Val))]).map plainD)) := Lib.hid (by
     refine ⟨?_, fun h => by simp at h⟩
     rw [List.length_map, List.length_append, hac]
     unfold decCells at *
     rw [List.map_append, List.flatMap_append]
     exact hown5)
    have HB5 : Hid (Below w.heap.size w w5) := Lib.hid (by
     have h1 := HU2.out.alloc (o := .cells #[.string ⟨nm.toArray⟩, .int .i64 (vk : Nat), .int .i64 vn, .string ⟨vw.toArray⟩, .bool false] 40) (by omega)
     exact h1.grown hgrow (by simp; omega) (fun q hq => (HOr.out.lt q hq).1))
    clear hown5 hgrow hat
    go_wp2_with fail
    go_roundw
    case rel => exact ⟨k + 1, by go_num, by omega, ⟨_, by simp [hac], HA3, HO5⟩, HB5⟩
    case measure => simp [intOf]; omega
   ·have HQ : Hid (q = none) := Lib.hid (by rw [HA2.out, HF.out ho])
    clear HA2 HS HF ho HZ HO2
    rcases her with rfl | rfl
    all_goals
     go_wp2_with fail
     go_ret2
     exact ⟨HU2.out, Or.inr ⟨HQ.out, rfl⟩⟩
  ·obtain rfl : N = k := by omega
   have e1 : ¬ (N : Int) < (N : Int) := by omega
   have HQ : Hid (q = some acc) := Lib.hid (by
    rw [HA.out, List.drop_eq_nil_of_le (by rw [List.length_zip]; have := HN.out; omega)]
    show (match S.each [] with | some l => some (acc ++ l) | none => none) = _
    simp [S.each])
   clear HA
   go_wp2_with fail
   go_ret2
   exact ⟨HU.out, Or.inl ⟨acc, _, HQ.out, rfl, HO.out⟩⟩
end Y
end Go.Proofs.YtafkeolpadfjfaaGreatDoor
