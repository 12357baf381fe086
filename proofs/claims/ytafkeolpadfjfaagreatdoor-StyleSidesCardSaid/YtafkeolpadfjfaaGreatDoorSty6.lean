/- What paint comes to. -/
import Derived.Test.YtafkeolpadfjfaaGreatDoorSty5
set_option linter.unusedVariables false
set_option linter.unusedSimpArgs false
namespace Go.Proofs.YtafkeolpadfjfaaGreatDoor
open Go.RowKit
namespace Y
open H

set_option maxHeartbeats 16000000 in
set_option maxRecDepth 100000 in
/-- A color by its digits. -/
theorem paint_hash (d : List UInt8) (w : World) (hs : d.length ≤ 90000) (hd : d.all S.isHex = true) :
    Calls Tryz.prog 40 #[.string ⟨(35 :: d).toArray⟩] w (ValPost (S.paint (35 :: d)) w) := by
  have HO : Hid (S.paint (35 :: d) = if (if d.length = 3 then d.flatMap (fun c => [c, c]) else d).length = 6 then some ⟨6, 0, 35 :: (if d.length = 3 then d.flatMap (fun c => [c, c]) else d)⟩ else none) := Lib.hid (by
    show (if d.all S.isHex = true then _ else _) = _
    rw [if_pos hd])
  generalize S.paint (35 :: d) = o at *
  have QH := Lib.hid (fun W => hex d W (by omega))
  rw [hd] at QH
  clear hd
  have zd := bytes_size d
  go_enter Tryz.func40, Tryz.ntmps40
  go_upto_region 1 with fail
  have HX0 : Hid (Blk w.heap.size #[.int .i64 0, .int .i64 0, .string ⟨#[]⟩] 32 (w.alloc (.cells #[.int .i64 0, .int .i64 0, .string ⟨#[]⟩] 32))) := Lib.hid (Blk.new w _ _)
  have HU0 : Hid (Below w.heap.size w (w.alloc (.cells #[.int .i64 0, .int .i64 0, .string ⟨#[]⟩] 32))) := Lib.hid ((Below.refl _ w).alloc (Nat.le_refl _) _)
  generalize (w.alloc (.cells #[.int .i64 0, .int .i64 0, .string ⟨#[]⟩] 32)) = W0 at *
  go_wp2_with fail
  refine (CutPrefixY (35 :: d) [35] true _ (by simp [List.isPrefixOf])).mono ?_
  rintro e w' ⟨rfl, rfl⟩
  simp only [List.length_cons, List.length_nil, Nat.zero_add, List.drop_succ_cons, List.drop_zero, if_true]
  go_wp2_with fail
  refine (QH.out _).mono ?_
  rintro e w1 ⟨rfl, hb⟩
  have HX := Lib.hid (HX0.out.below hb)
  have HU := Lib.hid (HU0.out.trans (hb.mono HU0.out.size))
  clear hb HX0 HU0 QH
  by_cases h3 : d.length = 3
  · obtain ⟨a, b, c, rfl⟩ : ∃ a b c, d = [a, b, c] := by
      match d, h3 with
      | [a, b, c], _ => exact ⟨a, b, c, rfl⟩
    have HO2 : Hid (o = some ⟨6, 0, [35, a, a, b, b, c, c]⟩) := Lib.hid (HO.out.trans (by simp))
    have q1 : (⟨#[a, b, c]⟩ : ByteArray).extract 0 1 = ⟨#[a]⟩ := by rfl
    have q2 : (⟨#[a, b, c]⟩ : ByteArray).extract 1 2 = ⟨#[b]⟩ := by rfl
    have q3 : (⟨#[a, b, c]⟩ : ByteArray).extract 2 3 = ⟨#[c]⟩ := by rfl
    have p1 : (⟨#[a, a]⟩ : ByteArray) ++ ⟨#[b, b]⟩ = ⟨#[a, a, b, b]⟩ := append_bytes [a, a] [b, b]
    have p2 : (⟨#[a, a, b, b]⟩ : ByteArray) ++ ⟨#[c, c]⟩ = ⟨#[a, a, b, b, c, c]⟩ := append_bytes [a, a, b, b] [c, c]
    have p3 : (⟨#[35]⟩ : ByteArray) ++ ⟨#[a, a, b, b, c, c]⟩ = ⟨#[35, a, a, b, b, c, c]⟩ := append_bytes [35] [a, a, b, b, c, c]
    clear HO h3 zd hs
    go_wp2_with fail
    refine wp_region_later (by kernel_rfl) (by kernel_rfl) ?_
    repeat (go_big_quiet_step ((go_at_call 77; exact Calls.later (rep2 _ _))))
    refine wpQuiet_nil ?_
    intro _ hw'
    obtain ⟨dq, hw''⟩ := hw'
    subst hw''
    have HX2 := Lib.hid (HX.out.below dq.h)
    have HU2 := Lib.hid (HU.out.trans (dq.h.mono HU.out.size))
    generalize dq.w = w2 at *
    clear HX HU
    have HX := HX2
    have HU := HU2
    clear HX2 HU2
    obtain ⟨hcx, hfx⟩ := cells_of HX.out
    have x0 : w2.cell? ⟨w.heap.size, 0, none⟩ = some (.int .i64 0) := hcx 0
    have x1 : w2.cell? ⟨w.heap.size, 1, none⟩ = some (.int .i64 0) := hcx 1
    have x2 : w2.cell? ⟨w.heap.size, 2, none⟩ = some (.string ⟨#[]⟩) := hcx 2
    have f0 : w2.frozen? ⟨w.heap.size, 0, none⟩ = false := hfx 0 (by show 0 < 3; omega)
    have f1 : w2.frozen? ⟨w.heap.size, 1, none⟩ = false := hfx 1 (by show 1 < 3; omega)
    have f2 : w2.frozen? ⟨w.heap.size, 2, none⟩ = false := hfx 2 (by show 2 < 3; omega)
    clear hcx hfx
    go_wp2_with fail
    have HXR := Lib.hid (blk3 HX.out (.int .i64 6) (.int .i64 0) (.string ⟨([35, a, a, b, b, c, c]).toArray⟩))
    have HUR := Lib.hid (below_three HU.out (Nat.le_refl _) (.int .i64 6) (.int .i64 0) (.string ⟨([35, a, a, b, b, c, c]).toArray⟩))
    generalize (((w2.setCell ⟨w.heap.size, 0, none⟩ (.int .i64 6)).setCell ⟨w.heap.size, 1, none⟩ (.int .i64 0)).setCell ⟨w.heap.size, 2, none⟩ (.string ⟨([35, a, a, b, b, c, c]).toArray⟩)) = WR at *
    obtain ⟨hcr, hfr⟩ := cells_of HXR.out
    have r0 : WR.cell? ⟨w.heap.size, 0, none⟩ = some (.int .i64 6) := hcr 0
    have r1 : WR.cell? ⟨w.heap.size, 1, none⟩ = some (.int .i64 0) := hcr 1
    have r2 : WR.cell? ⟨w.heap.size, 2, none⟩ = some (.string ⟨([35, a, a, b, b, c, c]).toArray⟩) := hcr 2
    clear hcr hfr
    (try simp only [Exit.inBlock, Exit.then])
    refine bodyPost_ret (v := .tuple #[vval ⟨6, 0, [35, a, a, b, b, c, c]⟩, .bool true]) (by simp [results, Tryz.results40, go_sem, r0, r1, r2, vval, vcells]) rfl ⟨⟨6, 0, [35, a, a, b, b, c, c]⟩, _, rfl, HUR.out, Lib.hid (fun _ => HO2.out), Lib.hid (fun h => by cases h)⟩
  · have e3 : ((d.length : Int) == 3) = false := by rw [beq_eq_false_iff_ne]; omega
    have n3 : ¬ (d.length : Int) = 3 := by omega
    have hap : (⟨#[35]⟩ : ByteArray) ++ ⟨d.toArray⟩ = ⟨(35 :: d).toArray⟩ := append_bytes [35] d
    have HO2 : Hid (o = if d.length = 6 then some ⟨6, 0, 35 :: d⟩ else none) := Lib.hid (HO.out.trans (by rw [if_neg h3]))
    have n3b : ¬ d.length = 3 := h3
    clear HO h3
    obtain ⟨hcx, hfx⟩ := cells_of HX.out
    have x0 : w1.cell? ⟨w.heap.size, 0, none⟩ = some (.int .i64 0) := hcx 0
    have x1 : w1.cell? ⟨w.heap.size, 1, none⟩ = some (.int .i64 0) := hcx 1
    have x2 : w1.cell? ⟨w.heap.size, 2, none⟩ = some (.string ⟨#[]⟩) := hcx 2
    have f0 : w1.frozen? ⟨w.heap.size, 0, none⟩ = false := hfx 0 (by show 0 < 3; omega)
    have f1 : w1.frozen? ⟨w.heap.size, 1, none⟩ = false := hfx 1 (by show 1 < 3; omega)
    have f2 : w1.frozen? ⟨w.heap.size, 2, none⟩ = false := hfx 2 (by show 2 < 3; omega)
    clear hcx hfx
    by_cases h6 : d.length = 6
    · have HO3 := Lib.hid (HO2.out.trans (if_pos h6))
      have e6 : ((d.length : Int) == 6) = true := by rw [beq_iff_eq]; omega
      have n6 : (d.length : Int) = 6 := by omega
      clear HO2
      go_wp2_with fail
      have HXR := Lib.hid (blk3 HX.out (.int .i64 6) (.int .i64 0) (.string ⟨(35 :: d).toArray⟩))
      have HUR := Lib.hid (below_three HU.out (Nat.le_refl _) (.int .i64 6) (.int .i64 0) (.string ⟨(35 :: d).toArray⟩))
      generalize (((w1.setCell ⟨w.heap.size, 0, none⟩ (.int .i64 6)).setCell ⟨w.heap.size, 1, none⟩ (.int .i64 0)).setCell ⟨w.heap.size, 2, none⟩ (.string ⟨(35 :: d).toArray⟩)) = WR at *
      obtain ⟨hcr, hfr⟩ := cells_of HXR.out
      have r0 : WR.cell? ⟨w.heap.size, 0, none⟩ = some (.int .i64 6) := hcr 0
      have r1 : WR.cell? ⟨w.heap.size, 1, none⟩ = some (.int .i64 0) := hcr 1
      have r2 : WR.cell? ⟨w.heap.size, 2, none⟩ = some (.string ⟨(35 :: d).toArray⟩) := hcr 2
      clear hcr hfr
      (try simp only [Exit.inBlock, Exit.then])
      refine bodyPost_ret (v := .tuple #[vval ⟨6, 0, 35 :: d⟩, .bool true]) (by simp [results, Tryz.results40, go_sem, r0, r1, r2, vval, vcells, n6, h6]) rfl ⟨⟨6, 0, 35 :: d⟩, _, rfl, HUR.out, Lib.hid (fun _ => HO3.out), Lib.hid (fun h => by cases h)⟩
    · have HO3 := Lib.hid (HO2.out.trans (if_neg h6))
      have e6 : ((d.length : Int) == 6) = false := by rw [beq_eq_false_iff_ne]; omega
      have n6 : ¬ (d.length : Int) = 6 := by omega
      clear HO2
      go_wp2_with fail
      have HXR := Lib.hid (blk3 HX.out (.int .i64 6) (.int .i64 0) (.string ⟨(35 :: d).toArray⟩))
      have HUR := Lib.hid (below_three HU.out (Nat.le_refl _) (.int .i64 6) (.int .i64 0) (.string ⟨(35 :: d).toArray⟩))
      generalize (((w1.setCell ⟨w.heap.size, 0, none⟩ (.int .i64 6)).setCell ⟨w.heap.size, 1, none⟩ (.int .i64 0)).setCell ⟨w.heap.size, 2, none⟩ (.string ⟨(35 :: d).toArray⟩)) = WR at *
      obtain ⟨hcr, hfr⟩ := cells_of HXR.out
      have r0 : WR.cell? ⟨w.heap.size, 0, none⟩ = some (.int .i64 6) := hcr 0
      have r1 : WR.cell? ⟨w.heap.size, 1, none⟩ = some (.int .i64 0) := hcr 1
      have r2 : WR.cell? ⟨w.heap.size, 2, none⟩ = some (.string ⟨(35 :: d).toArray⟩) := hcr 2
      clear hcr hfr
      (try simp only [Exit.inBlock, Exit.then])
      refine bodyPost_ret (v := .tuple #[vval ⟨6, 0, 35 :: d⟩, .bool false]) (by simp [results, Tryz.results40, go_sem, r0, r1, r2, vval, vcells, n6, h6]) rfl ⟨⟨6, 0, 35 :: d⟩, _, rfl, HUR.out, Lib.hid (fun h => by cases h), Lib.hid (fun _ => HO3.out)⟩

theorem paint (s : List UInt8) (w : World) (hs : s.length ≤ 90000) (hE : Asc w) (hbig : 1 < w.heap.size) :
    Calls Tryz.prog 40 #[.string ⟨s.toArray⟩] w (ValPost (S.paint s) w) := by
  cases s with
  | nil => exact paint_named [] w (by omega) hE hbig rfl (Or.inl rfl)
  | cons c d =>
    by_cases hc : c = 35
    · subst hc
      cases hd : d.all S.isHex with
      | true => exact paint_hash d w (by simp at hs; omega) hd
      | false =>
        refine paint_named (35 :: d) w (by omega) hE hbig ?_ (Or.inr ⟨d, rfl, hd⟩)
        show (if d.all S.isHex = true then _ else _) = _
        rw [if_neg (by rw [hd]; simp)]
    · refine paint_named (c :: d) w (by omega) hE hbig ?_ (Or.inl ?_)
      · unfold S.paint
        split
        · rename_i h; exact absurd (List.cons.inj h).1 hc
        · rfl
      · have : (35 == c) = false := by simpa using fun h => hc h.symm
        simp [List.isPrefixOf, this]

end Y
end Go.Proofs.YtafkeolpadfjfaaGreatDoor
