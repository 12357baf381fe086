/- What measure comes to. A region that draws its order, whose operations read what was there and whose callees only make memory: one walk, in the order of the text. What paint comes to. -/
import Derived.Test.YtafkeolpadfjfaaGreatDoorOwn
import Derived.Deep.QuietTactic
import Derived.BigQuiet
import Derived.Below
import Derived.Deep.DeepCutAuto
set_option linter.unusedVariables false
set_option linter.unusedSimpArgs false
namespace Go.Proofs.YtafkeolpadfjfaaGreatDoor
open Go.RowKit
namespace Y
open H
def vcells (v : S.Val) : Array Value := #[.int .i64 (v.kind : Nat), .int .i64 v.num, .string ⟨v.word.toArray⟩]
def vval (v : S.Val) : Value := .agg (vcells v)
def ValPost (o : Option S.Val) (w : World) (e : Ending) (w' : World) : Prop :=
 ∃ (v : S.Val) (ok : Bool), e = .returned (.tuple #[vval v, .bool ok]) ∧ Below w.heap.size w w' ∧ Hid (ok = true → o = some v) ∧ Hid (ok = false → o = none)
def zval : S.Val := ⟨0, 0, []⟩
theorem blk3 {g : Nat} {T : TypeId} {w : World} {a b c : Value} (h : Blk g #[a, b, c] T w) (v0 v1 v2 : Value) :
  Blk g #[v0, v1, v2] T (((w.setCell ⟨g, 0, none⟩ v0).setCell ⟨g, 1, none⟩ v1).setCell ⟨g, 2, none⟩ v2) := ((H.Blk.set h 0 v0).set 1 v1).set 2 v2
theorem below_three {B g : Nat} {w0 w : World} (h : Below B w0 w) (hg : B ≤ g) (v0 v1 v2 : Value) :
  Below B w0 (((w.setCell ⟨g, 0, none⟩ v0).setCell ⟨g, 1, none⟩ v1).setCell ⟨g, 2, none⟩ v2) := ((h.setCell hg v0).setCell hg v1).setCell hg v2
/-- What the bits of a line are, as the code asks for them. -/
structure Bits (k : Nat) : Prop where
 b0 : (bits BinOp.and IntKind.i64 (k : Int) 1 != 0) = k.testBit 0
 b1 : (bits BinOp.and IntKind.i64 (k : Int) 2 != 0) = k.testBit 1
 b2 : (bits BinOp.and IntKind.i64 (k : Int) 4 != 0) = k.testBit 2
 b3 : (bits BinOp.and IntKind.i64 (k : Int) 8 != 0) = k.testBit 3
 b4 : (bits BinOp.and IntKind.i64 (k : Int) 16 == 0) = !k.testBit 4
 b5 : (bits BinOp.and IntKind.i64 (k : Int) 32 != 0) = k.testBit 5
def ms (b1 b2 b3 b4 b5 : Bool) (n : Int) (r : List UInt8) : Option S.Val :=
 if decide (n < 0) && b5 then none
 else if r.isEmpty && b3 then (if !b4 || n % 1000 == 0 then some ⟨2, n, []⟩ else none)
 else if r == [112, 120] || (r.isEmpty && n == 0) then (if b1 then some ⟨3, n, []⟩ else none)
 else if r == [101, 109] then (if b1 then some ⟨4, n, []⟩ else none)
 else if r == [37] then (if b2 then some ⟨5, n, []⟩ else none)
 else none
theorem tmod_mod (n : Int) : (n.tmod 1000 == 0) = (n % 1000 == 0) := by
 rw [Bool.eq_iff_iff, beq_iff_eq, beq_iff_eq]
 constructor
 ·intro h; exact Int.emod_eq_zero_of_dvd (Int.dvd_of_tmod_eq_zero h)
 ·intro h; exact Int.tmod_eq_zero_of_dvd (Int.dvd_of_emod_eq_zero h)
set_option maxHeartbeats 16000000 in
set_option maxRecDepth 100000 in
theorem measure (s : List UInt8) (k : Nat) (w : World) (hs : s.length ≤ 100000) (hk : Bits k) :
  Calls Tryz.prog 41 #[.string ⟨s.toArray⟩, .int .i64 k] w (ValPost (S.measure k s) w) := by
 have QD := Lib.hid (fun W => decimal s W hs)
 have h1 := hk.b1
 have h2 := hk.b2
 have h3 := hk.b3
 have h4 := hk.b4
 have h5 := hk.b5
 have HM : Hid (S.measure k s = match S.decimal s with | none => none | some (n, r) => ms (k.testBit 1) (k.testBit 2) (k.testBit 3) (k.testBit 4) (k.testBit 5) n r) := Lib.hid rfl
 generalize S.measure k s = o at *
 generalize k.testBit 1 = b1 at *
 generalize k.testBit 2 = b2 at *
 generalize k.testBit 3 = b3 at *
 generalize k.testBit 4 = b4 at *
 generalize k.testBit 5 = b5 at *
 clear hk
 generalize (k : Int) = z at *
 go_enter Tryz.func41, Tryz.ntmps41
 go_upto_region 1 with fail
 have HX0 : Hid (Blk w.heap.size #[.int .i64 0, .int .i64 0, .string ⟨#[]⟩] 32 (w.alloc (.cells #[.int .i64 0, .int .i64 0, .string ⟨#[]⟩] 32))) := Lib.hid (Blk.new w _ _)
 have HU0 : Hid (Below w.heap.size w (w.alloc (.cells #[.int .i64 0, .int .i64 0, .string ⟨#[]⟩] 32))) := Lib.hid ((Below.refl _ w).alloc (Nat.le_refl _) _)
 generalize (w.alloc (.cells #[.int .i64 0, .int .i64 0, .string ⟨#[]⟩] 32)) = W0 at *
 go_wp2_with fail
 refine (QD.out _).mono ?_
 rintro e w1 ⟨n, r, ok, rfl, hb, hok, hno, hrl⟩
 have HX := Lib.hid (HX0.out.below hb)
 have HU := Lib.hid (HU0.out.trans (hb.mono HU0.out.size))
 clear hb HX0 HU0 QD hrl
 obtain ⟨hcx, hfx⟩ := cells_of HX.out
 have x0 : w1.cell? ⟨w.heap.size, 0, none⟩ = some (.int .i64 0) := hcx 0
 have x1 : w1.cell? ⟨w.heap.size, 1, none⟩ = some (.int .i64 0) := hcx 1
 have x2 : w1.cell? ⟨w.heap.size, 2, none⟩ = some (.string ⟨#[]⟩) := hcx 2
 have f0 : w1.frozen? ⟨w.heap.size, 0, none⟩ = false := hfx 0 (by show 0 < 3; omega)
 have f1 : w1.frozen? ⟨w.heap.size, 1, none⟩ = false := hfx 1 (by show 1 < 3; omega)
 have f2 : w1.frozen? ⟨w.heap.size, 2, none⟩ = false := hfx 2 (by show 2 < 3; omega)
 clear hcx hfx
 cases ok with
 | false =>
  have HN := Lib.hid (HM.out.trans (by rw [hno.out rfl]))
  clear hok hno
  go_wp2_with fail
  have HXR := Lib.hid (blk3 HX.out (.int .i64 0) (.int .i64 0) (.string ⟨#[]⟩))
  have HUR := Lib.hid (below_three HU.out (Nat.le_refl _) (.int .i64 0) (.int .i64 0) (.string ⟨#[]⟩))
  generalize (((w1.setCell ⟨w.heap.size, 0, none⟩ (.int .i64 0)).setCell ⟨w.heap.size, 1, none⟩ (.int .i64 0)).setCell ⟨w.heap.size, 2, none⟩ (.string ⟨#[]⟩)) = WR at *
  obtain ⟨hcr, hfr⟩ := cells_of HXR.out
  have r0 : WR.cell? ⟨w.heap.size, 0, none⟩ = some (.int .i64 0) := hcr 0
  have r1 : WR.cell? ⟨w.heap.size, 1, none⟩ = some (.int .i64 0) := hcr 1
  have r2 : WR.cell? ⟨w.heap.size, 2, none⟩ = some (.string ⟨#[]⟩) := hcr 2
  clear hcr hfr
  (try simp only [Exit.inBlock, Exit.then])
  refine bodyPost_ret (v := .tuple #[vval ⟨0, 0, []⟩, .bool false]) (by simp [results, Tryz.results41, go_sem, r0, r1, r2, vval, vcells]) rfl ⟨⟨0, 0, []⟩, _, rfl, HUR.out, Lib.hid (fun h => by cases h), Lib.hid (fun _ => HN.out)⟩
 | true =>
  have HN : Hid (o = ms b1 b2 b3 b4 b5 n r) := Lib.hid (HM.out.trans (by rw [(hok.out rfl).1]))
  have hn1 := (hok.out rfl).2.1
  have hn2 := (hok.out rfl).2.2
  clear hok hno HM
  by_cases hneg : (decide (n < 0) && b5) = true
  ·have HO : Hid (o = none) := Lib.hid (HN.out.trans (by unfold ms; rw [if_pos hneg]))
   rw [Bool.and_eq_true, decide_eq_true_iff] at hneg
   obtain ⟨hn0, rfl⟩ := hneg
   have e0 : decide (n < 0) = true := decide_eq_true hn0
   clear HN
   go_wp2_with fail
   have HXR := Lib.hid (blk3 HX.out (.int .i64 0) (.int .i64 0) (.string ⟨#[]⟩))
   have HUR := Lib.hid (below_three HU.out (Nat.le_refl _) (.int .i64 0) (.int .i64 0) (.string ⟨#[]⟩))
   generalize (((w1.setCell ⟨w.heap.size, 0, none⟩ (.int .i64 0)).setCell ⟨w.heap.size, 1, none⟩ (.int .i64 0)).setCell ⟨w.heap.size, 2, none⟩ (.string ⟨#[]⟩)) = WR at *
   obtain ⟨hcr, hfr⟩ := cells_of HXR.out
   have r0 : WR.cell? ⟨w.heap.size, 0, none⟩ = some (.int .i64 0) := hcr 0
   have r1 : WR.cell? ⟨w.heap.size, 1, none⟩ = some (.int .i64 0) := hcr 1
   have r2 : WR.cell? ⟨w.heap.size, 2, none⟩ = some (.string ⟨#[]⟩) := hcr 2
   clear hcr hfr
   (try simp only [Exit.inBlock, Exit.then])
   refine bodyPost_ret (v := .tuple #[vval ⟨0, 0, []⟩, .bool false]) (by simp [results, Tryz.results41, go_sem, r0, r1, r2, vval, vcells]) rfl ⟨⟨0, 0, []⟩, _, rfl, HUR.out, Lib.hid (fun h => by cases h), Lib.hid (fun _ => HO.out)⟩
  ·have HN2 := Lib.hid (HN.out.trans (by unfold ms; rw [if_neg hneg]))
   clear HN
   rcases (by cases hq : decide (n < 0) <;> cases hb : b5 <;> simp_all : (decide (n < 0) = false) ∨ (decide (n < 0) = true ∧ b5 = false)) with e0 | ⟨e0, rfl⟩
   all_goals
    clear hneg
    by_cases hr0 : r = []
    ·subst hr0
     cases b3 with
     | true =>
      have ht := tmod_mod n
      cases b4 with
      | false =>
       have HO : Hid (o = some ⟨2, n, []⟩) := Lib.hid (HN2.out.trans (by simp))
       clear HN2 ht
       go_wp2_with fail
       have HXR := Lib.hid (blk3 HX.out (.int .i64 2) (.int .i64 n) (.string ⟨#[]⟩))
       have HUR := Lib.hid (below_three HU.out (Nat.le_refl _) (.int .i64 2) (.int .i64 n) (.string ⟨#[]⟩))
       generalize (((w1.setCell ⟨w.heap.size, 0, none⟩ (.int .i64 2)).setCell ⟨w.heap.size, 1, none⟩ (.int .i64 n)).setCell ⟨w.heap.size, 2, none⟩ (.string ⟨#[]⟩)) = WR at *
       obtain ⟨hcr, hfr⟩ := cells_of HXR.out
       have r0 : WR.cell? ⟨w.heap.size, 0, none⟩ = some (.int .i64 2) := hcr 0
       have r1 : WR.cell? ⟨w.heap.size, 1, none⟩ = some (.int .i64 n) := hcr 1
       have r2 : WR.cell? ⟨w.heap.size, 2, none⟩ = some (.string ⟨#[]⟩) := hcr 2
       clear hcr hfr
       (try simp only [Exit.inBlock, Exit.then])
       refine bodyPost_ret (v := .tuple #[vval ⟨2, n, []⟩, .bool true]) (by simp [results, Tryz.results41, go_sem, r0, r1, r2, vval, vcells]) rfl ⟨⟨2, n, []⟩, _, rfl, HUR.out, Lib.hid (fun _ => HO.out), Lib.hid (fun h => by cases h)⟩
      | true =>
       have HO : Hid (o = if (n % 1000 == 0) = true then some ⟨2, n, []⟩ else none) := Lib.hid (HN2.out.trans (by simp))
       clear HN2
       generalize (n % 1000 == 0) = m at *
       go_wp2_with fail
       have HXR := Lib.hid (blk3 HX.out (.int .i64 2) (.int .i64 n) (.string ⟨#[]⟩))
       have HUR := Lib.hid (below_three HU.out (Nat.le_refl _) (.int .i64 2) (.int .i64 n) (.string ⟨#[]⟩))
       generalize (((w1.setCell ⟨w.heap.size, 0, none⟩ (.int .i64 2)).setCell ⟨w.heap.size, 1, none⟩ (.int .i64 n)).setCell ⟨w.heap.size, 2, none⟩ (.string ⟨#[]⟩)) = WR at *
       obtain ⟨hcr, hfr⟩ := cells_of HXR.out
       have r0 : WR.cell? ⟨w.heap.size, 0, none⟩ = some (.int .i64 2) := hcr 0
       have r1 : WR.cell? ⟨w.heap.size, 1, none⟩ = some (.int .i64 n) := hcr 1
       have r2 : WR.cell? ⟨w.heap.size, 2, none⟩ = some (.string ⟨#[]⟩) := hcr 2
       clear hcr hfr
       (try simp only [Exit.inBlock, Exit.then])
       refine bodyPost_ret (v := .tuple #[vval ⟨2, n, []⟩, .bool m]) (by simp [results, Tryz.results41, go_sem, r0, r1, r2, vval, vcells, ht]) rfl ⟨⟨2, n, []⟩, _, rfl, HUR.out, Lib.hid (fun h => by rw [HO.out, if_pos h]), Lib.hid (fun h => by rw [HO.out, h]; rfl)⟩
     | false =>
      by_cases hz : n = 0
      ·subst hz
       have HO : Hid (o = if b1 = true then some ⟨3, 0, []⟩ else none) := Lib.hid (HN2.out.trans (by simp))
       clear HN2
       go_wp2_with fail
       have HXR := Lib.hid (blk3 HX.out (.int .i64 3) (.int .i64 0) (.string ⟨#[]⟩))
       have HUR := Lib.hid (below_three HU.out (Nat.le_refl _) (.int .i64 3) (.int .i64 0) (.string ⟨#[]⟩))
       generalize (((w1.setCell ⟨w.heap.size, 0, none⟩ (.int .i64 3)).setCell ⟨w.heap.size, 1, none⟩ (.int .i64 0)).setCell ⟨w.heap.size, 2, none⟩ (.string ⟨#[]⟩)) = WR at *
       obtain ⟨hcr, hfr⟩ := cells_of HXR.out
       have r0 : WR.cell? ⟨w.heap.size, 0, none⟩ = some (.int .i64 3) := hcr 0
       have r1 : WR.cell? ⟨w.heap.size, 1, none⟩ = some (.int .i64 0) := hcr 1
       have r2 : WR.cell? ⟨w.heap.size, 2, none⟩ = some (.string ⟨#[]⟩) := hcr 2
       clear hcr hfr
       (try simp only [Exit.inBlock, Exit.then])
       refine bodyPost_ret (v := .tuple #[vval ⟨3, 0, []⟩, .bool b1]) (by simp [results, Tryz.results41, go_sem, r0, r1, r2, vval, vcells, h1]) rfl ⟨⟨3, 0, []⟩, _, rfl, HUR.out, Lib.hid (fun h => by rw [HO.out, if_pos h]), Lib.hid (fun h => by rw [HO.out, h]; rfl)⟩
      ·have e1 : (n == 0) = false := by simpa using hz
       have HO : Hid (o = none) := Lib.hid (HN2.out.trans (by simp [e1]))
       clear HN2
       go_wp2_with fail
       have HXR := Lib.hid (blk3 HX.out (.int .i64 0) (.int .i64 0) (.string ⟨#[]⟩))
       have HUR := Lib.hid (below_three HU.out (Nat.le_refl _) (.int .i64 0) (.int .i64 0) (.string ⟨#[]⟩))
       generalize (((w1.setCell ⟨w.heap.size, 0, none⟩ (.int .i64 0)).setCell ⟨w.heap.size, 1, none⟩ (.int .i64 0)).setCell ⟨w.heap.size, 2, none⟩ (.string ⟨#[]⟩)) = WR at *
       obtain ⟨hcr, hfr⟩ := cells_of HXR.out
       have r0 : WR.cell? ⟨w.heap.size, 0, none⟩ = some (.int .i64 0) := hcr 0
       have r1 : WR.cell? ⟨w.heap.size, 1, none⟩ = some (.int .i64 0) := hcr 1
       have r2 : WR.cell? ⟨w.heap.size, 2, none⟩ = some (.string ⟨#[]⟩) := hcr 2
       clear hcr hfr
       (try simp only [Exit.inBlock, Exit.then])
       refine bodyPost_ret (v := .tuple #[vval ⟨0, 0, []⟩, .bool false]) (by simp [results, Tryz.results41, go_sem, r0, r1, r2, vval, vcells]) rfl ⟨⟨0, 0, []⟩, _, rfl, HUR.out, Lib.hid (fun h => by cases h), Lib.hid (fun _ => HO.out)⟩
    ·have g0 : (r == []) = false := by simpa using hr0
     have g1 : r.isEmpty = false := by cases r with | nil => exact absurd rfl hr0 | cons a b => rfl
     by_cases hrpx : r = [112, 120]
     ·subst hrpx
      have HO : Hid (o = if b1 = true then some ⟨3, n, []⟩ else none) := Lib.hid (HN2.out.trans (by simp))
      clear HN2
      go_wp2_with fail
      have HXR := Lib.hid (blk3 HX.out (.int .i64 3) (.int .i64 n) (.string ⟨#[]⟩))
      have HUR := Lib.hid (below_three HU.out (Nat.le_refl _) (.int .i64 3) (.int .i64 n) (.string ⟨#[]⟩))
      generalize (((w1.setCell ⟨w.heap.size, 0, none⟩ (.int .i64 3)).setCell ⟨w.heap.size, 1, none⟩ (.int .i64 n)).setCell ⟨w.heap.size, 2, none⟩ (.string ⟨#[]⟩)) = WR at *
      obtain ⟨hcr, hfr⟩ := cells_of HXR.out
      have r0 : WR.cell? ⟨w.heap.size, 0, none⟩ = some (.int .i64 3) := hcr 0
      have r1 : WR.cell? ⟨w.heap.size, 1, none⟩ = some (.int .i64 n) := hcr 1
      have r2 : WR.cell? ⟨w.heap.size, 2, none⟩ = some (.string ⟨#[]⟩) := hcr 2
      clear hcr hfr
      (try simp only [Exit.inBlock, Exit.then])
      refine bodyPost_ret (v := .tuple #[vval ⟨3, n, []⟩, .bool b1]) (by simp [results, Tryz.results41, go_sem, r0, r1, r2, vval, vcells, h1]) rfl ⟨⟨3, n, []⟩, _, rfl, HUR.out, Lib.hid (fun h => by rw [HO.out, if_pos h]), Lib.hid (fun h => by rw [HO.out, h]; rfl)⟩
     have gpx : (r == [112, 120]) = false := by simpa using hrpx
     by_cases hrem : r = [101, 109]
     ·subst hrem
      have HO : Hid (o = if b1 = true then some ⟨4, n, []⟩ else none) := Lib.hid (HN2.out.trans (by simp))
      clear HN2
      go_wp2_with fail
      have HXR := Lib.hid (blk3 HX.out (.int .i64 4) (.int .i64 n) (.string ⟨#[]⟩))
      have HUR := Lib.hid (below_three HU.out (Nat.le_refl _) (.int .i64 4) (.int .i64 n) (.string ⟨#[]⟩))
      generalize (((w1.setCell ⟨w.heap.size, 0, none⟩ (.int .i64 4)).setCell ⟨w.heap.size, 1, none⟩ (.int .i64 n)).setCell ⟨w.heap.size, 2, none⟩ (.string ⟨#[]⟩)) = WR at *
      obtain ⟨hcr, hfr⟩ := cells_of HXR.out
      have r0 : WR.cell? ⟨w.heap.size, 0, none⟩ = some (.int .i64 4) := hcr 0
      have r1 : WR.cell? ⟨w.heap.size, 1, none⟩ = some (.int .i64 n) := hcr 1
      have r2 : WR.cell? ⟨w.heap.size, 2, none⟩ = some (.string ⟨#[]⟩) := hcr 2
      clear hcr hfr
      (try simp only [Exit.inBlock, Exit.then])
      refine bodyPost_ret (v := .tuple #[vval ⟨4, n, []⟩, .bool b1]) (by simp [results, Tryz.results41, go_sem, r0, r1, r2, vval, vcells, h1]) rfl ⟨⟨4, n, []⟩, _, rfl, HUR.out, Lib.hid (fun h => by rw [HO.out, if_pos h]), Lib.hid (fun h => by rw [HO.out, h]; rfl)⟩
     have gem : (r == [101, 109]) = false := by simpa using hrem
     by_cases hrpc : r = [37]
     ·subst hrpc
      have HO : Hid (o = if b2 = true then some ⟨5, n, []⟩ else none) := Lib.hid (HN2.out.trans (by simp))
      clear HN2
      go_wp2_with fail
      have HXR := Lib.hid (blk3 HX.out (.int .i64 5) (.int .i64 n) (.string ⟨#[]⟩))
      have HUR := Lib.hid (below_three HU.out (Nat.le_refl _) (.int .i64 5) (.int .i64 n) (.string ⟨#[]⟩))
      generalize (((w1.setCell ⟨w.heap.size, 0, none⟩ (.int .i64 5)).setCell ⟨w.heap.size, 1, none⟩ (.int .i64 n)).setCell ⟨w.heap.size, 2, none⟩ (.string ⟨#[]⟩)) = WR at *
      obtain ⟨hcr, hfr⟩ := cells_of HXR.out
      have r0 : WR.cell? ⟨w.heap.size, 0, none⟩ = some (.int .i64 5) := hcr 0
      have r1 : WR.cell? ⟨w.heap.size, 1, none⟩ = some (.int .i64 n) := hcr 1
      have r2 : WR.cell? ⟨w.heap.size, 2, none⟩ = some (.string ⟨#[]⟩) := hcr 2
      clear hcr hfr
      (try simp only [Exit.inBlock, Exit.then])
      refine bodyPost_ret (v := .tuple #[vval ⟨5, n, []⟩, .bool b2]) (by simp [results, Tryz.results41, go_sem, r0, r1, r2, vval, vcells, h2]) rfl ⟨⟨5, n, []⟩, _, rfl, HUR.out, Lib.hid (fun h => by rw [HO.out, if_pos h]), Lib.hid (fun h => by rw [HO.out, h]; rfl)⟩
     have gpc : (r == [37]) = false := by simpa using hrpc
     have HO : Hid (o = none) := Lib.hid (HN2.out.trans (by simp [g1, gpx, gem, gpc]))
     clear HN2
     go_wp2_with fail
     have HXR := Lib.hid (blk3 HX.out (.int .i64 0) (.int .i64 0) (.string ⟨#[]⟩))
     have HUR := Lib.hid (below_three HU.out (Nat.le_refl _) (.int .i64 0) (.int .i64 0) (.string ⟨#[]⟩))
     generalize (((w1.setCell ⟨w.heap.size, 0, none⟩ (.int .i64 0)).setCell ⟨w.heap.size, 1, none⟩ (.int .i64 0)).setCell ⟨w.heap.size, 2, none⟩ (.string ⟨#[]⟩)) = WR at *
     obtain ⟨hcr, hfr⟩ := cells_of HXR.out
     have r0 : WR.cell? ⟨w.heap.size, 0, none⟩ = some (.int .i64 0) := hcr 0
     have r1 : WR.cell? ⟨w.heap.size, 1, none⟩ = some (.int .i64 0) := hcr 1
     have r2 : WR.cell? ⟨w.heap.size, 2, none⟩ = some (.string ⟨#[]⟩) := hcr 2
     clear hcr hfr
     (try simp only [Exit.inBlock, Exit.then])
     refine bodyPost_ret (v := .tuple #[vval ⟨0, 0, []⟩, .bool false]) (by simp [results, Tryz.results41, go_sem, r0, r1, r2, vval, vcells]) rfl ⟨⟨0, 0, []⟩, _, rfl, HUR.out, Lib.hid (fun h => by cases h), Lib.hid (fun _ => HO.out)⟩
end Y
end Go.Proofs.YtafkeolpadfjfaaGreatDoor
namespace Go.Proofs.YtafkeolpadfjfaaGreatDoor
open Go.RowKit
/-- A world behind w0, in which all blocks below B are as they were. -/
structure Later (B : Nat) (w0 : World) where
 w : World
 h : Below B w0 w
instance laterNonempty (B : Nat) (w0 : World) : Nonempty (Later B w0) := ⟨⟨w0, Below.refl _ _⟩⟩
theorem Later.cell {w0 : World} {g o : Nat} {v : Value} (h : w0.cell? ⟨g, o, none⟩ = some v) (hp : g < w0.heap.size) (d : Later w0.heap.size w0) : d.w.cell? ⟨g, o, none⟩ = some v := (d.h.cell (p := ⟨g, o, none⟩) hp).trans h
theorem wp_region_later {P : Program} {id : Nat} {Q : Exit → Act → World → Prop} {a : Act} {w : World} {l : List Oper} (hm : P.follows .mixedOrders = true) (hB : Region.lexB .any l.toArray = true)
  (h : wpQuiet P l.toArray (fun w' => ∃ d : Later w.heap.size w, w' = d.w) (fun a' => ∀ w', (∃ d : Later w.heap.size w, w' = d.w) → Q .normal a' w') l a) : (Code.region id l.toArray true).wp P Q a w :=
 wp_region_quiet (C := fun w' => ∃ d : Later w.heap.size w, w' = d.w) hm hB ⟨⟨{ w with drawn := w.drawn + 1 }, ⟨rfl, rfl, rfl, Nat.le_refl _, fun _ _ => rfl⟩⟩, rfl⟩ (by simpa using h)
theorem Calls.later {P : Program} {f : FuncId} {args : Array Value} {w0 : World} {d : Later w0.heap.size w0} {v : Value}
  (h : Calls P f args d.w fun e w' => e = .returned v ∧ Below d.w.heap.size d.w w') : Calls P f args d.w fun e w'' => e = .returned v ∧ ∃ d' : Later w0.heap.size w0, w'' = d'.w :=
 h.mono fun _ _ h => ⟨h.1, ⟨_, d.h.trans (h.2.mono d.h.size)⟩, rfl⟩
end Go.Proofs.YtafkeolpadfjfaaGreatDoor
namespace Go.Proofs.YtafkeolpadfjfaaGreatDoor
open Go.RowKit
namespace Y
open H
theorem tab_below {w w' : World} {B : Nat} (h : Lib.TabIs Tryz.prog w "strings.asciiSpace" .u8 Lib.asciiSpaceTab) (b : Below B w w') (hB : 1 < B) : Lib.TabIs Tryz.prog w' "strings.asciiSpace" .u8 Lib.asciiSpaceTab := by
 have hgn : Tryz.prog.globalNamed "strings.asciiSpace" = some 1 := by kernel_rfl
 unfold Lib.TabIs World.var? at h ⊢
 rw [hgn] at h ⊢
 simp only [Option.bind_some] at h ⊢
 rw [b.block _ hB]
 exact h
theorem CutPrefixY (s p : List UInt8) (b : Bool) (w : World) (hb : p.isPrefixOf s = b) :
  Calls Tryz.prog 75 #[.string ⟨s.toArray⟩, .string ⟨p.toArray⟩] w fun e w' => e = .returned (.tuple #[.string ⟨(if b then s.drop p.length else s).toArray⟩, .bool b]) ∧ w = w' := by
 have := Tryz.strings_CutPrefix ⟨s.toArray⟩ ⟨p.toArray⟩ w
 rw [bytes_toList, bytes_toList] at this
 unfold Lib.trimPrefix Lib.hasPrefix at this
 rw [hb] at this
 exact this.mono fun e w' ⟨h1, h2⟩ => ⟨h1, h2.symm⟩
theorem rep2 (c : UInt8) (w : World) : Calls Tryz.prog 77 #[.string ⟨#[c]⟩, .int .i64 2] w fun e w' => e = .returned (.string ⟨#[c, c]⟩) ∧ Below w.heap.size w w' := by
 have := Tryz.strings_Repeat ⟨#[c]⟩ 2 w (by omega) (by show 1 * 2 ≤ _; omega)
 exact this
def ctext : List UInt8 := [98, 108, 97, 99, 107, 32, 48, 48, 48, 48, 48, 48, 32, 98, 108, 117, 101, 32, 48, 48, 48, 48, 102, 102, 32, 103, 114, 97, 121, 32, 56, 48, 56, 48, 56, 48, 32, 103, 114, 101, 101, 110, 32, 48, 48, 56, 48, 48, 48, 32, 109, 97, 114, 111, 111, 110, 32, 56, 48, 48, 48, 48, 48, 32, 110, 97, 118, 121, 32, 48, 48, 48, 48, 56, 48, 32, 111, 114, 97, 110, 103, 101, 32, 102, 102, 97, 53, 48, 48, 32, 112, 117, 114, 112, 108, 101, 32, 56, 48, 48, 48, 56, 48, 32, 114, 101, 100, 32, 102, 102, 48, 48, 48, 48, 32, 115, 105, 108, 118, 101, 114, 32, 99, 48, 99, 48, 99, 48, 32, 119, 104, 105, 116, 101, 32, 102, 102, 102, 102, 102, 102, 32, 121, 101, 108, 108, 111, 119, 32, 102, 102, 102, 102, 48, 48]
def cwords : List (List UInt8) := S.colors.flatMap (fun p => [p.1, p.2])
theorem ctext_words : Lib.fields ctext = cwords := by decide +kernel
theorem cwords_len : cwords.length = 24 := by decide
def cname (k : Nat) : List UInt8 := (S.colors.getD k ([], [])).1
def cdig (k : Nat) : List UInt8 := (S.colors.getD k ([], [])).2
theorem cword_even (k : Nat) (hk : k < 12) : cwords[2 * k]? = some (cname k) := by
 have h : ∀ n : Fin 12, cwords[2 * n.val]? = some (cname n.val) := by decide +kernel
 exact h ⟨k, hk⟩
theorem cword_odd (k : Nat) (hk : k < 12) : cwords[2 * k + 1]? = some (cdig k) := by
 have h : ∀ n : Fin 12, cwords[2 * n.val + 1]? = some (cdig n.val) := by decide +kernel
 exact h ⟨k, hk⟩
theorem colors_at (k : Nat) (hk : k < 12) : S.colors[k]? = some (cname k, cdig k) := by
 have h : ∀ n : Fin 12, S.colors[n.val]? = some (cname n.val, cdig n.val) := by decide +kernel
 exact h ⟨k, hk⟩
theorem named_at {s : List UInt8} {k : Nat} (hk : k < 12) (hn : ∀ m, m < k → cname m ≠ s) (h : cname k = s) : S.named s = some ⟨6, 0, 35 :: cdig k⟩ := by
 have hl : S.colors.length = 12 := by decide
 have : S.colors.find? (fun p => p.1 == s) = some (cname k, cdig k) := by
  rw [List.find?_eq_some_iff_getElem]
  refine ⟨by simpa using h, k, by omega, ?_, fun m hm => ?_⟩
  ·have := colors_at k hk
   rw [List.getElem?_eq_getElem (by omega)] at this
   simpa using this
  ·have h1 := colors_at m (by omega)
   rw [List.getElem?_eq_getElem (by omega)] at h1
   simp only [Option.some.injEq] at h1
   rw [h1]
   simpa using hn m hm
 unfold S.named
 rw [this]
theorem named_none {s : List UInt8} (hn : ∀ m, m < 12 → cname m ≠ s) : S.named s = none := by
 have hl : S.colors.length = 12 := by decide
 have : S.colors.find? (fun p => p.1 == s) = none := by
  rw [List.find?_eq_none]
  intro x hx
  obtain ⟨k, hk, rfl⟩ := List.getElem_of_mem hx
  have h1 := colors_at k (by omega)
  rw [List.getElem?_eq_getElem (by omega)] at h1
  simp only [Option.some.injEq] at h1
  rw [h1]
  simpa using hn k (by omega)
 unfold S.named
 rw [this]
set_option maxHeartbeats 16000000 in
set_option maxRecDepth 100000 in
/-- A color by its name. -/
theorem paint_named (s : List UInt8) (w : World) (hs : s.length ≤ 100000) (hE : Asc w) (hbig : 1 < w.heap.size) (hno : S.paint s = S.named s) (hp : [35].isPrefixOf s = false ∨ ∃ d, s = 35 :: d ∧ d.all S.isHex = false) :
  Calls Tryz.prog 40 #[.string ⟨s.toArray⟩] w (ValPost (S.paint s) w) := by
 have HE := Lib.hid hE
 have HO := Lib.hid hno
 generalize S.paint s = o at *
 clear hE hno
 have zs := bytes_size s
 go_enter Tryz.func40, Tryz.ntmps40
 go_upto_region 1 with fail
 have HX0 : Hid (Blk w.heap.size #[.int .i64 0, .int .i64 0, .string ⟨#[]⟩] 32 (w.alloc (.cells #[.int .i64 0, .int .i64 0, .string ⟨#[]⟩] 32))) := Lib.hid (Blk.new w _ _)
 have HU0 : Hid (Below w.heap.size w (w.alloc (.cells #[.int .i64 0, .int .i64 0, .string ⟨#[]⟩] 32))) := Lib.hid ((Below.refl _ w).alloc (Nat.le_refl _) _)
 generalize (w.alloc (.cells #[.int .i64 0, .int .i64 0, .string ⟨#[]⟩] 32)) = W0 at *
 rcases hp with hp | ⟨d, rfl, hd⟩
 case' inl =>
  go_wp2_with fail
  refine (CutPrefixY s [35] false _ hp).mono ?_
  rintro e w' ⟨rfl, rfl⟩
  obtain ⟨w1, rfl⟩ : ∃ w1, w1 = W0 := ⟨_, rfl⟩
  have HX := HX0
  have HU := HU0
  clear HX0 HU0
  go_wp2_with fail
 case' inr =>
  have QH := Lib.hid (fun W => hex d W (by simp at hs; omega))
  rw [hd] at QH
  go_wp2_with fail
  refine (CutPrefixY (35 :: d) [35] true _ (by simp [List.isPrefixOf])).mono ?_
  rintro e w' ⟨rfl, rfl⟩
  simp only [List.length_cons, List.length_nil, Nat.zero_add, List.drop_succ_cons, List.drop_zero, if_true]
  go_wp2_with fail
  refine (QH.out _).mono ?_
  rintro e w1 ⟨rfl, hb⟩
  have HX := Lib.hid (HX0.out.below hb)
  have HU := Lib.hid (HU0.out.trans (hb.mono HU0.out.size))
  clear hb HX0 HU0 QH hd
  generalize 35 :: d = s at *
  go_wp2_with fail
 all_goals
  have q := Tryz.strings_Fields_laid ⟨ctext.toArray⟩ w1 (by rw [bytes_size]; decide) (by rw [bytes_toList]; exact ascii_of_all (by decide)) (tab_below HE.out HU.out hbig)
  rw [bytes_toList, ctext_words, cwords_len] at q
  refine q.mono ?_
  rintro e w2 ⟨rfl, rfl⟩
  clear q
  have HC : Hid (∀ m, m < 24 → (w1.alloc (.cells (cwords.map fun l => Value.string ⟨l.toArray⟩).toArray 9)).cell? ⟨w1.heap.size, m, none⟩ = (cwords[m]?).map (fun l => Value.string ⟨l.toArray⟩)) := Lib.hid (fun m hm => by
   rw [World.cell?_alloc_at _ _ _ _ rfl]
   simp)
  have hlt := HX.out.lt
  have HX2 := Lib.hid (HX.out.alloc (.cells (cwords.map fun l => Value.string ⟨l.toArray⟩).toArray 9))
  have HU2 := Lib.hid (HU.out.alloc (by omega) (.cells (cwords.map fun l => Value.string ⟨l.toArray⟩).toArray 9))
  generalize (w1.alloc (.cells (cwords.map fun l => Value.string ⟨l.toArray⟩).toArray 9)) = w2 at *
  clear HX HU
  have HX := HX2
  have HU := HU2
  clear HX2 HU2
  generalize w1.heap.size = G at *
  have HN0 : Hid (∀ m, m < 0 → cname m ≠ s) := Lib.hid (fun m hm => by omega)
  go_wp2_with fail
  go_loopw [7] (fun v7 wr => ∃ k : Nat, v7 = .int .i64 ((2 * k : Nat) : Int) ∧ k ≤ 12 ∧ Hid (∀ m, m < k → cname m ≠ s) ∧ Hid (w2 = wr)) (fun v7 _ => 24 - (intOf v7).toNat)
  case atStart => exact ⟨0, rfl, by omega, HN0, Lib.hid (by first | rfl | trivial)⟩
  case round =>
   obtain ⟨k, rfl, hk, HNk, HW⟩ := hrel
   obtain rfl := HW.out
   clear HW HN0
   by_cases hk12 : k < 12
   ·have e1 : ((2 * k : Nat) : Int) < 24 := by omega
    have e0 : (0 : Int) ≤ ((2 * k : Nat) : Int) := by omega
    have e2 : ((2 * k : Nat) : Int) + 1 < 24 := by omega
    have c1 : w2.cell? ⟨G, 2 * k, none⟩ = some (.string ⟨(cname k).toArray⟩) := by rw [HC.out _ (by omega), cword_even k hk12]; rfl
    have c2 : w2.cell? ⟨G, 2 * k + 1, none⟩ = some (.string ⟨(cdig k).toArray⟩) := by rw [HC.out _ (by omega), cword_odd k hk12]; rfl
    by_cases hnm : cname k = s
    ·have HO2 := Lib.hid (HO.out.trans (named_at hk12 HNk.out hnm))
     have hap : (⟨#[35]⟩ : ByteArray) ++ ⟨(cdig k).toArray⟩ = ⟨(35 :: cdig k).toArray⟩ := append_bytes [35] (cdig k)
     have hd6 : (cdig k).length ≤ 6 := by
      have h : ∀ n : Fin 12, (cdig n.val).length ≤ 6 := by decide +kernel
      exact h ⟨k, hk12⟩
     have zd := bytes_size (cdig k)
     generalize cdig k = dg at *
     rw [hnm] at c1
     obtain ⟨hcx, hfx⟩ := cells_of HX.out
     have x0 : w2.cell? ⟨w.heap.size, 0, none⟩ = some (.int .i64 0) := hcx 0
     have x1 : w2.cell? ⟨w.heap.size, 1, none⟩ = some (.int .i64 0) := hcx 1
     have x2 : w2.cell? ⟨w.heap.size, 2, none⟩ = some (.string ⟨#[]⟩) := hcx 2
     have f0 : w2.frozen? ⟨w.heap.size, 0, none⟩ = false := hfx 0 (by show 0 < 3; omega)
     have f1 : w2.frozen? ⟨w.heap.size, 1, none⟩ = false := hfx 1 (by show 1 < 3; omega)
     have f2 : w2.frozen? ⟨w.heap.size, 2, none⟩ = false := hfx 2 (by show 2 < 3; omega)
     clear hcx hfx
     clear HO HNk hnm
     go_wp2_with fail
     have HXR := Lib.hid (blk3 HX.out (.int .i64 6) (.int .i64 0) (.string ⟨(35 :: dg).toArray⟩))
     have HUR := Lib.hid (below_three HU.out (Nat.le_refl _) (.int .i64 6) (.int .i64 0) (.string ⟨(35 :: dg).toArray⟩))
     generalize (((w2.setCell ⟨w.heap.size, 0, none⟩ (.int .i64 6)).setCell ⟨w.heap.size, 1, none⟩ (.int .i64 0)).setCell ⟨w.heap.size, 2, none⟩ (.string ⟨(35 :: dg).toArray⟩)) = WR at *
     obtain ⟨hcr, hfr⟩ := cells_of HXR.out
     have r0 : WR.cell? ⟨w.heap.size, 0, none⟩ = some (.int .i64 6) := hcr 0
     have r1 : WR.cell? ⟨w.heap.size, 1, none⟩ = some (.int .i64 0) := hcr 1
     have r2 : WR.cell? ⟨w.heap.size, 2, none⟩ = some (.string ⟨(35 :: dg).toArray⟩) := hcr 2
     clear hcr hfr
     (try simp only [Exit.inBlock, Exit.then])
     refine bodyPost_ret (v := .tuple #[vval ⟨6, 0, 35 :: dg⟩, .bool true]) (by simp [results, Tryz.results40, go_sem, r0, r1, r2, vval, vcells]) rfl ⟨⟨6, 0, 35 :: dg⟩, _, rfl, HUR.out, Lib.hid (fun _ => HO2.out), Lib.hid (fun h => by cases h)⟩
    ·have g0 : (cname k == s) = false := by simpa using hnm
     have HN2 : Hid (∀ m, m < k + 1 → cname m ≠ s) := Lib.hid (fun m hm => (Nat.lt_or_ge m k).elim (fun h1 => HNk.out m h1) (fun h1 => (show m = k by omega) ▸ hnm))
     clear HNk hnm
     generalize cname k = cn at *
     go_wp2_with fail
     go_roundw
     case rel => exact ⟨k + 1, by go_num, by omega, HN2, Lib.hid (by first | rfl | trivial)⟩
     case measure => simp [intOf]; omega
   ·have HO2 := Lib.hid (HO.out.trans (named_none (fun m hm => HNk.out m (by omega))))
    have e1 : ¬ ((2 * k : Nat) : Int) < 24 := by omega
    obtain ⟨hcx, hfx⟩ := cells_of HX.out
    have x0 : w2.cell? ⟨w.heap.size, 0, none⟩ = some (.int .i64 0) := hcx 0
    have x1 : w2.cell? ⟨w.heap.size, 1, none⟩ = some (.int .i64 0) := hcx 1
    have x2 : w2.cell? ⟨w.heap.size, 2, none⟩ = some (.string ⟨#[]⟩) := hcx 2
    have f0 : w2.frozen? ⟨w.heap.size, 0, none⟩ = false := hfx 0 (by show 0 < 3; omega)
    have f1 : w2.frozen? ⟨w.heap.size, 1, none⟩ = false := hfx 1 (by show 1 < 3; omega)
    have f2 : w2.frozen? ⟨w.heap.size, 2, none⟩ = false := hfx 2 (by show 2 < 3; omega)
    clear hcx hfx
    go_wp2_with fail
    have HXR := Lib.hid (blk3 HX.out (.int .i64 0) (.int .i64 0) (.string ⟨#[]⟩))
    have HUR := Lib.hid (below_three HU.out (Nat.le_refl _) (.int .i64 0) (.int .i64 0) (.string ⟨#[]⟩))
    generalize (((w2.setCell ⟨w.heap.size, 0, none⟩ (.int .i64 0)).setCell ⟨w.heap.size, 1, none⟩ (.int .i64 0)).setCell ⟨w.heap.size, 2, none⟩ (.string ⟨#[]⟩)) = WR at *
    obtain ⟨hcr, hfr⟩ := cells_of HXR.out
    have r0 : WR.cell? ⟨w.heap.size, 0, none⟩ = some (.int .i64 0) := hcr 0
    have r1 : WR.cell? ⟨w.heap.size, 1, none⟩ = some (.int .i64 0) := hcr 1
    have r2 : WR.cell? ⟨w.heap.size, 2, none⟩ = some (.string ⟨#[]⟩) := hcr 2
    clear hcr hfr
    (try simp only [Exit.inBlock, Exit.then])
    refine bodyPost_ret (v := .tuple #[vval ⟨0, 0, []⟩, .bool false]) (by simp [results, Tryz.results40, go_sem, r0, r1, r2, vval, vcells]) rfl ⟨⟨0, 0, []⟩, _, rfl, HUR.out, Lib.hid (fun h => by cases h), Lib.hid (fun _ => HO2.out)⟩
end Y
end Go.Proofs.YtafkeolpadfjfaaGreatDoor
