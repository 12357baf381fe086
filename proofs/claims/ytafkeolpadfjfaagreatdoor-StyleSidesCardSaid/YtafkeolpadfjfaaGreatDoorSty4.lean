/- What measure comes to. -/
import Derived.Test.YtafkeolpadfjfaaGreatDoorSty3
import Derived.Test.YtafkeolpadfjfaaGreatDoorOwn
set_option linter.unusedVariables false
set_option linter.unusedSimpArgs false
namespace Go.Proofs.YtafkeolpadfjfaaGreatDoor
open Go.RowKit
namespace Y
open H

def vcells (v : S.Val) : Array Value := #[.int .i64 (v.kind : Nat), .int .i64 v.num, .string ⟨v.word.toArray⟩]
def vval (v : S.Val) : Value := .agg (vcells v)
def ValPost (o : Option S.Val) (w : World) (e : Ending) (w' : World) : Prop :=
  ∃ (v : S.Val) (ok : Bool), e = .returned (.tuple #[vval v, .bool ok]) ∧ Below w.heap.size w w' ∧ Hid (ok = true → o = some v) ∧ Hid (ok = false → o = none)
def zval : S.Val := ⟨0, 0, []⟩
theorem blk3 {g : Nat} {T : TypeId} {w : World} {a b c : Value} (h : Blk g #[a, b, c] T w) (v0 v1 v2 : Value) :
    Blk g #[v0, v1, v2] T (((w.setCell ⟨g, 0, none⟩ v0).setCell ⟨g, 1, none⟩ v1).setCell ⟨g, 2, none⟩ v2) := ((H.Blk.set h 0 v0).set 1 v1).set 2 v2
theorem below_three {B g : Nat} {w0 w : World} (h : Below B w0 w) (hg : B ≤ g) (v0 v1 v2 : Value) :
    Below B w0 (((w.setCell ⟨g, 0, none⟩ v0).setCell ⟨g, 1, none⟩ v1).setCell ⟨g, 2, none⟩ v2) := ((h.setCell hg v0).setCell hg v1).setCell hg v2

/-- What the bits of a line are, as the code asks for them. -/
structure Bits (k : Nat) : Prop where
  b0 : (bits BinOp.and IntKind.i64 (k : Int) 1 != 0) = k.testBit 0
  b1 : (bits BinOp.and IntKind.i64 (k : Int) 2 != 0) = k.testBit 1
  b2 : (bits BinOp.and IntKind.i64 (k : Int) 4 != 0) = k.testBit 2
  b3 : (bits BinOp.and IntKind.i64 (k : Int) 8 != 0) = k.testBit 3
  b4 : (bits BinOp.and IntKind.i64 (k : Int) 16 == 0) = !k.testBit 4
  b5 : (bits BinOp.and IntKind.i64 (k : Int) 32 != 0) = k.testBit 5

def ms (b1 b2 b3 b4 b5 : Bool) (n : Int) (r : List UInt8) : Option S.Val :=
  if decide (n < 0) && b5 then none
  else if r.isEmpty && b3 then (if !b4 || n % 1000 == 0 then some ⟨2, n, []⟩ else none)
  else if r == [112, 120] || (r.isEmpty && n == 0) then (if b1 then some ⟨3, n, []⟩ else none)
  else if r == [101, 109] then (if b1 then some ⟨4, n, []⟩ else none)
  else if r == [37] then (if b2 then some ⟨5, n, []⟩ else none)
  else none

theorem tmod_mod (n : Int) : (n.tmod 1000 == 0) = (n % 1000 == 0) := by
  rw [Bool.eq_iff_iff, beq_iff_eq, beq_iff_eq]
  constructor
  · intro h; exact Int.emod_eq_zero_of_dvd (Int.dvd_of_tmod_eq_zero h)
  · intro h; exact Int.tmod_eq_zero_of_dvd (Int.dvd_of_emod_eq_zero h)

set_option maxHeartbeats 16000000 in
set_option maxRecDepth 100000 in
theorem measure (s : List UInt8) (k : Nat) (w : World) (hs : s.length ≤ 100000) (hk : Bits k) :
    Calls Tryz.prog 41 #[.string ⟨s.toArray⟩, .int .i64 k] w (ValPost (S.measure k s) w) := by
  have QD := Lib.hid (fun W => decimal s W hs)
  have h1 := hk.b1
  have h2 := hk.b2
  have h3 := hk.b3
  have h4 := hk.b4
  have h5 := hk.b5
  have HM : Hid (S.measure k s = match S.decimal s with | none => none | some (n, r) => ms (k.testBit 1) (k.testBit 2) (k.testBit 3) (k.testBit 4) (k.testBit 5) n r) := Lib.hid rfl
  generalize S.measure k s = o at *
  generalize k.testBit 1 = b1 at *
  generalize k.testBit 2 = b2 at *
  generalize k.testBit 3 = b3 at *
  generalize k.testBit 4 = b4 at *
  generalize k.testBit 5 = b5 at *
  clear hk
  generalize (k : Int) = z at *
  go_enter Tryz.func41, Tryz.ntmps41
  go_upto_region 1 with fail
  have HX0 : Hid (Blk w.heap.size #[.int .i64 0, .int .i64 0, .string ⟨#[]⟩] 32 (w.alloc (.cells #[.int .i64 0, .int .i64 0, .string ⟨#[]⟩] 32))) := Lib.hid (Blk.new w _ _)
  have HU0 : Hid (Below w.heap.size w (w.alloc (.cells #[.int .i64 0, .int .i64 0, .string ⟨#[]⟩] 32))) := Lib.hid ((Below.refl _ w).alloc (Nat.le_refl _) _)
  generalize (w.alloc (.cells #[.int .i64 0, .int .i64 0, .string ⟨#[]⟩] 32)) = W0 at *
  go_wp2_with fail
  refine (QD.out _).mono ?_
  rintro e w1 ⟨n, r, ok, rfl, hb, hok, hno, hrl⟩
  have HX := Lib.hid (HX0.out.below hb)
  have HU := Lib.hid (HU0.out.trans (hb.mono HU0.out.size))
  clear hb HX0 HU0 QD hrl
  obtain ⟨hcx, hfx⟩ := cells_of HX.out
  have x0 : w1.cell? ⟨w.heap.size, 0, none⟩ = some (.int .i64 0) := hcx 0
  have x1 : w1.cell? ⟨w.heap.size, 1, none⟩ = some (.int .i64 0) := hcx 1
  have x2 : w1.cell? ⟨w.heap.size, 2, none⟩ = some (.string ⟨#[]⟩) := hcx 2
  have f0 : w1.frozen? ⟨w.heap.size, 0, none⟩ = false := hfx 0 (by show 0 < 3; omega)
  have f1 : w1.frozen? ⟨w.heap.size, 1, none⟩ = false := hfx 1 (by show 1 < 3; omega)
  have f2 : w1.frozen? ⟨w.heap.size, 2, none⟩ = false := hfx 2 (by show 2 < 3; omega)
  clear hcx hfx
  cases ok with
  | false =>
    have HN := Lib.hid (HM.out.trans (by rw [hno.out rfl]))
    clear hok hno
    go_wp2_with fail
    have HXR := Lib.hid (blk3 HX.out (.int .i64 0) (.int .i64 0) (.string ⟨#[]⟩))
    have HUR := Lib.hid (below_three HU.out (Nat.le_refl _) (.int .i64 0) (.int .i64 0) (.string ⟨#[]⟩))
    generalize (((w1.setCell ⟨w.heap.size, 0, none⟩ (.int .i64 0)).setCell ⟨w.heap.size, 1, none⟩ (.int .i64 0)).setCell ⟨w.heap.size, 2, none⟩ (.string ⟨#[]⟩)) = WR at *
    obtain ⟨hcr, hfr⟩ := cells_of HXR.out
    have r0 : WR.cell? ⟨w.heap.size, 0, none⟩ = some (.int .i64 0) := hcr 0
    have r1 : WR.cell? ⟨w.heap.size, 1, none⟩ = some (.int .i64 0) := hcr 1
    have r2 : WR.cell? ⟨w.heap.size, 2, none⟩ = some (.string ⟨#[]⟩) := hcr 2
    clear hcr hfr
    (try simp only [Exit.inBlock, Exit.then])
    refine bodyPost_ret (v := .tuple #[vval ⟨0, 0, []⟩, .bool false]) (by simp [results, Tryz.results41, go_sem, r0, r1, r2, vval, vcells]) rfl ⟨⟨0, 0, []⟩, _, rfl, HUR.out, Lib.hid (fun h => by cases h), Lib.hid (fun _ => HN.out)⟩
  | true =>
    have HN : Hid (o = ms b1 b2 b3 b4 b5 n r) := Lib.hid (HM.out.trans (by rw [(hok.out rfl).1]))
    have hn1 := (hok.out rfl).2.1
    have hn2 := (hok.out rfl).2.2
    clear hok hno HM
    by_cases hneg : (decide (n < 0) && b5) = true
    · have HO : Hid (o = none) := Lib.hid (HN.out.trans (by unfold ms; rw [if_pos hneg]))
      rw [Bool.and_eq_true, decide_eq_true_iff] at hneg
      obtain ⟨hn0, rfl⟩ := hneg
      have e0 : decide (n < 0) = true := decide_eq_true hn0
      clear HN
      go_wp2_with fail
      have HXR := Lib.hid (blk3 HX.out (.int .i64 0) (.int .i64 0) (.string ⟨#[]⟩))
      have HUR := Lib.hid (below_three HU.out (Nat.le_refl _) (.int .i64 0) (.int .i64 0) (.string ⟨#[]⟩))
      generalize (((w1.setCell ⟨w.heap.size, 0, none⟩ (.int .i64 0)).setCell ⟨w.heap.size, 1, none⟩ (.int .i64 0)).setCell ⟨w.heap.size, 2, none⟩ (.string ⟨#[]⟩)) = WR at *
      obtain ⟨hcr, hfr⟩ := cells_of HXR.out
      have r0 : WR.cell? ⟨w.heap.size, 0, none⟩ = some (.int .i64 0) := hcr 0
      have r1 : WR.cell? ⟨w.heap.size, 1, none⟩ = some (.int .i64 0) := hcr 1
      have r2 : WR.cell? ⟨w.heap.size, 2, none⟩ = some (.string ⟨#[]⟩) := hcr 2
      clear hcr hfr
      (try simp only [Exit.inBlock, Exit.then])
      refine bodyPost_ret (v := .tuple #[vval ⟨0, 0, []⟩, .bool false]) (by simp [results, Tryz.results41, go_sem, r0, r1, r2, vval, vcells]) rfl ⟨⟨0, 0, []⟩, _, rfl, HUR.out, Lib.hid (fun h => by cases h), Lib.hid (fun _ => HO.out)⟩
    · have HN2 := Lib.hid (HN.out.trans (by unfold ms; rw [if_neg hneg]))
      clear HN
      rcases (by cases hq : decide (n < 0) <;> cases hb : b5 <;> simp_all : (decide (n < 0) = false) ∨ (decide (n < 0) = true ∧ b5 = false)) with e0 | ⟨e0, rfl⟩
      all_goals
        clear hneg
        by_cases hr0 : r = []
        · subst hr0
          cases b3 with
          | true =>
            have ht := tmod_mod n
            cases b4 with
            | false =>
              have HO : Hid (o = some ⟨2, n, []⟩) := Lib.hid (HN2.out.trans (by simp))
              clear HN2 ht
              go_wp2_with fail
              have HXR := Lib.hid (blk3 HX.out (.int .i64 2) (.int .i64 n) (.string ⟨#[]⟩))
              have HUR := Lib.hid (below_three HU.out (Nat.le_refl _) (.int .i64 2) (.int .i64 n) (.string ⟨#[]⟩))
              generalize (((w1.setCell ⟨w.heap.size, 0, none⟩ (.int .i64 2)).setCell ⟨w.heap.size, 1, none⟩ (.int .i64 n)).setCell ⟨w.heap.size, 2, none⟩ (.string ⟨#[]⟩)) = WR at *
              obtain ⟨hcr, hfr⟩ := cells_of HXR.out
              have r0 : WR.cell? ⟨w.heap.size, 0, none⟩ = some (.int .i64 2) := hcr 0
              have r1 : WR.cell? ⟨w.heap.size, 1, none⟩ = some (.int .i64 n) := hcr 1
              have r2 : WR.cell? ⟨w.heap.size, 2, none⟩ = some (.string ⟨#[]⟩) := hcr 2
              clear hcr hfr
              (try simp only [Exit.inBlock, Exit.then])
              refine bodyPost_ret (v := .tuple #[vval ⟨2, n, []⟩, .bool true]) (by simp [results, Tryz.results41, go_sem, r0, r1, r2, vval, vcells]) rfl ⟨⟨2, n, []⟩, _, rfl, HUR.out, Lib.hid (fun _ => HO.out), Lib.hid (fun h => by cases h)⟩
            | true =>
              have HO : Hid (o = if (n % 1000 == 0) = true then some ⟨2, n, []⟩ else none) := Lib.hid (HN2.out.trans (by simp))
              clear HN2
              generalize (n % 1000 == 0) = m at *
              go_wp2_with fail
              have HXR := Lib.hid (blk3 HX.out (.int .i64 2) (.int .i64 n) (.string ⟨#[]⟩))
              have HUR := Lib.hid (below_three HU.out (Nat.le_refl _) (.int .i64 2) (.int .i64 n) (.string ⟨#[]⟩))
              generalize (((w1.setCell ⟨w.heap.size, 0, none⟩ (.int .i64 2)).setCell ⟨w.heap.size, 1, none⟩ (.int .i64 n)).setCell ⟨w.heap.size, 2, none⟩ (.string ⟨#[]⟩)) = WR at *
              obtain ⟨hcr, hfr⟩ := cells_of HXR.out
              have r0 : WR.cell? ⟨w.heap.size, 0, none⟩ = some (.int .i64 2) := hcr 0
              have r1 : WR.cell? ⟨w.heap.size, 1, none⟩ = some (.int .i64 n) := hcr 1
              have r2 : WR.cell? ⟨w.heap.size, 2, none⟩ = some (.string ⟨#[]⟩) := hcr 2
              clear hcr hfr
              (try simp only [Exit.inBlock, Exit.then])
              refine bodyPost_ret (v := .tuple #[vval ⟨2, n, []⟩, .bool m]) (by simp [results, Tryz.results41, go_sem, r0, r1, r2, vval, vcells, ht]) rfl ⟨⟨2, n, []⟩, _, rfl, HUR.out, Lib.hid (fun h => by rw [HO.out, if_pos h]), Lib.hid (fun h => by rw [HO.out, h]; rfl)⟩
          | false =>
            by_cases hz : n = 0
            · subst hz
              have HO : Hid (o = if b1 = true then some ⟨3, 0, []⟩ else none) := Lib.hid (HN2.out.trans (by simp))
              clear HN2
              go_wp2_with fail
              have HXR := Lib.hid (blk3 HX.out (.int .i64 3) (.int .i64 0) (.string ⟨#[]⟩))
              have HUR := Lib.hid (below_three HU.out (Nat.le_refl _) (.int .i64 3) (.int .i64 0) (.string ⟨#[]⟩))
              generalize (((w1.setCell ⟨w.heap.size, 0, none⟩ (.int .i64 3)).setCell ⟨w.heap.size, 1, none⟩ (.int .i64 0)).setCell ⟨w.heap.size, 2, none⟩ (.string ⟨#[]⟩)) = WR at *
              obtain ⟨hcr, hfr⟩ := cells_of HXR.out
              have r0 : WR.cell? ⟨w.heap.size, 0, none⟩ = some (.int .i64 3) := hcr 0
              have r1 : WR.cell? ⟨w.heap.size, 1, none⟩ = some (.int .i64 0) := hcr 1
              have r2 : WR.cell? ⟨w.heap.size, 2, none⟩ = some (.string ⟨#[]⟩) := hcr 2
              clear hcr hfr
              (try simp only [Exit.inBlock, Exit.then])
              refine bodyPost_ret (v := .tuple #[vval ⟨3, 0, []⟩, .bool b1]) (by simp [results, Tryz.results41, go_sem, r0, r1, r2, vval, vcells, h1]) rfl ⟨⟨3, 0, []⟩, _, rfl, HUR.out, Lib.hid (fun h => by rw [HO.out, if_pos h]), Lib.hid (fun h => by rw [HO.out, h]; rfl)⟩
            · have e1 : (n == 0) = false := by simpa using hz
              have HO : Hid (o = none) := Lib.hid (HN2.out.trans (by simp [e1]))
              clear HN2
              go_wp2_with fail
              have HXR := Lib.hid (blk3 HX.out (.int .i64 0) (.int .i64 0) (.string ⟨#[]⟩))
              have HUR := Lib.hid (below_three HU.out (Nat.le_refl _) (.int .i64 0) (.int .i64 0) (.string ⟨#[]⟩))
              generalize (((w1.setCell ⟨w.heap.size, 0, none⟩ (.int .i64 0)).setCell ⟨w.heap.size, 1, none⟩ (.int .i64 0)).setCell ⟨w.heap.size, 2, none⟩ (.string ⟨#[]⟩)) = WR at *
              obtain ⟨hcr, hfr⟩ := cells_of HXR.out
              have r0 : WR.cell? ⟨w.heap.size, 0, none⟩ = some (.int .i64 0) := hcr 0
              have r1 : WR.cell? ⟨w.heap.size, 1, none⟩ = some (.int .i64 0) := hcr 1
              have r2 : WR.cell? ⟨w.heap.size, 2, none⟩ = some (.string ⟨#[]⟩) := hcr 2
              clear hcr hfr
              (try simp only [Exit.inBlock, Exit.then])
              refine bodyPost_ret (v := .tuple #[vval ⟨0, 0, []⟩, .bool false]) (by simp [results, Tryz.results41, go_sem, r0, r1, r2, vval, vcells]) rfl ⟨⟨0, 0, []⟩, _, rfl, HUR.out, Lib.hid (fun h => by cases h), Lib.hid (fun _ => HO.out)⟩
        · have g0 : (r == []) = false := by simpa using hr0
          have g1 : r.isEmpty = false := by cases r with | nil => exact absurd rfl hr0 | cons a b => rfl
          by_cases hrpx : r = [112, 120]
          · subst hrpx
            have HO : Hid (o = if b1 = true then some ⟨3, n, []⟩ else none) := Lib.hid (HN2.out.trans (by simp))
            clear HN2
            go_wp2_with fail
            have HXR := Lib.hid (blk3 HX.out (.int .i64 3) (.int .i64 n) (.string ⟨#[]⟩))
            have HUR := Lib.hid (below_three HU.out (Nat.le_refl _) (.int .i64 3) (.int .i64 n) (.string ⟨#[]⟩))
            generalize (((w1.setCell ⟨w.heap.size, 0, none⟩ (.int .i64 3)).setCell ⟨w.heap.size, 1, none⟩ (.int .i64 n)).setCell ⟨w.heap.size, 2, none⟩ (.string ⟨#[]⟩)) = WR at *
            obtain ⟨hcr, hfr⟩ := cells_of HXR.out
            have r0 : WR.cell? ⟨w.heap.size, 0, none⟩ = some (.int .i64 3) := hcr 0
            have r1 : WR.cell? ⟨w.heap.size, 1, none⟩ = some (.int .i64 n) := hcr 1
            have r2 : WR.cell? ⟨w.heap.size, 2, none⟩ = some (.string ⟨#[]⟩) := hcr 2
            clear hcr hfr
            (try simp only [Exit.inBlock, Exit.then])
            refine bodyPost_ret (v := .tuple #[vval ⟨3, n, []⟩, .bool b1]) (by simp [results, Tryz.results41, go_sem, r0, r1, r2, vval, vcells, h1]) rfl ⟨⟨3, n, []⟩, _, rfl, HUR.out, Lib.hid (fun h => by rw [HO.out, if_pos h]), Lib.hid (fun h => by rw [HO.out, h]; rfl)⟩
          have gpx : (r == [112, 120]) = false := by simpa using hrpx
          by_cases hrem : r = [101, 109]
          · subst hrem
            have HO : Hid (o = if b1 = true then some ⟨4, n, []⟩ else none) := Lib.hid (HN2.out.trans (by simp))
            clear HN2
            go_wp2_with fail
            have HXR := Lib.hid (blk3 HX.out (.int .i64 4) (.int .i64 n) (.string ⟨#[]⟩))
            have HUR := Lib.hid (below_three HU.out (Nat.le_refl _) (.int .i64 4) (.int .i64 n) (.string ⟨#[]⟩))
            generalize (((w1.setCell ⟨w.heap.size, 0, none⟩ (.int .i64 4)).setCell ⟨w.heap.size, 1, none⟩ (.int .i64 n)).setCell ⟨w.heap.size, 2, none⟩ (.string ⟨#[]⟩)) = WR at *
            obtain ⟨hcr, hfr⟩ := cells_of HXR.out
            have r0 : WR.cell? ⟨w.heap.size, 0, none⟩ = some (.int .i64 4) := hcr 0
            have r1 : WR.cell? ⟨w.heap.size, 1, none⟩ = some (.int .i64 n) := hcr 1
            have r2 : WR.cell? ⟨w.heap.size, 2, none⟩ = some (.string ⟨#[]⟩) := hcr 2
            clear hcr hfr
            (try simp only [Exit.inBlock, Exit.then])
            refine bodyPost_ret (v := .tuple #[vval ⟨4, n, []⟩, .bool b1]) (by simp [results, Tryz.results41, go_sem, r0, r1, r2, vval, vcells, h1]) rfl ⟨⟨4, n, []⟩, _, rfl, HUR.out, Lib.hid (fun h => by rw [HO.out, if_pos h]), Lib.hid (fun h => by rw [HO.out, h]; rfl)⟩
          have gem : (r == [101, 109]) = false := by simpa using hrem
          by_cases hrpc : r = [37]
          · subst hrpc
            have HO : Hid (o = if b2 = true then some ⟨5, n, []⟩ else none) := Lib.hid (HN2.out.trans (by simp))
            clear HN2
            go_wp2_with fail
            have HXR := Lib.hid (blk3 HX.out (.int .i64 5) (.int .i64 n) (.string ⟨#[]⟩))
            have HUR := Lib.hid (below_three HU.out (Nat.le_refl _) (.int .i64 5) (.int .i64 n) (.string ⟨#[]⟩))
            generalize (((w1.setCell ⟨w.heap.size, 0, none⟩ (.int .i64 5)).setCell ⟨w.heap.size, 1, none⟩ (.int .i64 n)).setCell ⟨w.heap.size, 2, none⟩ (.string ⟨#[]⟩)) = WR at *
            obtain ⟨hcr, hfr⟩ := cells_of HXR.out
            have r0 : WR.cell? ⟨w.heap.size, 0, none⟩ = some (.int .i64 5) := hcr 0
            have r1 : WR.cell? ⟨w.heap.size, 1, none⟩ = some (.int .i64 n) := hcr 1
            have r2 : WR.cell? ⟨w.heap.size, 2, none⟩ = some (.string ⟨#[]⟩) := hcr 2
            clear hcr hfr
            (try simp only [Exit.inBlock, Exit.then])
            refine bodyPost_ret (v := .tuple #[vval ⟨5, n, []⟩, .bool b2]) (by simp [results, Tryz.results41, go_sem, r0, r1, r2, vval, vcells, h2]) rfl ⟨⟨5, n, []⟩, _, rfl, HUR.out, Lib.hid (fun h => by rw [HO.out, if_pos h]), Lib.hid (fun h => by rw [HO.out, h]; rfl)⟩
          have gpc : (r == [37]) = false := by simpa using hrpc
          have HO : Hid (o = none) := Lib.hid (HN2.out.trans (by simp [g1, gpx, gem, gpc]))
          clear HN2
          go_wp2_with fail
          have HXR := Lib.hid (blk3 HX.out (.int .i64 0) (.int .i64 0) (.string ⟨#[]⟩))
          have HUR := Lib.hid (below_three HU.out (Nat.le_refl _) (.int .i64 0) (.int .i64 0) (.string ⟨#[]⟩))
          generalize (((w1.setCell ⟨w.heap.size, 0, none⟩ (.int .i64 0)).setCell ⟨w.heap.size, 1, none⟩ (.int .i64 0)).setCell ⟨w.heap.size, 2, none⟩ (.string ⟨#[]⟩)) = WR at *
          obtain ⟨hcr, hfr⟩ := cells_of HXR.out
          have r0 : WR.cell? ⟨w.heap.size, 0, none⟩ = some (.int .i64 0) := hcr 0
          have r1 : WR.cell? ⟨w.heap.size, 1, none⟩ = some (.int .i64 0) := hcr 1
          have r2 : WR.cell? ⟨w.heap.size, 2, none⟩ = some (.string ⟨#[]⟩) := hcr 2
          clear hcr hfr
          (try simp only [Exit.inBlock, Exit.then])
          refine bodyPost_ret (v := .tuple #[vval ⟨0, 0, []⟩, .bool false]) (by simp [results, Tryz.results41, go_sem, r0, r1, r2, vval, vcells]) rfl ⟨⟨0, 0, []⟩, _, rfl, HUR.out, Lib.hid (fun h => by cases h), Lib.hid (fun _ => HO.out)⟩

end Y
end Go.Proofs.YtafkeolpadfjfaaGreatDoor
