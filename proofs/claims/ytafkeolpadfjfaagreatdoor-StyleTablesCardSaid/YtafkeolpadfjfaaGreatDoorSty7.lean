/- What paint comes to. The table of longhands in memory. -/
import Derived.Test.YtafkeolpadfjfaaGreatDoorSty5
import Derived.Deep.MidRow
set_option linter.unusedVariables false
set_option linter.unusedSimpArgs false
namespace Go.Proofs.YtafkeolpadfjfaaGreatDoor
open Go.RowKit
namespace Y
open H
set_option maxHeartbeats 16000000 in
set_option maxRecDepth 100000 in
/-- A color by its digits. -/
theorem paint_hash (d : List UInt8) (w : World) (hs : d.length ≤ 90000) (hd : d.all S.isHex = true) :
  Calls Tryz.prog 40 #[.string ⟨(35 :: d).toArray⟩] w (ValPost (S.paint (35 :: d)) w) := by
 have HO : Hid (S.paint (35 :: d) = if (if d.length = 3 then d.flatMap (fun c => [c, c]) else d).length = 6 then some ⟨6, 0, 35 :: (if d.length = 3 then d.flatMap (fun c => [c, c]) else d)⟩ else none) := Lib.hid (by
  show (if d.all S.isHex = true then _ else _) = _
  rw [if_pos hd])
 generalize S.paint (35 :: d) = o at *
 have QH := Lib.hid (fun W => hex d W (by omega))
 rw [hd] at QH
 clear hd
 have zd := bytes_size d
 go_enter Tryz.func40, Tryz.ntmps40
 go_upto_region 1 with fail
 have HX0 : Hid (Blk w.heap.size #[.int .i64 0, .int .i64 0, .string ⟨#[]⟩] 32 (w.alloc (.cells #[.int .i64 0, .int .i64 0, .string ⟨#[]⟩] 32))) := Lib.hid (Blk.new w _ _)
 have HU0 : Hid (Below w.heap.size w (w.alloc (.cells #[.int .i64 0, .int .i64 0, .string ⟨#[]⟩] 32))) := Lib.hid ((Below.refl _ w).alloc (Nat.le_refl _) _)
 generalize (w.alloc (.cells #[.int .i64 0, .int .i64 0, .string ⟨#[]⟩] 32)) = W0 at *
 go_wp2_with fail
 refine (CutPrefixY (35 :: d) [35] true _ (by simp [List.isPrefixOf])).mono ?_
 rintro e w' ⟨rfl, rfl⟩
 simp only [List.length_cons, List.length_nil, Nat.zero_add, List.drop_succ_cons, List.drop_zero, if_true]
 go_wp2_with fail
 refine (QH.out _).mono ?_
 rintro e w1 ⟨rfl, hb⟩
 have HX := Lib.hid (HX0.out.below hb)
 have HU := Lib.hid (HU0.out.trans (hb.mono HU0.out.size))
 clear hb HX0 HU0 QH
 by_cases h3 : d.length = 3
 ·obtain ⟨a, b, c, rfl⟩ : ∃ a b c, d = [a, b, c] := by
   match d, h3 with
   | [a, b, c], _ => exact ⟨a, b, c, rfl⟩
  have HO2 : Hid (o = some ⟨6, 0, [35, a, a, b, b, c, c]⟩) := Lib.hid (HO.out.trans (by simp))
  have q1 : (⟨#[a, b, c]⟩ : ByteArray).extract 0 1 = ⟨#[a]⟩ := by rfl
  have q2 : (⟨#[a, b, c]⟩ : ByteArray).extract 1 2 = ⟨#[b]⟩ := by rfl
  have q3 : (⟨#[a, b, c]⟩ : ByteArray).extract 2 3 = ⟨#[c]⟩ := by rfl
  have p1 : (⟨#[a, a]⟩ : ByteArray) ++ ⟨#[b, b]⟩ = ⟨#[a, a, b, b]⟩ := append_bytes [a, a] [b, b]
  have p2 : (⟨#[a, a, b, b]⟩ : ByteArray) ++ ⟨#[c, c]⟩ = ⟨#[a, a, b, b, c, c]⟩ := append_bytes [a, a, b, b] [c, c]
  have p3 : (⟨#[35]⟩ : ByteArray) ++ ⟨#[a, a, b, b, c, c]⟩ = ⟨#[35, a, a, b, b, c, c]⟩ := append_bytes [35] [a, a, b, b, c, c]
  clear HO h3 zd hs
  go_wp2_with fail
  refine wp_region_later (by kernel_rfl) (by kernel_rfl) ?_
  repeat (go_big_quiet_step ((go_at_call 77; exact Calls.later (rep2 _ _))))
  refine wpQuiet_nil ?_
  intro _ hw'
  obtain ⟨dq, hw''⟩ := hw'
  subst hw''
  have HX2 := Lib.hid (HX.out.below dq.h)
  have HU2 := Lib.hid (HU.out.trans (dq.h.mono HU.out.size))
  generalize dq.w = w2 at *
  clear HX HU
  have HX := HX2
  have HU := HU2
  clear HX2 HU2
  obtain ⟨hcx, hfx⟩ := cells_of HX.out
  have x0 : w2.cell? ⟨w.heap.size, 0, none⟩ = some (.int .i64 0) := hcx 0
  have x1 : w2.cell? ⟨w.heap.size, 1, none⟩ = some (.int .i64 0) := hcx 1
  have x2 : w2.cell? ⟨w.heap.size, 2, none⟩ = some (.string ⟨#[]⟩) := hcx 2
  have f0 : w2.frozen? ⟨w.heap.size, 0, none⟩ = false := hfx 0 (by show 0 < 3; omega)
  have f1 : w2.frozen? ⟨w.heap.size, 1, none⟩ = false := hfx 1 (by show 1 < 3; omega)
  have f2 : w2.frozen? ⟨w.heap.size, 2, none⟩ = false := hfx 2 (by show 2 < 3; omega)
  clear hcx hfx
  go_wp2_with fail
  have HXR := Lib.hid (blk3 HX.out (.int .i64 6) (.int .i64 0) (.string ⟨([35, a, a, b, b, c, c]).toArray⟩))
  have HUR := Lib.hid (below_three HU.out (Nat.le_refl _) (.int .i64 6) (.int .i64 0) (.string ⟨([35, a, a, b, b, c, c]).toArray⟩))
  generalize (((w2.setCell ⟨w.heap.size, 0, none⟩ (.int .i64 6)).setCell ⟨w.heap.size, 1, none⟩ (.int .i64 0)).setCell ⟨w.heap.size, 2, none⟩ (.string ⟨([35, a, a, b, b, c, c]).toArray⟩)) = WR at *
  obtain ⟨hcr, hfr⟩ := cells_of HXR.out
  have r0 : WR.cell? ⟨w.heap.size, 0, none⟩ = some (.int .i64 6) := hcr 0
  have r1 : WR.cell? ⟨w.heap.size, 1, none⟩ = some (.int .i64 0) := hcr 1
  have r2 : WR.cell? ⟨w.heap.size, 2, none⟩ = some (.string ⟨([35, a, a, b, b, c, c]).toArray⟩) := hcr 2
  clear hcr hfr
  (try simp only [Exit.inBlock, Exit.then])
  refine bodyPost_ret (v := .tuple #[vval ⟨6, 0, [35, a, a, b, b, c, c]⟩, .bool true]) (by simp [results, Tryz.results40, go_sem, r0, r1, r2, vval, vcells]) rfl ⟨⟨6, 0, [35, a, a, b, b, c, c]⟩, _, rfl, HUR.out, Lib.hid (fun _ => HO2.out), Lib.hid (fun h => by cases h)⟩
 ·have e3 : ((d.length : Int) == 3) = false := by rw [beq_eq_false_iff_ne]; omega
  have n3 : ¬ (d.length : Int) = 3 := by omega
  have hap : (⟨#[35]⟩ : ByteArray) ++ ⟨d.toArray⟩ = ⟨(35 :: d).toArray⟩ := append_bytes [35] d
  have HO2 : Hid (o = if d.length = 6 then some ⟨6, 0, 35 :: d⟩ else none) := Lib.hid (HO.out.trans (by rw [if_neg h3]))
  have n3b : ¬ d.length = 3 := h3
  clear HO h3
  obtain ⟨hcx, hfx⟩ := cells_of HX.out
  have x0 : w1.cell? ⟨w.heap.size, 0, none⟩ = some (.int .i64 0) := hcx 0
  have x1 : w1.cell? ⟨w.heap.size, 1, none⟩ = some (.int .i64 0) := hcx 1
  have x2 : w1.cell? ⟨w.heap.size, 2, none⟩ = some (.string ⟨#[]⟩) := hcx 2
  have f0 : w1.frozen? ⟨w.heap.size, 0, none⟩ = false := hfx 0 (by show 0 < 3; omega)
  have f1 : w1.frozen? ⟨w.heap.size, 1, none⟩ = false := hfx 1 (by show 1 < 3; omega)
  have f2 : w1.frozen? ⟨w.heap.size, 2, none⟩ = false := hfx 2 (by show 2 < 3; omega)
  clear hcx hfx
  by_cases h6 : d.length = 6
  ·have HO3 := Lib.hid (HO2.out.trans (if_pos h6))
   have e6 : ((d.length : Int) == 6) = true := by rw [beq_iff_eq]; omega
   have n6 : (d.length : Int) = 6 := by omega
   clear HO2
   go_wp2_with fail
   have HXR := Lib.hid (blk3 HX.out (.int .i64 6) (.int .i64 0) (.string ⟨(35 :: d).toArray⟩))
   have HUR := Lib.hid (below_three HU.out (Nat.le_refl _) (.int .i64 6) (.int .i64 0) (.string ⟨(35 :: d).toArray⟩))
   generalize (((w1.setCell ⟨w.heap.size, 0, none⟩ (.int .i64 6)).setCell ⟨w.heap.size, 1, none⟩ (.int .i64 0)).setCell ⟨w.heap.size, 2, none⟩ (.string ⟨(35 :: d).toArray⟩)) = WR at *
   obtain ⟨hcr, hfr⟩ := cells_of HXR.out
   have r0 : WR.cell? ⟨w.heap.size, 0, none⟩ = some (.int .i64 6) := hcr 0
   have r1 : WR.cell? ⟨w.heap.size, 1, none⟩ = some (.int .i64 0) := hcr 1
   have r2 : WR.cell? ⟨w.heap.size, 2, none⟩ = some (.string ⟨(35 :: d).toArray⟩) := hcr 2
   clear hcr hfr
   (try simp only [Exit.inBlock, Exit.then])
   refine bodyPost_ret (v := .tuple #[vval ⟨6, 0, 35 :: d⟩, .bool true]) (by simp [results, Tryz.results40, go_sem, r0, r1, r2, vval, vcells, n6, h6]) rfl ⟨⟨6, 0, 35 :: d⟩, _, rfl, HUR.out, Lib.hid (fun _ => HO3.out), Lib.hid (fun h => by cases h)⟩
  ·have HO3 := Lib.hid (HO2.out.trans (if_neg h6))
   have e6 : ((d.length : Int) == 6) = false := by rw [beq_eq_false_iff_ne]; omega
   have n6 : ¬ (d.length : Int) = 6 := by omega
   clear HO2
   go_wp2_with fail
   have HXR := Lib.hid (blk3 HX.out (.int .i64 6) (.int .i64 0) (.string ⟨(35 :: d).toArray⟩))
   have HUR := Lib.hid (below_three HU.out (Nat.le_refl _) (.int .i64 6) (.int .i64 0) (.string ⟨(35 :: d).toArray⟩))
   generalize (((w1.setCell ⟨w.heap.size, 0, none⟩ (.int .i64 6)).setCell ⟨w.heap.size, 1, none⟩ (.int .i64 0)).setCell ⟨w.heap.size, 2, none⟩ (.string ⟨(35 :: d).toArray⟩)) = WR at *
   obtain ⟨hcr, hfr⟩ := cells_of HXR.out
   have r0 : WR.cell? ⟨w.heap.size, 0, none⟩ = some (.int .i64 6) := hcr 0
   have r1 : WR.cell? ⟨w.heap.size, 1, none⟩ = some (.int .i64 0) := hcr 1
   have r2 : WR.cell? ⟨w.heap.size, 2, none⟩ = some (.string ⟨(35 :: d).toArray⟩) := hcr 2
   clear hcr hfr
   (try simp only [Exit.inBlock, Exit.then])
   refine bodyPost_ret (v := .tuple #[vval ⟨6, 0, 35 :: d⟩, .bool false]) (by simp [results, Tryz.results40, go_sem, r0, r1, r2, vval, vcells, n6, h6]) rfl ⟨⟨6, 0, 35 :: d⟩, _, rfl, HUR.out, Lib.hid (fun h => by cases h), Lib.hid (fun _ => HO3.out)⟩
theorem paint (s : List UInt8) (w : World) (hs : s.length ≤ 90000) (hE : Asc w) (hbig : 1 < w.heap.size) :
  Calls Tryz.prog 40 #[.string ⟨s.toArray⟩] w (ValPost (S.paint s) w) := by
 cases s with
 | nil => exact paint_named [] w (by omega) hE hbig rfl (Or.inl rfl)
 | cons c d =>
  by_cases hc : c = 35
  ·subst hc
   cases hd : d.all S.isHex with
   | true => exact paint_hash d w (by simp at hs; omega) hd
   | false =>
    refine paint_named (35 :: d) w (by omega) hE hbig ?_ (Or.inr ⟨d, rfl, hd⟩)
    show (if d.all S.isHex = true then _ else _) = _
    rw [if_neg (by rw [hd]; simp)]
  ·refine paint_named (c :: d) w (by omega) hE hbig ?_ (Or.inl ?_)
   ·unfold S.paint
    split
    ·rename_i h; exact absurd (List.cons.inj h).1 hc
    ·rfl
   ·have : (35 == c) = false := by simpa using fun h => hc h.symm
    simp [List.isPrefixOf, this]
end Y
end Go.Proofs.YtafkeolpadfjfaaGreatDoor
namespace Go.Proofs.YtafkeolpadfjfaaGreatDoor
open Go.RowKit
namespace Y
open H
/-- Words with single spaces between them. -/
def joinW : List (List UInt8) → List UInt8
 | [] => []
 | [a] => a
 | a :: b :: r => a ++ 32 :: joinW (b :: r)
def trow (k : Nat) : List UInt8 × Nat × List (List UInt8) := S.tab.getD k ([], 0, [])
def rcells (r : List UInt8 × Nat × List (List UInt8)) : List Value := [.string ⟨r.1.toArray⟩, .int .i64 (r.2.1 : Nat), .string ⟨(joinW r.2.2).toArray⟩]
def tcs : List Value := S.tab.flatMap rcells
theorem tab_len : S.tab.length = 37 := by decide
theorem trow_at (k : Nat) (hk : k < 37) : S.tab[k]? = some (trow k) := by
 unfold trow
 rw [List.getD_eq_getElem?_getD, List.getElem?_eq_getElem (by rw [tab_len]; exact hk)]
 rfl
theorem flat3 {α : Type} (f : α → List Value) (hf : ∀ x, (f x).length = 3) : ∀ (l : List α) (k : Nat) (h : k < l.length), ((l.flatMap f).drop (k * 3)).take 3 = f l[k]
 | x :: r, 0, _ => by
  rw [List.flatMap_cons, Nat.zero_mul, List.drop_zero]
  have := hf x
  rw [List.take_append_of_le_length (by omega), List.take_of_length_le (by omega)]
  rfl
 | x :: r, k + 1, h => by
  rw [List.flatMap_cons]
  have := hf x
  rw [show (k + 1) * 3 = (f x).length + k * 3 by omega, List.drop_append]
  rw [show (f x).length + k * 3 - (f x).length = k * 3 by omega, List.drop_eq_nil_of_le (by omega : (f x).length ≤ (f x).length + k * 3), List.nil_append]
  exact flat3 f hf r k (by simpa using h)
theorem tcs_len : tcs.length = 111 := by
 unfold tcs
 rw [List.length_flatMap]
 have : (S.tab.map fun a => (rcells a).length) = S.tab.map fun _ => 3 := rfl
 rw [this]
 decide
theorem infoRow : (Tryz.prog.info? 71).map (·.size) = some 3 := by kernel_rfl
theorem undRow : (match Tryz.prog.underlying 71 with | some (.struct _) => true | _ => false) = true := by kernel_rfl
theorem undTab : Tryz.prog.underlying 72 = some (.array 37 71) := by kernel_rfl
theorem infoTab : (Tryz.prog.info? 72).map (·.size) = some 111 := by kernel_rfl
theorem row_at {k : Nat} (hk : k < 37) (kk : IntKind) (w : World) :
  (Instr.index 72 (.agg tcs.toArray) (.int kk (k : Int))).run Tryz.prog w = .ok (.agg #[.string ⟨(trow k).1.toArray⟩, .int .i64 ((trow k).2.1 : Nat), .string ⟨(joinW (trow k).2.2).toArray⟩]) w := by
 have h1 := undTab
 have h2 := undRow
 obtain ⟨i, hi, hs⟩ := Option.map_eq_some_iff.1 infoRow
 have hin : (0 : Int) ≤ (k : Int) ∧ (k : Int) < ((37 : Nat) : Int) := by omega
 have hf := flat3 rcells (fun _ => rfl) S.tab k (by rw [tab_len]; exact hk)
 have hr : S.tab[k]'(by rw [tab_len]; exact hk) = trow k := by
  have := trow_at k hk
  rw [List.getElem?_eq_getElem (by rw [tab_len]; exact hk)] at this
  exact Option.some.inj this
 rw [hr] at hf
 have hlen := tcs_len
 change (tcs.drop (k * 3)).take 3 = _ at hf
 generalize tcs = cs at *
 cases hu : Tryz.prog.underlying 71 with
 | none => rw [hu] at h2; cases h2
 | some u =>
  rw [hu] at h2
  cases u <;> first | (cases h2; done) | skip
  simp [Instr.index, run_underlying h1, asIntOf, go_sem, part, isAgg, run_underlying hu, sizeOf, typeInfo, hi, hs, hk]
  exact hf
theorem words_at (k : Nat) (hk : k < 37) : Lib.fields (joinW (trow k).2.2) = (trow k).2.2 ∧ (trow k).2.2.length ≤ 1000 ∧ (joinW (trow k).2.2).length ≤ 1000 ∧ (joinW (trow k).2.2).all (fun b => decide (b.toNat < 128)) = true ∧ (trow k).1.length ≤ 100 := by
 have h : ∀ n : Fin 37, Lib.fields (joinW (trow n.val).2.2) = (trow n.val).2.2 ∧ (trow n.val).2.2.length ≤ 1000 ∧ (joinW (trow n.val).2.2).length ≤ 1000 ∧ (joinW (trow n.val).2.2).all (fun b => decide (b.toNat < 128)) = true ∧ (trow n.val).1.length ≤ 100 := by decide +kernel
 exact h ⟨k, hk⟩
theorem bits_at (k : Nat) (hk : k < 37) : Bits (trow k).2.1 := by
 have h : ∀ n : Fin 37, (bits BinOp.and IntKind.i64 ((trow n.val).2.1 : Int) 1 != 0) = (trow n.val).2.1.testBit 0 ∧ (bits BinOp.and IntKind.i64 ((trow n.val).2.1 : Int) 2 != 0) = (trow n.val).2.1.testBit 1 ∧ (bits BinOp.and IntKind.i64 ((trow n.val).2.1 : Int) 4 != 0) = (trow n.val).2.1.testBit 2 ∧ (bits BinOp.and IntKind.i64 ((trow n.val).2.1 : Int) 8 != 0) = (trow n.val).2.1.testBit 3 ∧ (bits BinOp.and IntKind.i64 ((trow n.val).2.1 : Int) 16 == 0) = (!(trow n.val).2.1.testBit 4) ∧ (bits BinOp.and IntKind.i64 ((trow n.val).2.1 : Int) 32 != 0) = (trow n.val).2.1.testBit 5 := by decide +kernel
 obtain ⟨a0, a1, a2, a3, a4, a5⟩ := h ⟨k, hk⟩
 exact ⟨a0, a1, a2, a3, a4, a5⟩
theorem globals_fields : Lib.fields [105, 110, 104, 101, 114, 105, 116, 32, 105, 110, 105, 116, 105, 97, 108] = S.globals := by decide +kernel
theorem value_at {p s : List UInt8} {k : Nat} (hk : k < 37) (hn : ∀ m, m < k → (trow m).1 ≠ p) (h : (trow k).1 = p) : S.value p s = some (S.valueT (trow k).2.1 (trow k).2.2 (S.trim (S.lower s))) := by
 have : S.tab.find? (fun r => r.1 == p) = some (trow k) := by
  rw [List.find?_eq_some_iff_getElem]
  refine ⟨by simpa using h, k, by rw [tab_len]; exact hk, ?_, fun m hm => ?_⟩
  ·have := trow_at k hk
   rw [List.getElem?_eq_getElem (by rw [tab_len]; exact hk)] at this
   simpa using this
  ·have h1 := trow_at m (by omega)
   rw [List.getElem?_eq_getElem (by rw [tab_len]; omega)] at h1
   simp only [Option.some.injEq] at h1
   rw [h1]
   simpa using hn m hm
 unfold S.value
 rw [this]
theorem value_none {p s : List UInt8} (hn : ∀ m, m < 37 → (trow m).1 ≠ p) : S.value p s = none := by
 have : S.tab.find? (fun r => r.1 == p) = none := by
  rw [List.find?_eq_none]
  intro x hx
  obtain ⟨k, hk, rfl⟩ := List.getElem_of_mem hx
  rw [tab_len] at hk
  have h1 := trow_at k hk
  rw [List.getElem?_eq_getElem (by rw [tab_len]; exact hk)] at h1
  simp only [Option.some.injEq] at h1
  rw [h1]
  simpa using hn k hk
 unfold S.value
 rw [this]
/-- What the readers of values ask of the world. -/
structure YEnv (w : World) : Prop where
 asc : Asc w
 tab : w.rangeAt 0 0 tcs
 big : 1 < w.heap.size
 big2 : 0 < w.heap.size
theorem YEnv.below {w w' : World} {B : Nat} (h : YEnv w) (b : Below B w w') (h1 : 1 < B) (h2 : 0 < B) : YEnv w' :=
 ⟨tab_below h.asc b h1, fun j v hv => (b.cell (p := ⟨0, 0 + j, none⟩) h2).trans (h.tab j v hv), Nat.lt_of_lt_of_le h.big b.size, Nat.lt_of_lt_of_le h.big2 b.size⟩
end Y
end Go.Proofs.YtafkeolpadfjfaaGreatDoor
