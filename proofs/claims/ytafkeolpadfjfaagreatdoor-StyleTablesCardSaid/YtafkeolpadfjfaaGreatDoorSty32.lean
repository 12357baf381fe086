/- What the reference's sides and flex come to. A declaration, as the reference reads it. No program in sight. -/
import Derived.Test.YtafkeolpadfjfaaGreatDoorSty28
import Derived.Test.YtafkeolpadfjfaaGreatDoorSty34
import Derived.Test.YtafkeolpadfjfaaGreatDoorSty19
set_option linter.unusedVariables false
set_option linter.unusedSimpArgs false
namespace Go.Proofs.YtafkeolpadfjfaaGreatDoor
open Go.RowKit
namespace V
open H Y
/-- Strings in a row of the call's own; nil for none. -/
def ValsPost (l : List (List UInt8)) (w : World) (e : Ending) (w' : World) : Prop :=
 Below w.heap.size w w' ∧ ((l = [] ∧ e = .returned (.slice none 0 0)) ∨ (∃ g, 0 < l.length ∧ e = .returned (.slice (some ⟨g, 0, none⟩) l.length l.length) ∧ StrsAt (w.heap.size ≤ ·) w' (.slice (some ⟨g, 0, none⟩) l.length l.length) l))
set_option maxHeartbeats 4000000 in
set_option maxRecDepth 100000 in
theorem sides (nm : List UInt8) (w : World) (hm : nm.length ≤ 1000000) : Calls Tryz.prog 146 #[.string ⟨nm.toArray⟩] w (ValsPost (S.rsides nm) w) := by
 have zn := bytes_size nm
 have hB : ∀ cs T, Below w.heap.size w (w.alloc (.cells cs T)) := fun cs T => (Below.refl _ w).alloc (Nat.le_refl _) _
 have HBl := Lib.hid hB
 clear hB
 by_cases hmp : nm = [109, 97, 114, 103, 105, 110] ∨ nm = [112, 97, 100, 100, 105, 110, 103]
 ·have HO : Hid (S.rsides nm = [nm ++ [45, 116, 111, 112], nm ++ [45, 114, 105, 103, 104, 116], nm ++ [45, 98, 111, 116, 116, 111, 109], nm ++ [45, 108, 101, 102, 116]]) := Lib.hid (by unfold S.rsides S.sidesOf; rw [if_pos hmp])
  have a0 : (⟨nm.toArray⟩ : ByteArray) ++ ⟨#[45, 116, 111, 112]⟩ = ⟨(nm ++ [45, 116, 111, 112]).toArray⟩ := append_bytes nm [45, 116, 111, 112]
  have a1 : (⟨nm.toArray⟩ : ByteArray) ++ ⟨#[45, 114, 105, 103, 104, 116]⟩ = ⟨(nm ++ [45, 114, 105, 103, 104, 116]).toArray⟩ := append_bytes nm [45, 114, 105, 103, 104, 116]
  have a2 : (⟨nm.toArray⟩ : ByteArray) ++ ⟨#[45, 98, 111, 116, 116, 111, 109]⟩ = ⟨(nm ++ [45, 98, 111, 116, 116, 111, 109]).toArray⟩ := append_bytes nm [45, 98, 111, 116, 116, 111, 109]
  have a3 : (⟨nm.toArray⟩ : ByteArray) ++ ⟨#[45, 108, 101, 102, 116]⟩ = ⟨(nm ++ [45, 108, 101, 102, 116]).toArray⟩ := append_bytes nm [45, 108, 101, 102, 116]
  have hl : nm.length ≤ 20 := by rcases hmp with h | h <;> (rw [h]; decide)
  have hst := Lib.hid (strs_lit w [nm ++ [45, 116, 111, 112], nm ++ [45, 114, 105, 103, 104, 116], nm ++ [45, 98, 111, 116, 116, 111, 109], nm ++ [45, 108, 101, 102, 116]] 9 (by simp) (by simp))
  have hcs : ((nm == [109, 97, 114, 103, 105, 110]) = true) ∨ ((nm == [109, 97, 114, 103, 105, 110]) = false ∧ (nm == [112, 97, 100, 100, 105, 110, 103]) = true) := by
   by_cases h : nm = [109, 97, 114, 103, 105, 110]
   ·exact Or.inl (by simpa using h)
   ·exact Or.inr ⟨by simpa using h, by simpa using hmp.resolve_left h⟩
  clear hmp
  generalize S.rsides nm = o at *
  rcases hcs with h1 | ⟨h1, h2⟩
  all_goals
   go_enter Tryz.func146, Tryz.ntmps146
   go_wp2_with fail
   go_ret
   have hO := HO.out
   subst hO
   exact ⟨HBl.out _ _, Or.inr ⟨_, by simp, rfl, hst.out⟩⟩
 ·have g1 : (nm == [109, 97, 114, 103, 105, 110]) = false := by simpa using fun h => hmp (Or.inl h)
  have g2 : (nm == [112, 97, 100, 100, 105, 110, 103]) = false := by simpa using fun h => hmp (Or.inr h)
  by_cases hw : nm = [98, 111, 114, 100, 101, 114, 45, 119, 105, 100, 116, 104]
  ·have HO : Hid (S.rsides nm = [[98, 111, 114, 100, 101, 114, 45, 116, 111, 112, 45, 119, 105, 100, 116, 104], [98, 111, 114, 100, 101, 114, 45, 114, 105, 103, 104, 116, 45, 119, 105, 100, 116, 104], [98, 111, 114, 100, 101, 114, 45, 98, 111, 116, 116, 111, 109, 45, 119, 105, 100, 116, 104], [98, 111, 114, 100, 101, 114, 45, 108, 101, 102, 116, 45, 119, 105, 100, 116, 104]]) := Lib.hid (by unfold S.rsides S.sidesOf; rw [if_neg hmp, if_pos hw])
   have g3 : (nm == [98, 111, 114, 100, 101, 114, 45, 119, 105, 100, 116, 104]) = true := by simpa using hw
   have hst := Lib.hid (strs_lit w [[98, 111, 114, 100, 101, 114, 45, 116, 111, 112, 45, 119, 105, 100, 116, 104], [98, 111, 114, 100, 101, 114, 45, 114, 105, 103, 104, 116, 45, 119, 105, 100, 116, 104], [98, 111, 114, 100, 101, 114, 45, 98, 111, 116, 116, 111, 109, 45, 119, 105, 100, 116, 104], [98, 111, 114, 100, 101, 114, 45, 108, 101, 102, 116, 45, 119, 105, 100, 116, 104]] 9 (by simp) (by simp))
   clear hmp hw
   generalize S.rsides nm = o at *
   go_enter Tryz.func146, Tryz.ntmps146
   go_wp2_with fail
   go_ret
   have hO := HO.out
   subst hO
   exact ⟨HBl.out _ _, Or.inr ⟨_, by simp, rfl, hst.out⟩⟩
  ·have g3 : (nm == [98, 111, 114, 100, 101, 114, 45, 119, 105, 100, 116, 104]) = false := by simpa using hw
   by_cases hf : nm = [102, 108, 101, 120]
   ·have HO : Hid (S.rsides nm = [[102, 108, 101, 120, 45, 103, 114, 111, 119], [102, 108, 101, 120, 45, 115, 104, 114, 105, 110, 107], [102, 108, 101, 120, 45, 98, 97, 115, 105, 115]]) := Lib.hid (by unfold S.rsides S.sidesOf; rw [if_neg hmp, if_neg hw]; exact if_pos hf)
    have g4 : (nm == [102, 108, 101, 120]) = true := by simpa using hf
    have hst := Lib.hid (strs_lit w [[102, 108, 101, 120, 45, 103, 114, 111, 119], [102, 108, 101, 120, 45, 115, 104, 114, 105, 110, 107], [102, 108, 101, 120, 45, 98, 97, 115, 105, 115]] 9 (by simp) (by simp))
    clear hmp hw hf
    generalize S.rsides nm = o at *
    go_enter Tryz.func146, Tryz.ntmps146
    go_wp2_with fail
    go_ret
    have hO := HO.out
    subst hO
    exact ⟨HBl.out _ _, Or.inr ⟨_, by simp, rfl, hst.out⟩⟩
   ·have HO : Hid (S.rsides nm = []) := Lib.hid (by unfold S.rsides S.sidesOf; rw [if_neg hmp, if_neg hw]; exact if_neg hf)
    have g4 : (nm == [102, 108, 101, 120]) = false := by simpa using hf
    clear hmp hw hf
    generalize S.rsides nm = o at *
    go_enter Tryz.func146, Tryz.ntmps146
    go_wp2_with fail
    go_ret
    exact ⟨Below.refl _ _, Or.inl ⟨HO.out, rfl⟩⟩
theorem strs_of {w : World} {B : Nat} {g : Nat} {l : List (List UInt8)} {n : Nat} (h : Blk g (sCells l).toArray 9 w) (hB : B ≤ g) (h0 : 0 < l.length) (hn : l.length = n) : StrsAt (B ≤ ·) w (.slice (some ⟨g, 0, none⟩) n n) l := by
 subst hn
 refine ⟨l.map (fun d => (d, .bool false)), by rw [List.map_map]; exact List.map_id l, Or.inr ⟨g, _, rfl, h0, hB, h.lt, fun o ho => ?_⟩, fun _ _ => trivial⟩
 rw [(cells_of h).1 o, List.flatMap_map, show l.flatMap (fun a => cStr a (.bool false)) = sCells l from flat_s l]
 simp
/-- Words in memory. -/
def WordsAt (w : World) (ao : Option Addr) (l : List (List UInt8)) : Prop := 0 < l.length → ∃ g, ao = some ⟨g, 0, none⟩ ∧ g < w.heap.size ∧ ∀ k x, l[k]? = some x → w.cell? ⟨g, k, none⟩ = some (.string ⟨x.toArray⟩)
theorem WordsAt.below {w w' : World} {ao : Option Addr} {l : List (List UInt8)} (h : WordsAt w ao l) (b : Below w.heap.size w w') : WordsAt w' ao l := fun h0 => by
 obtain ⟨g, h1, h2, h3⟩ := h h0
 exact ⟨g, h1, Nat.lt_of_lt_of_le h2 b.size, fun k x hx => (b.cell (p := ⟨g, k, none⟩) h2).trans (h3 k x hx)⟩
theorem good_field (k : Nat) (n : Int) (wd : List UInt8) (ok : Bool) (W : World) : (Instr.field 44 (.agg #[.int .i64 (k : Nat), .int .i64 n, .string ⟨wd.toArray⟩, .bool ok]) 3).run Tryz.prog W = .ok (.bool ok) W := by kernel_rfl
set_option maxHeartbeats 16000000 in
set_option maxRecDepth 100000 in
theorem flex (ao : Option Addr) (cap : Nat) (ws : List (List UInt8)) (w : World) (hw : WordsAt w ao ws) (hl : ∀ x ∈ ws, x.length ≤ 90000) (hn : ws.length ≤ 1000000) :
  Calls Tryz.prog 147 #[.slice ao ws.length cap] w (ValsPost (S.rflex ws) w) := by
 have HW := Lib.hid hw
 have HL := Lib.hid hl
 have HN : Hid (∀ l, 0 < l.length → l.length ≤ 1000 → StrsAt (w.heap.size ≤ ·) (w.alloc (.cells (sCells l).toArray 9)) (.slice (some ⟨w.heap.size, 0, none⟩) l.length l.length) l) := Lib.hid (fun l h1 h2 => strs_lit w l 9 h1 h2)
 have HB : Hid (∀ cs T, Below w.heap.size w (w.alloc (.cells cs T))) := Lib.hid (fun cs T => (Below.refl _ w).alloc (Nat.le_refl _) _)
 clear hw hl
 match ws, HW, HL, hn with
 | [], HW, HL, hn =>
  go_enter Tryz.func147, Tryz.ntmps147
  go_wp2_with fail
  go_ret
  exact ⟨HB.out _ _, Or.inl ⟨rfl, rfl⟩⟩
 | [a], HW, HL, hn =>
  obtain ⟨g, rfl, hg, hc⟩ := HW.out (by simp)
  have c0 : w.cell? ⟨g, 0, none⟩ = some (.string ⟨a.toArray⟩) := hc 0 a rfl
  clear HW hc HL
  by_cases h1 : a = [110, 111, 110, 101]
  ·have e1 : (a == [110, 111, 110, 101]) = true := by simpa using h1
   have HR : Hid (S.rflex [a] = [[48], [48], [97, 117, 116, 111]]) := Lib.hid (by rw [h1]; rfl)
   have hs := Lib.hid (HN.out [[48], [48], [97, 117, 116, 111]] (by simp) (by simp))
   generalize S.rflex [a] = o at *
   clear h1 HN
   go_enter Tryz.func147, Tryz.ntmps147
   go_wp2_with fail
   go_ret
   have hO := HR.out
   subst hO
   exact ⟨HB.out _ _, Or.inr ⟨_, by simp, rfl, hs.out⟩⟩
  ·have e1 : (a == [110, 111, 110, 101]) = false := by simpa using h1
   by_cases h2 : a = [97, 117, 116, 111]
   ·have e2 : (a == [97, 117, 116, 111]) = true := by simpa using h2
    have HR : Hid (S.rflex [a] = [[49], [49], [97, 117, 116, 111]]) := Lib.hid (by rw [h2]; rfl)
    have hs := Lib.hid (HN.out [[49], [49], [97, 117, 116, 111]] (by simp) (by simp))
    generalize S.rflex [a] = o at *
    clear h1 h2 HN
    go_enter Tryz.func147, Tryz.ntmps147
    go_wp2_with fail
    go_ret
    have hO := HR.out
    subst hO
    exact ⟨HB.out _ _, Or.inr ⟨_, by simp, rfl, hs.out⟩⟩
   ·have e2 : (a == [97, 117, 116, 111]) = false := by simpa using h2
    have HR : Hid (S.rflex [a] = [a, [49], [48, 112, 120]]) := Lib.hid (by
     unfold S.rflex
     rw [if_neg (by intro h; injection h with h _; exact h1 h), if_neg (by intro h; injection h with h _; exact h2 h)]
     rfl)
    generalize S.rflex [a] = o at *
    have HV2 := Lib.hid (Blk.new w #[.string ⟨a.toArray⟩, .string ⟨#[49]⟩, .string ⟨#[48, 112, 120]⟩] 9)
    have HB2 := Lib.hid (HB.out #[.string ⟨a.toArray⟩, .string ⟨#[49]⟩, .string ⟨#[48, 112, 120]⟩] 9)
    clear h1 h2 HN HB
    go_enter Tryz.func147, Tryz.ntmps147
    go_wp2_with fail
    go_ret
    have hO := HR.out
    subst hO
    exact ⟨HB2.out, Or.inr ⟨_, by simp, rfl, strs_of HV2.out (Nat.le_refl _) (by simp) rfl⟩⟩
 | [a, b], HW, HL, hn =>
  obtain ⟨g, rfl, hg, hc⟩ := HW.out (by simp)
  have c0 : w.cell? ⟨g, 0, none⟩ = some (.string ⟨a.toArray⟩) := hc 0 a rfl
  have c1 : w.cell? ⟨g, 1, none⟩ = some (.string ⟨b.toArray⟩) := hc 1 b rfl
  have hlb := HL.out b (by simp)
  have HR : Hid (S.rflex [a, b] = if (S.good [102, 108, 101, 120, 45, 115, 104, 114, 105, 110, 107] b).isSome then [a, b, [48, 112, 120]] else [a, [49], b]) := Lib.hid (by unfold S.rflex; rw [if_neg (by simp), if_neg (by simp)]; rfl)
  have QP := Lib.hid (fun W => parse [102, 108, 101, 120, 45, 115, 104, 114, 105, 110, 107] b W hlb)
  rw [S.rparse_law] at QP
  generalize S.rflex [a, b] = o at *
  generalize S.good [102, 108, 101, 120, 45, 115, 104, 114, 105, 110, 107] b = gb at *
  have HV2 := Lib.hid (Blk.new w #[.string ⟨a.toArray⟩, .string ⟨#[49]⟩, .string ⟨#[48, 112, 120]⟩] 9)
  have HB2 := Lib.hid (HB.out #[.string ⟨a.toArray⟩, .string ⟨#[49]⟩, .string ⟨#[48, 112, 120]⟩] 9)
  clear HN HB hc HW HL
  go_enter Tryz.func147, Tryz.ntmps147
  go_upto_region 9 with fail
  have d1 : (w.alloc (.cells #[.string ⟨a.toArray⟩, .string ⟨#[49]⟩, .string ⟨#[48, 112, 120]⟩] 9)).cell? ⟨g, 1, none⟩ = some (.string ⟨b.toArray⟩) := (HB2.out.cell (p := ⟨g, 1, none⟩) hg).trans c1
  generalize (w.alloc (.cells #[.string ⟨a.toArray⟩, .string ⟨#[49]⟩, .string ⟨#[48, 112, 120]⟩] 9)) = W1 at *
  clear c0
  go_wp2_with fail
  refine (QP.out _).mono ?_
  rintro e W2 ⟨rv, ok, rfl, hb, hok, hno⟩
  have HV3 := Lib.hid (HV2.out.below hb)
  have HB3 := Lib.hid (HB2.out.trans (hb.mono HB2.out.size))
  have e1 : W2.cell? ⟨g, 1, none⟩ = some (.string ⟨b.toArray⟩) := (HB3.out.cell (p := ⟨g, 1, none⟩) hg).trans c1
  obtain ⟨hcv, hf⟩ := cells_of HV3.out
  have f1 : W2.frozen? ⟨w.heap.size, 1, none⟩ = false := hf 1 (by show 1 < 3; omega)
  have f2 : W2.frozen? ⟨w.heap.size, 2, none⟩ = false := hf 2 (by show 2 < 3; omega)
  have x1 : W2.cell? ⟨w.heap.size, 1, none⟩ = some (.string ⟨#[49]⟩) := hcv 1
  have x2 : W2.cell? ⟨w.heap.size, 2, none⟩ = some (.string ⟨#[48, 112, 120]⟩) := hcv 2
  unfold rval rcells
  clear hb QP HV2 HB2 d1 c1 hf hcv
  cases ok with
  | true =>
   have HO : Hid (o = [a, b, [48, 112, 120]]) := Lib.hid (by rw [HR.out, hok.out rfl]; rfl)
   have HVf := Lib.hid (HV3.out.set 1 (.string ⟨b.toArray⟩))
   have HBf := Lib.hid (HB3.out.setCell (p := ⟨w.heap.size, 1, none⟩) (Nat.le_refl _) (.string ⟨b.toArray⟩))
   clear HR hok hno HV3 HB3
   go_wp2_with fail
   rw [good_field]
   simp only [Result.andThen]
   rw [Oper.upon_value]
   go_wp2_with fail
   go_ret
   have hO := HO.out
   subst hO
   exact ⟨HBf.out, Or.inr ⟨_, by simp, rfl, strs_of HVf.out (Nat.le_refl _) (by simp) rfl⟩⟩
  | false =>
   have HO : Hid (o = [a, [49], b]) := Lib.hid (by rw [HR.out, hno.out rfl]; rfl)
   have HVf := Lib.hid (HV3.out.set 2 (.string ⟨b.toArray⟩))
   have HBf := Lib.hid (HB3.out.setCell (p := ⟨w.heap.size, 2, none⟩) (Nat.le_refl _) (.string ⟨b.toArray⟩))
   clear HR hok hno HV3 HB3
   go_wp2_with fail
   rw [good_field]
   simp only [Result.andThen]
   rw [Oper.upon_value]
   go_wp2_with fail
   go_ret
   have hO := HO.out
   subst hO
   exact ⟨HBf.out, Or.inr ⟨_, by simp, rfl, strs_of HVf.out (Nat.le_refl _) (by simp) rfl⟩⟩
 | [a, b, c], HW, HL, hn =>
  obtain ⟨g, rfl, hg, hc⟩ := HW.out (by simp)
  have c0 : w.cell? ⟨g, 0, none⟩ = some (.string ⟨a.toArray⟩) := hc 0 a rfl
  have c1 : w.cell? ⟨g, 1, none⟩ = some (.string ⟨b.toArray⟩) := hc 1 b rfl
  have c2 : w.cell? ⟨g, 2, none⟩ = some (.string ⟨c.toArray⟩) := hc 2 c rfl
  have HVf := Lib.hid (Blk.new w #[.string ⟨a.toArray⟩, .string ⟨b.toArray⟩, .string ⟨c.toArray⟩] 9)
  have HBf := Lib.hid (HB.out #[.string ⟨a.toArray⟩, .string ⟨b.toArray⟩, .string ⟨c.toArray⟩] 9)
  have HR : Hid (S.rflex [a, b, c] = [a, b, c]) := Lib.hid (by unfold S.rflex; rw [if_neg (by simp), if_neg (by simp)])
  generalize S.rflex [a, b, c] = o at *
  clear HN HB hc HW HL
  go_enter Tryz.func147, Tryz.ntmps147
  go_wp2_with fail
  go_ret
  have hO := HR.out
  subst hO
  exact ⟨HBf.out, Or.inr ⟨_, by simp, rfl, strs_of HVf.out (Nat.le_refl _) (by simp) rfl⟩⟩
 | a :: b :: c :: d :: r, HW, HL, hn =>
  have HR : Hid (S.rflex (a :: b :: c :: d :: r) = []) := Lib.hid (by unfold S.rflex; rw [if_neg (by simp), if_neg (by simp)])
  generalize S.rflex (a :: b :: c :: d :: r) = o at *
  have hr3 : 3 < (a :: b :: c :: d :: r).length := by simp
  generalize (a :: b :: c :: d :: r).length = N at *
  have z1 : ((N : Int) == 1) = false := by rw [beq_eq_false_iff_ne]; omega
  have n1 : ¬ (N : Int) = 1 := by omega
  have z0 : ((N : Int) == 0) = false := by rw [beq_eq_false_iff_ne]; omega
  have n0 : ¬ (N : Int) = 0 := by omega
  have n3 : (3 : Int) < (N : Int) := by omega
  have d3 : decide ((3 : Int) < (N : Int)) = true := decide_eq_true n3
  clear HN HW HL
  go_enter Tryz.func147, Tryz.ntmps147
  go_wp2_with fail
  go_ret
  exact ⟨HB.out _ _, Or.inl ⟨HR.out, rfl⟩⟩
end V
end Go.Proofs.YtafkeolpadfjfaaGreatDoor
namespace Go.Proofs.YtafkeolpadfjfaaGreatDoor
namespace S
/-- Name and value, as the reference takes them. -/
def rname (s : List UInt8) : List UInt8 := lower (trim (colonP s).1)
def rvalue (s : List UInt8) : List UInt8 := trim (lower (colonP s).2)
theorem imp_trim {v : List UInt8} (hv : trim v = v) : trim (important v).1 = (important v).1 := by
 unfold important
 split
 ·exact hv
 ·split
  ·exact hv
  ·exact trim_trim _
/-- Longhands with a mark, where all are valid. -/
def marked (o : Option (List (List UInt8 × Val))) (b : Bool) : List Decl := match o with | some l => l.map fun p => ⟨p.1, p.2, b⟩ | none => []
theorem declOf_ref (s : List UInt8) : declOf s = marked (allG (longhands (rname s) (important (rvalue s)).1)) (important (rvalue s)).2 := by
 unfold declOf marked rname rvalue
 rw [trim_lower (colonP s).1, expand_law (imp_trim (trim_trim (lower (colonP s).2)))]
 rfl
theorem dw_nil {p : UInt8 → Bool} : ∀ {l : List UInt8}, l.dropWhile p = [] → ∀ c ∈ l, p c = true
 | [], _, c, h => by cases h
 | a :: r, h, c, hc => by
  cases ha : p a with
  | false => rw [List.dropWhile_cons_of_neg (by rw [ha]; simp)] at h; cases h
  | true =>
   rw [List.dropWhile_cons_of_pos ha] at h
   rcases List.mem_cons.1 hc with rfl | hc
   ·exact ha
   ·exact dw_nil h c hc
theorem colonP_tw (s : List UInt8) (h : (58 : UInt8) ∈ s) : colonP s = (s.takeWhile (fun c => decide (c ≠ 58)), (s.dropWhile (fun c => decide (c ≠ 58))).tail) := by
 unfold colonP colon
 cases hd : s.dropWhile (fun c => decide (c ≠ 58)) with
 | nil =>
  exfalso
  have := dw_nil hd 58 h
  simp at this
 | cons c t => simp [hd]
theorem tw_colon {s : List UInt8} (h : (58 : UInt8) ∈ s) : (s.takeWhile (fun c => decide (c ≠ 58))).length < s.length := by
 rcases Nat.lt_or_ge (s.takeWhile (fun c => decide (c ≠ 58))).length s.length with h1 | h1
 ·exact h1
 ·exfalso
  have h2 : s.takeWhile (fun c => decide (c ≠ 58)) ++ s.dropWhile (fun c => decide (c ≠ 58)) = s := List.takeWhile_append_dropWhile
  have h3 := congrArg List.length h2
  rw [List.length_append] at h3
  have h4 : s.dropWhile (fun c => decide (c ≠ 58)) = [] := List.length_eq_zero_iff.1 (by omega)
  have := dw_nil h4 58 h
  simp at this
/-- The reference's own form of longhands: a value with its mark. -/
abbrev Lh := List UInt8 × Val × Bool
def lhOk (l : List Lh) : List (List UInt8 × Option Val) := l.map fun p => (p.1, if p.2.2 then some p.2.1 else none)
theorem allG_lh : ∀ l : List Lh, allG (lhOk l) = if l.all (fun p => p.2.2) then some (l.map fun p => (p.1, p.2.1)) else none
 | [] => rfl
 | (n, v, ok) :: r => by
  have ih := allG_lh r
  show allG ((n, if ok then some v else none) :: lhOk r) = _
  rw [allG]
  cases ok with
  | false => simp
  | true =>
   simp only [if_true, ih, List.all_cons, Bool.true_and, List.map_cons]
   cases r.all (fun p => p.2.2) <;> simp
end S
end Go.Proofs.YtafkeolpadfjfaaGreatDoor
