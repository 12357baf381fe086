/- Plain facts on white space: the parts of a string without white space, as Go's FieldsFunc finds them by code points and as a scan of the bytes does; trimming; blanks. The statement TextSlices: it returns true at every string and every two numbers, where Go's two tables of package utf8 lie as their texts lay them. The shelf's facts for strings.Trim at this translation. What the functions on white space come to, in the program and in the reference. Trimming: what text.Trim, text.Blank and the reference's Trim and Collapse come to. -/
import Derived.Test.YtafkeolpadfjfaaGreatDoorJoin
import Derived.Lib.FieldsP
import Derived.Lib.SlTrimSet
import Derived.Test.YtafkeolpadfjfaaGreatDoorProg
import Derived.Shelf.Strings.SlTrimAscii
import Derived.Shelf.Strings.FieldsFuncGrows
import Derived.BigQuiet
import Derived.Deep.QuietTactic
set_option linter.unusedVariables false
set_option linter.unusedSimpArgs false
namespace Go.Proofs.YtafkeolpadfjfaaGreatDoor
open Go.RowKit
namespace T
/-- The parts without white space; cur: the part that is open. -/
def flds : List UInt8 → List UInt8 → List (List UInt8)
 | cur, [] => if cur = [] then [] else [cur]
 | cur, b :: r => if sp b then (if cur = [] then flds [] r else cur :: flds [] r) else flds (cur ++ [b]) r
theorem flds_end (cur : List UInt8) (h : cur ≠ []) : flds cur [] = [cur] := by unfold flds; rw [if_neg h]
theorem flds_cut (cur r : List UInt8) (b : UInt8) (h : cur ≠ []) (hb : sp b = true) : flds cur (b :: r) = cur :: flds [] r := by
 rw [flds, if_pos hb, if_neg h]
/-- Is a code point's number that of white space? -/
def spR (x : Nat) : Bool := decide (x < 128) && sp (UInt8.ofNat x)
theorem sp_lt {b : UInt8} (h : sp b = true) : b.toNat < 128 := by
 unfold sp at h
 simp at h
 rcases h with (((h | h) | h) | h) | h <;> subst h <;> decide
theorem flds_plain : ∀ (c cur r : List UInt8), (∀ b ∈ c, sp b = false) → flds cur (c ++ r) = flds (cur ++ c) r
 | [], cur, r, _ => by simp
 | b :: c, cur, r, h => by
  have hb := h b (List.mem_cons_self ..)
  rw [List.cons_append, flds, if_neg (by rw [hb]; decide), flds_plain c _ r (fun x hx => h x (List.mem_cons_of_mem _ hx))]
  simp
/-- A code point that is white space is one byte. -/
theorem spR_yes (l : List UInt8) (hne : l ≠ []) (h : spR (U.code (U.chunk l)) = true) : ∃ b r, l = b :: r ∧ sp b = true ∧ U.adv l = 1 := by
 unfold spR at h
 simp only [Bool.and_eq_true, decide_eq_true_eq] at h
 obtain ⟨h1, h2⟩ := h
 obtain ⟨b, r, rfl⟩ := List.exists_cons_of_ne_nil hne
 have hc := U.sz_cases (b :: r)
 rw [U.code_chunk] at h1 h2
 rcases hc with ⟨e, hc⟩ | ⟨e, hc⟩ | ⟨e, hc⟩ | ⟨e, hc⟩ | ⟨e, _⟩
 ·rw [if_neg (by omega), U.code_take _ (by omega), e] at h1 h2
  simp at h1 h2
  exact ⟨b, r, rfl, by simpa using h2, by unfold U.adv; rw [e]; rfl⟩
 ·rw [if_neg (by omega), U.code_take _ (by omega), e] at h1
  unfold U.two at hc
  simp only [if_true, if_neg (by omega : ¬ (2 : Nat) = 1)] at h1
  omega
 ·rw [if_neg (by omega), U.code_take _ (by omega), e] at h1
  unfold U.three U.sec at hc
  simp only [if_true, if_neg (by omega : ¬ (3 : Nat) = 1), if_neg (by omega : ¬ (3 : Nat) = 2)] at h1
  omega
 ·rw [if_neg (by omega), U.code_take _ (by omega), e] at h1
  unfold U.four U.sec at hc
  simp only [if_neg (by omega : ¬ (4 : Nat) = 1), if_neg (by omega : ¬ (4 : Nat) = 2), if_neg (by omega : ¬ (4 : Nat) = 3)] at h1
  omega
 ·rw [if_pos e] at h1
  omega
theorem sp_high {b : UInt8} (h : 128 ≤ b.toNat) : sp b = false := by
 rw [Bool.eq_false_iff]
 intro e
 have := sp_lt e
 omega
/-- A code point that is none has no byte that is white space. -/
theorem spR_no (l : List UInt8) (hne : l ≠ []) (h : spR (U.code (U.chunk l)) = false) : ∀ b ∈ l.take (U.adv l), sp b = false := by
 have hc := U.sz_cases l
 have hle := U.adv_le l hne
 rw [U.head_take l _ hle]
 have key : ∀ n, U.adv l = n → (∀ i, i < n → sp (l.getD i 0) = false) → ∀ b ∈ (List.range (U.adv l)).map fun i => l.getD i 0, sp b = false := by
  intro n hn hi b hb
  rw [hn] at hb
  obtain ⟨i, hi1, rfl⟩ := List.mem_map.1 hb
  exact hi i (List.mem_range.1 hi1)
 unfold spR at h
 rw [U.code_chunk] at h
 rcases hc with ⟨e, hc⟩ | ⟨e, hc⟩ | ⟨e, hc⟩ | ⟨e, hc⟩ | ⟨e, hn1, hn2⟩
 ·rw [if_neg (by omega), U.code_take _ (by omega), e] at h
  unfold U.one at hc
  refine key 1 (by unfold U.adv; rw [e]; rfl) (fun i hi => ?_)
  obtain rfl : i = 0 := by omega
  have hd : decide ((l.getD 0 0).toNat < 128) = true := decide_eq_true (by omega)
  simp only [if_true] at h
  rw [hd] at h
  simpa using h
 ·unfold U.two at hc
  refine key 2 (by unfold U.adv; rw [e]; rfl) (fun i hi => ?_)
  match i, hi with
  | 0, _ => exact sp_high (by omega)
  | 1, _ => exact sp_high (by omega)
 ·unfold U.three U.sec at hc
  refine key 3 (by unfold U.adv; rw [e]; rfl) (fun i hi => ?_)
  match i, hi with
  | 0, _ => exact sp_high (by omega)
  | 1, _ => exact sp_high (by omega)
  | 2, _ => exact sp_high (by omega)
 ·unfold U.four U.sec at hc
  refine key 4 (by unfold U.adv; rw [e]; rfl) (fun i hi => ?_)
  match i, hi with
  | 0, _ => exact sp_high (by omega)
  | 1, _ => exact sp_high (by omega)
  | 2, _ => exact sp_high (by omega)
  | 3, _ => exact sp_high (by omega)
 ·refine key 1 (by unfold U.adv; rw [e]; rfl) (fun i hi => ?_)
  obtain rfl : i = 0 := by omega
  unfold U.one at hn1
  have hl : 0 < l.length := List.length_pos_iff.2 hne
  exact sp_high (by omega)
/-- The part that is open. -/
def curOf (l : List UInt8) (pos : Nat) : Option Nat → List UInt8
 | none => []
 | some a => (l.drop a).take (pos - a)
theorem take_more (l : List UInt8) (a pos n : Nat) (ha : a ≤ pos) : (l.drop a).take (pos + n - a) = (l.drop a).take (pos - a) ++ (l.drop pos).take n := by
 rw [show pos + n - a = (pos - a) + n by omega, List.take_add, List.drop_drop, show a + (pos - a) = pos by omega]
theorem spans_eq (s : ByteArray) : ∀ (f pos : Nat) (st : Option Nat) (acc : List (Nat × Nat)), s.size ≤ pos + f → pos ≤ s.size → (∀ a, st = some a → a < pos) →
  (Lib.closeSpans s (Lib.spansFromP spR s f pos st acc)).map (fun x => (s.data.toList.drop x.1).take (x.2 - x.1)) = acc.map (fun x => (s.data.toList.drop x.1).take (x.2 - x.1)) ++ flds (curOf s.data.toList pos st) (s.data.toList.drop pos) := by
 intro f
 induction f with
 | zero =>
  intro pos st acc h1 h2 h3
  obtain rfl : pos = s.size := by omega
  rw [drop_end s _ (by omega)]
  unfold Lib.spansFromP Lib.closeSpans
  cases st with
  | none => simp [curOf, flds]
  | some a =>
   have ha := h3 a rfl
   have hne : (s.data.toList.drop a).take (s.size - a) ≠ [] := by
    intro e
    have := congrArg List.length e
    simp at this
    omega
   rw [show curOf s.data.toList s.size (some a) = (s.data.toList.drop a).take (s.size - a) from rfl, flds_end _ hne]
   simp only [List.map_append, List.map_cons, List.map_nil]
 | succ f ih =>
  intro pos st acc h1 h2 h3
  by_cases hp : pos < s.size
  ·have hne : s.data.toList.drop pos ≠ [] := by rw [drop_cons s pos hp]; exact List.cons_ne_nil _ _
   have ha := U.adv_pos (s.data.toList.drop pos)
   have hle := U.adv_le _ hne
   rw [List.length_drop, U.list_size] at hle
   unfold Lib.spansFromP
   rw [if_pos hp, U.decode_eq s pos hp]
   dsimp only
   by_cases hsp : spR (U.code (U.chunk (s.data.toList.drop pos))) = true
   ·obtain ⟨b, r, e, hb, hadv⟩ := spR_yes _ hne hsp
    rw [if_pos hsp, hadv]
    have hdr : s.data.toList.drop (pos + 1) = r := by rw [← List.drop_drop, e]; rfl
    cases st with
    | none =>
     dsimp only
     rw [ih (pos + 1) none acc (by omega) (by omega) (fun a h => by cases h), hdr, e]
     simp [curOf, flds, hb]
    | some a =>
     have hap := h3 a rfl
     have hne2 : (s.data.toList.drop a).take (pos - a) ≠ [] := by
      intro e
      have := congrArg List.length e
      simp at this
      omega
     dsimp only
     rw [ih (pos + 1) none _ (by omega) (by omega) (fun a h => by cases h), hdr, e]
     rw [show curOf s.data.toList pos (some a) = (s.data.toList.drop a).take (pos - a) from rfl, flds_cut _ _ _ hne2 hb]
     simp only [curOf, List.map_append, List.map_cons, List.map_nil, List.append_assoc, List.singleton_append]
   ·have hsp' : spR (U.code (U.chunk (s.data.toList.drop pos))) = false := by simpa using hsp
    have hno := spR_no _ hne hsp'
    rw [if_neg hsp]
    have hpl := flds_plain ((s.data.toList.drop pos).take (U.adv (s.data.toList.drop pos))) (curOf s.data.toList pos st) ((s.data.toList.drop pos).drop (U.adv (s.data.toList.drop pos))) hno
    rw [List.take_append_drop, List.drop_drop] at hpl
    rw [hpl]
    generalize U.adv (s.data.toList.drop pos) = n at *
    cases st with
    | none =>
     dsimp only
     rw [ih (pos + n) (some pos) acc (by omega) (by omega) (fun a h => by cases h; omega)]
     simp only [curOf, List.nil_append, Nat.add_sub_cancel_left]
    | some a =>
     have hap := h3 a rfl
     dsimp only
     rw [ih (pos + n) (some a) acc (by omega) (by omega) (fun b h => by cases h; omega)]
     simp only [curOf]
     rw [take_more _ _ _ _ (by omega)]
  ·rw [Lib.spansFromP_end spR s _ pos st acc hp]
   obtain rfl : pos = s.size := by omega
   rw [drop_end s _ (by omega)]
   unfold Lib.closeSpans
   cases st with
   | none => simp [curOf, flds]
   | some a =>
    have ha := h3 a rfl
    have hne : (s.data.toList.drop a).take (s.size - a) ≠ [] := by
     intro e
     have := congrArg List.length e
     simp at this
     omega
    rw [show curOf s.data.toList s.size (some a) = (s.data.toList.drop a).take (s.size - a) from rfl, flds_end _ hne]
    simp only [List.map_append, List.map_cons, List.map_nil]
theorem extract_any (s : ByteArray) (a b : Nat) : s.extract a b = ⟨((s.data.toList.drop a).take (b - a)).toArray⟩ := by
 have h : (s.extract a b).data.toList = (s.data.toList.drop a).take (b - a) := by rw [Lib.extract_data]
 cases hx : s.extract a b with
 | mk d => rw [hx] at h; simp at h; rw [← h]
theorem fields_eq (s : ByteArray) : (Lib.goFieldsP spR s).map Value.string = strs (flds [] s.data.toList) := by
 have h := spans_eq s s.size 0 none [] (by omega) (by omega) (fun a h => by cases h)
 unfold Lib.goFieldsP Lib.spansOfP strs
 rw [List.map_map]
 simp only [List.map_nil, List.nil_append, List.drop_zero] at h
 rw [show flds [] s.data.toList = flds (curOf s.data.toList 0 none) s.data.toList from rfl, ← h, List.map_map]
 apply List.map_congr_left
 intro x _
 simp only [Function.comp, extract_any]
theorem fields_length (s : ByteArray) : (Lib.goFieldsP spR s).length = (flds [] s.data.toList).length := by
 have := congrArg List.length (fields_eq s)
 simpa [strs] using this
end T
end Go.Proofs.YtafkeolpadfjfaaGreatDoor
namespace Go.Proofs.YtafkeolpadfjfaaGreatDoor
open Go.RowKit
namespace T
/-- A row of strings that the call owns: its value, and its cells. -/
theorem str_form {W : World} {base : Nat} {v : Value} {L : List (List UInt8)} (h : W.ownsRow base 9 1 v L.length (strs L)) :
  ∃ ao cap, v = .slice ao L.length cap ∧ StrRow W ao L := by
 have h' := h
 rcases h.2 with ⟨rfl, h0⟩ | ⟨g, cap, cur, rfl, hb, hg, _, _, hcs, htk⟩
 ·exact ⟨none, 0, by rw [h0], fun h => by omega⟩
 ·refine ⟨some ⟨g, 0, none⟩, cap, rfl, fun _ => ⟨g, rfl, (Array.getElem?_eq_some_iff.1 hg).1, fun j hj => ?_⟩⟩
  rw [h'.cellAt j (by simpa using hj)]
  simp [strs, List.getD, hj]
end T
end Go.Proofs.YtafkeolpadfjfaaGreatDoor
namespace Go.Proofs
open Go.Shelf
def Tryz.hand160_ren : Go.Shelf.Ren := ⟨fun | 119 => 192 | 120 => 161 | 137 => 85 | 151 => 126 | 152 => 162 | 160 => 71 | 197 => 151 | 217 => 127 | 224 => 176 | 225 => 175 | 227 => 82 | 228 => 124 | 231 => 112 | 232 => 81 | 233 => 113 | 234 => 83 | 235 => 114 | 236 => 84 | 260 => 179 | 266 => 163 | 271 => 125 | n => n, fun | 0 => 0 | 3 => 3 | 4 => 4 | 5 => 5 | 9 => 9 | 21 => 21 | 46 => 161 | 105 => 167 | 116 => 129 | 117 => 130 | 119 => 158 | 124 => 133 | 138 => 184 | 139 => 185 | n => n, fun | 3 => 3 | 4 => 4 | n => n⟩
theorem Tryz.hand160 : Go.Proofs.Lays.n160 Tryz.prog Tryz.hand160_ren := {
 mixed := by kernel_rfl
 f119 := Tryz.func192.trans (congrArg some (by kernel_rfl))
 f120 := Tryz.func161.trans (congrArg some (by kernel_rfl))
 f137 := Tryz.func85.trans (congrArg some (by kernel_rfl))
 f151 := Tryz.func126.trans (congrArg some (by kernel_rfl))
 f152 := Tryz.func162.trans (congrArg some (by kernel_rfl))
 f160 := Tryz.func71.trans (congrArg some (by kernel_rfl))
 f197 := Tryz.func151.trans (congrArg some (by kernel_rfl))
 f217 := Tryz.func127.trans (congrArg some (by kernel_rfl))
 f224 := Tryz.func176.trans (congrArg some (by kernel_rfl))
 f225 := Tryz.func175.trans (congrArg some (by kernel_rfl))
 f227 := Tryz.func82.trans (congrArg some (by kernel_rfl))
 f228 := Tryz.func124.trans (congrArg some (by kernel_rfl))
 f231 := Tryz.func112.trans (congrArg some (by kernel_rfl))
 f232 := Tryz.func81.trans (congrArg some (by kernel_rfl))
 f233 := Tryz.func113.trans (congrArg some (by kernel_rfl))
 f234 := Tryz.func83.trans (congrArg some (by kernel_rfl))
 f235 := Tryz.func114.trans (congrArg some (by kernel_rfl))
 f236 := Tryz.func84.trans (congrArg some (by kernel_rfl))
 f260 := Tryz.func179.trans (congrArg some (by kernel_rfl))
 f266 := Tryz.func163.trans (congrArg some (by kernel_rfl))
 f271 := Tryz.func125.trans (congrArg some (by kernel_rfl))
 t0 := Tryz.underlying0
 a0 := Tryz.isAgg0
 z0 := Tryz.sizeOf0
 v0 := Tryz.zeroValue0
 t3 := Tryz.underlying3
 a3 := Tryz.isAgg3
 z3 := Tryz.sizeOf3
 v3 := Tryz.zeroValue3
 t4 := Tryz.underlying4
 a4 := Tryz.isAgg4
 z4 := Tryz.sizeOf4
 v4 := Tryz.zeroValue4
 t5 := Tryz.underlying5
 a5 := Tryz.isAgg5
 z5 := Tryz.sizeOf5
 v5 := Tryz.zeroValue5
 t9 := Tryz.underlying9
 a9 := Tryz.isAgg9
 z9 := Tryz.sizeOf9
 v9 := Tryz.zeroValue9
 t21 := Tryz.underlying21
 a21 := Tryz.isAgg21
 z21 := Tryz.sizeOf21
 v21 := Tryz.zeroValue21
 t46 := Tryz.underlying161
 a46 := Tryz.isAgg161
 z46 := Tryz.sizeOf161
 v46 := Tryz.zeroValue161
 t105 := Tryz.underlying167
 a105 := Tryz.isAgg167
 z105 := Tryz.sizeOf167
 v105 := Tryz.zeroValue167
 t116 := Tryz.underlying129
 a116 := Tryz.isAgg129
 z116 := Tryz.sizeOf129
 t117 := Tryz.underlying130
 a117 := Tryz.isAgg130
 z117 := Tryz.sizeOf130
 v117 := Tryz.zeroValue130
 t119 := Tryz.underlying158
 a119 := Tryz.isAgg158
 z119 := Tryz.sizeOf158
 t124 := Tryz.underlying133
 a124 := Tryz.isAgg133
 z124 := Tryz.sizeOf133
 v124 := Tryz.zeroValue133
 t138 := Tryz.underlying184
 a138 := Tryz.isAgg184
 z138 := Tryz.sizeOf184
 v138 := Tryz.zeroValue184
 t139 := Tryz.underlying185
 a139 := Tryz.isAgg185
 z139 := Tryz.sizeOf185
 v139 := Tryz.zeroValue185
 g3 := by kernel_rfl
 g4 := by kernel_rfl }
end Go.Proofs
namespace Go.Proofs.YtafkeolpadfjfaaGreatDoor
open Go.RowKit
namespace T
theorem byte_eq' (b : UInt8) (n : Nat) (h : n < 256) : ((b.toNat : Int) == (n : Int)) = (b == UInt8.ofNat n) := by
 rw [Bool.eq_iff_iff]
 simp only [beq_iff_eq]
 constructor
 ·intro e
  have e' : b.toNat = n := by omega
  rw [← e']; simp
 ·intro e; subst e; simp; omega
set_option maxHeartbeats 1000000 in
theorem refSpace (b : UInt8) (w : World) :
  Calls Tryz.prog 36 #[.int .u8 b.toNat] w fun e w' => e = .returned (.bool (sp b)) ∧ w = w' := by
 have e1 := byte_eq' b 9 (by omega)
 have e2 := byte_eq' b 10 (by omega)
 have e3 := byte_eq' b 12 (by omega)
 have e4 := byte_eq' b 13 (by omega)
 have e5 := byte_eq' b 32 (by omega)
 have hsp : sp b = ((b == 9) || (b == 10) || (b == 12) || (b == 13) || (b == 32)) := rfl
 rw [hsp]
 clear hsp
 cases h1 : (b == 9) with
 | true =>
  have t1 : ((b.toNat : Int) == 9) = true := e1.trans h1
  clear e1 e2 e3 e4 e5 h1
  go_enter Tryz.func36, Tryz.ntmps36
  go_wp2
  go_ret
  exact ⟨rfl, rfl⟩
 | false =>
 have t1 : ((b.toNat : Int) == 9) = false := e1.trans h1
 cases h2 : (b == 10) with
 | true =>
  have t2 : ((b.toNat : Int) == 10) = true := e2.trans h2
  clear e1 e2 e3 e4 e5 h1 h2
  go_enter Tryz.func36, Tryz.ntmps36
  go_wp2
  go_ret
  exact ⟨rfl, rfl⟩
 | false =>
 have t2 : ((b.toNat : Int) == 10) = false := e2.trans h2
 cases h3 : (b == 12) with
 | true =>
  have t3 : ((b.toNat : Int) == 12) = true := e3.trans h3
  clear e1 e2 e3 e4 e5 h1 h2 h3
  go_enter Tryz.func36, Tryz.ntmps36
  go_wp2
  go_ret
  exact ⟨rfl, rfl⟩
 | false =>
 have t3 : ((b.toNat : Int) == 12) = false := e3.trans h3
 cases h4 : (b == 13) with
 | true =>
  have t4 : ((b.toNat : Int) == 13) = true := e4.trans h4
  clear e1 e2 e3 e4 e5 h1 h2 h3 h4
  go_enter Tryz.func36, Tryz.ntmps36
  go_wp2
  go_ret
  exact ⟨rfl, rfl⟩
 | false =>
 have t4 : ((b.toNat : Int) == 13) = false := e4.trans h4
 cases h5 : (b == 32) with
 | true =>
  have t5 : ((b.toNat : Int) == 32) = true := e5.trans h5
  clear e1 e2 e3 e4 e5 h1 h2 h3 h4 h5
  go_enter Tryz.func36, Tryz.ntmps36
  go_wp2
  go_ret
  exact ⟨rfl, rfl⟩
 | false =>
  have t5 : ((b.toNat : Int) == 32) = false := e5.trans h5
  clear e1 e2 e3 e4 e5 h1 h2 h3 h4 h5
  go_enter Tryz.func36, Tryz.ntmps36
  go_wp2
  go_ret
  exact ⟨rfl, rfl⟩
set_option maxHeartbeats 1000000 in
set_option maxRecDepth 100000 in
theorem FieldsFn (x : Nat) (w : World) (hx : x ≤ 1114111) :
  Calls Tryz.prog 141 #[.int .i32 (x : Int)] w fun e w' => e = .returned (.bool (spR x)) ∧ w = w' := by
 unfold spR
 clear hx
 by_cases h : x < 128
 ·rw [decide_eq_true h, Bool.true_and]
  have hb : ((UInt8.ofNat x).toNat : Int) = (x : Int) := by simp; omega
  have hc := fun W => IsSpace (UInt8.ofNat x) W
  rw [hb] at hc
  have HC := Lib.hid hc
  clear hc hb
  generalize sp (UInt8.ofNat x) = B at *
  go_enter Tryz.func141, Tryz.ntmps141
  go_wp2_with (go_at_call 49; refine (HC.out _).mono ?_; rintro e w' ⟨rfl, rfl⟩)
  go_ret
  exact ⟨rfl, rfl⟩
 ·rw [decide_eq_false h, Bool.false_and]
  have h' : 128 ≤ x := by omega
  clear h
  go_enter Tryz.func141, Tryz.ntmps141
  go_wp2
  go_ret
  exact ⟨rfl, rfl⟩
theorem fn_enters : ∀ args w, (callFunc 141 args).run Tryz.prog w = .ok (.enter 141 args) w := enters_of Tryz.func141 (by kernel_rfl) rfl
def FdRel (s : ByteArray) (w : World) (v p i : Value) (wr : World) : Prop :=
 ∃ (k : Nat) (acc : List (List UInt8)) (cur : List UInt8), k ≤ s.size ∧ i = .int .i64 k ∧ p = .string ⟨cur.toArray⟩ ∧ wr.ownsRow w.heap.size 9 1 v acc.length (strs acc) ∧ Below w.heap.size w wr ∧ Hid (acc ++ flds cur (s.data.toList.drop k) = flds [] s.data.toList) ∧ acc.length ≤ k ∧ cur.length ≤ k
theorem isEmpty_bytes (l : List UInt8) : (⟨l.toArray⟩ : ByteArray).toList = l := by rw [Lib.toList_data]
set_option maxHeartbeats 2000000 in
set_option maxRecDepth 100000 in
theorem refFields (s : ByteArray) (w : World) (hs : s.size ≤ 100000) :
  Calls Tryz.prog 15 #[.string s] w fun e w' => ∃ ao cap, e = .returned (.slice ao (flds [] s.data.toList).length cap) ∧ StrRow w' ao (flds [] s.data.toList) ∧ Below w.heap.size w w' := by
 obtain ⟨i0, hi, hz0, hz1, hz2⟩ := info_parts infoString
 go_enter Tryz.func15, Tryz.ntmps15
 go_wp2_with fail
 go_loopw [3, 4, 5] (fun v p i wr => FdRel s w v p i wr) (fun _ _ i _ => s.size - (intOf i).toNat)
 case atStart => exact ⟨0, [], [], Nat.zero_le _, rfl, rfl, World.ownsRow_nil _ _ _ _, Below.refl _ _, Lib.hid rfl, Nat.zero_le _, Nat.zero_le _⟩
 case round =>
  obtain ⟨k, acc, cur, hk, rfl, rfl, hown, hB, HA, hal, hcl⟩ := hrel
  have hbs := hB.size
  by_cases hlt : k < s.size
  ·have HD := Lib.hid (drop_cons s k hlt)
   have hkm : k + 1 ≤ s.size := by omega
   have hkm' : (k : Int) + 1 ≤ (s.size : Int) := by omega
   cases hsp : sp s[k] with
   | false =>
    have hex : s.extract k (k + 1) = ⟨[s[k]].toArray⟩ := by rw [extract_eq s k 1 hkm, HD.out]; rfl
    have hexs : (s.extract k (k + 1)).size = 1 := by rw [hex]; rfl
    have zz : ((⟨cur.toArray⟩ : ByteArray).size : Int) + ((s.extract k (k + 1)).size : Int) ≤ 1000000 := by rw [bytes_size, hexs]; omega
    have HAB := Lib.hid (show (⟨cur.toArray⟩ : ByteArray) ++ s.extract k (k + 1) = ⟨(cur ++ [s[k]]).toArray⟩ by rw [hex, append_bytes])
    have hc := fun W => refSpace s[k] W
    rw [hsp] at hc
    have HC := Lib.hid hc
    have HSP := Lib.hid hsp
    clear hex hexs hc hsp
    go_wp2_with (go_at_call 36; refine (HC.out _).mono ?_; rintro e w' ⟨rfl, rfl⟩)
    go_roundw
    case rel =>
     refine ⟨k + 1, acc, cur ++ [s[k]], by omega, by go_num, congrArg Value.string HAB.out, hown, hB, Lib.hid ?_, by omega, by simp; omega⟩
     have h3 := HA.out
     rw [HD.out, flds, if_neg (by rw [HSP.out]; decide)] at h3
     exact h3
    case measure => simp [intOf]; omega
   | true =>
    have hc := fun W => refSpace s[k] W
    rw [hsp] at hc
    have HC := Lib.hid hc
    have HSP := Lib.hid hsp
    clear hc hsp
    by_cases hcur : cur = []
    ·subst hcur
     go_wp2_with (go_at_call 36; refine (HC.out _).mono ?_; rintro e w' ⟨rfl, rfl⟩)
     go_roundw
     case rel =>
      refine ⟨k + 1, acc, [], by omega, by go_num, rfl, hown, hB, Lib.hid ?_, by omega, by simp⟩
      have h3 := HA.out
      rw [HD.out, flds, if_pos HSP.out, if_pos rfl] at h3
      exact h3
     case measure => simp [intOf]; omega
    ·have HCU := Lib.hid hcur
     have te : (⟨cur.toArray⟩ : ByteArray).toList.isEmpty = false := by rw [isEmpty_bytes]; cases cur with | nil => exact absurd rfl hcur | cons a b => rfl
     have te2 : cur.isEmpty = false := by cases cur with | nil => exact absurd rfl hcur | cons a b => rfl
     go_wp2_with (first | (go_at_call 36; refine (HC.out _).mono ?_; rintro e w' ⟨rfl, rfl⟩) | (at_builtin; refine wpList_append_own _ rfl _ _ 29 rfl w.heap.size 9 i0 (.string ByteArray.empty) 1 16 Tryz.underlying29 hi hz0 hz1 hz2 rfl (by decide) _ _ _ rfl (hown.alloc _) ⟨wr.heap.size, 0, none⟩ 1 1 [.string ⟨cur.toArray⟩] rfl rfl ?c1 ?c2 ?c3 ?c4 ?c5 ?_))
     case c1 => exact cell_one_new _ _ _
     case c2 => intro u hu; simp at hu; subst hu; rfl
     case c3 => unfold maxLen; omega
     case c4 => omega
     case c5 => simp; omega
     intro v' w2 hown' hgrow _
     have hB2 := (hB.alloc hbs (.cells #[.string ⟨cur.toArray⟩] 9)).grown hgrow (by simp; omega) (fun q hq => (hown.lt q hq).1)
     go_wp2_with fail
     go_roundw
     case rel =>
      refine ⟨k + 1, acc ++ [cur], [], by omega, by go_num, rfl, ?_, hB2, Lib.hid ?_, by simp; omega, by simp⟩
      ·rw [strs_snoc]; simpa using hown'
      ·have h3 := HA.out
       rw [HD.out, flds_cut _ _ _ HCU.out HSP.out] at h3
       rw [← h3]; simp
     case measure => simp [intOf]; omega
  ·have h3 := HA.out
   rw [drop_end s k hlt] at h3
   by_cases hcur : cur = []
   ·subst hcur
    have h4 : acc = flds [] s.data.toList := by simpa [flds] using h3
    rw [h4] at hown
    obtain ⟨ao, cap, rfl, hrow⟩ := str_form hown
    have HR := Lib.hid hrow
    clear h3 h4 hown hrow
    go_wp2_with fail
    go_ret
    exact ⟨_, _, rfl, HR.out, hB⟩
   ·rw [flds_end _ hcur] at h3
    have H3 := Lib.hid h3
    have te : (⟨cur.toArray⟩ : ByteArray).toList.isEmpty = false := by rw [isEmpty_bytes]; cases cur with | nil => exact absurd rfl hcur | cons a b => rfl
    have te2 : cur.isEmpty = false := by cases cur with | nil => exact absurd rfl hcur | cons a b => rfl
    clear h3
    go_wp2_with (at_builtin; refine wpList_append_own _ rfl _ _ 29 rfl w.heap.size 9 i0 (.string ByteArray.empty) 1 16 Tryz.underlying29 hi hz0 hz1 hz2 rfl (by decide) _ _ _ rfl (hown.alloc _) ⟨wr.heap.size, 0, none⟩ 1 1 [.string ⟨cur.toArray⟩] rfl rfl ?c1 ?c2 ?c3 ?c4 ?c5 ?_)
    case c1 => exact cell_one_new _ _ _
    case c2 => intro u hu; simp at hu; subst hu; rfl
    case c3 => unfold maxLen; omega
    case c4 => omega
    case c5 => simp; omega
    intro v' w2 hown' hgrow _
    have hB2 := (hB.alloc hbs (.cells #[.string ⟨cur.toArray⟩] 9)).grown hgrow (by simp; omega) (fun q hq => (hown.lt q hq).1)
    have ho2 : w2.ownsRow w.heap.size 9 1 v' (flds [] s.data.toList).length (strs (flds [] s.data.toList)) := by
     rw [← H3.out, strs_snoc]; simpa using hown'
    obtain ⟨ao, cap, rfl, hrow⟩ := str_form ho2
    have HR := Lib.hid hrow
    clear hrow ho2 hown'
    go_wp2_with fail
    go_ret
    exact ⟨_, _, rfl, HR.out, hB2⟩
end T
end Go.Proofs.YtafkeolpadfjfaaGreatDoor
namespace Go.Proofs.YtafkeolpadfjfaaGreatDoor
open Go.RowKit
namespace T
/-- White space cut off at the head; at the end. -/
def lt : List UInt8 → List UInt8
 | [] => []
 | b :: r => if sp b then lt r else b :: r
def rt : List UInt8 → List UInt8
 | [] => []
 | b :: r => if rt r = [] ∧ sp b = true then [] else b :: rt r
theorem contains_sp (b : UInt8) : [9, 10, 12, 13, 32].contains b = sp b := by
 unfold sp
 simp only [List.contains, List.elem]
 cases (b == 9) <;> cases (b == 10) <;> cases (b == 12) <;> cases (b == 13) <;> cases (b == 32) <;> rfl
theorem lt_eq : ∀ l : List UInt8, Lib.trimLeftS l [9, 10, 12, 13, 32] = lt l
 | [] => rfl
 | b :: r => by
  have ih := lt_eq r
  unfold Lib.trimLeftS at *
  rw [List.dropWhile_cons, contains_sp]
  unfold lt
  cases h : sp b
  ·simp
  ·simp only [if_true]; exact ih
theorem rt_eq : ∀ l : List UInt8, Lib.trimRightS l [9, 10, 12, 13, 32] = rt l
 | [] => rfl
 | b :: r => by
  have ih := rt_eq r
  unfold Lib.trimRightS at *
  rw [List.reverse_cons, List.dropWhile_append]
  unfold rt
  by_cases h : (List.dropWhile (fun x => [9, 10, 12, 13, 32].contains x) r.reverse).isEmpty = true
  ·rw [if_pos h]
   have e : rt r = [] := by rw [← ih]; simp only [List.isEmpty_iff] at h; rw [h]; rfl
   rw [List.dropWhile_cons, contains_sp, List.dropWhile_nil]
   cases hb : sp b <;> simp [e]
  ·rw [if_neg h]
   have e : rt r ≠ [] := by
    rw [← ih]; intro e; apply h
    simp only [List.isEmpty_iff]
    simpa using e
   rw [if_neg (fun x => e x.1), List.reverse_append, ← ih]
   rfl
theorem lt_rt : ∀ l : List UInt8, lt (rt l) = rt (lt l)
 | [] => rfl
 | b :: r => by
  have ih := lt_rt r
  cases hb : sp b with
  | false =>
   have e1 : rt (b :: r) = b :: rt r := by
    conv => lhs; unfold rt
    rw [if_neg (by rw [hb]; simp)]
   have e2 : lt (b :: r) = b :: r := by simp [lt, hb]
   rw [e1, e2, e1]
   simp [lt, hb]
  | true =>
   have e2 : lt (b :: r) = lt r := by simp [lt, hb]
   rw [e2, ← ih]
   by_cases hr : rt r = []
   ·have e1 : rt (b :: r) = [] := by
     conv => lhs; unfold rt
     rw [if_pos ⟨hr, hb⟩]
    rw [e1, hr]
   ·have e1 : rt (b :: r) = b :: rt r := by
     conv => lhs; unfold rt
     rw [if_neg (fun x => hr x.1)]
    rw [e1]; simp [lt, hb]
theorem trim_eq (l : List UInt8) : Lib.trimS l [9, 10, 12, 13, 32] = rt (lt l) := by
 unfold Lib.trimS
 rw [rt_eq, lt_eq, lt_rt]
theorem rt_nil : ∀ l : List UInt8, rt l = [] ↔ l.all sp = true
 | [] => by simp [rt]
 | b :: r => by
  have ih := rt_nil r
  unfold rt
  by_cases h : rt r = [] ∧ sp b = true
  ·rw [if_pos h]; simp only [List.all_cons, h.2, Bool.true_and]; simp [ih.1 h.1]
  ·rw [if_neg h]
   simp only [List.all_cons, Bool.and_eq_true]
   constructor
   ·intro e; simp at e
   ·intro e; exact absurd ⟨ih.2 e.2, e.1⟩ h
theorem flds_nil : ∀ (l cur : List UInt8), flds cur l = [] ↔ (cur = [] ∧ l.all sp = true)
 | [], cur => by
  by_cases h : cur = []
  ·subst h; simp [flds]
  ·simp [flds, h]
 | b :: r, cur => by
  unfold flds
  cases hb : sp b with
  | true =>
   by_cases h : cur = []
   ·subst h
    have := flds_nil r []
    simp only [if_true, List.all_cons, hb, Bool.true_and]
    simpa using this
   ·simp [h]
  | false =>
   have := flds_nil r (cur ++ [b])
   rw [if_neg (by simp), this]
   simp [hb]
set_option maxHeartbeats 1000000 in
theorem Trim (s : ByteArray) (w : World) (hs : s.size ≤ 1000000) :
  Calls Tryz.prog 37 #[.string s] w fun e w' => e = .returned (.string ⟨(rt (lt s.data.toList)).toArray⟩) ∧ Below w.heap.size w w' := by
 have hc : Calls Tryz.prog 71 #[.string s, .string ⟨#[9, 10, 12, 13, 32]⟩] w fun e w' => e = .returned (.string ⟨(Lib.trimS s.data.toList [9, 10, 12, 13, 32]).toArray⟩) ∧ Below w.heap.size w w' := Any.strings_Trim_laid Tryz.hand160 (by kernel_rfl) s ⟨#[9, 10, 12, 13, 32]⟩ w (by omega) (by decide) (ascii_of_all (by decide))
 have HC := Lib.hid hc
 clear hc
 rw [← trim_eq]
 go_enter Tryz.func37, Tryz.ntmps37
 go_wp2_with (go_at_call 71; refine HC.out.mono ?_)
 rintro e w1 ⟨rfl, hb⟩
 go_wp2_with fail
 go_ret
 exact ⟨rfl, hb⟩
theorem bytes_ext {s : ByteArray} {l : List UInt8} (h : s.data.toList = l) : s = ⟨l.toArray⟩ := by
 subst h; cases s; simp
theorem list_cons {s : ByteArray} (h : 0 < s.size) : s.data.toList = s[0] :: s.data.toList.drop 1 := by
 have := drop_cons s 0 h
 simpa using this
theorem list_snoc {s : ByteArray} {n : Nat} (h : s.size = n + 1) : s.data.toList = s.data.toList.take n ++ [s[n]] := by
 have hl : n < s.data.toList.length := by rw [U.list_size]; omega
 have e : s.data.toList.take (n + 1) = s.data.toList := List.take_of_length_le (by rw [U.list_size]; omega)
 rw [List.take_succ_eq_append_getElem hl] at e
 exact e.symm
theorem rt_snoc : ∀ (l : List UInt8) (b : UInt8), rt (l ++ [b]) = if sp b then rt l else l ++ [b]
 | [], b => by cases h : sp b <;> simp [rt, h]
 | a :: l, b => by
  have ih := rt_snoc l b
  rw [List.cons_append]
  conv => lhs; unfold rt
  rw [ih]
  cases h : sp b with
  | true =>
   simp only [if_true]
   conv => rhs; unfold rt
  | false =>
   simp
def szOf : Value → Nat | .string t => t.size | _ => 0
theorem extract_tail (t : ByteArray) : (t.extract 1 t.size).data.toList = t.data.toList.drop 1 := by
 rw [extract_any]
 simp only [List.toList_toArray]
 rw [List.take_of_length_le]
 rw [List.length_drop, U.list_size]
 omega
theorem extract_init (t : ByteArray) (n : Nat) : (t.extract 0 n).data.toList = t.data.toList.take n := by
 rw [extract_any]
 simp
theorem size_of (t : ByteArray) : t.size = t.data.toList.length := (U.list_size t).symm
set_option maxHeartbeats 2000000 in
set_option maxRecDepth 100000 in
theorem refTrim (s : ByteArray) (w : World) (hs : s.size ≤ 1000000) :
  Calls Tryz.prog 19 #[.string s] w fun e w' => e = .returned (.string ⟨(rt (lt s.data.toList)).toArray⟩) ∧ w = w' := by
 go_enter Tryz.func19, Tryz.ntmps19
 go_wp2_with fail
 go_loop [0] (fun v => ∃ t : ByteArray, t.size ≤ 1000000 ∧ v = .string t ∧ Hid (lt t.data.toList = lt s.data.toList)) (fun v => szOf v)
 case atStart => exact ⟨s, hs, rfl, Lib.hid rfl⟩
 case round =>
  obtain ⟨t, ht, rfl, HT⟩ := hrel
  by_cases h0 : 0 < t.size
  ·have h0z : (0 : Int) < (t.size : Int) := by omega
   have h1 : 1 ≤ t.size := by omega
   have HL := Lib.hid (list_cons h0)
   cases hsp : sp t[0] with
   | true =>
    have hc := fun W => refSpace t[0] W
    rw [hsp] at hc
    have HC := Lib.hid hc
    have HSP := Lib.hid hsp
    clear hc hsp
    go_wp2_with (go_at_call 36; refine (HC.out _).mono ?_; rintro e w' ⟨rfl, rfl⟩)
    go_round
    case rel =>
     refine ⟨t.extract 1 t.size, ?_, rfl, Lib.hid ?_⟩
     ·rw [size_of, extract_tail, List.length_drop, U.list_size]; omega
     ·rw [← HT.out, extract_tail]
      conv => rhs; rw [HL.out]; unfold lt
      rw [if_pos HSP.out]
    case measure =>
     show (t.extract 1 t.size).size < t.size
     rw [size_of (t.extract 1 t.size), extract_tail, List.length_drop, U.list_size]; omega
   | false =>
    have hc := fun W => refSpace t[0] W
    rw [hsp] at hc
    have HC := Lib.hid hc
    have HE : Hid (t.data.toList = lt s.data.toList) := Lib.hid (by rw [← HT.out]; conv => rhs; rw [HL.out]; unfold lt
                                                                    rw [if_neg (by rw [hsp]; decide)]; exact HL.out)
    clear hc hsp
    go_wp2_with (go_at_call 36; refine (HC.out _).mono ?_; rintro e w' ⟨rfl, rfl⟩)
    go_loop [0] (fun v => ∃ u : ByteArray, u.size ≤ 1000000 ∧ v = .string u ∧ Hid (rt u.data.toList = rt (lt s.data.toList))) (fun v => szOf v)
    case atStart => exact ⟨t, ht, rfl, Lib.hid (by rw [HE.out])⟩
    case round =>
     clear HT ht
     obtain ⟨u, hu, rfl, HU⟩ := hrel
     by_cases hu0 : 0 < u.size
     ·obtain ⟨n, hn⟩ : ∃ n, u.size = n + 1 := ⟨u.size - 1, by omega⟩
      have HS := Lib.hid (list_snoc hn)
      have hnu : n < u.size := by omega
      have HN := Lib.hid hn
      cases hsp2 : sp u[n] with
      | true =>
       have hc2 := fun W => refSpace u[n] W
       rw [hsp2] at hc2
       have HC2 := Lib.hid hc2
       have HSP2 := Lib.hid hsp2
       clear hc2 hsp2 hu0
       go_wp2_with (go_at_call 36; refine (HC2.out _).mono ?_; rintro e w' ⟨rfl, rfl⟩)
       go_round
       case rel =>
        refine ⟨u.extract 0 n, ?_, rfl, Lib.hid ?_⟩
        ·rw [size_of, extract_init, List.length_take, U.list_size]; omega
        ·rw [← HU.out, extract_init]
         conv => rhs; rw [HS.out]
         rw [rt_snoc, if_pos HSP2.out]
       case measure =>
        show (u.extract 0 n).size < u.size
        rw [size_of (u.extract 0 n), extract_init, List.length_take, U.list_size, HN.out]; omega
      | false =>
       have hc2 := fun W => refSpace u[n] W
       rw [hsp2] at hc2
       have HC2 := Lib.hid hc2
       have HF : Hid (u.data.toList = rt (lt s.data.toList)) := Lib.hid (by
        rw [← HU.out]
        conv => rhs; rw [HS.out]
        rw [rt_snoc, if_neg (by rw [hsp2]; decide)]
        exact HS.out)
       clear hc2 hsp2 hu0
       go_wp2_with (go_at_call 36; refine (HC2.out _).mono ?_; rintro e w' ⟨rfl, rfl⟩)
       go_ret
       exact ⟨ret_str (bytes_ext HF.out), rfl⟩
     ·have HF : Hid (u.data.toList = rt (lt s.data.toList)) := Lib.hid (by
       have e : u.data.toList = [] := List.eq_nil_of_length_eq_zero (by rw [U.list_size]; omega)
       rw [← HU.out, e]; rfl)
      go_wp2_with fail
      go_ret
      exact ⟨ret_str (bytes_ext HF.out), rfl⟩
  ·have HE : Hid (t.data.toList = lt s.data.toList) := Lib.hid (by
    have e : t.data.toList = [] := List.eq_nil_of_length_eq_zero (by rw [U.list_size]; omega)
    rw [← HT.out, e]; rfl)
   go_wp2_with fail
   go_loop [0] (fun v => ∃ u : ByteArray, u.size ≤ 1000000 ∧ v = .string u ∧ Hid (rt u.data.toList = rt (lt s.data.toList))) (fun v => szOf v)
   case atStart => exact ⟨t, ht, rfl, Lib.hid (by rw [HE.out])⟩
   case round =>
    clear HT ht
    obtain ⟨u, hu, rfl, HU⟩ := hrel
    by_cases hu0 : 0 < u.size
    ·obtain ⟨n, hn⟩ : ∃ n, u.size = n + 1 := ⟨u.size - 1, by omega⟩
     have HS := Lib.hid (list_snoc hn)
     have hnu : n < u.size := by omega
     have HN := Lib.hid hn
     cases hsp2 : sp u[n] with
     | true =>
      have hc2 := fun W => refSpace u[n] W
      rw [hsp2] at hc2
      have HC2 := Lib.hid hc2
      have HSP2 := Lib.hid hsp2
      clear hc2 hsp2 hu0
      go_wp2_with (go_at_call 36; refine (HC2.out _).mono ?_; rintro e w' ⟨rfl, rfl⟩)
      go_round
      case rel =>
       refine ⟨u.extract 0 n, ?_, rfl, Lib.hid ?_⟩
       ·rw [size_of, extract_init, List.length_take, U.list_size]; omega
       ·rw [← HU.out, extract_init]
        conv => rhs; rw [HS.out]
        rw [rt_snoc, if_pos HSP2.out]
      case measure =>
       show (u.extract 0 n).size < u.size
       rw [size_of (u.extract 0 n), extract_init, List.length_take, U.list_size, HN.out]; omega
     | false =>
      have hc2 := fun W => refSpace u[n] W
      rw [hsp2] at hc2
      have HC2 := Lib.hid hc2
      have HF : Hid (u.data.toList = rt (lt s.data.toList)) := Lib.hid (by
       rw [← HU.out]
       conv => rhs; rw [HS.out]
       rw [rt_snoc, if_neg (by rw [hsp2]; decide)]
       exact HS.out)
      clear hc2 hsp2 hu0
      go_wp2_with (go_at_call 36; refine (HC2.out _).mono ?_; rintro e w' ⟨rfl, rfl⟩)
      go_ret
      exact ⟨ret_str (bytes_ext HF.out), rfl⟩
    ·have HF : Hid (u.data.toList = rt (lt s.data.toList)) := Lib.hid (by
      have e : u.data.toList = [] := List.eq_nil_of_length_eq_zero (by rw [U.list_size]; omega)
      rw [← HU.out, e]; rfl)
     go_wp2_with fail
     go_ret
     exact ⟨ret_str (bytes_ext HF.out), rfl⟩
end T
end Go.Proofs.YtafkeolpadfjfaaGreatDoor
