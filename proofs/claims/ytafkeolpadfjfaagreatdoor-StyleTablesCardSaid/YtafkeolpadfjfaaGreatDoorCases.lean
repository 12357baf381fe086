/- The contracts of (*strings.Builder).copyCheck, WriteByte over this translation: a builder that the call itself has made; the shelf's own statements. Plain facts on UTF-8 over lists of bytes: the valid sequence at a list's head, the code points of the repaired form, and the model's own decoding as these. No program in sight. What text.IsSpace, text.Collapse and text.Len come to; the check at each statement's head. What text.Lower, text.Upper and the reference's two come to: the letters of ASCII mapped, nothing else. -/
import Derived.Test.YtafkeolpadfjfaaGreatDoorShelf
import Derived.WalkKit
import Derived.BigCall
import Derived.Shelf.Strings.BuilderK
import Derived.Lib.RuneBytes
import Derived.Lib.RuneCount
import Derived.Lib.Hide
import Derived.Laws.IdiomStrings
set_option linter.unusedVariables false
set_option linter.unusedSimpArgs false
namespace Go.Proofs.YtafkeolpadfjfaaGreatDoor
open Go.RowKit
namespace Bld
theorem sizeBuilder : (Tryz.prog.info? 109).map (fun i => i.size) = some 2 := by kernel_rfl
theorem liesBuilder : liesAt Tryz.prog Tryz.prog.depth 109 (2 / Tryz.prog.cellsOf 109) 0 109 1 = true := by kernel_rfl
theorem infoByte : (Tryz.prog.info? 5).map (fun i => (i.zero, i.size, i.bytes)) = some (some (.int .u8 0), 1, 1) := by kernel_rfl
set_option maxHeartbeats 1000000 in
set_option maxRecDepth 100000 in
/-- copyCheck at a builder that has been written: nothing. -/
theorem copyCheck_used (b : Nat) (w : World) (h0 : w.cell? ⟨b, 0, none⟩ = some (.pointer (some ⟨b, 0, none⟩))) :
  Calls Tryz.prog 98 #[.pointer (some ⟨b, 0, none⟩)] w fun e w' => e = .returned (.tuple #[]) ∧ w' = w := by
 obtain ⟨j, hj, _⟩ := Option.map_eq_some_iff.1 sizeBuilder
 go_enter Tryz.func98, Tryz.ntmps98
 go_wp2
 rw [Lib.run_neq_ptr_same w _ Tryz.underlying107 hj]
 go_wp2
 go_end0
 exact ⟨rfl, rfl⟩
set_option maxHeartbeats 1000000 in
set_option maxRecDepth 100000 in
/-- copyCheck at a fresh builder: it stores its own address. -/
theorem copyCheck_fresh (b : Nat) (w : World) (h0 : w.cell? ⟨b, 0, none⟩ = some (.pointer none)) (hsh : w.shape? b = some (109, 2)) (hfz : w.frozen? ⟨b, 0, none⟩ = false) :
  Calls Tryz.prog 98 #[.pointer (some ⟨b, 0, none⟩)] w fun e w' => e = .returned (.tuple #[]) ∧ w' = w.setCell ⟨b, 0, none⟩ (.pointer (some ⟨b, 0, none⟩)) := by
 obtain ⟨j, hj, hjs⟩ := Option.map_eq_some_iff.1 sizeBuilder
 go_enter Tryz.func98, Tryz.ntmps98
 go_wp2
 rw [Lib.run_to_unsafe w ⟨b, 0, none⟩ Tryz.underlying107 Tryz.underlying178 hj (by rw [hjs]; decide) hsh (Nat.zero_lt_succ 1)]
 simp only [Result.andThen]
 rw [Oper.upon_value]
 go_wp2
 rw [run_callFunc_extern Tryz.func138 (by kernel_rfl) (by kernel_rfl) (by kernel_rfl) (e := Extern.AbiNoEscape.same) (by kernel_rfl)]
 rw [Lib.run_noEscape]
 simp only [Result.andThen]
 rw [Oper.upon_value]
 go_wp2
 rw [Lib.run_from_unsafe w ⟨b, 0, none⟩ Tryz.underlying178 Tryz.underlying107 hj hsh liesBuilder]
 simp only [Result.andThen]
 rw [Oper.upon_value]
 go_wp2
 go_end0
 exact ⟨rfl, rfl⟩
theorem copyCheck_k (B b : Nat) (bs : List Value) (w : World) (h : Lib.IsBuilderF 109 5 B b bs w) :
  Calls Tryz.prog 98 #[.pointer (some ⟨b, 0, none⟩)] w fun e w' => e = .returned (.tuple #[]) ∧ (Lib.BuilderAtF 109 5 B b (.pointer (some ⟨b, 0, none⟩)) bs w' ∧ Below B w w' ∧ Lib.OthersKept 5 (some b) w w') := by
 rcases h with h | h
 ·refine (copyCheck_fresh b w h.cell0 h.shape h.frozen0).mono ?_
  rintro e w' ⟨rfl, rfl⟩
  exact ⟨rfl, h.used _, (Below.refl B w).setCell (p := ⟨b, 0, none⟩) h.1 _, (Lib.OthersKept.refl _ _ w).setCell ⟨b, 0, none⟩ rfl _⟩
 ·refine (copyCheck_used b w h.cell0).mono ?_
  rintro e w' ⟨rfl, rfl⟩
  exact ⟨rfl, h, Below.refl B _, Lib.OthersKept.refl _ _ _⟩
set_option maxHeartbeats 2000000 in
set_option maxRecDepth 100000 in
/-- WriteByte, under the limit: the new length takes at most 2^47 bytes. -/
theorem WriteByte_k (B b : Nat) (bs : List Value) (c : Int) (w : World) (h : Lib.IsBuilderF 109 5 B b bs w) (hlen : bs.length + 1 ≤ 140737488355328) (hBw : B ≤ w.heap.size) :
  Calls Tryz.prog 67 #[.pointer (some ⟨b, 0, none⟩), .int .u8 c] w fun e w' => e = .returned .nilIface ∧ (Lib.BuilderAtF 109 5 B b (.pointer (some ⟨b, 0, none⟩)) (bs ++ [.int .u8 c]) w' ∧ Below B w w' ∧ Lib.OthersKept 5 (some b) w w') := by
 obtain ⟨i0, hi, hz0, hz1, hz2⟩ := info_parts infoByte
 go_enter Tryz.func67, Tryz.ntmps67
 go_wp2_with (go_at_call 98; refine (copyCheck_k B b bs _ h).mono ?_)
 rintro e w1 ⟨rfl, h1, hb1, hk1⟩
 obtain ⟨hB, v, hbk, hown, hne⟩ := h1
 have c0 : w1.cell? ⟨b, 0, none⟩ = some (.pointer (some ⟨b, 0, none⟩)) := by rw [Lib.cell_of_heap hbk]; rfl
 have c1 : w1.cell? ⟨b, 1, none⟩ = some v := by rw [Lib.cell_of_heap hbk]; rfl
 go_wp2_with (at_builtin; refine wpList_append_ownF _ rfl _ _ 76 rfl B 5 i0 (.int .u8 0) 1 1 Tryz.underlying76 hi hz0 hz1 hz2 rfl (by decide) _ _ _ rfl (hown.alloc _) ⟨w1.heap.size, 0, none⟩ 1 1 [.int .u8 c] rfl rfl ?c1 ?c2 ?c3 ?c4 ?c5 ?_)
 case c1 =>
  intro j u hj
  match j, hj with
  | 0, hj => simp at hj; subst hj; simp [Addr.add]
 case c2 => intro u hu; simp at hu; subst hu; rfl
 case c3 => unfold maxLen; omega
 case c4 => omega
 case c5 => have := hb1.size; simp; omega
 intro v' w2 hown' hgrow _
 have hlt : b < w1.heap.size := by
  rcases Nat.lt_or_ge b w1.heap.size with h' | h'
  ·exact h'
  ·simp [Array.getElem?_eq_none h'] at hbk
 have hb2 : w2.heap[b]? = some (.cells #[.pointer (some ⟨b, 0, none⟩), v] 109 (0, 0)) := by
  rw [hgrow.block b (by simp; omega) (fun e => hne e.symm), Lib.alloc_old w1 _ b hlt]
  exact hbk
 have d0 : w2.cell? ⟨b, 0, none⟩ = some (.pointer (some ⟨b, 0, none⟩)) := by rw [Lib.cell_of_heap hb2]; rfl
 have d1 : w2.cell? ⟨b, 1, none⟩ = some v := by rw [Lib.cell_of_heap hb2]; rfl
 have f1 : w2.frozen? ⟨b, 1, none⟩ = false := Lib.frozen_of_heap hb2 1
 obtain ⟨g, cap, rfl⟩ : ∃ g cap, v' = .slice (some ⟨g, 0, none⟩) (bs.length + 1) cap := by
  rcases hown'.2 with ⟨_, h0⟩ | ⟨g, cap, cur, fz, hv, _⟩
  ·omega
  ·exact ⟨g, cap, hv⟩
 go_wp2
 go_ret
 refine ⟨rfl, ?_, ?_, ((hk1.alloc _).grown hgrow (Lib.ownsRowF_kind (hown.alloc _))).setCell ⟨b, 1, none⟩ rfl _⟩
 ·exact Lib.BuilderAtF.put (T := 109) (e := 5) hB hb2 (bs' := bs ++ [.int .u8 c]) (by simpa using hown') (by decide)
 ·exact ((hb1.alloc (by have := hb1.size; omega) _).grown hgrow (by have := hb1.size; simp; omega) (fun k hk => (hown.lt k hk).1)).setCell (p := ⟨b, 1, none⟩) hB _
end Bld
end Go.Proofs.YtafkeolpadfjfaaGreatDoor
namespace Go.Proofs.YtafkeolpadfjfaaGreatDoor
namespace U
/-- The byte at a place lies in a range. -/
def rng (l : List UInt8) (i lo hi : Nat) : Bool := decide (i < l.length ∧ lo ≤ (l.getD i 0).toNat ∧ (l.getD i 0).toNat ≤ hi)
/-- May the second byte follow the first, of three or four? -/
def second (l : List UInt8) : Bool :=
 if (l.getD 0 0).toNat = 224 then rng l 1 160 191
 else if (l.getD 0 0).toNat = 237 then rng l 1 128 159
 else if (l.getD 0 0).toNat = 240 then rng l 1 144 191
 else if (l.getD 0 0).toNat = 244 then rng l 1 128 143
 else rng l 1 128 191
/-- The number of bytes of the valid sequence at the head; 0 if there is none. -/
def sz (l : List UInt8) : Nat :=
 if rng l 0 0 127 then 1
 else if rng l 0 194 223 && rng l 1 128 191 then 2
 else if rng l 0 224 239 && (second l && rng l 2 128 191) then 3
 else if rng l 0 240 244 && (second l && (rng l 2 128 191 && rng l 3 128 191)) then 4
 else 0
theorem sz_le4 (l : List UInt8) : sz l ≤ 4 := by
 unfold sz
 repeat' split
 all_goals omega
theorem sz_le (l : List UInt8) : sz l ≤ l.length := by
 unfold sz
 repeat' split
 all_goals simp_all [rng]
 all_goals omega
theorem sz_nil : sz [] = 0 := by simp [sz, rng]
/-- How far the reading goes on. -/
def adv (l : List UInt8) : Nat := if sz l = 0 then 1 else sz l
/-- What stands for it in the repaired form. -/
def chunk (l : List UInt8) : List UInt8 := if sz l = 0 then [239, 191, 189] else l.take (sz l)
theorem adv_pos (l : List UInt8) : 1 ≤ adv l := by unfold adv; split <;> omega
theorem adv_le (l : List UInt8) (h : l ≠ []) : adv l ≤ l.length := by
 have := sz_le l
 have : 0 < l.length := List.length_pos_iff.2 h
 unfold adv
 split <;> omega
/-- The code points of the repaired form, each as its bytes. -/
def chunks : Nat → List UInt8 → List (List UInt8)
 | 0, _ => []
 | n + 1, l => if l = [] then [] else chunk l :: chunks n (l.drop (adv l))
def pts (l : List UInt8) : List (List UInt8) := chunks l.length l
def rep (l : List UInt8) : List UInt8 := (pts l).flatten
theorem chunks_more : ∀ (n m : Nat) (l : List UInt8), l.length ≤ n → l.length ≤ m → chunks n l = chunks m l
 | 0, 0, _, _, _ => rfl
 | 0, m + 1, l, h, _ => by
  have : l = [] := List.eq_nil_of_length_eq_zero (by omega)
  simp [chunks, this]
 | n + 1, 0, l, _, h => by
  have : l = [] := List.eq_nil_of_length_eq_zero (by omega)
  simp [chunks, this]
 | n + 1, m + 1, l, h1, h2 => by
  unfold chunks
  by_cases hl : l = []
  ·simp [hl]
  ·have ha := adv_pos l
   have hlen : 0 < l.length := List.length_pos_iff.2 hl
   rw [if_neg hl, if_neg hl, chunks_more n m (l.drop (adv l)) (by simp; omega) (by simp; omega)]
theorem pts_cons (l : List UInt8) (h : l ≠ []) : pts l = chunk l :: pts (l.drop (adv l)) := by
 have hl : 0 < l.length := List.length_pos_iff.2 h
 have ha := adv_pos l
 unfold pts
 obtain ⟨n, hn⟩ : ∃ n, l.length = n + 1 := ⟨l.length - 1, by omega⟩
 rw [hn]
 conv => lhs; unfold chunks
 rw [if_neg h, chunks_more n (l.drop (adv l)).length (l.drop (adv l)) (by simp; omega) (by simp)]
theorem rep_nil : rep [] = [] := rfl
theorem rep_cons (l : List UInt8) (h : l ≠ []) : rep l = chunk l ++ rep (l.drop (adv l)) := by
 unfold rep; rw [pts_cons l h]; rfl
/-- The model's decoding is this reading. -/
def code (c : List UInt8) : Nat :=
 match c with
 | [a] => a.toNat
 | [a, b] => (a.toNat % 32) * 64 + b.toNat % 64
 | [a, b, c] => (a.toNat % 16) * 4096 + (b.toNat % 64) * 64 + c.toNat % 64
 | [a, b, c, d] => (a.toNat % 8) * 262144 + (b.toNat % 64) * 4096 + (c.toNat % 64) * 64 + d.toNat % 64
 | _ => 0
theorem get_eq (s : ByteArray) (i : Nat) : s.get! i = s.data.toList.getD i 0 := by
 cases s with
 | mk a =>
  simp only [ByteArray.get!, List.getD, Array.getElem?_toList]
  rw [getElem!_def]
  cases a[i]? <;> rfl
theorem getD_drop (l : List UInt8) (i k : Nat) : (l.drop i).getD k 0 = l.getD (i + k) 0 := by
 simp [List.getD]
theorem list_size (s : ByteArray) : s.data.toList.length = s.size := by simp
/-- The bytes of a list by places. -/
theorem head_take (l : List UInt8) (n : Nat) (h : n ≤ l.length) : l.take n = (List.range n).map fun i => l.getD i 0 := by
 apply List.ext_getElem?
 intro i
 by_cases hi : i < n
 ·rw [List.getElem?_take_of_lt hi]
  have : i < l.length := by omega
  simp [hi, List.getD, this]
 ·rw [List.getElem?_eq_none (by rw [List.length_take]; omega)]
  simp [hi]
theorem code_take (l : List UInt8) (h : sz l ≠ 0) : code (l.take (sz l)) =
  if sz l = 1 then (l.getD 0 0).toNat
  else if sz l = 2 then ((l.getD 0 0).toNat % 32) * 64 + (l.getD 1 0).toNat % 64
  else if sz l = 3 then ((l.getD 0 0).toNat % 16) * 4096 + ((l.getD 1 0).toNat % 64) * 64 + (l.getD 2 0).toNat % 64
  else ((l.getD 0 0).toNat % 8) * 262144 + ((l.getD 1 0).toNat % 64) * 4096 + ((l.getD 2 0).toNat % 64) * 64 + (l.getD 3 0).toNat % 64 := by
 have hle := sz_le l
 have h4 := sz_le4 l
 rw [head_take l _ hle]
 generalize sz l = n at *
 have : n = 1 ∨ n = 2 ∨ n = 3 ∨ n = 4 := by omega
 rcases this with rfl | rfl | rfl | rfl <;> simp [code, List.range, List.range.loop]
theorem code_chunk (l : List UInt8) : code (chunk l) = if sz l = 0 then 65533 else code (l.take (sz l)) := by
 unfold chunk
 split <;> rfl
theorem rng_iff (l : List UInt8) (i lo hi : Nat) : rng l i lo hi = true ↔ (i < l.length ∧ lo ≤ (l.getD i 0).toNat ∧ (l.getD i 0).toNat ≤ hi) := by
 simp [rng]
theorem second_iff (l : List UInt8) : second l = true ↔ (1 < l.length ∧
  (((l.getD 0 0).toNat = 224 ∧ 160 ≤ (l.getD 1 0).toNat ∧ (l.getD 1 0).toNat ≤ 191) ∨ ((l.getD 0 0).toNat = 237 ∧ 128 ≤ (l.getD 1 0).toNat ∧ (l.getD 1 0).toNat ≤ 159) ∨
   ((l.getD 0 0).toNat = 240 ∧ 144 ≤ (l.getD 1 0).toNat ∧ (l.getD 1 0).toNat ≤ 191) ∨ ((l.getD 0 0).toNat = 244 ∧ 128 ≤ (l.getD 1 0).toNat ∧ (l.getD 1 0).toNat ≤ 143) ∨
   ((l.getD 0 0).toNat ≠ 224 ∧ (l.getD 0 0).toNat ≠ 237 ∧ (l.getD 0 0).toNat ≠ 240 ∧ (l.getD 0 0).toNat ≠ 244 ∧ 128 ≤ (l.getD 1 0).toNat ∧ (l.getD 1 0).toNat ≤ 191))) := by
 unfold second
 by_cases h1 : (l.getD 0 0).toNat = 224
 ·simp only [if_pos h1, rng_iff]; omega
 ·by_cases h2 : (l.getD 0 0).toNat = 237
  ·simp only [if_neg h1, if_pos h2, rng_iff]; omega
  ·by_cases h3 : (l.getD 0 0).toNat = 240
   ·simp only [if_neg h1, if_neg h2, if_pos h3, rng_iff]; omega
   ·by_cases h4 : (l.getD 0 0).toNat = 244
    ·simp only [if_neg h1, if_neg h2, if_neg h3, if_pos h4, rng_iff]; omega
    ·simp only [if_neg h1, if_neg h2, if_neg h3, if_neg h4, rng_iff]; omega
/-- The valid sequences, by their bytes' numbers. -/
def one (n x0 : Nat) : Prop := 0 < n ∧ x0 ≤ 127
def two (n x0 x1 : Nat) : Prop := 1 < n ∧ 194 ≤ x0 ∧ x0 ≤ 223 ∧ 128 ≤ x1 ∧ x1 ≤ 191
def sec (x0 x1 : Nat) : Prop := (x0 = 224 ∧ 160 ≤ x1 ∧ x1 ≤ 191) ∨ (x0 = 237 ∧ 128 ≤ x1 ∧ x1 ≤ 159) ∨ (x0 = 240 ∧ 144 ≤ x1 ∧ x1 ≤ 191) ∨ (x0 = 244 ∧ 128 ≤ x1 ∧ x1 ≤ 143) ∨ (x0 ≠ 224 ∧ x0 ≠ 237 ∧ x0 ≠ 240 ∧ x0 ≠ 244 ∧ 128 ≤ x1 ∧ x1 ≤ 191)
def three (n x0 x1 x2 : Nat) : Prop := 2 < n ∧ 224 ≤ x0 ∧ x0 ≤ 239 ∧ sec x0 x1 ∧ 128 ≤ x2 ∧ x2 ≤ 191
def four (n x0 x1 x2 x3 : Nat) : Prop := 3 < n ∧ 240 ≤ x0 ∧ x0 ≤ 244 ∧ sec x0 x1 ∧ 128 ≤ x2 ∧ x2 ≤ 191 ∧ 128 ≤ x3 ∧ x3 ≤ 191
theorem sz_cases (l : List UInt8) :
  (sz l = 1 ∧ one l.length (l.getD 0 0).toNat) ∨ (sz l = 2 ∧ two l.length (l.getD 0 0).toNat (l.getD 1 0).toNat) ∨
  (sz l = 3 ∧ three l.length (l.getD 0 0).toNat (l.getD 1 0).toNat (l.getD 2 0).toNat) ∨ (sz l = 4 ∧ four l.length (l.getD 0 0).toNat (l.getD 1 0).toNat (l.getD 2 0).toNat (l.getD 3 0).toNat) ∨
  (sz l = 0 ∧ ¬ one l.length (l.getD 0 0).toNat ∧ ¬ two l.length (l.getD 0 0).toNat (l.getD 1 0).toNat ∧ ¬ three l.length (l.getD 0 0).toNat (l.getD 1 0).toNat (l.getD 2 0).toNat ∧ ¬ four l.length (l.getD 0 0).toNat (l.getD 1 0).toNat (l.getD 2 0).toNat (l.getD 3 0).toNat) := by
 have e := sz.eq_1 l
 by_cases c1 : rng l 0 0 127 = true
 ·rw [if_pos c1] at e
  rw [rng_iff] at c1
  exact Or.inl ⟨e, c1.1, c1.2.2⟩
 ·rw [if_neg c1] at e
  by_cases c2 : (rng l 0 194 223 && rng l 1 128 191) = true
  ·rw [if_pos c2] at e
   rw [Bool.and_eq_true, rng_iff, rng_iff] at c2
   exact Or.inr (Or.inl ⟨e, c2.2.1, c2.1.2.1, c2.1.2.2, c2.2.2⟩)
  ·rw [if_neg c2] at e
   by_cases c3 : (rng l 0 224 239 && (second l && rng l 2 128 191)) = true
   ·rw [if_pos c3] at e
    rw [Bool.and_eq_true, Bool.and_eq_true, rng_iff, rng_iff, second_iff] at c3
    exact Or.inr (Or.inr (Or.inl ⟨e, c3.2.2.1, c3.1.2.1, c3.1.2.2, c3.2.1.2, c3.2.2.2⟩))
   ·rw [if_neg c3] at e
    by_cases c4 : (rng l 0 240 244 && (second l && (rng l 2 128 191 && rng l 3 128 191))) = true
    ·rw [if_pos c4] at e
     rw [Bool.and_eq_true, Bool.and_eq_true, Bool.and_eq_true, rng_iff, rng_iff, rng_iff, second_iff] at c4
     exact Or.inr (Or.inr (Or.inr (Or.inl ⟨e, c4.2.2.2.1, c4.1.2.1, c4.1.2.2, c4.2.1.2, c4.2.2.1.2.1, c4.2.2.1.2.2, c4.2.2.2.2⟩)))
    ·rw [if_neg c4] at e
     rw [rng_iff] at c1
     rw [Bool.and_eq_true, rng_iff, rng_iff] at c2
     rw [Bool.and_eq_true, Bool.and_eq_true, rng_iff, rng_iff, second_iff] at c3
     rw [Bool.and_eq_true, Bool.and_eq_true, Bool.and_eq_true, rng_iff, rng_iff, rng_iff, second_iff] at c4
     refine Or.inr (Or.inr (Or.inr (Or.inr ⟨e, fun h => c1 ⟨h.1, Nat.zero_le _, h.2⟩, fun h => c2 ⟨⟨by have := h.1; omega, h.2.1, h.2.2.1⟩, h.1, h.2.2.2⟩, fun h => c3 ⟨⟨by have := h.1; omega, h.2.1, h.2.2.1⟩, ⟨by have := h.1; omega, h.2.2.2.1⟩, h.1, h.2.2.2.2⟩, fun h => c4 ⟨⟨by have := h.1; omega, h.2.1, h.2.2.1⟩, ⟨by have := h.1; omega, h.2.2.2.1⟩, ⟨by have := h.1; omega, h.2.2.2.2.1, h.2.2.2.2.2.1⟩, h.1, h.2.2.2.2.2.2⟩⟩)))
/-- The arithmetic of decoding. -/
def dec (n x0 x1 x2 x3 : Nat) : Nat × Nat :=
 if x0 < 0x80 then (x0, 1)
 else if x0 / 32 == 6 && (decide (1 < n) && x1 / 64 == 2) then
  if (x0 % 32) * 64 + x1 % 64 ≥ 0x80 then ((x0 % 32) * 64 + x1 % 64, 2) else (65533, 1)
 else if x0 / 16 == 14 && (decide (1 < n) && x1 / 64 == 2) && (decide (2 < n) && x2 / 64 == 2) then
  if decide ((x0 % 16) * 4096 + (x1 % 64) * 64 + x2 % 64 ≥ 0x800) && Utf8.valid ((x0 % 16) * 4096 + (x1 % 64) * 64 + x2 % 64 : Nat) then ((x0 % 16) * 4096 + (x1 % 64) * 64 + x2 % 64, 3) else (65533, 1)
 else if x0 / 8 == 30 && (decide (1 < n) && x1 / 64 == 2) && (decide (2 < n) && x2 / 64 == 2) && (decide (3 < n) && x3 / 64 == 2) then
  if decide ((x0 % 8) * 262144 + (x1 % 64) * 4096 + (x2 % 64) * 64 + x3 % 64 ≥ 0x10000) && Utf8.valid ((x0 % 8) * 262144 + (x1 % 64) * 4096 + (x2 % 64) * 64 + x3 % 64 : Nat) then ((x0 % 8) * 262144 + (x1 % 64) * 4096 + (x2 % 64) * 64 + x3 % 64, 4) else (65533, 1)
 else (65533, 1)
theorem dec_one {n x0 x1 x2 x3 : Nat} (h : one n x0) : dec n x0 x1 x2 x3 = (x0, 1) := by
 unfold one at h
 unfold dec
 rw [if_pos (by omega)]
theorem dec_two {n x0 x1 x2 x3 : Nat} (h : two n x0 x1) : dec n x0 x1 x2 x3 = ((x0 % 32) * 64 + x1 % 64, 2) := by
 unfold two at h
 unfold dec
 rw [if_neg (by omega), if_pos (by simp; omega), if_pos (by omega)]
theorem dec_three {n x0 x1 x2 x3 : Nat} (h : three n x0 x1 x2) : dec n x0 x1 x2 x3 = ((x0 % 16) * 4096 + (x1 % 64) * 64 + x2 % 64, 3) := by
 unfold three sec at h
 unfold dec
 rw [if_neg (by omega), if_neg (by simp; omega), if_pos (by simp; omega), if_pos]
 simp [Utf8.valid]
 omega
theorem dec_four {n x0 x1 x2 x3 : Nat} (h : four n x0 x1 x2 x3) : dec n x0 x1 x2 x3 = ((x0 % 8) * 262144 + (x1 % 64) * 4096 + (x2 % 64) * 64 + x3 % 64, 4) := by
 unfold four sec at h
 unfold dec
 rw [if_neg (by omega), if_neg (by simp; omega), if_neg (by simp; omega), if_pos (by simp; omega), if_pos]
 simp [Utf8.valid]
 omega
theorem dec_none {n x0 x1 x2 x3 : Nat} (hn : 0 < n) (b0 : x0 < 256) (b1 : x1 < 256) (b2 : x2 < 256) (b3 : x3 < 256) (h1 : ¬ one n x0) (h2 : ¬ two n x0 x1) (h3 : ¬ three n x0 x1 x2) (h4 : ¬ four n x0 x1 x2 x3) : dec n x0 x1 x2 x3 = (65533, 1) := by
 unfold one at h1
 unfold two at h2
 unfold three sec at h3
 unfold four sec at h4
 unfold dec
 rw [if_neg (by omega)]
 split
 ·rename_i c
  simp at c
  rw [if_neg (by omega)]
 ·split
  ·rename_i c
   simp at c
   rw [if_neg]
   simp [Utf8.valid]
   omega
  ·split
   ·rename_i c
    simp at c
    rw [if_neg]
    simp [Utf8.valid]
    omega
   ·rfl
theorem decode_dec (s : ByteArray) (i : Nat) (h : i < s.size) : Utf8.decode s i = dec (s.size - i) (s.data.toList.getD (i + 0) 0).toNat (s.data.toList.getD (i + 1) 0).toNat (s.data.toList.getD (i + 2) 0).toNat (s.data.toList.getD (i + 3) 0).toNat := by
 unfold Utf8.decode dec
 simp only [get_eq, Utf8.runeError]
 have e1 : decide (1 < s.size - i) = decide (i + 1 < s.size) := by rw [decide_eq_decide]; omega
 have e2 : decide (2 < s.size - i) = decide (i + 2 < s.size) := by rw [decide_eq_decide]; omega
 have e3 : decide (3 < s.size - i) = decide (i + 3 < s.size) := by rw [decide_eq_decide]; omega
 rw [e1, e2, e3]
theorem decode_eq (s : ByteArray) (i : Nat) (h : i < s.size) : Utf8.decode s i = (code (chunk (s.data.toList.drop i)), adv (s.data.toList.drop i)) := by
 have hl : (s.data.toList.drop i).length = s.size - i := by simp
 have hc := sz_cases (s.data.toList.drop i)
 rw [hl] at hc
 simp only [getD_drop] at hc
 rw [decode_dec s i h, code_chunk]
 have ct := code_take (s.data.toList.drop i)
 simp only [getD_drop] at ct
 unfold adv
 have b0 := (s.data.toList.getD (i + 0) 0).toNat_lt
 have b1 := (s.data.toList.getD (i + 1) 0).toNat_lt
 have b2 := (s.data.toList.getD (i + 2) 0).toNat_lt
 have b3 := (s.data.toList.getD (i + 3) 0).toNat_lt
 rcases hc with ⟨e, hc⟩ | ⟨e, hc⟩ | ⟨e, hc⟩ | ⟨e, hc⟩ | ⟨e, h1, h2, h3, h4⟩
 ·rw [dec_one hc, ct (by omega), e]; rfl
 ·rw [dec_two hc, ct (by omega), e]; rfl
 ·rw [dec_three hc, ct (by omega), e]; rfl
 ·rw [dec_four hc, ct (by omega), e]; rfl
 ·rw [dec_none (by omega) b0 b1 b2 b3 h1 h2 h3 h4, e]; rfl
end U
end Go.Proofs.YtafkeolpadfjfaaGreatDoor
namespace Go.Proofs.YtafkeolpadfjfaaGreatDoor
open Go.RowKit
namespace T
/-- White space. -/
def sp (b : UInt8) : Bool := b == 9 || b == 10 || b == 12 || b == 13 || b == 32
theorem sp_index (b : UInt8) : decide (0 ≤ Lib.indexByte [9, 10, 12, 13, 32] b) = sp b := by
 unfold sp
 simp only [Lib.indexByte]
 by_cases h1 : b = 9
 ·subst h1; decide
 by_cases h2 : b = 10
 ·subst h2; decide
 by_cases h3 : b = 12
 ·subst h3; decide
 by_cases h4 : b = 13
 ·subst h4; decide
 by_cases h5 : b = 32
 ·subst h5; decide
 simp [h1, h2, h3, h4, h5, Ne.symm h1, Ne.symm h2, Ne.symm h3, Ne.symm h4, Ne.symm h5]
set_option maxHeartbeats 400000 in
theorem IsSpace (b : UInt8) (w : World) :
  Calls Tryz.prog 49 #[.int .u8 b.toNat] w fun e w' => e = .returned (.bool (sp b)) ∧ w = w' := by
 go_enter Tryz.func49, Tryz.ntmps49
 go_wp2_with (go_at_call 85; refine (Tryz.strings_IndexByte _ _ _).mono ?_; rintro e w' ⟨rfl, rfl⟩)
 go_ret
 refine ⟨?_, rfl⟩
 rw [← sp_index]
 rfl
theorem drop_cons (s : ByteArray) (k : Nat) (h : k < s.size) : s.data.toList.drop k = s[k] :: s.data.toList.drop (k + 1) := by
 have h' : k < s.data.toList.length := by simpa using h
 rw [List.drop_eq_getElem_cons h']
 rfl
theorem drop_end (s : ByteArray) (k : Nat) (h : ¬ k < s.size) : s.data.toList.drop k = [] := by
 apply List.drop_of_length_le
 simpa using h
end T
end Go.Proofs.YtafkeolpadfjfaaGreatDoor
namespace Go.Proofs.YtafkeolpadfjfaaGreatDoor
open Go.RowKit
namespace T
/-- A row of bytes in memory, and it may be written. -/
def Row (W : World) (g : Nat) (l : List UInt8) : Prop :=
 (∀ j (h : j < l.length), W.cell? ⟨g, j, none⟩ = some (.int .u8 (l[j].toNat : Int))) ∧ (∀ j, j < l.length → W.frozen? ⟨g, j, none⟩ = false)
theorem Row.set {W : World} {g : Nat} {l : List UInt8} (h : Row W g l) (k : Nat) (hk : k < l.length) (c : UInt8) : Row (W.setCell ⟨g, k, none⟩ (.int .u8 (c.toNat : Int))) g (l.set k c) := by
 refine ⟨fun j hj => ?_, fun j hj => ?_⟩
 ·by_cases e : k = j
  ·subst e
   rw [World.cell?_setCell_same' _ _ _ (by rw [h.1 k hk]; rfl)]
   simp
  ·have hj' : j < l.length := by simpa using hj
   rw [World.cell?_setCell_other]
   ·rw [h.1 j hj']; simp [List.getElem_set, e]
   ·simp [e]
 ·rw [World.frozen?_setCell]; exact h.2 j (by simpa using hj)
theorem Row.same {W : World} {g : Nat} {l : List UInt8} (h : Row W g l) (k : Nat) (hk : k < l.length) (c : UInt8) (hc : l[k] = c) : Row W g (l.set k c) := by
 subst hc
 rw [List.set_getElem_self]
 exact h
/-- What '[]byte(s)' gives. -/
theorem bytes_of (s : ByteArray) (w : World) : ∃ cap W1, (convert 9 76 (.string s)).run Tryz.prog w = .ok (.slice (some ⟨w.heap.size, 0, none⟩) s.size cap) W1 ∧ Row W1 w.heap.size s.data.toList ∧ Below w.heap.size w W1 := by
 refine ⟨_, _, run_bytes_of_string w 9 76 5 s Tryz.underlying9 Tryz.underlying76 Tryz.underlying5, ⟨fun j hj => ?_, fun j hj => ?_⟩, ?_⟩
 ·have hj' : j < s.data.size := by simpa using hj
  have := World.cell?_alloc_mark w.drew (bytesRow s (grownCap w s.size 0 5)) 5 ((bytesRow s (grownCap w s.size 0 5)).size, (bytesRow s (grownCap w s.size 0 5)).size + 1) j
  refine this.trans ?_
  rw [bytesRow_at s _ j hj']
  simp
 ·have hj' : j < s.data.size := by simpa using hj
  have := World.frozen?_alloc_mark w.drew (bytesRow s (grownCap w s.size 0 5)) 5 (bytesRow s (grownCap w s.size 0 5)).size ((bytesRow s (grownCap w s.size 0 5)).size + 1) j
  refine this.trans ?_
  have hlt : j < (bytesRow s (grownCap w s.size 0 5)).size := by have := (bytesRow_at s (grownCap w s.size 0 5) j hj'); exact (Array.getElem?_eq_some_iff.1 this).1
  have : decide ((bytesRow s (grownCap w s.size 0 5)).size ≤ j) = false := by simp; exact hlt
  rw [this]; rfl
 ·exact ((Below.refl _ w).drew).alloc (Nat.le_refl _) _
/-- What 'string(b)' gives. -/
theorem string_of (W : World) (g n cap : Nat) (l : List UInt8) (h : Row W g l) (hn : l.length = n) :
  (convert 76 9 (.slice (some ⟨g, 0, none⟩) n cap)).run Tryz.prog W = .ok (.string ⟨l.toArray⟩) W := by
 subst hn
 exact run_convert_bytes_back W 76 9 5 ⟨g, 0, none⟩ cap l Tryz.underlying76 Tryz.underlying5 Tryz.underlying9 (fun j hj => by
  have h1 := h.1 j hj
  have e : (⟨g, 0, none⟩ : Addr).add j = ⟨g, j, none⟩ := by
   simp [Addr.add]
   intro h0
   rw [h0]
  rw [e]
  exact h1)
/-- The first k bytes mapped. -/
def mp (f : UInt8 → UInt8) (k : Nat) (l : List UInt8) : List UInt8 := (l.take k).map f ++ l.drop k
theorem mp_length (f : UInt8 → UInt8) (k : Nat) (l : List UInt8) : (mp f k l).length = l.length := by
 simp [mp]; omega
theorem mp_at (f : UInt8 → UInt8) (k : Nat) (l : List UInt8) (h : k < l.length) (h' : k < (mp f k l).length) : (mp f k l)[k] = l[k] := by
 have hm : min k l.length = k := by omega
 have e : (mp f k l)[k]? = l[k]? := by
  unfold mp
  rw [List.getElem?_append_right (by simp; omega)]
  simp [hm]
 rw [List.getElem?_eq_getElem h', List.getElem?_eq_getElem h] at e
 exact Option.some.inj e
theorem mp_set (f : UInt8 → UInt8) (k : Nat) (l : List UInt8) (h : k < l.length) : (mp f k l).set k (f l[k]) = mp f (k + 1) l := by
 unfold mp
 have hm : min k l.length = k := by omega
 rw [List.set_append_right _ _ (by simp; omega), List.drop_eq_getElem_cons h, List.take_succ_eq_append_getElem h, List.map_append, List.length_map, List.length_take, hm, Nat.sub_self, List.set_cons_zero]
 simp
theorem mp_all (f : UInt8 → UInt8) (k : Nat) (l : List UInt8) (h : l.length ≤ k) : mp f k l = l.map f := by
 unfold mp
 rw [List.take_of_length_le h, List.drop_of_length_le h, List.append_nil]
def MapRel (f : UInt8 → UInt8) (s : ByteArray) (w : World) (i : Value) (wr : World) : Prop :=
 ∃ k : Nat, k ≤ s.size ∧ i = .int .i64 k ∧ Row wr w.heap.size (mp f k s.data.toList) ∧ Below w.heap.size w wr
set_option maxHeartbeats 1000000 in
set_option maxRecDepth 100000 in
theorem mapped (s : ByteArray) (lo hi d : Int) (f : UInt8 → UInt8) (w : World) (hs : s.size ≤ 140737488351232) (hd : -1000 ≤ d ∧ d ≤ 1000)
  (hin : ∀ c : UInt8, lo ≤ (c.toNat : Int) → (c.toNat : Int) ≤ hi → ((f c).toNat : Int) = c.toNat + d) (hout : ∀ c : UInt8, ¬ (lo ≤ (c.toNat : Int) ∧ (c.toNat : Int) ≤ hi) → f c = c) :
  Calls Tryz.prog 72 #[.string s, .int .u8 lo, .int .u8 hi, .int .i64 d] w fun e w' => e = .returned (.string ⟨(s.data.toList.map f).toArray⟩) ∧ Below w.heap.size w w' := by
 obtain ⟨cap, W1, hconv, hR0, hB0⟩ := bytes_of s w
 have H0 := Lib.hid hR0
 have Hin := Lib.hid hin
 have Hout := Lib.hid hout
 obtain ⟨hd1, hd2⟩ := hd
 clear hR0 hin hout
 go_enter Tryz.func72, Tryz.ntmps72
 go_wp2_with fail
 clear hconv
 go_loopw [16] (fun i wr => MapRel f s w i wr) (fun i _ => s.size - (intOf i).toNat)
 case atStart => exact ⟨0, Nat.zero_le _, rfl, by simpa [mp] using H0.out, hB0⟩
 case round =>
  obtain ⟨k, hk, rfl, hR, hB⟩ := hrel
  have HR := Lib.hid hR
  clear hR
  by_cases hlt : k < s.size
  ·have hl : k < s.data.toList.length := by simpa using hlt
   have hc := HR.out.1 k (by rw [mp_length]; exact hl)
   rw [mp_at f k _ hl] at hc
   have hf := HR.out.2 k (by rw [mp_length]; exact hl)
   have hb := (s.data.toList[k]).toNat_lt
   generalize hx : s.data.toList[k] = x at *
   have HX := Lib.hid hx
   clear hx
   by_cases h1 : lo ≤ (x.toNat : Int)
   ·by_cases h2 : (x.toNat : Int) ≤ hi
    ·have e := Hin.out x h1 h2
     have hb2 := (f x).toNat_lt
     have hlo : 0 ≤ (x.toNat : Int) + d := by omega
     have hhi : (x.toNat : Int) + d < 256 := by omega
     have HE := Lib.hid e
     clear e
     go_wp2_with fail
     go_roundw
     case rel =>
      refine ⟨k + 1, by omega, by go_num, ?_, hB.setCell (p := ⟨w.heap.size, k, none⟩) (Nat.le_refl _) _⟩
      have h3 := HR.out.set k (by rw [mp_length]; exact hl) (f x)
      rw [← HX.out, mp_set f k _ hl, HX.out, HE.out] at h3
      exact h3
     case measure => simp [intOf]; omega
    ·have e := Hout.out x (fun h => h2 h.2)
     have h2' : hi < (x.toNat : Int) := by omega
     clear h2
     have HE := Lib.hid e
     clear e
     go_wp2_with fail
     go_roundw
     case rel =>
      refine ⟨k + 1, by omega, by go_num, ?_, hB⟩
      have h3 := HR.out
      rw [← mp_set f k _ hl, HX.out, HE.out]
      exact h3.same k (by rw [mp_length]; exact hl) x (by rw [mp_at f k _ hl]; exact HX.out)
     case measure => simp [intOf]; omega
   ·have e := Hout.out x (fun h => h1 h.1)
    have h1' : (x.toNat : Int) < lo := by omega
    clear h1
    have HE := Lib.hid e
    clear e
    go_wp2_with fail
    go_roundw
    case rel =>
     refine ⟨k + 1, by omega, by go_num, ?_, hB⟩
     have h3 := HR.out
     rw [← mp_set f k _ hl, HX.out, HE.out]
     exact h3.same k (by rw [mp_length]; exact hl) x (by rw [mp_at f k _ hl]; exact HX.out)
    case measure => simp [intOf]; omega
  ·have hback := string_of wr w.heap.size s.size cap _ HR.out (by rw [mp_length]; simp)
   rw [mp_all f k _ (by simp; omega)] at hback
   go_wp2_with fail
   go_ret
   exact ⟨rfl, hB⟩
def low (c : UInt8) : UInt8 := if 65 ≤ c.toNat ∧ c.toNat ≤ 90 then UInt8.ofNat (c.toNat + 32) else c
def upp (c : UInt8) : UInt8 := if 97 ≤ c.toNat ∧ c.toNat ≤ 122 then UInt8.ofNat (c.toNat - 32) else c
theorem low_in (c : UInt8) (h1 : 65 ≤ (c.toNat : Int)) (h2 : (c.toNat : Int) ≤ 90) : ((low c).toNat : Int) = c.toNat + 32 := by
 unfold low
 rw [if_pos (by omega)]
 simp
 omega
theorem low_out (c : UInt8) (h : ¬ (65 ≤ (c.toNat : Int) ∧ (c.toNat : Int) ≤ 90)) : low c = c := by
 unfold low
 rw [if_neg (by omega)]
theorem upp_in (c : UInt8) (h1 : 97 ≤ (c.toNat : Int)) (h2 : (c.toNat : Int) ≤ 122) : ((upp c).toNat : Int) = c.toNat + -32 := by
 unfold upp
 rw [if_pos (by omega)]
 simp
 omega
theorem upp_out (c : UInt8) (h : ¬ (97 ≤ (c.toNat : Int) ∧ (c.toNat : Int) ≤ 122)) : upp c = c := by
 unfold upp
 rw [if_neg (by omega)]
set_option maxHeartbeats 400000 in
theorem Lower (s : ByteArray) (w : World) (hs : s.size ≤ 140737488351232) :
  Calls Tryz.prog 38 #[.string s] w fun e w' => e = .returned (.string ⟨(s.data.toList.map low).toArray⟩) ∧ Below w.heap.size w w' := by
 go_enter Tryz.func38, Tryz.ntmps38
 go_wp2_with (go_at_call 72; refine (mapped s 65 90 32 low _ hs (by omega) low_in low_out).mono ?_)
 rintro e w1 ⟨rfl, hb⟩
 go_wp2_with fail
 go_ret
 exact ⟨rfl, hb⟩
end T
end Go.Proofs.YtafkeolpadfjfaaGreatDoor
