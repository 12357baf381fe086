/- What the reference's in, tail, second, Size and Code come to, in the words of the plain UTF-8 facts. What the reference's Size comes to: the plain function sz at the place. What the reference's Repair and Points come to: the repaired form and its code points. What the reference's Points comes to: the code points of a repaired string, each as a string, in a row that the call owns. More plain facts on UTF-8: a string is valid where it is its own repaired form; the bytes of a code point's number are the code point. The shelf's facts for (*strings.Builder).WriteRune at this translation, and its contract. The shelf's facts for unicode/utf8.ValidString at this translation. What text.Repair and text.Valid come to, where Go's two tables of package utf8 lie as their texts lay them; the statement TextRepairs. What text.Slice comes to: the code points between two numbers, one after the other. What the reference's Join comes to: the strings from one index to another, one after the other; the statement TextSlices. -/
import Derived.Test.YtafkeolpadfjfaaGreatDoorCases
import Derived.BigQuiet
import Derived.Deep.QuietTactic
import Derived.Laws.BitsLemmas
import Derived.Lib.AppendStr
import Derived.Lib.BufferRead
import Derived.Laws.IdiomStrings
import Derived.Maps.AppendAt
import Derived.WalkSpells
import Derived.Lib.ValidLaws
import Derived.Test.YtafkeolpadfjfaaGreatDoorProg
import Derived.Shelf.Strings.BuilderRune
import Derived.Shelf.Unicode.ValidAny
import Derived.Lib.OthersKept
import Derived.BigCall
set_option linter.unusedVariables false
set_option linter.unusedSimpArgs false
namespace Go.Proofs.YtafkeolpadfjfaaGreatDoor
open Go.RowKit
namespace T
theorem getD_at (s : ByteArray) (k : Nat) (h : k < s.size) : s.data.toList.getD k 0 = s[k] := by
 have h' : k < s.data.toList.length := by simpa using h
 rw [List.getD, List.getElem?_eq_getElem h']
 rfl
theorem rng_yes (s : ByteArray) (k lo hi : Nat) (h : k < s.size) (h1 : lo ≤ s[k].toNat) (h2 : s[k].toNat ≤ hi) : U.rng s.data.toList k lo hi = true := by
 rw [U.rng_iff, getD_at s k h]
 exact ⟨by simpa using h, h1, h2⟩
theorem rng_short (s : ByteArray) (k lo hi : Nat) (h : ¬ k < s.size) : U.rng s.data.toList k lo hi = false := by
 rw [Bool.eq_false_iff]
 intro e
 rw [U.rng_iff] at e
 exact h (by simpa using e.1)
theorem rng_no (s : ByteArray) (k lo hi : Nat) (h : k < s.size) (h1 : ¬ (lo ≤ s[k].toNat ∧ s[k].toNat ≤ hi)) : U.rng s.data.toList k lo hi = false := by
 rw [Bool.eq_false_iff]
 intro e
 rw [U.rng_iff, getD_at s k h] at e
 exact h1 e.2
theorem ret_bool {a b : Bool} (h : a = b) : Ending.returned (.bool a) = .returned (.bool b) := by rw [h]
set_option maxHeartbeats 400000 in
theorem refIn (s : ByteArray) (i : Int) (lo hi : Nat) (w : World) (hs : s.size ≤ 140737488351232) (h0 : 0 ≤ i) :
  Calls Tryz.prog 148 #[.string s, .int .i64 i, .int .u8 lo, .int .u8 hi] w fun e w' => e = .returned (.bool (U.rng s.data.toList i.toNat lo hi)) ∧ w = w' := by
 obtain ⟨k, rfl⟩ := Int.eq_ofNat_of_zero_le h0
 rw [Int.toNat_natCast]
 clear h0
 by_cases hlt : k < s.size
 ·by_cases h1 : lo ≤ s[k].toNat
  ·by_cases h2 : s[k].toNat ≤ hi
   ·have HE := Lib.hid (rng_yes s k lo hi hlt h1 h2)
    go_enter Tryz.func148, Tryz.ntmps148
    go_wp2
    go_ret
    exact ⟨ret_bool (by rw [HE.out]), rfl⟩
   ·have HE := Lib.hid (rng_no s k lo hi hlt (fun h => h2 h.2))
    go_enter Tryz.func148, Tryz.ntmps148
    go_wp2
    go_ret
    exact ⟨ret_bool (by rw [HE.out]), rfl⟩
  ·have HE := Lib.hid (rng_no s k lo hi hlt (fun h => h1 h.1))
   go_enter Tryz.func148, Tryz.ntmps148
   go_wp2
   go_ret
   exact ⟨ret_bool (by rw [HE.out]), rfl⟩
 ·have HE := Lib.hid (rng_short s k lo hi hlt)
  have hge : s.size ≤ k := by omega
  clear hlt
  go_enter Tryz.func148, Tryz.ntmps148
  go_wp2
  go_ret
  exact ⟨ret_bool (by rw [HE.out]), rfl⟩
theorem rng_drop (l : List UInt8) (i k lo hi : Nat) : U.rng (l.drop i) k lo hi = U.rng l (i + k) lo hi := by
 unfold U.rng
 rw [U.getD_drop, List.length_drop]
 rw [decide_eq_decide]
 omega
/-- n continuation bytes. -/
def tl (l : List UInt8) (i : Nat) : Nat → Bool
 | 0 => true
 | n + 1 => tl l i n && U.rng l (i + n) 128 191
theorem tl_false (l : List UInt8) (i k : Nat) (h : U.rng l (i + k) 128 191 = false) : ∀ n, k < n → tl l i n = false
 | 0, hk => by omega
 | n + 1, hk => by
  by_cases e : k = n
  ·subst e; simp [tl, h]
  ·simp [tl, tl_false l i k h n (by omega)]
set_option maxHeartbeats 400000 in
theorem refTail (s : ByteArray) (i : Int) (n : Nat) (w : World) (hs : s.size ≤ 140737488351232) (h0 : 0 ≤ i) (hi : i ≤ 140737488361232) (hn : n ≤ 10) :
  Calls Tryz.prog 149 #[.string s, .int .i64 i, .int .i64 n] w fun e w' => e = .returned (.bool (tl s.data.toList i.toNat n)) ∧ w = w' := by
 obtain ⟨j, rfl⟩ := Int.eq_ofNat_of_zero_le h0
 rw [Int.toNat_natCast]
 clear h0
 go_enter Tryz.func149, Tryz.ntmps149
 go_wp2_with fail
 go_loop [7] (fun c => ∃ k : Nat, k ≤ n ∧ c = .int .i64 k ∧ Hid (tl s.data.toList j k = true)) (fun c => n - (intOf c).toNat)
 case atStart => exact ⟨0, Nat.zero_le _, rfl, Lib.hid rfl⟩
 case round =>
  obtain ⟨k, hk, rfl, HT⟩ := hrel
  by_cases hlt : k < n
  ·cases hr : U.rng s.data.toList (j + k) 128 191 with
   | true =>
    have HR := Lib.hid hr
    have hc := fun W => refIn s ((j : Int) + k) 128 191 W hs (by omega)
    rw [show ((j : Int) + k).toNat = j + k from by omega, hr] at hc
    have HC := Lib.hid hc
    clear hc hr
    go_wp2_with (go_at_call 148; refine (HC.out _).mono ?_; rintro e w' ⟨rfl, rfl⟩)
    go_round
    case rel => exact ⟨k + 1, by omega, by go_num, Lib.hid (by simp [tl, HT.out, HR.out])⟩
    case measure => simp [intOf]; omega
   | false =>
    have HF := Lib.hid (tl_false _ _ _ hr n hlt)
    have hc := fun W => refIn s ((j : Int) + k) 128 191 W hs (by omega)
    rw [show ((j : Int) + k).toNat = j + k from by omega, hr] at hc
    have HC := Lib.hid hc
    clear hc hr
    go_wp2_with (go_at_call 148; refine (HC.out _).mono ?_; rintro e w' ⟨rfl, rfl⟩)
    go_ret
    exact ⟨ret_bool HF.out.symm, rfl⟩
  ·obtain rfl : k = n := by omega
   go_wp2_with fail
   go_ret
   exact ⟨ret_bool HT.out.symm, rfl⟩
theorem second_eq (s : ByteArray) (k : Nat) (h : k < s.size) : U.second (s.data.toList.drop k) =
  if s[k].toNat = 224 then U.rng s.data.toList (k + 1) 160 191
  else if s[k].toNat = 237 then U.rng s.data.toList (k + 1) 128 159
  else if s[k].toNat = 240 then U.rng s.data.toList (k + 1) 144 191
  else if s[k].toNat = 244 then U.rng s.data.toList (k + 1) 128 143
  else U.rng s.data.toList (k + 1) 128 191 := by
 unfold U.second
 simp only [U.getD_drop, Nat.add_zero, getD_at s k h, rng_drop]
set_option maxHeartbeats 1000000 in
theorem refSecond (s : ByteArray) (i : Int) (w : World) (hs : s.size ≤ 140737488351232) (h0 : 0 ≤ i) (hi : i < s.size) :
  Calls Tryz.prog 150 #[.string s, .int .i64 i] w fun e w' => e = .returned (.bool (U.second (s.data.toList.drop i.toNat))) ∧ w = w' := by
 obtain ⟨k, rfl⟩ := Int.eq_ofNat_of_zero_le h0
 rw [Int.toNat_natCast]
 clear h0
 have hlt : k < s.size := by omega
 rw [second_eq s k hlt]
 have hc := fun lo hi W => refIn s ((k : Int) + 1) lo hi W hs (by omega)
 simp only [show ((k : Int) + 1).toNat = k + 1 from by omega] at hc
 have HC := Lib.hid hc
 clear hc
 have hb := (s[k]).toNat_lt
 by_cases h1 : s[k].toNat = 224
 ·rw [if_pos h1]
  have t1 : ((s[k].toNat : Int) == 224) = true := beq_iff_eq.2 (by omega)
  clear h1
  go_enter Tryz.func150, Tryz.ntmps150
  go_wp2_with (go_at_call 148; refine (HC.out 160 191 _).mono ?_; rintro e w' ⟨rfl, rfl⟩)
  go_ret
  exact ⟨rfl, rfl⟩
 rw [if_neg h1]
 have t1 : ((s[k].toNat : Int) == 224) = false := beq_eq_false_iff_ne.2 (by omega)
 clear h1
 by_cases h2 : s[k].toNat = 237
 ·rw [if_pos h2]
  have t2 : ((s[k].toNat : Int) == 237) = true := beq_iff_eq.2 (by omega)
  clear h2
  go_enter Tryz.func150, Tryz.ntmps150
  go_wp2_with (go_at_call 148; refine (HC.out 128 159 _).mono ?_; rintro e w' ⟨rfl, rfl⟩)
  go_ret
  exact ⟨rfl, rfl⟩
 rw [if_neg h2]
 have t2 : ((s[k].toNat : Int) == 237) = false := beq_eq_false_iff_ne.2 (by omega)
 clear h2
 by_cases h3 : s[k].toNat = 240
 ·rw [if_pos h3]
  have t3 : ((s[k].toNat : Int) == 240) = true := beq_iff_eq.2 (by omega)
  clear h3
  go_enter Tryz.func150, Tryz.ntmps150
  go_wp2_with (go_at_call 148; refine (HC.out 144 191 _).mono ?_; rintro e w' ⟨rfl, rfl⟩)
  go_ret
  exact ⟨rfl, rfl⟩
 rw [if_neg h3]
 have t3 : ((s[k].toNat : Int) == 240) = false := beq_eq_false_iff_ne.2 (by omega)
 clear h3
 by_cases h4 : s[k].toNat = 244
 ·rw [if_pos h4]
  have t4 : ((s[k].toNat : Int) == 244) = true := beq_iff_eq.2 (by omega)
  clear h4
  go_enter Tryz.func150, Tryz.ntmps150
  go_wp2_with (go_at_call 148; refine (HC.out 128 143 _).mono ?_; rintro e w' ⟨rfl, rfl⟩)
  go_ret
  exact ⟨rfl, rfl⟩
 rw [if_neg h4]
 have t4 : ((s[k].toNat : Int) == 244) = false := beq_eq_false_iff_ne.2 (by omega)
 clear h4
 go_enter Tryz.func150, Tryz.ntmps150
 go_wp2_with (go_at_call 148; refine (HC.out 128 191 _).mono ?_; rintro e w' ⟨rfl, rfl⟩)
 go_ret
 exact ⟨rfl, rfl⟩
end T
end Go.Proofs.YtafkeolpadfjfaaGreatDoor
namespace Go.Proofs.YtafkeolpadfjfaaGreatDoor
open Go.RowKit
namespace T
theorem sz_at (l : List UInt8) (k : Nat) : U.sz (l.drop k) =
  if U.rng l k 0 127 then 1
  else if U.rng l k 194 223 && tl l (k + 1) 1 then 2
  else if U.rng l k 224 239 && (U.second (l.drop k) && tl l (k + 2) 1) then 3
  else if U.rng l k 240 244 && (U.second (l.drop k) && tl l (k + 2) 2) then 4
  else 0 := by
 unfold U.sz
 simp only [rng_drop, Nat.add_zero, tl, Bool.true_and]
theorem rng_other {l : List UInt8} {k lo hi lo' hi' : Nat} (h : U.rng l k lo hi = true) (hd : hi < lo') : U.rng l k lo' hi' = false := by
 rw [Bool.eq_false_iff]
 intro e
 rw [U.rng_iff] at h e
 omega
theorem rng_lt {s : ByteArray} {k lo hi : Nat} (h : U.rng s.data.toList k lo hi = true) : k < s.size := by
 rw [U.rng_iff] at h
 simpa using h.1
set_option maxHeartbeats 1000000 in
theorem size0 (s : ByteArray) (k : Nat) (w : World) (hs : s.size ≤ 140737488351232) (hk : k ≤ s.size) (e0 : U.rng s.data.toList k 0 127 = true) :
  Calls Tryz.prog 111 #[.string s, .int .i64 k] w fun e w' => e = .returned (.int .i64 1) ∧ w = w' := by
 have c0 := fun W => refIn s (k : Int) 0 127 W hs (by omega)
 rw [Int.toNat_natCast, e0] at c0
 have C0 := Lib.hid c0
 clear c0 e0
 go_enter Tryz.func111, Tryz.ntmps111
 go_wp2_with fail
 refine (C0.out _).mono ?_
 rintro e w' ⟨rfl, rfl⟩
 go_wp2_with fail
 go_ret
 exact ⟨rfl, rfl⟩
set_option maxHeartbeats 1000000 in
theorem size1 (s : ByteArray) (k : Nat) (w : World) (hs : s.size ≤ 140737488351232) (hk : k ≤ s.size) (e0 : U.rng s.data.toList k 0 127 = false) (e1 : U.rng s.data.toList k 194 223 = true) (e2 : tl s.data.toList (k + 1) 1 = true) :
  Calls Tryz.prog 111 #[.string s, .int .i64 k] w fun e w' => e = .returned (.int .i64 2) ∧ w = w' := by
 have c0 := fun W => refIn s (k : Int) 0 127 W hs (by omega)
 rw [Int.toNat_natCast, e0] at c0
 have c1 := fun W => refIn s (k : Int) 194 223 W hs (by omega)
 rw [Int.toNat_natCast, e1] at c1
 have c2 := fun W => refTail s ((k : Int) + 1) 1 W hs (by omega) (by omega) (by omega)
 rw [show ((k : Int) + 1).toNat = k + 1 from by omega, e2] at c2
 have C0 := Lib.hid c0
 have C1 := Lib.hid c1
 have C2 := Lib.hid c2
 clear c2 e2 c1 e1 c0 e0
 go_enter Tryz.func111, Tryz.ntmps111
 go_wp2_with fail
 refine (C0.out _).mono ?_
 rintro e w' ⟨rfl, rfl⟩
 go_wp2_with fail
 refine (C1.out _).mono ?_
 rintro e w' ⟨rfl, rfl⟩
 go_wp2_with fail
 refine (C2.out _).mono ?_
 rintro e w' ⟨rfl, rfl⟩
 go_wp2_with fail
 go_ret
 exact ⟨rfl, rfl⟩
set_option maxHeartbeats 1000000 in
theorem size2 (s : ByteArray) (k : Nat) (w : World) (hs : s.size ≤ 140737488351232) (hk : k ≤ s.size) (e0 : U.rng s.data.toList k 0 127 = false) (e1 : U.rng s.data.toList k 194 223 = true) (e2 : tl s.data.toList (k + 1) 1 = false) (e3 : U.rng s.data.toList k 224 239 = false) (e4 : U.rng s.data.toList k 240 244 = false) :
  Calls Tryz.prog 111 #[.string s, .int .i64 k] w fun e w' => e = .returned (.int .i64 0) ∧ w = w' := by
 have c0 := fun W => refIn s (k : Int) 0 127 W hs (by omega)
 rw [Int.toNat_natCast, e0] at c0
 have c1 := fun W => refIn s (k : Int) 194 223 W hs (by omega)
 rw [Int.toNat_natCast, e1] at c1
 have c2 := fun W => refTail s ((k : Int) + 1) 1 W hs (by omega) (by omega) (by omega)
 rw [show ((k : Int) + 1).toNat = k + 1 from by omega, e2] at c2
 have c3 := fun W => refIn s (k : Int) 224 239 W hs (by omega)
 rw [Int.toNat_natCast, e3] at c3
 have c4 := fun W => refIn s (k : Int) 240 244 W hs (by omega)
 rw [Int.toNat_natCast, e4] at c4
 have C0 := Lib.hid c0
 have C1 := Lib.hid c1
 have C2 := Lib.hid c2
 have C3 := Lib.hid c3
 have C4 := Lib.hid c4
 clear c4 e4 c3 e3 c2 e2 c1 e1 c0 e0
 go_enter Tryz.func111, Tryz.ntmps111
 go_wp2_with fail
 refine (C0.out _).mono ?_
 rintro e w' ⟨rfl, rfl⟩
 go_wp2_with fail
 refine (C1.out _).mono ?_
 rintro e w' ⟨rfl, rfl⟩
 go_wp2_with fail
 refine (C2.out _).mono ?_
 rintro e w' ⟨rfl, rfl⟩
 go_wp2_with fail
 refine (C3.out _).mono ?_
 rintro e w' ⟨rfl, rfl⟩
 go_wp2_with fail
 refine (C4.out _).mono ?_
 rintro e w' ⟨rfl, rfl⟩
 go_wp2_with fail
 go_ret
 exact ⟨rfl, rfl⟩
set_option maxHeartbeats 1000000 in
theorem size3 (s : ByteArray) (k : Nat) (w : World) (hs : s.size ≤ 140737488351232) (hk : k ≤ s.size) (e0 : U.rng s.data.toList k 0 127 = false) (e1 : U.rng s.data.toList k 194 223 = false) (e2 : U.rng s.data.toList k 224 239 = true) (e3 : U.second (s.data.toList.drop k) = true) (e4 : tl s.data.toList (k + 2) 1 = true) :
  Calls Tryz.prog 111 #[.string s, .int .i64 k] w fun e w' => e = .returned (.int .i64 3) ∧ w = w' := by
 have c0 := fun W => refIn s (k : Int) 0 127 W hs (by omega)
 rw [Int.toNat_natCast, e0] at c0
 have c1 := fun W => refIn s (k : Int) 194 223 W hs (by omega)
 rw [Int.toNat_natCast, e1] at c1
 have c2 := fun W => refIn s (k : Int) 224 239 W hs (by omega)
 rw [Int.toNat_natCast, e2] at c2
 have c3 := fun W => refSecond s (k : Int) W hs (by omega) (by have := rng_lt e2; omega)
 rw [Int.toNat_natCast, e3] at c3
 have c4 := fun W => refTail s ((k : Int) + 2) 1 W hs (by omega) (by omega) (by omega)
 rw [show ((k : Int) + 2).toNat = k + 2 from by omega, e4] at c4
 have C0 := Lib.hid c0
 have C1 := Lib.hid c1
 have C2 := Lib.hid c2
 have C3 := Lib.hid c3
 have C4 := Lib.hid c4
 clear c4 e4 c3 e3 c2 e2 c1 e1 c0 e0
 go_enter Tryz.func111, Tryz.ntmps111
 go_wp2_with fail
 refine (C0.out _).mono ?_
 rintro e w' ⟨rfl, rfl⟩
 go_wp2_with fail
 refine (C1.out _).mono ?_
 rintro e w' ⟨rfl, rfl⟩
 go_wp2_with fail
 refine (C2.out _).mono ?_
 rintro e w' ⟨rfl, rfl⟩
 go_wp2_with fail
 refine (C3.out _).mono ?_
 rintro e w' ⟨rfl, rfl⟩
 go_wp2_with fail
 refine (C4.out _).mono ?_
 rintro e w' ⟨rfl, rfl⟩
 go_wp2_with fail
 go_ret
 exact ⟨rfl, rfl⟩
set_option maxHeartbeats 1000000 in
theorem size4 (s : ByteArray) (k : Nat) (w : World) (hs : s.size ≤ 140737488351232) (hk : k ≤ s.size) (e0 : U.rng s.data.toList k 0 127 = false) (e1 : U.rng s.data.toList k 194 223 = false) (e2 : U.rng s.data.toList k 224 239 = true) (e3 : U.second (s.data.toList.drop k) = true) (e4 : tl s.data.toList (k + 2) 1 = false) (e5 : U.rng s.data.toList k 240 244 = false) :
  Calls Tryz.prog 111 #[.string s, .int .i64 k] w fun e w' => e = .returned (.int .i64 0) ∧ w = w' := by
 have c0 := fun W => refIn s (k : Int) 0 127 W hs (by omega)
 rw [Int.toNat_natCast, e0] at c0
 have c1 := fun W => refIn s (k : Int) 194 223 W hs (by omega)
 rw [Int.toNat_natCast, e1] at c1
 have c2 := fun W => refIn s (k : Int) 224 239 W hs (by omega)
 rw [Int.toNat_natCast, e2] at c2
 have c3 := fun W => refSecond s (k : Int) W hs (by omega) (by have := rng_lt e2; omega)
 rw [Int.toNat_natCast, e3] at c3
 have c4 := fun W => refTail s ((k : Int) + 2) 1 W hs (by omega) (by omega) (by omega)
 rw [show ((k : Int) + 2).toNat = k + 2 from by omega, e4] at c4
 have c5 := fun W => refIn s (k : Int) 240 244 W hs (by omega)
 rw [Int.toNat_natCast, e5] at c5
 have C0 := Lib.hid c0
 have C1 := Lib.hid c1
 have C2 := Lib.hid c2
 have C3 := Lib.hid c3
 have C4 := Lib.hid c4
 have C5 := Lib.hid c5
 clear c5 e5 c4 e4 c3 e3 c2 e2 c1 e1 c0 e0
 go_enter Tryz.func111, Tryz.ntmps111
 go_wp2_with fail
 refine (C0.out _).mono ?_
 rintro e w' ⟨rfl, rfl⟩
 go_wp2_with fail
 refine (C1.out _).mono ?_
 rintro e w' ⟨rfl, rfl⟩
 go_wp2_with fail
 refine (C2.out _).mono ?_
 rintro e w' ⟨rfl, rfl⟩
 go_wp2_with fail
 refine (C3.out _).mono ?_
 rintro e w' ⟨rfl, rfl⟩
 go_wp2_with fail
 refine (C4.out _).mono ?_
 rintro e w' ⟨rfl, rfl⟩
 go_wp2_with fail
 refine (C5.out _).mono ?_
 rintro e w' ⟨rfl, rfl⟩
 go_wp2_with fail
 go_ret
 exact ⟨rfl, rfl⟩
set_option maxHeartbeats 1000000 in
theorem size5 (s : ByteArray) (k : Nat) (w : World) (hs : s.size ≤ 140737488351232) (hk : k ≤ s.size) (e0 : U.rng s.data.toList k 0 127 = false) (e1 : U.rng s.data.toList k 194 223 = false) (e2 : U.rng s.data.toList k 224 239 = true) (e3 : U.second (s.data.toList.drop k) = false) (e4 : U.rng s.data.toList k 240 244 = false) :
  Calls Tryz.prog 111 #[.string s, .int .i64 k] w fun e w' => e = .returned (.int .i64 0) ∧ w = w' := by
 have c0 := fun W => refIn s (k : Int) 0 127 W hs (by omega)
 rw [Int.toNat_natCast, e0] at c0
 have c1 := fun W => refIn s (k : Int) 194 223 W hs (by omega)
 rw [Int.toNat_natCast, e1] at c1
 have c2 := fun W => refIn s (k : Int) 224 239 W hs (by omega)
 rw [Int.toNat_natCast, e2] at c2
 have c3 := fun W => refSecond s (k : Int) W hs (by omega) (by have := rng_lt e2; omega)
 rw [Int.toNat_natCast, e3] at c3
 have c4 := fun W => refIn s (k : Int) 240 244 W hs (by omega)
 rw [Int.toNat_natCast, e4] at c4
 have C0 := Lib.hid c0
 have C1 := Lib.hid c1
 have C2 := Lib.hid c2
 have C3 := Lib.hid c3
 have C4 := Lib.hid c4
 clear c4 e4 c3 e3 c2 e2 c1 e1 c0 e0
 go_enter Tryz.func111, Tryz.ntmps111
 go_wp2_with fail
 refine (C0.out _).mono ?_
 rintro e w' ⟨rfl, rfl⟩
 go_wp2_with fail
 refine (C1.out _).mono ?_
 rintro e w' ⟨rfl, rfl⟩
 go_wp2_with fail
 refine (C2.out _).mono ?_
 rintro e w' ⟨rfl, rfl⟩
 go_wp2_with fail
 refine (C3.out _).mono ?_
 rintro e w' ⟨rfl, rfl⟩
 go_wp2_with fail
 refine (C4.out _).mono ?_
 rintro e w' ⟨rfl, rfl⟩
 go_wp2_with fail
 go_ret
 exact ⟨rfl, rfl⟩
set_option maxHeartbeats 1000000 in
theorem size6 (s : ByteArray) (k : Nat) (w : World) (hs : s.size ≤ 140737488351232) (hk : k ≤ s.size) (e0 : U.rng s.data.toList k 0 127 = false) (e1 : U.rng s.data.toList k 194 223 = false) (e2 : U.rng s.data.toList k 224 239 = false) (e3 : U.rng s.data.toList k 240 244 = true) (e4 : U.second (s.data.toList.drop k) = true) (e5 : tl s.data.toList (k + 2) 2 = true) :
  Calls Tryz.prog 111 #[.string s, .int .i64 k] w fun e w' => e = .returned (.int .i64 4) ∧ w = w' := by
 have c0 := fun W => refIn s (k : Int) 0 127 W hs (by omega)
 rw [Int.toNat_natCast, e0] at c0
 have c1 := fun W => refIn s (k : Int) 194 223 W hs (by omega)
 rw [Int.toNat_natCast, e1] at c1
 have c2 := fun W => refIn s (k : Int) 224 239 W hs (by omega)
 rw [Int.toNat_natCast, e2] at c2
 have c3 := fun W => refIn s (k : Int) 240 244 W hs (by omega)
 rw [Int.toNat_natCast, e3] at c3
 have c4 := fun W => refSecond s (k : Int) W hs (by omega) (by have := rng_lt e3; omega)
 rw [Int.toNat_natCast, e4] at c4
 have c5 := fun W => refTail s ((k : Int) + 2) 2 W hs (by omega) (by omega) (by omega)
 rw [show ((k : Int) + 2).toNat = k + 2 from by omega, e5] at c5
 have C0 := Lib.hid c0
 have C1 := Lib.hid c1
 have C2 := Lib.hid c2
 have C3 := Lib.hid c3
 have C4 := Lib.hid c4
 have C5 := Lib.hid c5
 clear c5 e5 c4 e4 c3 e3 c2 e2 c1 e1 c0 e0
 go_enter Tryz.func111, Tryz.ntmps111
 go_wp2_with fail
 refine (C0.out _).mono ?_
 rintro e w' ⟨rfl, rfl⟩
 go_wp2_with fail
 refine (C1.out _).mono ?_
 rintro e w' ⟨rfl, rfl⟩
 go_wp2_with fail
 refine (C2.out _).mono ?_
 rintro e w' ⟨rfl, rfl⟩
 go_wp2_with fail
 refine (C3.out _).mono ?_
 rintro e w' ⟨rfl, rfl⟩
 go_wp2_with fail
 refine (C4.out _).mono ?_
 rintro e w' ⟨rfl, rfl⟩
 go_wp2_with fail
 refine (C5.out _).mono ?_
 rintro e w' ⟨rfl, rfl⟩
 go_wp2_with fail
 go_ret
 exact ⟨rfl, rfl⟩
set_option maxHeartbeats 1000000 in
theorem size7 (s : ByteArray) (k : Nat) (w : World) (hs : s.size ≤ 140737488351232) (hk : k ≤ s.size) (e0 : U.rng s.data.toList k 0 127 = false) (e1 : U.rng s.data.toList k 194 223 = false) (e2 : U.rng s.data.toList k 224 239 = false) (e3 : U.rng s.data.toList k 240 244 = true) (e4 : U.second (s.data.toList.drop k) = true) (e5 : tl s.data.toList (k + 2) 2 = false) :
  Calls Tryz.prog 111 #[.string s, .int .i64 k] w fun e w' => e = .returned (.int .i64 0) ∧ w = w' := by
 have c0 := fun W => refIn s (k : Int) 0 127 W hs (by omega)
 rw [Int.toNat_natCast, e0] at c0
 have c1 := fun W => refIn s (k : Int) 194 223 W hs (by omega)
 rw [Int.toNat_natCast, e1] at c1
 have c2 := fun W => refIn s (k : Int) 224 239 W hs (by omega)
 rw [Int.toNat_natCast, e2] at c2
 have c3 := fun W => refIn s (k : Int) 240 244 W hs (by omega)
 rw [Int.toNat_natCast, e3] at c3
 have c4 := fun W => refSecond s (k : Int) W hs (by omega) (by have := rng_lt e3; omega)
 rw [Int.toNat_natCast, e4] at c4
 have c5 := fun W => refTail s ((k : Int) + 2) 2 W hs (by omega) (by omega) (by omega)
 rw [show ((k : Int) + 2).toNat = k + 2 from by omega, e5] at c5
 have C0 := Lib.hid c0
 have C1 := Lib.hid c1
 have C2 := Lib.hid c2
 have C3 := Lib.hid c3
 have C4 := Lib.hid c4
 have C5 := Lib.hid c5
 clear c5 e5 c4 e4 c3 e3 c2 e2 c1 e1 c0 e0
 go_enter Tryz.func111, Tryz.ntmps111
 go_wp2_with fail
 refine (C0.out _).mono ?_
 rintro e w' ⟨rfl, rfl⟩
 go_wp2_with fail
 refine (C1.out _).mono ?_
 rintro e w' ⟨rfl, rfl⟩
 go_wp2_with fail
 refine (C2.out _).mono ?_
 rintro e w' ⟨rfl, rfl⟩
 go_wp2_with fail
 refine (C3.out _).mono ?_
 rintro e w' ⟨rfl, rfl⟩
 go_wp2_with fail
 refine (C4.out _).mono ?_
 rintro e w' ⟨rfl, rfl⟩
 go_wp2_with fail
 refine (C5.out _).mono ?_
 rintro e w' ⟨rfl, rfl⟩
 go_wp2_with fail
 go_ret
 exact ⟨rfl, rfl⟩
set_option maxHeartbeats 1000000 in
theorem size8 (s : ByteArray) (k : Nat) (w : World) (hs : s.size ≤ 140737488351232) (hk : k ≤ s.size) (e0 : U.rng s.data.toList k 0 127 = false) (e1 : U.rng s.data.toList k 194 223 = false) (e2 : U.rng s.data.toList k 224 239 = false) (e3 : U.rng s.data.toList k 240 244 = true) (e4 : U.second (s.data.toList.drop k) = false) :
  Calls Tryz.prog 111 #[.string s, .int .i64 k] w fun e w' => e = .returned (.int .i64 0) ∧ w = w' := by
 have c0 := fun W => refIn s (k : Int) 0 127 W hs (by omega)
 rw [Int.toNat_natCast, e0] at c0
 have c1 := fun W => refIn s (k : Int) 194 223 W hs (by omega)
 rw [Int.toNat_natCast, e1] at c1
 have c2 := fun W => refIn s (k : Int) 224 239 W hs (by omega)
 rw [Int.toNat_natCast, e2] at c2
 have c3 := fun W => refIn s (k : Int) 240 244 W hs (by omega)
 rw [Int.toNat_natCast, e3] at c3
 have c4 := fun W => refSecond s (k : Int) W hs (by omega) (by have := rng_lt e3; omega)
 rw [Int.toNat_natCast, e4] at c4
 have C0 := Lib.hid c0
 have C1 := Lib.hid c1
 have C2 := Lib.hid c2
 have C3 := Lib.hid c3
 have C4 := Lib.hid c4
 clear c4 e4 c3 e3 c2 e2 c1 e1 c0 e0
 go_enter Tryz.func111, Tryz.ntmps111
 go_wp2_with fail
 refine (C0.out _).mono ?_
 rintro e w' ⟨rfl, rfl⟩
 go_wp2_with fail
 refine (C1.out _).mono ?_
 rintro e w' ⟨rfl, rfl⟩
 go_wp2_with fail
 refine (C2.out _).mono ?_
 rintro e w' ⟨rfl, rfl⟩
 go_wp2_with fail
 refine (C3.out _).mono ?_
 rintro e w' ⟨rfl, rfl⟩
 go_wp2_with fail
 refine (C4.out _).mono ?_
 rintro e w' ⟨rfl, rfl⟩
 go_wp2_with fail
 go_ret
 exact ⟨rfl, rfl⟩
set_option maxHeartbeats 1000000 in
theorem size9 (s : ByteArray) (k : Nat) (w : World) (hs : s.size ≤ 140737488351232) (hk : k ≤ s.size) (e0 : U.rng s.data.toList k 0 127 = false) (e1 : U.rng s.data.toList k 194 223 = false) (e2 : U.rng s.data.toList k 224 239 = false) (e3 : U.rng s.data.toList k 240 244 = false) :
  Calls Tryz.prog 111 #[.string s, .int .i64 k] w fun e w' => e = .returned (.int .i64 0) ∧ w = w' := by
 have c0 := fun W => refIn s (k : Int) 0 127 W hs (by omega)
 rw [Int.toNat_natCast, e0] at c0
 have c1 := fun W => refIn s (k : Int) 194 223 W hs (by omega)
 rw [Int.toNat_natCast, e1] at c1
 have c2 := fun W => refIn s (k : Int) 224 239 W hs (by omega)
 rw [Int.toNat_natCast, e2] at c2
 have c3 := fun W => refIn s (k : Int) 240 244 W hs (by omega)
 rw [Int.toNat_natCast, e3] at c3
 have C0 := Lib.hid c0
 have C1 := Lib.hid c1
 have C2 := Lib.hid c2
 have C3 := Lib.hid c3
 clear c3 e3 c2 e2 c1 e1 c0 e0
 go_enter Tryz.func111, Tryz.ntmps111
 go_wp2_with fail
 refine (C0.out _).mono ?_
 rintro e w' ⟨rfl, rfl⟩
 go_wp2_with fail
 refine (C1.out _).mono ?_
 rintro e w' ⟨rfl, rfl⟩
 go_wp2_with fail
 refine (C2.out _).mono ?_
 rintro e w' ⟨rfl, rfl⟩
 go_wp2_with fail
 refine (C3.out _).mono ?_
 rintro e w' ⟨rfl, rfl⟩
 go_wp2_with fail
 go_ret
 exact ⟨rfl, rfl⟩
theorem refSize (s : ByteArray) (i : Int) (w : World) (hs : s.size ≤ 140737488351232) (h0 : 0 ≤ i) (hi : i ≤ s.size) :
  Calls Tryz.prog 111 #[.string s, .int .i64 i] w fun e w' => e = .returned (.int .i64 (U.sz (s.data.toList.drop i.toNat))) ∧ w = w' := by
 obtain ⟨k, rfl⟩ := Int.eq_ofNat_of_zero_le h0
 rw [Int.toNat_natCast, sz_at]
 have hk : k ≤ s.size := by omega
 cases e0 : U.rng s.data.toList k 0 127 with
 | true => exact size0 s k w hs hk e0
 | false =>
  cases e1 : U.rng s.data.toList k 194 223 with
  | true =>
   cases e2 : tl s.data.toList (k + 1) 1 with
   | true => exact size1 s k w hs hk e0 e1 e2
   | false =>
    have e3 := rng_other (lo' := 224) (hi' := 239) e1 (by omega)
    have e4 := rng_other (lo' := 240) (hi' := 244) e1 (by omega)
    rw [e3, e4]
    exact size2 s k w hs hk e0 e1 e2 e3 e4
  | false =>
   cases e2 : U.rng s.data.toList k 224 239 with
   | true =>
    have e4 := rng_other (lo' := 240) (hi' := 244) e2 (by omega)
    rw [e4]
    cases e3 : U.second (s.data.toList.drop k) with
    | true =>
     cases e5 : tl s.data.toList (k + 2) 1 with
     | true => exact size3 s k w hs hk e0 e1 e2 e3 e5
     | false => exact size4 s k w hs hk e0 e1 e2 e3 e5 e4
    | false => exact size5 s k w hs hk e0 e1 e2 e3 e4
   | false =>
    cases e3 : U.rng s.data.toList k 240 244 with
    | true =>
     cases e4 : U.second (s.data.toList.drop k) with
     | true =>
      cases e5 : tl s.data.toList (k + 2) 2 with
      | true => exact size6 s k w hs hk e0 e1 e2 e3 e4 e5
      | false => exact size7 s k w hs hk e0 e1 e2 e3 e4 e5
     | false => exact size8 s k w hs hk e0 e1 e2 e3 e4
    | false => exact size9 s k w hs hk e0 e1 e2 e3
end T
end Go.Proofs.YtafkeolpadfjfaaGreatDoor
namespace Go.Proofs.YtafkeolpadfjfaaGreatDoor
open Go.RowKit
namespace T
/-- 'string(b)' of a row that the call owns. -/
theorem string_own {W : World} {base : Nat} {v : Value} {l : List UInt8} (h : W.ownsRow base 5 1 v l.length (Lib.byteCells l)) :
  (convert 76 9 v).run Tryz.prog W = .ok (.string ⟨l.toArray⟩) W := by
 rcases h.2 with ⟨rfl, h0⟩ | ⟨g, cap, cur, rfl, hb, hg, _, _, hcs, htk⟩
 ·have : l = [] := List.eq_nil_of_length_eq_zero h0
  subst this
  exact Lib.run_convert_nil_bytes W 76 9 5 0 Tryz.underlying76 Tryz.underlying5 Tryz.underlying9
 ·refine run_convert_bytes_back W 76 9 5 ⟨g, 0, none⟩ cap l Tryz.underlying76 Tryz.underlying5 Tryz.underlying9 (Lib.bytes_of_row (l := l) hg (by simpa using htk))
theorem extract_list (s : ByteArray) (k n : Nat) (h : k + n ≤ s.size) : (s.extract k (k + n)).data.toList = (s.data.toList.drop k).take n := by
 rw [Lib.extract_data, Nat.add_sub_cancel_left]
def RepRel (s : ByteArray) (w : World) (v i : Value) (wr : World) : Prop :=
 ∃ (k : Nat) (acc : List UInt8), k ≤ s.size ∧ i = .int .i64 k ∧ wr.ownsRow w.heap.size 5 1 v acc.length (Lib.byteCells acc) ∧ Below w.heap.size w wr ∧ Hid (acc ++ U.rep (s.data.toList.drop k) = U.rep s.data.toList) ∧ acc.length ≤ 3 * k
set_option maxHeartbeats 1000000 in
set_option maxRecDepth 100000 in
theorem refRepair (s : ByteArray) (w : World) (hs : s.size ≤ 1000000) :
  Calls Tryz.prog 69 #[.string s] w fun e w' => e = .returned (.string ⟨(U.rep s.data.toList).toArray⟩) ∧ Below w.heap.size w w' := by
 obtain ⟨i0, hi, hz0, hz1, hz2⟩ := info_parts Bld.infoByte
 go_enter Tryz.func69, Tryz.ntmps69
 go_wp2_with fail
 go_loopw [3, 4] (fun v i wr => RepRel s w v i wr) (fun _ i _ => s.size - (intOf i).toNat)
 case atStart => exact ⟨0, [], Nat.zero_le _, rfl, World.ownsRow_nil _ _ _ _, Below.refl _ _, Lib.hid rfl, Nat.zero_le _⟩
 case round =>
  obtain ⟨k, acc, hk, rfl, hown, hB, HA, hal⟩ := hrel
  have hbs := hB.size
  by_cases hlt : k < s.size
  ·have hne : s.data.toList.drop k ≠ [] := by rw [drop_cons s k hlt]; exact List.cons_ne_nil _ _
   have HN := Lib.hid (U.rep_cons _ hne)
   clear hne
   have hle := U.sz_le (s.data.toList.drop k)
   rw [List.length_drop, U.list_size] at hle
   by_cases h0 : U.sz (s.data.toList.drop k) = 0
   ·have HZ := Lib.hid h0
    have hc : ∀ W, Calls Tryz.prog 111 #[.string s, .int .i64 k] W fun e w' => e = .returned (.int .i64 0) ∧ W = w' := fun W => by
     have := refSize s (k : Int) W (by omega) (by omega) (by omega)
     rw [Int.toNat_natCast, h0] at this
     exact this
    have HC := Lib.hid hc
    clear h0 hle hc
    go_wp2_with (first | (go_at_call 111; refine (HC.out _).mono ?_; rintro e w' ⟨rfl, rfl⟩) | (at_builtin; refine wpList_append_own _ rfl _ _ 76 rfl w.heap.size 5 i0 (.int .u8 0) 1 1 Tryz.underlying76 hi hz0 hz1 hz2 rfl (by decide) _ _ _ rfl (hown.alloc _) ⟨wr.heap.size, 0, none⟩ 3 3 [.int .u8 239, .int .u8 191, .int .u8 189] rfl rfl ?c1 ?c2 ?c3 ?c4 ?c5 ?_))
    case c1 =>
     intro j u hj
     match j, hj with
     | 0, hj => simp at hj; subst hj; simp [Addr.add]
     | 1, hj => simp at hj; subst hj; simp [Addr.add]
     | 2, hj => simp at hj; subst hj; simp [Addr.add]
    case c2 => intro u hu; simp at hu; rcases hu with rfl | rfl | rfl <;> rfl
    case c3 => unfold maxLen; omega
    case c4 => omega
    case c5 => simp; omega
    intro v' w2 hown' hgrow _
    have hB2 := (hB.alloc hbs (.cells #[.int .u8 239, .int .u8 191, .int .u8 189] 5)).grown hgrow (by simp; omega) (fun q hq => (hown.lt q hq).1)
    go_wp2_with fail
    go_roundw
    case rel =>
     refine ⟨k + 1, acc ++ [239, 191, 189], by omega, by go_num, ?_, hB2, Lib.hid ?_, by simp; omega⟩
     ·rw [Lib.byteCells_append, show Lib.byteCells [239, 191, 189] = [.int .u8 239, .int .u8 191, .int .u8 189] from rfl]; simpa using hown'
     ·have h3 := HA.out
      rw [HN.out] at h3
      unfold U.chunk U.adv at h3
      rw [if_pos HZ.out, if_pos HZ.out, List.drop_drop, ← List.append_assoc] at h3
      exact h3
    case measure => simp [intOf]; omega
   ·have HZ := Lib.hid h0
    have hc : ∀ W, Calls Tryz.prog 111 #[.string s, .int .i64 k] W fun e w' => e = .returned (.int .i64 (U.sz (s.data.toList.drop k))) ∧ W = w' := fun W => by
     have := refSize s (k : Int) W (by omega) (by omega) (by omega)
     rw [Int.toNat_natCast] at this
     exact this
    have h4 := U.sz_le4 (s.data.toList.drop k)
    generalize hm : U.sz (s.data.toList.drop k) = m at *
    have HM := Lib.hid hm
    have HC := Lib.hid hc
    have hpos : 0 < m := by omega
    have t0 : ((m : Int) == 0) = false := beq_eq_false_iff_ne.2 (by omega)
    clear hc hm h0
    have hse : (s.extract k (k + m)).size = m := by rw [← U.list_size, extract_list s k m (by omega)]; simp; omega
    have HS := Lib.hid hse
    clear hse
    have hkm : k + m ≤ s.size := by omega
    have hkm' : (k : Int) + (m : Int) ≤ (s.size : Int) := by omega
    go_wp2_with (first | (go_at_call 111; refine (HC.out _).mono ?_; rintro e w' ⟨rfl, rfl⟩) | (at_builtin; refine Lib.wpList_append_own_string _ rfl _ _ 76 9 rfl w.heap.size 5 i0 Tryz.underlying76 Tryz.underlying9 hi hz0 hz1 hz2 _ _ _ rfl hown (s.extract k (k + m)) rfl ?c3 ?c4 ?c5 ?_))
    case c3 => rw [HS.out]; unfold maxLen; omega
    case c4 => rw [HS.out]; omega
    case c5 => omega
    intro v' w2 hown' hgrow _
    have hB2 := hB.grown hgrow hbs (fun q hq => (hown.lt q hq).1)
    rw [Lib.strCells_eq, extract_list s k m (by omega)] at hown'
    go_wp2_with fail
    go_roundw
    case rel =>
     refine ⟨k + m, acc ++ (s.data.toList.drop k).take m, by omega, by go_num, ?_, hB2, Lib.hid ?_, by simp; omega⟩
     ·rw [Lib.byteCells_append]
      have : (acc ++ (s.data.toList.drop k).take m).length = acc.length + m := by simp; omega
      rw [this]; exact hown'
     ·have h3 := HA.out
      rw [HN.out] at h3
      unfold U.chunk U.adv at h3
      rw [HM.out, if_neg HZ.out, if_neg HZ.out, List.drop_drop, ← List.append_assoc] at h3
      exact h3
    case measure => simp [intOf]; omega
  ·have hback := string_own hown
   have h3 := HA.out
   rw [drop_end s k hlt, U.rep_nil, List.append_nil] at h3
   rw [h3] at hback
   have HBk := Lib.hid hback
   clear h3
   go_wp2_with fail
   go_ret
   exact ⟨rfl, hB⟩
end T
end Go.Proofs.YtafkeolpadfjfaaGreatDoor
namespace Go.Proofs.YtafkeolpadfjfaaGreatDoor
open Go.RowKit
namespace U
end U
namespace T
theorem infoString : (Tryz.prog.info? 9).map (fun i => (i.zero, i.size, i.bytes)) = some (some (.string ByteArray.empty), 1, 16) := by kernel_rfl
/-- A list of byte strings, as values. -/
def strs (l : List (List UInt8)) : List Value := l.map fun c => .string ⟨c.toArray⟩
theorem strs_snoc (l : List (List UInt8)) (c : List UInt8) : strs (l ++ [c]) = strs l ++ [.string ⟨c.toArray⟩] := by simp [strs]
theorem extract_eq (s : ByteArray) (k n : Nat) (h : k + n ≤ s.size) : s.extract k (k + n) = ⟨((s.data.toList.drop k).take n).toArray⟩ := by
 have := extract_list s k n h
 cases h2 : s.extract k (k + n) with
 | mk a => rw [h2] at this; simp at this; rw [← this]
end T
end Go.Proofs.YtafkeolpadfjfaaGreatDoor
namespace Go.Proofs.YtafkeolpadfjfaaGreatDoor
namespace U
end U
namespace T
end T
end Go.Proofs.YtafkeolpadfjfaaGreatDoor
namespace Go.Proofs
open Go.Shelf
end Go.Proofs
namespace Go.Proofs
open Go.Shelf
def Tryz.lays196_ren : Go.Shelf.Ren := ⟨fun | 196 => 107 | 259 => 144 | n => n, fun | 0 => 0 | 3 => 3 | 4 => 4 | 5 => 5 | 9 => 9 | 12 => 12 | 46 => 161 | 53 => 198 | 119 => 158 | 138 => 184 | 139 => 185 | n => n, fun | 3 => 3 | 4 => 4 | n => n⟩
theorem Tryz.lays196 : Go.Proofs.Lays.n196 Tryz.prog Tryz.lays196_ren := {
 mixed := by kernel_rfl
 f196 := Tryz.func107.trans (congrArg some (by kernel_rfl))
 f259 := Tryz.func144.trans (congrArg some (by kernel_rfl))
 t0 := Tryz.underlying0
 a0 := Tryz.isAgg0
 z0 := Tryz.sizeOf0
 v0 := Tryz.zeroValue0
 t3 := Tryz.underlying3
 a3 := Tryz.isAgg3
 z3 := Tryz.sizeOf3
 v3 := Tryz.zeroValue3
 t4 := Tryz.underlying4
 a4 := Tryz.isAgg4
 z4 := Tryz.sizeOf4
 v4 := Tryz.zeroValue4
 t5 := Tryz.underlying5
 a5 := Tryz.isAgg5
 z5 := Tryz.sizeOf5
 v5 := Tryz.zeroValue5
 t9 := Tryz.underlying9
 a9 := Tryz.isAgg9
 z9 := Tryz.sizeOf9
 v9 := Tryz.zeroValue9
 t12 := Tryz.underlying12
 a12 := Tryz.isAgg12
 z12 := Tryz.sizeOf12
 v12 := Tryz.zeroValue12
 t46 := Tryz.underlying161
 a46 := Tryz.isAgg161
 z46 := Tryz.sizeOf161
 v46 := Tryz.zeroValue161
 t53 := Tryz.underlying198
 a53 := Tryz.isAgg198
 z53 := Tryz.sizeOf198
 v53 := Tryz.zeroValue198
 t119 := Tryz.underlying158
 a119 := Tryz.isAgg158
 z119 := Tryz.sizeOf158
 t138 := Tryz.underlying184
 a138 := Tryz.isAgg184
 z138 := Tryz.sizeOf184
 v138 := Tryz.zeroValue184
 t139 := Tryz.underlying185
 a139 := Tryz.isAgg185
 z139 := Tryz.sizeOf185
 v139 := Tryz.zeroValue185
 g3 := by kernel_rfl
 g4 := by kernel_rfl }
end Go.Proofs
namespace Go.Proofs.YtafkeolpadfjfaaGreatDoor
open Go.RowKit
namespace T
end T
end Go.Proofs.YtafkeolpadfjfaaGreatDoor
namespace Go.Proofs.YtafkeolpadfjfaaGreatDoor
open Go.RowKit
namespace U
end U
namespace T
theorem ret_str {a b : ByteArray} (h : a = b) : Ending.returned (.string a) = .returned (.string b) := by rw [h]
theorem bytes_size (l : List UInt8) : (⟨l.toArray⟩ : ByteArray).size = l.length := by show l.toArray.size = _; simp
end T
end Go.Proofs.YtafkeolpadfjfaaGreatDoor
namespace Go.Proofs.YtafkeolpadfjfaaGreatDoor
open Go.RowKit
namespace T
/-- What is known of a slice of strings. -/
def StrRow (w : World) (ao : Option Addr) (L : List (List UInt8)) : Prop :=
 0 < L.length → ∃ g, ao = some ⟨g, 0, none⟩ ∧ g < w.heap.size ∧ ∀ j, j < L.length → w.cell? ⟨g, j, none⟩ = some (.string ⟨(L.getD j []).toArray⟩)
theorem append_bytes (a b : List UInt8) : (⟨a.toArray⟩ : ByteArray) ++ ⟨b.toArray⟩ = ⟨(a ++ b).toArray⟩ := by
 have h : ((⟨a.toArray⟩ : ByteArray) ++ ⟨b.toArray⟩).data = a.toArray ++ b.toArray := by
  simp [ByteArray.data_append]
 cases hx : (⟨a.toArray⟩ : ByteArray) ++ ⟨b.toArray⟩ with
 | mk d => rw [hx] at h; simp at h; rw [h]
end T
end Go.Proofs.YtafkeolpadfjfaaGreatDoor
