/- What the reference's in, tail, second, Size and Code come to, in the words of the plain UTF-8 facts. -/
import Derived.Test.YtafkeolpadfjfaaGreatDoorSpace
import Derived.BigQuiet
import Derived.Deep.QuietTactic
import Derived.Laws.BitsLemmas
set_option linter.unusedVariables false
set_option linter.unusedSimpArgs false
namespace Go.Proofs.YtafkeolpadfjfaaGreatDoor
open Go.RowKit
namespace T

theorem getD_at (s : ByteArray) (k : Nat) (h : k < s.size) : s.data.toList.getD k 0 = s[k] := by
  have h' : k < s.data.toList.length := by simpa using h
  rw [List.getD, List.getElem?_eq_getElem h']
  rfl

theorem rng_yes (s : ByteArray) (k lo hi : Nat) (h : k < s.size) (h1 : lo ≤ s[k].toNat) (h2 : s[k].toNat ≤ hi) : U.rng s.data.toList k lo hi = true := by
  rw [U.rng_iff, getD_at s k h]
  exact ⟨by simpa using h, h1, h2⟩
theorem rng_short (s : ByteArray) (k lo hi : Nat) (h : ¬ k < s.size) : U.rng s.data.toList k lo hi = false := by
  rw [Bool.eq_false_iff]
  intro e
  rw [U.rng_iff] at e
  exact h (by simpa using e.1)
theorem rng_no (s : ByteArray) (k lo hi : Nat) (h : k < s.size) (h1 : ¬ (lo ≤ s[k].toNat ∧ s[k].toNat ≤ hi)) : U.rng s.data.toList k lo hi = false := by
  rw [Bool.eq_false_iff]
  intro e
  rw [U.rng_iff, getD_at s k h] at e
  exact h1 e.2

theorem ret_bool {a b : Bool} (h : a = b) : Ending.returned (.bool a) = .returned (.bool b) := by rw [h]
theorem ret_int {k : IntKind} {a b : Int} (h : a = b) : Ending.returned (.int k a) = .returned (.int k b) := by rw [h]

set_option maxHeartbeats 400000 in
theorem refIn (s : ByteArray) (i : Int) (lo hi : Nat) (w : World) (hs : s.size ≤ 140737488351232) (h0 : 0 ≤ i) :
    Calls Tryz.prog 148 #[.string s, .int .i64 i, .int .u8 lo, .int .u8 hi] w fun e w' => e = .returned (.bool (U.rng s.data.toList i.toNat lo hi)) ∧ w = w' := by
  obtain ⟨k, rfl⟩ := Int.eq_ofNat_of_zero_le h0
  rw [Int.toNat_natCast]
  clear h0
  by_cases hlt : k < s.size
  · by_cases h1 : lo ≤ s[k].toNat
    · by_cases h2 : s[k].toNat ≤ hi
      · have HE := Lib.hid (rng_yes s k lo hi hlt h1 h2)
        go_enter Tryz.func148, Tryz.ntmps148
        go_wp2
        go_ret
        exact ⟨ret_bool (by rw [HE.out]), rfl⟩
      · have HE := Lib.hid (rng_no s k lo hi hlt (fun h => h2 h.2))
        go_enter Tryz.func148, Tryz.ntmps148
        go_wp2
        go_ret
        exact ⟨ret_bool (by rw [HE.out]), rfl⟩
    · have HE := Lib.hid (rng_no s k lo hi hlt (fun h => h1 h.1))
      go_enter Tryz.func148, Tryz.ntmps148
      go_wp2
      go_ret
      exact ⟨ret_bool (by rw [HE.out]), rfl⟩
  · have HE := Lib.hid (rng_short s k lo hi hlt)
    have hge : s.size ≤ k := by omega
    clear hlt
    go_enter Tryz.func148, Tryz.ntmps148
    go_wp2
    go_ret
    exact ⟨ret_bool (by rw [HE.out]), rfl⟩

theorem rng_drop (l : List UInt8) (i k lo hi : Nat) : U.rng (l.drop i) k lo hi = U.rng l (i + k) lo hi := by
  unfold U.rng
  rw [U.getD_drop, List.length_drop]
  rw [decide_eq_decide]
  omega

/-- n continuation bytes. -/
def tl (l : List UInt8) (i : Nat) : Nat → Bool
  | 0 => true
  | n + 1 => tl l i n && U.rng l (i + n) 128 191

theorem tl_false (l : List UInt8) (i k : Nat) (h : U.rng l (i + k) 128 191 = false) : ∀ n, k < n → tl l i n = false
  | 0, hk => by omega
  | n + 1, hk => by
    by_cases e : k = n
    · subst e; simp [tl, h]
    · simp [tl, tl_false l i k h n (by omega)]

set_option maxHeartbeats 400000 in
theorem refTail (s : ByteArray) (i : Int) (n : Nat) (w : World) (hs : s.size ≤ 140737488351232) (h0 : 0 ≤ i) (hi : i ≤ 140737488361232) (hn : n ≤ 10) :
    Calls Tryz.prog 149 #[.string s, .int .i64 i, .int .i64 n] w fun e w' => e = .returned (.bool (tl s.data.toList i.toNat n)) ∧ w = w' := by
  obtain ⟨j, rfl⟩ := Int.eq_ofNat_of_zero_le h0
  rw [Int.toNat_natCast]
  clear h0
  go_enter Tryz.func149, Tryz.ntmps149
  go_wp2_with fail
  go_loop [7] (fun c => ∃ k : Nat, k ≤ n ∧ c = .int .i64 k ∧ Hid (tl s.data.toList j k = true)) (fun c => n - (intOf c).toNat)
  case atStart => exact ⟨0, Nat.zero_le _, rfl, Lib.hid rfl⟩
  case round =>
    obtain ⟨k, hk, rfl, HT⟩ := hrel
    by_cases hlt : k < n
    · cases hr : U.rng s.data.toList (j + k) 128 191 with
      | true =>
        have HR := Lib.hid hr
        have hc := fun W => refIn s ((j : Int) + k) 128 191 W hs (by omega)
        rw [show ((j : Int) + k).toNat = j + k from by omega, hr] at hc
        have HC := Lib.hid hc
        clear hc hr
        go_wp2_with (go_at_call 148; refine (HC.out _).mono ?_; rintro e w' ⟨rfl, rfl⟩)
        go_round
        case rel => exact ⟨k + 1, by omega, by go_num, Lib.hid (by simp [tl, HT.out, HR.out])⟩
        case measure => simp [intOf]; omega
      | false =>
        have HF := Lib.hid (tl_false _ _ _ hr n hlt)
        have hc := fun W => refIn s ((j : Int) + k) 128 191 W hs (by omega)
        rw [show ((j : Int) + k).toNat = j + k from by omega, hr] at hc
        have HC := Lib.hid hc
        clear hc hr
        go_wp2_with (go_at_call 148; refine (HC.out _).mono ?_; rintro e w' ⟨rfl, rfl⟩)
        go_ret
        exact ⟨ret_bool HF.out.symm, rfl⟩
    · obtain rfl : k = n := by omega
      go_wp2_with fail
      go_ret
      exact ⟨ret_bool HT.out.symm, rfl⟩

theorem second_eq (s : ByteArray) (k : Nat) (h : k < s.size) : U.second (s.data.toList.drop k) =
    if s[k].toNat = 224 then U.rng s.data.toList (k + 1) 160 191
    else if s[k].toNat = 237 then U.rng s.data.toList (k + 1) 128 159
    else if s[k].toNat = 240 then U.rng s.data.toList (k + 1) 144 191
    else if s[k].toNat = 244 then U.rng s.data.toList (k + 1) 128 143
    else U.rng s.data.toList (k + 1) 128 191 := by
  unfold U.second
  simp only [U.getD_drop, Nat.add_zero, getD_at s k h, rng_drop]

set_option maxHeartbeats 1000000 in
theorem refSecond (s : ByteArray) (i : Int) (w : World) (hs : s.size ≤ 140737488351232) (h0 : 0 ≤ i) (hi : i < s.size) :
    Calls Tryz.prog 150 #[.string s, .int .i64 i] w fun e w' => e = .returned (.bool (U.second (s.data.toList.drop i.toNat))) ∧ w = w' := by
  obtain ⟨k, rfl⟩ := Int.eq_ofNat_of_zero_le h0
  rw [Int.toNat_natCast]
  clear h0
  have hlt : k < s.size := by omega
  rw [second_eq s k hlt]
  have hc := fun lo hi W => refIn s ((k : Int) + 1) lo hi W hs (by omega)
  simp only [show ((k : Int) + 1).toNat = k + 1 from by omega] at hc
  have HC := Lib.hid hc
  clear hc
  have hb := (s[k]).toNat_lt
  by_cases h1 : s[k].toNat = 224
  · rw [if_pos h1]
    have t1 : ((s[k].toNat : Int) == 224) = true := beq_iff_eq.2 (by omega)
    clear h1
    go_enter Tryz.func150, Tryz.ntmps150
    go_wp2_with (go_at_call 148; refine (HC.out 160 191 _).mono ?_; rintro e w' ⟨rfl, rfl⟩)
    go_ret
    exact ⟨rfl, rfl⟩
  rw [if_neg h1]
  have t1 : ((s[k].toNat : Int) == 224) = false := beq_eq_false_iff_ne.2 (by omega)
  clear h1
  by_cases h2 : s[k].toNat = 237
  · rw [if_pos h2]
    have t2 : ((s[k].toNat : Int) == 237) = true := beq_iff_eq.2 (by omega)
    clear h2
    go_enter Tryz.func150, Tryz.ntmps150
    go_wp2_with (go_at_call 148; refine (HC.out 128 159 _).mono ?_; rintro e w' ⟨rfl, rfl⟩)
    go_ret
    exact ⟨rfl, rfl⟩
  rw [if_neg h2]
  have t2 : ((s[k].toNat : Int) == 237) = false := beq_eq_false_iff_ne.2 (by omega)
  clear h2
  by_cases h3 : s[k].toNat = 240
  · rw [if_pos h3]
    have t3 : ((s[k].toNat : Int) == 240) = true := beq_iff_eq.2 (by omega)
    clear h3
    go_enter Tryz.func150, Tryz.ntmps150
    go_wp2_with (go_at_call 148; refine (HC.out 144 191 _).mono ?_; rintro e w' ⟨rfl, rfl⟩)
    go_ret
    exact ⟨rfl, rfl⟩
  rw [if_neg h3]
  have t3 : ((s[k].toNat : Int) == 240) = false := beq_eq_false_iff_ne.2 (by omega)
  clear h3
  by_cases h4 : s[k].toNat = 244
  · rw [if_pos h4]
    have t4 : ((s[k].toNat : Int) == 244) = true := beq_iff_eq.2 (by omega)
    clear h4
    go_enter Tryz.func150, Tryz.ntmps150
    go_wp2_with (go_at_call 148; refine (HC.out 128 143 _).mono ?_; rintro e w' ⟨rfl, rfl⟩)
    go_ret
    exact ⟨rfl, rfl⟩
  rw [if_neg h4]
  have t4 : ((s[k].toNat : Int) == 244) = false := beq_eq_false_iff_ne.2 (by omega)
  clear h4
  go_enter Tryz.func150, Tryz.ntmps150
  go_wp2_with (go_at_call 148; refine (HC.out 128 191 _).mono ?_; rintro e w' ⟨rfl, rfl⟩)
  go_ret
  exact ⟨rfl, rfl⟩

end T
end Go.Proofs.YtafkeolpadfjfaaGreatDoor
