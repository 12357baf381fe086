/- What the small functions of package entity come to. -/
import Derived.Test.YtlnginciehjlnaaGreatDoorMark1
set_option linter.unusedVariables false
set_option linter.unusedSimpArgs false
namespace Go.Proofs.YtlnginciehjlnaaGreatDoor
open Go.RowKit
namespace K

theorem ret_int {k : IntKind} {a b : Int} (h : a = b) : Ending.returned (.int k a) = .returned (.int k b) := by rw [h]

set_option maxHeartbeats 400000 in
theorem goes (c : UInt8) (w : World) :
    Calls Tryz.prog 132 #[.int .u8 c.toNat] w fun e w' => e = .returned (.bool (E.goes c)) ∧ w = w' := by
  have hc := c.toNat_lt
  have hv : E.goes c = decide (c.toNat = 61 ∨ (48 ≤ c.toNat ∧ c.toNat ≤ 57) ∨ (97 ≤ c.toNat ∧ c.toNat ≤ 122) ∨ (65 ≤ c.toNat ∧ c.toNat ≤ 90)) := by
    have e1 : (c == 61) = decide (c.toNat = 61) := by
      rw [Bool.eq_iff_iff]; simp [← UInt8.toNat_inj]
    unfold E.goes
    rw [e1, Bool.eq_iff_iff]
    simp
    omega
  rw [hv]
  clear hv
  go_enter Tryz.func132, Tryz.ntmps132
  go_wp2
  all_goals
    go_ret
    refine ⟨ret_bool ?_, rfl⟩
    rw [Bool.eq_iff_iff]
    simp
    omega

set_option maxHeartbeats 400000 in
theorem digit (c : UInt8) (base : Nat) (w : World) (hb : base ≤ 100) :
    Calls Tryz.prog 142 #[.int .u8 c.toNat, .int .i64 base] w fun e w' => e = .returned (.int .i64 (E.dig base c)) ∧ w = w' := by
  have hc := c.toNat_lt
  go_enter Tryz.func142, Tryz.ntmps142
  go_wp2
  all_goals
    go_ret
    refine ⟨ret_int ?_, rfl⟩
    unfold E.dig
    dsimp only
    repeat' split
    all_goals omega

theorem encode_number (n : Nat) (h0 : 1 ≤ n) (h1 : n ≤ 1114111) : Utf8.encode (n : Int) = ⟨(E.number n).toArray⟩ := by
  unfold Utf8.encode E.number
  by_cases hs : 55296 ≤ n ∧ n ≤ 57343
  · have hv : Utf8.valid (n : Int) = false := by
      unfold Utf8.valid
      rw [decide_eq_false (show ¬ ((n : Int) < 55296) by omega), decide_eq_false (show ¬ (57344 ≤ (n : Int)) by omega), Bool.and_false, Bool.false_and]; rfl
    rw [hv, if_pos (show n < 1 ∨ 1114111 < n ∨ 55296 ≤ n ∧ n ≤ 57343 by omega)]
    simp [Utf8.runeError]
  · have hv : Utf8.valid (n : Int) = true := by
      unfold Utf8.valid
      simp only [Bool.or_eq_true, Bool.and_eq_true, decide_eq_true_eq]
      omega
    rw [hv, if_neg (by omega : ¬ (n < 1 ∨ 1114111 < n ∨ 55296 ≤ n ∧ n ≤ 57343))]
    simp only [if_true, Int.toNat_natCast]
    split
    · rfl
    · split
      · rfl
      · split
        · rfl
        · rfl

theorem rep_of_sz (l : List UInt8) (h : U.sz l = l.length) (h0 : l ≠ []) : U.rep l = l := by
  have hl : 0 < l.length := List.length_pos_iff.2 h0
  rw [U.rep_cons l h0]
  unfold U.chunk U.adv
  rw [if_neg (by omega), if_neg (by omega), h, List.take_length, List.drop_length, U.rep_nil, List.append_nil]

theorem ofNat_toNat (n : Nat) (h : n < 256) : (UInt8.ofNat n).toNat = n := by simp; omega

theorem rep_number (n : Nat) : U.rep (E.number n) = E.number n := by
  unfold E.number
  split
  · exact rep_of_sz _ (by decide) (by simp)
  · rename_i hs
    split
    · refine rep_of_sz _ ?_ (by simp)
      have hc := U.sz_cases [UInt8.ofNat n]
      have e0 : (([UInt8.ofNat n] : List UInt8).getD 0 0).toNat = n := ofNat_toNat n (by omega)
      rw [e0] at hc
      simp only [U.one, U.two, U.three, U.four, List.length_cons, List.length_nil] at hc ⊢
      omega
    · split
      · refine rep_of_sz _ ?_ (by simp)
        have hc := U.sz_cases [UInt8.ofNat (192 + n / 64), UInt8.ofNat (128 + n % 64)]
        have e0 : (([UInt8.ofNat (192 + n / 64), UInt8.ofNat (128 + n % 64)] : List UInt8).getD 0 0).toNat = 192 + n / 64 := ofNat_toNat _ (by omega)
        have e1 : (([UInt8.ofNat (192 + n / 64), UInt8.ofNat (128 + n % 64)] : List UInt8).getD 1 0).toNat = 128 + n % 64 := ofNat_toNat _ (by omega)
        rw [e0, e1] at hc
        simp only [U.one, U.two, U.three, U.four, List.length_cons, List.length_nil] at hc ⊢
        omega
      · split
        · refine rep_of_sz _ ?_ (by simp)
          have hc := U.sz_cases [UInt8.ofNat (224 + n / 4096), UInt8.ofNat (128 + n / 64 % 64), UInt8.ofNat (128 + n % 64)]
          have e0 : (([UInt8.ofNat (224 + n / 4096), UInt8.ofNat (128 + n / 64 % 64), UInt8.ofNat (128 + n % 64)] : List UInt8).getD 0 0).toNat = 224 + n / 4096 := ofNat_toNat _ (by omega)
          have e1 : (([UInt8.ofNat (224 + n / 4096), UInt8.ofNat (128 + n / 64 % 64), UInt8.ofNat (128 + n % 64)] : List UInt8).getD 1 0).toNat = 128 + n / 64 % 64 := ofNat_toNat _ (by omega)
          have e2 : (([UInt8.ofNat (224 + n / 4096), UInt8.ofNat (128 + n / 64 % 64), UInt8.ofNat (128 + n % 64)] : List UInt8).getD 2 0).toNat = 128 + n % 64 := ofNat_toNat _ (by omega)
          rw [e0, e1, e2] at hc
          simp only [U.one, U.two, U.three, U.four, U.sec, List.length_cons, List.length_nil] at hc ⊢
          omega
        · refine rep_of_sz _ ?_ (by simp)
          have hc := U.sz_cases [UInt8.ofNat (240 + n / 262144), UInt8.ofNat (128 + n / 4096 % 64), UInt8.ofNat (128 + n / 64 % 64), UInt8.ofNat (128 + n % 64)]
          have e0 : (([UInt8.ofNat (240 + n / 262144), UInt8.ofNat (128 + n / 4096 % 64), UInt8.ofNat (128 + n / 64 % 64), UInt8.ofNat (128 + n % 64)] : List UInt8).getD 0 0).toNat = 240 + n / 262144 := ofNat_toNat _ (by omega)
          have e1 : (([UInt8.ofNat (240 + n / 262144), UInt8.ofNat (128 + n / 4096 % 64), UInt8.ofNat (128 + n / 64 % 64), UInt8.ofNat (128 + n % 64)] : List UInt8).getD 1 0).toNat = 128 + n / 4096 % 64 := ofNat_toNat _ (by omega)
          have e2 : (([UInt8.ofNat (240 + n / 262144), UInt8.ofNat (128 + n / 4096 % 64), UInt8.ofNat (128 + n / 64 % 64), UInt8.ofNat (128 + n % 64)] : List UInt8).getD 2 0).toNat = 128 + n / 64 % 64 := ofNat_toNat _ (by omega)
          have e3 : (([UInt8.ofNat (240 + n / 262144), UInt8.ofNat (128 + n / 4096 % 64), UInt8.ofNat (128 + n / 64 % 64), UInt8.ofNat (128 + n % 64)] : List UInt8).getD 3 0).toNat = 128 + n % 64 := ofNat_toNat _ (by omega)
          rw [e0, e1, e2, e3] at hc
          simp only [U.one, U.two, U.three, U.four, U.sec, List.length_cons, List.length_nil] at hc ⊢
          omega

theorem number_len (n : Nat) : 1 ≤ (E.number n).length ∧ (E.number n).length ≤ 4 := by
  unfold E.number
  repeat' split
  all_goals simp

theorem RepairNum (n : Nat) (w : World) (hT : T.Tabs w) :
    Calls Tryz.prog 62 #[.string ⟨(E.number n).toArray⟩] w fun e w' => e = .returned (.string ⟨(E.number n).toArray⟩) ∧ Below w.heap.size w w' := by
  have := T.Repair ⟨(E.number n).toArray⟩ w (by rw [T.bytes_size]; have := number_len n; omega) hT
  rw [T.bytes_toList, rep_number] at this
  exact this

set_option maxHeartbeats 400000 in
theorem Number (n : Nat) (w : World) (hn : n ≤ 1114112) (hT : T.Tabs w) :
    Calls Tryz.prog 143 #[.int .i64 n] w fun e w' => e = .returned (.string ⟨(E.number n).toArray⟩) ∧ Below w.heap.size w w' := by
  have HT := Lib.hid hT
  clear hT
  by_cases h1 : 1 ≤ n ∧ n ≤ 1114111
  · have a1 : 1 ≤ (n : Int) := by omega
    have a2 : (n : Int) ≤ 1114111 := by omega
    have Q := Lib.hid (RepairNum n w HT.out)
    clear h1
    go_enter Tryz.func143, Tryz.ntmps143
    go_wp2_with fail
    rw [encode_number n (by omega) (by omega)]
    refine Q.out.mono ?_
    rintro e w' ⟨rfl, b⟩
    go_wp2_with fail
    go_ret
    exact ⟨rfl, b⟩
  · have hv : E.number n = E.number 65533 := by
      unfold E.number
      rw [if_pos (by omega)]; rfl
    have Q := Lib.hid (RepairNum 65533 w HT.out)
    rw [hv]
    clear hv
    rcases (by omega : n = 0 ∨ n = 1114112) with rfl | rfl
    all_goals
      go_enter Tryz.func143, Tryz.ntmps143
      go_wp2_with fail
      rw [show Utf8.encode 65533 = ⟨(E.number 65533).toArray⟩ from encode_number 65533 (by omega) (by omega)]
      refine Q.out.mono ?_
      rintro e w' ⟨rfl, b⟩
      go_wp2_with fail
      go_ret
      exact ⟨rfl, b⟩

end K
end Go.Proofs.YtlnginciehjlnaaGreatDoor
