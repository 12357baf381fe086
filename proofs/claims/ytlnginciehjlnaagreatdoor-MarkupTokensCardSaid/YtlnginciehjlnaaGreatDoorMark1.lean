/- What the small functions of package markup come to. -/
import Derived.Test.YtlnginciehjlnaaGreatDoorMarkSpec
import Derived.Test.YtlnginciehjlnaaGreatDoorTrim
import Derived.Test.YtlnginciehjlnaaGreatDoorCaseLaw
import Derived.Test.YtlnginciehjlnaaGreatDoorLines
import Derived.Test.YtlnginciehjlnaaGreatDoorDecoder
set_option linter.unusedVariables false
set_option linter.unusedSimpArgs false
namespace Go.Proofs.YtlnginciehjlnaaGreatDoor
open Go.RowKit
namespace K

theorem ret_bool {a b : Bool} (h : a = b) : Ending.returned (.bool a) = .returned (.bool b) := by rw [h]

set_option maxHeartbeats 400000 in
theorem letter (c : UInt8) (w : World) :
    Calls Tryz.prog 82 #[.int .u8 c.toNat] w fun e w' => e = .returned (.bool (M.letter c)) ∧ w = w' := by
  have hc := c.toNat_lt
  go_enter Tryz.func82, Tryz.ntmps82
  go_wp2
  all_goals
    go_ret
    refine ⟨ret_bool ?_, rfl⟩
    unfold M.letter
    rw [Bool.eq_iff_iff]
    simp
    omega

theorem byte_ne {c : UInt8} {n : Nat} (h : c ≠ UInt8.ofNat n) (hn : n < 256) : ((c.toNat : Int) == (n : Int)) = false := by
  rw [T.byte_eq c n hn]; simpa using h

set_option maxHeartbeats 400000 in
theorem stops (c : UInt8) (w : World) :
    Calls Tryz.prog 74 #[.int .u8 c.toNat] w fun e w' => e = .returned (.bool (M.stops c)) ∧ w = w' := by
  have hc := c.toNat_lt
  have e1 := T.byte_eq c 47 (by omega)
  have e2 := T.byte_eq c 62 (by omega)
  by_cases h1 : c = 47
  · subst h1
    go_enter Tryz.func74, Tryz.ntmps74
    go_wp2
    go_ret
    exact ⟨rfl, rfl⟩
  · by_cases h2 : c = 62
    · subst h2
      go_enter Tryz.func74, Tryz.ntmps74
      go_wp2
      go_ret
      exact ⟨rfl, rfl⟩
    · have f1 : ((c.toNat : Int) == 47) = false := byte_ne (n := 47) h1 (by omega)
      have f2 : ((c.toNat : Int) == 62) = false := byte_ne (n := 62) h2 (by omega)
      have hv : M.stops c = T.sp c := by
        have g1 : (c == 47) = false := by simpa using h1
        have g2 : (c == 62) = false := by simpa using h2
        simp [M.stops, g1, g2]
      rw [hv]
      clear e1 e2
      go_enter Tryz.func74, Tryz.ntmps74
      go_wp2_with (go_at_call 92; refine (T.IsSpace c _).mono ?_; rintro e w' ⟨rfl, rfl⟩)
      go_ret
      exact ⟨rfl, rfl⟩

theorem at_drop {s r : List UInt8} {i : Nat} {c : UInt8} (h : s.drop i = c :: r) (hi : i < (⟨s.toArray⟩ : ByteArray).size) : (⟨s.toArray⟩ : ByteArray)[i] = c := by
  have hl : i < s.length := by rw [T.bytes_size] at hi; exact hi
  have h1 : (s.drop i)[0]? = some c := by rw [h]; rfl
  rw [List.getElem?_drop, Nat.add_zero, List.getElem?_eq_getElem hl] at h1
  have h2 : s[i] = c := by simpa using h1
  rw [← h2]; rfl

theorem lt_drop {s r : List UInt8} {i : Nat} {c : UInt8} (h : s.drop i = c :: r) : i < s.length := by
  rcases Nat.lt_or_ge i s.length with h' | h'
  · exact h'
  · rw [List.drop_eq_nil_of_le h'] at h; cases h

theorem drop_more {s r : List UInt8} {i : Nat} {c : UInt8} (h : s.drop i = c :: r) : s.drop (i + 1) = r := by
  rw [← List.drop_drop, h]; rfl

theorem drop_cons {s : List UInt8} {i : Nat} (h : i < s.length) : ∃ c r, s.drop i = c :: r := by
  cases hd : s.drop i with
  | nil => have := congrArg List.length hd; rw [List.length_drop] at this; simp at this; omega
  | cons c r => exact ⟨c, r, rfl⟩

theorem byte_is {c : UInt8} {n : Nat} (h : c = UInt8.ofNat n) (hn : n < 256) : ((c.toNat : Int) == (n : Int)) = true := by
  rw [T.byte_eq c n hn]; simpa using h

set_option maxHeartbeats 400000 in
theorem begins (s : List UInt8) (i : Nat) (w : World) (hs : s.length ≤ 1000000) (hi : i < s.length) :
    Calls Tryz.prog 80 #[.string ⟨s.toArray⟩, .int .i64 i] w fun e w' => e = .returned (.bool (M.begins (s.drop i))) ∧ w = w' := by
  obtain ⟨c, r, hd⟩ := drop_cons hi
  have hx := at_drop hd (by rw [T.bytes_size]; exact hi)
  by_cases hc : c = 60
  · subst hc
    cases r with
    | nil =>
      have hl : s.length = i + 1 := by have := congrArg List.length hd; rw [List.length_drop] at this; simp at this; omega
      have hl1 : (s.length : Int) ≤ (i : Int) + 1 := by omega
      have hv : M.begins (s.drop i) = false := by rw [hd]; rfl
      rw [hv]
      clear hd hv hl
      go_enter Tryz.func80, Tryz.ntmps80
      go_wp2_with fail
      go_ret
      exact ⟨rfl, rfl⟩
    | cons d t =>
      have hd2 := drop_more hd
      have hl := lt_drop hd2
      have hl1 : (i : Int) + 1 < (s.length : Int) := by omega
      have hy := at_drop hd2 (by rw [T.bytes_size]; exact hl)
      have hv : M.begins (s.drop i) = (M.letter d || (d == 47 || d == 33 || d == 63)) := by rw [hd]; rfl
      have hx2 : decide (0 ≤ Lib.indexByte [47, 33, 63] d) = (d == 47 || d == 33 || d == 63) := by
        simp only [Lib.indexByte]
        by_cases g1 : d = 47
        · subst g1; decide
        by_cases g2 : d = 33
        · subst g2; decide
        by_cases g3 : d = 63
        · subst g3; decide
        simp [g1, g2, g3, Ne.symm g1, Ne.symm g2, Ne.symm g3]
      rw [hv, ← hx2]
      clear hd hd2 hv hx2
      cases hL : M.letter d with
      | true =>
        have q := letter d
        rw [hL] at q
        have Q := Lib.hid q
        clear q hL
        go_enter Tryz.func80, Tryz.ntmps80
        go_wp2_with fail
        refine (Q.out _).mono ?_
        rintro e w' ⟨rfl, rfl⟩
        go_wp2_with fail
        go_ret
        exact ⟨rfl, rfl⟩
      | false =>
        have q := letter d
        rw [hL] at q
        have Q := Lib.hid q
        clear q hL
        go_enter Tryz.func80, Tryz.ntmps80
        go_wp2_with fail
        refine (Q.out _).mono ?_
        rintro e w' ⟨rfl, rfl⟩
        go_wp2_with fail
        refine (Tryz.strings_IndexByte _ _ _).mono ?_
        rintro e w' ⟨rfl, rfl⟩
        go_wp2_with fail
        go_ret
        exact ⟨rfl, rfl⟩
  · have f1 : ((c.toNat : Int) == 60) = false := byte_ne (n := 60) hc (by omega)
    have hv : M.begins (s.drop i) = false := by
      rw [hd]
      unfold M.begins
      split
      · rename_i heq; simp at heq; exact absurd heq.1 hc
      · rfl
    rw [hv]
    clear hd hv
    go_enter Tryz.func80, Tryz.ntmps80
    go_wp2_with fail
    go_ret
    exact ⟨rfl, rfl⟩

theorem LowerL (l : List UInt8) (w : World) (h : l.length ≤ 1000000) :
    Calls Tryz.prog 91 #[.string ⟨l.toArray⟩] w fun e w' => e = .returned (.string ⟨(M.lower l).toArray⟩) ∧ Below w.heap.size w w' := by
  have := T.Lower ⟨l.toArray⟩ w (by rw [T.bytes_size]; omega)
  rw [T.bytes_toList] at this
  exact this

set_option maxHeartbeats 400000 in
theorem has (s p : List UInt8) (w : World) (hs : s.length ≤ 1000000) (hp : p.length ≤ 1000000) :
    Calls Tryz.prog 73 #[.string ⟨s.toArray⟩, .string ⟨p.toArray⟩] w fun e w' => e = .returned (.bool (M.has s p)) ∧ Below w.heap.size w w' := by
  by_cases hl : p.length ≤ s.length
  · have hl1 : (p.length : Int) ≤ (s.length : Int) := by omega
    have hx := T.slice_str s 0 p.length (Nat.zero_le _) hl
    rw [List.drop_zero, Nat.sub_zero] at hx
    have hv : M.has s p = (M.lower (s.take p.length) == p) := by simp [M.has, hl]
    rw [hv]
    clear hv
    go_enter Tryz.func73, Tryz.ntmps73
    go_wp2_with fail
    refine (LowerL (s.take p.length) _ (by rw [List.length_take]; omega)).mono ?_
    rintro e w' ⟨rfl, b1⟩
    go_wp2_with fail
    go_ret
    exact ⟨rfl, b1⟩
  · have hl1 : (s.length : Int) < (p.length : Int) := by omega
    have hv : M.has s p = false := by simp [M.has, hl]
    rw [hv]
    clear hv hl
    go_enter Tryz.func73, Tryz.ntmps73
    go_wp2_with fail
    go_ret
    exact ⟨rfl, Below.refl _ _⟩

end K
end Go.Proofs.YtlnginciehjlnaaGreatDoor
