/- What entity.Next comes to. -/
import Derived.Test.YtlnginciehjlnaaGreatDoorEnt3
import Derived.Test.YtlnginciehjlnaaGreatDoorMark2
set_option linter.unusedVariables false
set_option linter.unusedSimpArgs false
namespace Go.Proofs.YtlnginciehjlnaaGreatDoor
open Go.RowKit
namespace E

theorem pre_idx (c : UInt8) : ∀ (x t : List UInt8), c ∉ x → ((x ++ [c]).isPrefixOf t = (match M.idx [c] t with | none => false | some i => t.take i == x))
  | x, [], h => by
    have e1 : M.idx [c] [] = none := by simp [M.idx, List.isPrefixOf]
    rw [e1]
    cases x <;> rfl
  | [], d :: r, h => by
    unfold M.idx
    by_cases hd : c = d
    · subst hd; simp [List.isPrefixOf]
    · have e : (c == d) = false := by simpa using hd
      simp only [List.nil_append, List.isPrefixOf, e, Bool.false_and, Bool.false_eq_true, if_false]
      cases M.idx [c] r with
      | none => rfl
      | some i => simp
  | a :: x, d :: r, h => by
    have ha : c ≠ a := fun e => h (by simp [e])
    have hx : c ∉ x := fun e => h (by simp [e])
    have ih := pre_idx c x r hx
    unfold M.idx
    by_cases hd : c = d
    · subst hd
      have e : (a == c) = false := by simpa using ha.symm
      simp [List.isPrefixOf, e]
    · have e : (c == d) = false := by simpa using hd
      simp only [List.cons_append, List.isPrefixOf, e, Bool.false_and, Bool.false_eq_true, if_false, ih]
      cases M.idx [c] r with
      | none => simp
      | some i =>
        simp only [Option.map_some]
        rw [List.take_succ_cons, Bool.eq_iff_iff]
        simp
        exact fun _ => ⟨fun h => h.symm, fun h => h.symm⟩

theorem find_congr {α : Type} (f g : α → Bool) : ∀ l : List α, (∀ p ∈ l, f p = g p) → l.find? f = l.find? g
  | [], _ => rfl
  | a :: l, h => by
    rw [List.find?_cons, List.find?_cons, h a (by simp), find_congr f g l (fun p hp => h p (by simp [hp]))]

theorem named_idx (t : List UInt8) : named (38 :: t) = (match M.idx [59] t with | none => none | some i => tab.find? (fun p => p.1 == t.take i)) := by
  have hno : ∀ p ∈ tab, (59 : UInt8) ∉ p.1 := by decide +kernel
  unfold named
  have e : (38 :: t).drop 1 = t := rfl
  rw [e]
  cases hi : M.idx [59] t with
  | none =>
    rw [List.find?_eq_none]
    intro p hp
    rw [pre_idx 59 p.1 t (hno p hp), hi]
    simp
  | some i =>
    refine find_congr _ _ _ fun p hp => ?_
    rw [pre_idx 59 p.1 t (hno p hp), hi]
    simp only
    rw [Bool.eq_iff_iff]
    simp
    exact ⟨fun h => h.symm, fun h => h.symm⟩

theorem amp_cons (s : List UInt8) (h : [38].isPrefixOf s = true) : ∃ t, s = 38 :: t := by
  cases s with
  | nil => simp [List.isPrefixOf] at h
  | cons c t =>
    simp [List.isPrefixOf] at h
    exact ⟨t, by rw [← h]⟩

end E
namespace K

theorem HasPrefixL (s p : List UInt8) (b : Bool) (w : World) (hb : p.isPrefixOf s = b) :
    Calls Tryz.prog 77 #[.string ⟨s.toArray⟩, .string ⟨p.toArray⟩] w fun e w' => e = .returned (.bool b) ∧ w = w' := by
  have := Tryz.strings_HasPrefix ⟨s.toArray⟩ ⟨p.toArray⟩ w
  rw [T.bytes_toList, T.bytes_toList] at this
  unfold Lib.hasPrefix at this
  rw [hb] at this
  exact this.mono fun e w' ⟨h1, h2⟩ => ⟨h1, h2.symm⟩

theorem CutPrefixL (s p : List UInt8) (b : Bool) (w : World) (hb : p.isPrefixOf s = b) :
    Calls Tryz.prog 131 #[.string ⟨s.toArray⟩, .string ⟨p.toArray⟩] w fun e w' => e = .returned (.tuple #[.string ⟨(if b then s.drop p.length else s).toArray⟩, .bool b]) ∧ w = w' := by
  have := Tryz.strings_CutPrefix ⟨s.toArray⟩ ⟨p.toArray⟩ w
  rw [T.bytes_toList, T.bytes_toList] at this
  unfold Lib.trimPrefix Lib.hasPrefix at this
  rw [hb] at this
  exact this.mono fun e w' ⟨h1, h2⟩ => ⟨h1, h2.symm⟩

theorem CutL (s p : List UInt8) (w : World) (hs : s.length ≤ 1000000) (hM : T.HasMax w) :
    Calls Tryz.prog 95 #[.string ⟨s.toArray⟩, .string ⟨p.toArray⟩] w fun e w' =>
      e = .returned (.tuple #[.string ⟨(match M.idx p s with | none => s | some i => s.take i).toArray⟩, .string ⟨(match M.idx p s with | none => [] | some i => s.drop (i + p.length)).toArray⟩, .bool (M.idx p s).isSome]) ∧ ∃ n, w' = w.drewN n := by
  obtain ⟨⟨m, hm1⟩, hm2⟩ := hM
  have := Tryz.strings_Cut ⟨s.toArray⟩ ⟨p.toArray⟩ m w (by rw [T.bytes_size]; omega) hm1
  rw [T.bytes_toList, T.bytes_toList, cut_idx] at this
  cases hi : M.idx p s with
  | none => rw [hi] at this; exact this
  | some i => rw [hi] at this; exact this

theorem HasMax_drewN {w : World} (h : T.HasMax w) (n : Nat) : T.HasMax (w.drewN n) := h.below (T.below_dr (Below.refl _ _) n)
theorem EntTab_drewN {w : World} (h : EntTab w) (n : Nat) : EntTab (w.drewN n) := h.below (T.below_dr (Below.refl w.heap.size w) n) h.2

def ShRel (s : List UInt8) (u : Value) : Prop := ∃ k : Nat, u = .int .i64 k ∧ k ≤ 4 ∧ Hid (E.short s (E.shorts.drop k) = E.next s)

theorem cutOf (s : List UInt8) (h1 : 1 ≤ s.length) : (⟨s.toArray⟩ : ByteArray).extract 1 s.length = ⟨(s.drop 1).toArray⟩ := by
  rw [T.slice_str s 1 s.length h1 (Nat.le_refl _), List.take_of_length_le (by rw [List.length_drop]; omega)]

theorem pre_len {p s : List UInt8} (h : p.isPrefixOf s = true) : p.length ≤ s.length := List.IsPrefix.length_le (List.isPrefixOf_iff_prefix.1 h)

set_option maxHeartbeats 1000000 in
theorem Next_num (s : List UInt8) (w : World) (hs : s.length ≤ 1000000) (hT : T.Tabs w) (h : [38, 35].isPrefixOf s = true ∨ [38].isPrefixOf s = false) :
    Calls Tryz.prog 110 #[.string ⟨s.toArray⟩] w fun e w' => e = .returned (tup (E.next s)) ∧ Below w.heap.size w w' := by
  have HT := Lib.hid hT
  clear hT
  cases c1 : [38, 35, 120].isPrefixOf s with
  | true =>
    have hv : E.next s = E.numeric s 3 16 := by simp only [E.next, c1, Bool.true_or, if_true]
    have Q := Lib.hid (numeric s 3 16 w hs (pre_len c1) (by omega) HT.out)
    have P1 := Lib.hid (fun W => HasPrefixL s [38, 35, 120] true W c1)
    rw [hv]
    generalize E.numeric s 3 16 = R at *
    clear hv c1 h
    go_enter Tryz.func110, Tryz.ntmps110
    go_wp2_with fail
    refine (P1.out _).mono ?_
    rintro e w' ⟨rfl, rfl⟩
    go_wp2_with fail
    refine Q.out.mono ?_
    rintro e w' ⟨rfl, b⟩
    unfold tup
    go_wp2_with fail
    go_ret2
    exact ⟨rfl, b⟩
  | false =>
    have P1 := Lib.hid (fun W => HasPrefixL s [38, 35, 120] false W c1)
    cases c2 : [38, 35, 88].isPrefixOf s with
    | true =>
      have hv : E.next s = E.numeric s 3 16 := by simp only [E.next, c2, Bool.or_true, if_true]
      have Q := Lib.hid (numeric s 3 16 w hs (pre_len c2) (by omega) HT.out)
      have P2 := Lib.hid (fun W => HasPrefixL s [38, 35, 88] true W c2)
      rw [hv]
      generalize E.numeric s 3 16 = R at *
      clear hv c1 c2 h
      go_enter Tryz.func110, Tryz.ntmps110
      go_wp2_with fail
      refine (P1.out _).mono ?_
      rintro e w' ⟨rfl, rfl⟩
      go_wp2_with fail
      refine (P2.out _).mono ?_
      rintro e w' ⟨rfl, rfl⟩
      go_wp2_with fail
      refine Q.out.mono ?_
      rintro e w' ⟨rfl, b⟩
      unfold tup
      go_wp2_with fail
      go_ret2
      exact ⟨rfl, b⟩
    | false =>
      have P2 := Lib.hid (fun W => HasPrefixL s [38, 35, 88] false W c2)
      cases c3 : [38, 35].isPrefixOf s with
      | true =>
        have hv : E.next s = E.numeric s 2 10 := by simp only [E.next, c1, c2, c3, Bool.or_self, Bool.false_eq_true, if_false, if_true]
        have Q := Lib.hid (numeric s 2 10 w hs (pre_len c3) (by omega) HT.out)
        have P3 := Lib.hid (fun W => HasPrefixL s [38, 35] true W c3)
        rw [hv]
        generalize E.numeric s 2 10 = R at *
        clear hv c1 c2 c3 h
        go_enter Tryz.func110, Tryz.ntmps110
        go_wp2_with fail
        refine (P1.out _).mono ?_
        rintro e w' ⟨rfl, rfl⟩
        go_wp2_with fail
        refine (P2.out _).mono ?_
        rintro e w' ⟨rfl, rfl⟩
        go_wp2_with fail
        refine (P3.out _).mono ?_
        rintro e w' ⟨rfl, rfl⟩
        go_wp2_with fail
        refine Q.out.mono ?_
        rintro e w' ⟨rfl, b⟩
        unfold tup
        go_wp2_with fail
        go_ret2
        exact ⟨rfl, b⟩
      | false =>
        have c4 : [38].isPrefixOf s = false := by
          rcases h with h | h
          · rw [c3] at h; cases h
          · exact h
        have hv : E.next s = ([], 0) := by simp only [E.next, c1, c2, c3, c4, Bool.or_self, Bool.false_eq_true, if_false]
        have P3 := Lib.hid (fun W => HasPrefixL s [38, 35] false W c3)
        have P4 := Lib.hid (fun W => HasPrefixL s [38] false W c4)
        rw [hv]
        clear hv c1 c2 c3 c4 h
        go_enter Tryz.func110, Tryz.ntmps110
        go_wp2_with fail
        refine (P1.out _).mono ?_
        rintro e w' ⟨rfl, rfl⟩
        go_wp2_with fail
        refine (P2.out _).mono ?_
        rintro e w' ⟨rfl, rfl⟩
        go_wp2_with fail
        refine (P3.out _).mono ?_
        rintro e w' ⟨rfl, rfl⟩
        go_wp2_with fail
        refine (P4.out _).mono ?_
        rintro e w' ⟨rfl, rfl⟩
        go_wp2_with fail
        go_ret2
        exact ⟨rfl, Below.refl _ _⟩

end K
end Go.Proofs.YtlnginciehjlnaaGreatDoor
