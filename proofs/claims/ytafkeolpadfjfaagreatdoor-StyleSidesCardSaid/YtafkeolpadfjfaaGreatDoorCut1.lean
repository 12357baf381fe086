/- strings.Cut at a mark of one byte: no table is read. -/
import Derived.Test.YtafkeolpadfjfaaGreatDoorHeap
set_option linter.unusedVariables false
set_option linter.unusedSimpArgs false
namespace Go.Proofs.YtafkeolpadfjfaaGreatDoor
open Go.RowKit
namespace H

theorem index_none {c : UInt8} : ∀ {s : List UInt8}, s.dropWhile (· != c) = [] → Lib.indexByte s c = -1
  | [], _ => rfl
  | b :: l, h => by
    unfold Lib.indexByte
    by_cases hb : b = c
    · subst hb; simp at h
    · have h1 : (b == c) = false := by simpa using hb
      have h2 : l.dropWhile (· != c) = [] := by simpa [List.dropWhile_cons, bne, h1] using h
      rw [h1, index_none h2]
      rfl

theorem index_some {c q : UInt8} : ∀ {s u : List UInt8}, s.dropWhile (· != c) = q :: u → Lib.indexByte s c = ((s.takeWhile (· != c)).length : Int)
  | [], _, h => by cases h
  | b :: l, u, h => by
    unfold Lib.indexByte
    by_cases hb : b = c
    · subst hb; simp
    · have h1 : (b == c) = false := by simpa using hb
      have h2 : l.dropWhile (· != c) = q :: u := by simpa [List.dropWhile_cons, bne, h1] using h
      rw [h1, index_some h2]
      have h3 : (b :: l).takeWhile (· != c) = b :: l.takeWhile (· != c) := by simp [List.takeWhile_cons, bne, h1]
      rw [h3]
      have h4 : (((l.takeWhile (· != c)).length : Int) == -1) = false := by
        rw [beq_eq_false_iff_ne]; omega
      rw [h4]
      simp

set_option maxHeartbeats 1000000 in
theorem liteCut_none (s : List UInt8) (c : UInt8) (w : World) (hs : s.length ≤ 1000000) (h : s.dropWhile (· != c) = []) :
    Calls Tryz.prog 99 #[.string ⟨s.toArray⟩, .string ⟨#[c]⟩] w fun e w' => e = .returned (.tuple #[.string ⟨s.toArray⟩, .string ⟨#[]⟩, .bool false]) ∧ ∃ n, w' = w.drewN n := by
  have q := Tryz.stringslite_Index_one ⟨s.toArray⟩ c w
  rw [bytes_toList, index_none h] at q
  have Q := Lib.hid q
  clear q h
  go_enter Tryz.func99, Tryz.ntmps99
  go_wp2_with fail
  refine (Q.out).mono ?_
  rintro en w1 ⟨rfl, rfl⟩
  go_wp2_with fail
  refine bodyPost_ret (v := .tuple #[.string ⟨s.toArray⟩, .string ⟨#[]⟩, .bool false]) (by simp [results, Tryz.results99, go_sem]) rfl ⟨rfl, 0, rfl⟩

set_option maxHeartbeats 1000000 in
theorem liteCut_some (s u : List UInt8) (c q : UInt8) (w : World) (hs : s.length ≤ 1000000) (h : s.dropWhile (· != c) = q :: u) :
    Calls Tryz.prog 99 #[.string ⟨s.toArray⟩, .string ⟨#[c]⟩] w fun e w' => e = .returned (.tuple #[.string ⟨(s.takeWhile (· != c)).toArray⟩, .string ⟨u.toArray⟩, .bool true]) ∧ ∃ n, w' = w.drewN n := by
  have qq := Tryz.stringslite_Index_one ⟨s.toArray⟩ c w
  rw [bytes_toList, index_some h] at qq
  have hdw := drop_tw (· != c) s
  rw [h] at hdw
  have htk : s.take (s.takeWhile (· != c)).length = s.takeWhile (· != c) := by
    have := List.takeWhile_append_dropWhile (p := (· != c)) (l := s)
    exact (congrArg (List.take (s.takeWhile (· != c)).length) this).symm.trans List.take_left
  have hlt : (s.takeWhile (· != c)).length < s.length := by
    have := congrArg List.length hdw
    rw [List.length_drop] at this
    simp at this
    omega
  generalize (s.takeWhile (· != c)) = t at *
  have hx1 := slice_str s 0 t.length (Nat.zero_le _) (by omega)
  have hx2 := slice_str s (t.length + 1) s.length (by omega) (Nat.le_refl _)
  rw [List.drop_zero, Nat.sub_zero, htk] at hx1
  rw [List.take_of_length_le (by rw [List.length_drop]; omega), drop_more hdw] at hx2
  have zs := bytes_size s
  have g1 : IntKind.i64.wrap ((t.length : Int) + 1) = (t.length : Int) + 1 := IntWalk.i64_in _ (by omega)
  have g2 : ((t.length : Int) + 1).toNat = t.length + 1 := by omega
  have g3 : (0 : Int) ≤ (t.length : Int) := by omega
  have g4 : (0 : Int) ≤ (t.length : Int) + 1 := by omega
  have g5 : (t.length : Int) ≤ (s.length : Int) := by omega
  have g6 : (t.length : Int) + 1 ≤ (s.length : Int) := by omega
  have Q := Lib.hid qq
  clear qq h hdw htk hlt
  go_enter Tryz.func99, Tryz.ntmps99
  go_wp2_with fail
  refine (Q.out).mono ?_
  rintro en w1 ⟨rfl, rfl⟩
  go_wp2_with fail
  go_quiet (fail)
  go_wp2_with fail
  refine bodyPost_ret (v := .tuple #[.string ⟨t.toArray⟩, .string ⟨u.toArray⟩, .bool true]) (by simp [results, Tryz.results99, go_sem]) rfl ⟨rfl, _, rfl⟩

set_option maxHeartbeats 1000000 in
theorem Cut_none (s : List UInt8) (c : UInt8) (w : World) (hs : s.length ≤ 1000000) (h : s.dropWhile (· != c) = []) :
    Calls Tryz.prog 62 #[.string ⟨s.toArray⟩, .string ⟨#[c]⟩] w fun e w' => e = .returned (.tuple #[.string ⟨s.toArray⟩, .string ⟨#[]⟩, .bool false]) ∧ ∃ n, w' = w.drewN n := by
  have Q := Lib.hid (liteCut_none s c w hs h)
  clear h
  go_enter Tryz.func62, Tryz.ntmps62
  go_wp2_with fail
  refine (Q.out).mono ?_
  rintro en w1 ⟨rfl, n, rfl⟩
  go_wp2_with fail
  refine bodyPost_ret (v := .tuple #[.string ⟨s.toArray⟩, .string ⟨#[]⟩, .bool false]) (by simp [results, Tryz.results62, go_sem]) rfl ⟨rfl, _, rfl⟩

set_option maxHeartbeats 1000000 in
theorem Cut_some (s u : List UInt8) (c q : UInt8) (w : World) (hs : s.length ≤ 1000000) (h : s.dropWhile (· != c) = q :: u) :
    Calls Tryz.prog 62 #[.string ⟨s.toArray⟩, .string ⟨#[c]⟩] w fun e w' => e = .returned (.tuple #[.string ⟨(s.takeWhile (· != c)).toArray⟩, .string ⟨u.toArray⟩, .bool true]) ∧ ∃ n, w' = w.drewN n := by
  have Q := Lib.hid (liteCut_some s u c q w hs h)
  clear h
  generalize (s.takeWhile (· != c)) = t at *
  go_enter Tryz.func62, Tryz.ntmps62
  go_wp2_with fail
  refine (Q.out).mono ?_
  rintro en w1 ⟨rfl, n, rfl⟩
  go_wp2_with fail
  refine bodyPost_ret (v := .tuple #[.string ⟨t.toArray⟩, .string ⟨u.toArray⟩, .bool true]) (by simp [results, Tryz.results62, go_sem]) rfl ⟨rfl, _, rfl⟩

end H
end Go.Proofs.YtafkeolpadfjfaaGreatDoor
