/- What the functions of style that read numbers come to: run, decimal. -/
import Derived.Test.YtafkeolpadfjfaaGreatDoorStyPlain
import Derived.Test.YtafkeolpadfjfaaGreatDoorHeap
import Derived.Test.YtafkeolpadfjfaaGreatDoorShelf
import Derived.Lib.AtoiAllCases
import Derived.Deep.DeepCutAuto
set_option linter.unusedVariables false
set_option linter.unusedSimpArgs false
namespace Go.Proofs.YtafkeolpadfjfaaGreatDoor
open Go.RowKit
namespace Y
open H

theorem isDig_no1 {c : UInt8} (h : S.isDig c = false) : c.toNat < 48 ∨ 57 < c.toNat := by
  unfold S.isDig at h
  rw [Bool.and_eq_false_iff] at h
  rcases h with h | h
  · left; simpa using h
  · right; simpa using h

set_option maxHeartbeats 2000000 in
set_option maxRecDepth 100000 in
theorem run (s : List UInt8) (w : World) (hs : s.length ≤ 1000000) :
    Calls Tryz.prog 121 #[.string ⟨s.toArray⟩] w fun e w' => e = .returned (.int .i64 ((s.takeWhile S.isDig).length : Nat)) ∧ w = w' := by
  have zs := bytes_size s
  have HN0 : Hid ((s.takeWhile S.isDig).length = 0 + ((s.drop 0).takeWhile S.isDig).length) := Lib.hid (by simp)
  generalize (s.takeWhile S.isDig).length = n at *
  go_enter Tryz.func121, Tryz.ntmps121
  go_wp2_with fail
  go_loopw [3] (fun v3 wr => ∃ k : Nat, v3 = .int .i64 k ∧ k ≤ s.length ∧ Hid (n = k + ((s.drop k).takeWhile S.isDig).length) ∧ Hid (w = wr)) (fun v3 _ => s.length - (intOf v3).toNat)
  case atStart => exact ⟨0, rfl, Nat.zero_le _, HN0, Lib.hid (by first | rfl | trivial)⟩
  case round =>
    obtain ⟨k, rfl, hk, HN, HW⟩ := hrel
    obtain rfl := HW.out
    clear HN0 HW
    by_cases hkl : k < s.length
    · have hkI : (k : Int) < (s.length : Int) := by omega
      have hk0 : (0 : Int) ≤ (k : Int) := by omega
      obtain ⟨c, r, hd⟩ := drop_cons hkl
      have hix := at_drop hd (by rw [bytes_size]; exact hkl)
      cases hc : S.isDig c with
      | true =>
        obtain ⟨d1, d2⟩ := (S.isDig_iff c).1 hc
        have HN2 : Hid (n = (k + 1) + ((s.drop (k + 1)).takeWhile S.isDig).length) := Lib.hid (by
          have h := HN.out
          rw [hd, List.takeWhile_cons_of_pos hc, List.length_cons] at h
          rw [drop_more hd]; omega)
        have e1 : (48 : Int) ≤ (c.toNat : Int) := by omega
        have e2 : (c.toNat : Int) ≤ 57 := by omega
        have f1 : decide ((48 : Int) ≤ (c.toNat : Int)) = true := decide_eq_true e1
        have f2 : decide ((c.toNat : Int) ≤ 57) = true := decide_eq_true e2
        clear hc hd HN d1 d2
        go_wp2_with fail
        go_roundw
        case rel => exact ⟨k + 1, by go_num, by omega, HN2, Lib.hid trivial⟩
        case measure => simp [intOf]; omega
      | false =>
        have HN2 : Hid (n = k) := Lib.hid (by
          have h := HN.out
          rw [hd, List.takeWhile_cons_of_neg (by rw [hc]; simp)] at h
          simpa using h)
        rcases isDig_no1 hc with h | h
        · have e1 : ¬ (48 : Int) ≤ (c.toNat : Int) := by omega
          have f1 : decide ((48 : Int) ≤ (c.toNat : Int)) = false := decide_eq_false e1
          clear hc hd HN h
          go_wp2_with fail
          go_ret
          exact ⟨by rw [HN2.out]; rfl, rfl⟩
        · have e1 : (48 : Int) ≤ (c.toNat : Int) := by omega
          have f1 : decide ((48 : Int) ≤ (c.toNat : Int)) = true := decide_eq_true e1
          have e2 : ¬ (c.toNat : Int) ≤ 57 := by omega
          have f2 : decide ((c.toNat : Int) ≤ 57) = false := decide_eq_false e2
          clear hc hd HN h
          go_wp2_with fail
          go_ret
          exact ⟨by rw [HN2.out]; rfl, rfl⟩
    · have HN2 : Hid (n = k) := Lib.hid (by
        have h := HN.out
        rw [List.drop_eq_nil_of_le (by omega)] at h
        simpa using h)
      have e1 : ¬ (k : Int) < (s.length : Int) := by omega
      have f1 : decide ((k : Int) < (s.length : Int)) = false := decide_eq_false e1
      clear HN
      go_wp2_with fail
      go_ret
      exact ⟨by rw [HN2.out]; rfl, rfl⟩

def DecPost (s : List UInt8) (w : World) (e : Ending) (w' : World) : Prop :=
  ∃ (n : Int) (r : List UInt8) (ok : Bool), e = .returned (.tuple #[.int .i64 n, .string ⟨r.toArray⟩, .bool ok]) ∧ Below w.heap.size w w' ∧
    Hid (ok = true → S.decimal s = some (n, r) ∧ -1048576000 ≤ n ∧ n ≤ 1048576000) ∧ Hid (ok = false → S.decimal s = none) ∧ r.length ≤ s.length

theorem nat_bound : ∀ (l : List UInt8) (acc : Nat), (∀ c ∈ l, S.isDig c = true) → l.foldl (fun n c => n * 10 + (c.toNat - 48)) acc < (acc + 1) * 10 ^ l.length
  | [], acc, _ => by simp
  | c :: r, acc, h => by
    have hc := (S.isDig_iff _).1 (h c (by simp))
    have ih := nat_bound r (acc * 10 + (c.toNat - 48)) (fun d hd => h d (by simp [hd]))
    rw [List.foldl_cons, List.length_cons, Nat.pow_succ]
    refine Nat.lt_of_lt_of_le ih ?_
    have : acc * 10 + (c.toNat - 48) + 1 ≤ (acc + 1) * 10 := by omega
    calc _ ≤ ((acc + 1) * 10) * 10 ^ r.length := Nat.mul_le_mul_right _ this
      _ = _ := by rw [Nat.mul_assoc, Nat.mul_comm 10]

theorem pu_small : ∀ (l : List UInt8) (acc : Nat), (∀ c ∈ l, S.isDig c = true) → (acc + 1) * 10 ^ l.length ≤ 100000000 → Lib.parseUint10 acc l = .ok (l.foldl (fun n c => n * 10 + (c.toNat - 48)) acc)
  | [], _, _, _ => rfl
  | c :: r, acc, h, hb => by
    have hc := (S.isDig_iff _).1 (h c (by simp))
    rw [List.length_cons, Nat.pow_succ] at hb
    have h1 : acc * 10 + (c.toNat - 48) + 1 ≤ (acc + 1) * 10 := by omega
    have h2 : (acc * 10 + (c.toNat - 48) + 1) * 10 ^ r.length ≤ 100000000 := by
      refine Nat.le_trans (Nat.mul_le_mul_right _ h1) ?_
      rw [Nat.mul_assoc, Nat.mul_comm 10]; exact hb
    have h3 : 0 < 10 ^ r.length := Nat.pow_pos (by omega)
    have h4 : acc * 10 + (c.toNat - 48) + 1 ≤ 100000000 := Nat.le_trans (Nat.le_mul_of_pos_right _ h3) h2
    unfold Lib.parseUint10
    rw [if_pos hc, if_neg (by omega), if_neg (by omega), pu_small r _ (fun d hd => h d (by simp [hd])) h2]
    rfl

theorem atoi7 {l : List UInt8} (h : ∀ c ∈ l, S.isDig c = true) (h1 : 1 ≤ l.length) (h7 : l.length ≤ 7) : Lib.atoiAll l = .ok (S.natOf l : Int) ∧ S.natOf l ≤ 9999999 := by
  have hp : (0 + 1) * 10 ^ l.length ≤ 10000000 := by
    have := Nat.pow_le_pow_right (n := 10) (by omega) h7
    simpa using this
  have hb := nat_bound l 0 h
  have hs := pu_small l 0 h (by omega)
  match l, h1 with
  | c :: r, _ =>
    have hc := (S.isDig_iff _).1 (h c (by simp))
    have hn : S.natOf (c :: r) ≤ 9999999 := by unfold S.natOf; omega
    refine ⟨?_, hn⟩
    rw [Lib.atoiAll_plain c r (by omega) (by omega)]
    have : Lib.parseMag (c :: r) = .ok (S.natOf (c :: r)) := by unfold Lib.parseMag; rw [if_neg (by simp), hs]; rfl
    rw [this]
    show (if _ then _ else _) = _
    rw [if_neg (by omega)]

theorem sign_cases (s : List UInt8) : (s = [] ∧ S.signOf s = (1, [])) ∨ (∃ t, s = 45 :: t ∧ S.signOf s = (-1, t)) ∨ (∃ t, s = 43 :: t ∧ S.signOf s = (1, t)) ∨ (∃ c t, s = c :: t ∧ c ≠ 45 ∧ c ≠ 43 ∧ S.signOf s = (1, c :: t)) := by
  cases s with
  | nil => exact Or.inl ⟨rfl, rfl⟩
  | cons c t =>
    by_cases h1 : c = 45
    · subst h1; exact Or.inr (Or.inl ⟨t, rfl, rfl⟩)
    · by_cases h2 : c = 43
      · subst h2; exact Or.inr (Or.inr (Or.inl ⟨t, rfl, rfl⟩))
      · refine Or.inr (Or.inr (Or.inr ⟨c, t, rfl, h1, h2, ?_⟩))
        unfold S.signOf
        split
        · rename_i h; exact absurd (List.cons.inj h).1 h1
        · rename_i h; exact absurd (List.cons.inj h).1 h2
        · rfl

end Y
end Go.Proofs.YtafkeolpadfjfaaGreatDoor
