/- What the reference for character references comes to: the small functions, and escaping. -/
import Derived.Test.YtlnginciehjlnaaGreatDoorPlain
import Derived.Test.YtlnginciehjlnaaGreatDoorEnt2
set_option linter.unusedVariables false
set_option linter.unusedSimpArgs false
namespace Go.Proofs.YtlnginciehjlnaaGreatDoor
open Go.RowKit
namespace K

set_option maxHeartbeats 400000 in
theorem rword (c : UInt8) (w : World) :
    Calls Tryz.prog 58 #[.int .u8 c.toNat] w fun e w' => e = .returned (.bool (E.goes c)) ∧ w = w' := by
  have hc := c.toNat_lt
  have hv : E.goes c = decide (c.toNat = 61 ∨ (48 ≤ c.toNat ∧ c.toNat ≤ 57) ∨ (97 ≤ c.toNat ∧ c.toNat ≤ 122) ∨ (65 ≤ c.toNat ∧ c.toNat ≤ 90)) := by
    have e1 : (c == 61) = decide (c.toNat = 61) := by
      rw [Bool.eq_iff_iff]; simp [← UInt8.toNat_inj]
    unfold E.goes
    rw [e1, Bool.eq_iff_iff]
    simp
    omega
  rw [hv]
  clear hv
  go_enter Tryz.func58, Tryz.ntmps58
  go_wp2
  all_goals
    go_ret
    refine ⟨ret_bool ?_, rfl⟩
    rw [Bool.eq_iff_iff]
    simp
    omega

set_option maxHeartbeats 1000000 in
theorem rdigit (c : UInt8) (base : Nat) (w : World) (hb : base = 10 ∨ base = 16) :
    Calls Tryz.prog 66 #[.int .u8 c.toNat, .int .i64 base] w fun e w' => e = .returned (.int .i64 (E.dig base c)) ∧ w = w' := by
  have hc := c.toNat_lt
  rcases hb with rfl | rfl
  all_goals
    go_enter Tryz.func66, Tryz.ntmps66
    go_wp2
    all_goals
      go_ret
      refine ⟨ret_int ?_, rfl⟩
      unfold E.dig
      dsimp only
      repeat' split
      all_goals omega

set_option maxHeartbeats 400000 in
theorem rbegins (s p : List UInt8) (w : World) (hs : s.length ≤ 1000000) (hp : p.length ≤ 1000000) :
    Calls Tryz.prog 55 #[.string ⟨s.toArray⟩, .string ⟨p.toArray⟩] w fun e w' => e = .returned (.bool (p.isPrefixOf s)) ∧ w = w' := by
  have hpre : p.isPrefixOf s = (decide (p.length ≤ s.length) && (s.take p.length == p)) := by
    rw [Bool.eq_iff_iff, List.isPrefixOf_iff_prefix, Bool.and_eq_true, decide_eq_true_eq, beq_iff_eq]
    constructor
    · intro h
      exact ⟨h.length_le, (List.prefix_iff_eq_take.1 h).symm⟩
    · rintro ⟨_, h⟩
      exact List.prefix_iff_eq_take.2 h.symm
  by_cases hl : p.length ≤ s.length
  · have hl1 : (p.length : Int) ≤ (s.length : Int) := by omega
    have hx := T.slice_str s 0 p.length (Nat.zero_le _) hl
    rw [List.drop_zero, Nat.sub_zero] at hx
    rw [decide_eq_true hl, Bool.true_and] at hpre
    rw [hpre]
    clear hpre
    go_enter Tryz.func55, Tryz.ntmps55
    go_wp2_with fail
    go_ret
    exact ⟨rfl, rfl⟩
  · have hl1 : (s.length : Int) < (p.length : Int) := by omega
    rw [decide_eq_false hl, Bool.false_and] at hpre
    rw [hpre]
    clear hpre hl
    go_enter Tryz.func55, Tryz.ntmps55
    go_wp2_with fail
    go_ret
    exact ⟨rfl, rfl⟩

def EscRel (attr : Bool) (s : List UInt8) (w : World) (u v : Value) (wr : World) : Prop :=
  ∃ k : Nat, u = .string ⟨(E.escape attr (s.take k)).toArray⟩ ∧ v = .int .i64 k ∧ k ≤ s.length ∧ wr = w

theorem escape_more (attr : Bool) {s r : List UInt8} {k : Nat} {c : UInt8} (h : s.drop k = c :: r) : E.escape attr (s.take (k + 1)) = E.escape attr (s.take k) ++ E.esc attr c := by
  have h1 : (s.drop k)[0]? = some c := by rw [h]; rfl
  rw [List.getElem?_drop, Nat.add_zero] at h1
  have : s.take (k + 1) = s.take k ++ [c] := by
    rw [List.take_add_one, h1]; rfl
  rw [this]
  simp [E.escape]

set_option maxHeartbeats 2000000 in
theorem refEscape (attr : Bool) (s : List UInt8) (w : World) (hs : s.length ≤ 100000) :
    Calls Tryz.prog 17 #[.string ⟨s.toArray⟩, .bool attr] w fun e w' => e = .returned (.string ⟨(E.escape attr s).toArray⟩) ∧ w = w' := by
  go_enter Tryz.func17, Tryz.ntmps17
  go_wp2_with fail
  go_loopw [5, 6] (fun u v wr => EscRel attr s w u v wr) (fun _ v _ => s.length - (intOf v).toNat)
  case atStart => exact ⟨0, rfl, rfl, Nat.zero_le _, rfl⟩
  case round =>
    obtain ⟨k, rfl, rfl, hk, rfl⟩ := hrel
    by_cases hlt : k < s.length
    · obtain ⟨c, r, hd⟩ := drop_cons hlt
      have hlt1 : (k : Int) < (s.length : Int) := by omega
      have hex := T.slice_str s k (k + 1) (by omega) (by omega)
      have htk : (s.drop k).take (k + 1 - k) = [c] := by rw [hd, show k + 1 - k = 1 by omega]; rfl
      rw [htk] at hex
      have HM := Lib.hid (escape_more attr hd)
      have hl1 := E.escape_len attr (s.take k)
      have hl2 : (s.take k).length ≤ k := by rw [List.length_take]; omega
      have hl3 : (E.escape attr (s.take k)).length ≤ 6 * s.length := by omega
      clear hd htk hl1 hl2
      generalize E.escape attr (s.take k) = acc at *
      have fin : ∀ (t : List UInt8), E.esc attr c = t → Hid (E.escape attr (s.take (k + 1)) = acc ++ t) ∧ (⟨acc.toArray⟩ : ByteArray) ++ ⟨t.toArray⟩ = ⟨(acc ++ t).toArray⟩ := fun t ht => ⟨Lib.hid (by rw [HM.out, ht]), T.append_bytes _ _⟩
      cases attr with
      | true =>
        by_cases h1 : c = 38
        · subst h1
          obtain ⟨HF, hab⟩ := fin [38, 97, 109, 112, 59] rfl
          clear fin HM
          go_wp2_with fail
          go_roundw
          case rel => exact ⟨k + 1, by rw [HF.out], by go_num, by omega, rfl⟩
          case measure => simp [intOf]; omega
        by_cases h2 : c = 13
        · subst h2
          obtain ⟨HF, hab⟩ := fin [38, 35, 49, 51, 59] rfl
          clear fin HM
          go_wp2_with fail
          go_roundw
          case rel => exact ⟨k + 1, by rw [HF.out], by go_num, by omega, rfl⟩
          case measure => simp [intOf]; omega
        by_cases h5 : c = 34
        · subst h5
          obtain ⟨HF, hab⟩ := fin [38, 113, 117, 111, 116, 59] rfl
          clear fin HM
          go_wp2_with fail
          go_roundw
          case rel => exact ⟨k + 1, by rw [HF.out], by go_num, by omega, rfl⟩
          case measure => simp [intOf]; omega
        by_cases h6 : c = 60
        · subst h6
          obtain ⟨HF, hab⟩ := fin [60] rfl
          clear fin HM
          go_wp2_with fail
          go_roundw
          case rel => exact ⟨k + 1, by rw [HF.out], by go_num, by omega, rfl⟩
          case measure => simp [intOf]; omega
        by_cases h7 : c = 62
        · subst h7
          obtain ⟨HF, hab⟩ := fin [62] rfl
          clear fin HM
          go_wp2_with fail
          go_roundw
          case rel => exact ⟨k + 1, by rw [HF.out], by go_num, by omega, rfl⟩
          case measure => simp [intOf]; omega
        · obtain ⟨HF, hab⟩ := fin [c] (by unfold E.esc; rw [if_neg h1, if_neg h2, if_neg (fun h => by cases h.2), if_neg (fun h => by cases h.2), if_neg (fun h => h5 h.1)])
          clear fin HM
          have g1 : (c == 38) = false := by simpa using h1
          have g2 : (c == 13) = false := by simpa using h2
          have g5 : (c == 34) = false := by simpa using h5
          have g6 : (c == 60) = false := by simpa using h6
          have g7 : (c == 62) = false := by simpa using h7
          go_wp2_with fail
          go_roundw
          case rel => exact ⟨k + 1, by rw [HF.out], by go_num, by omega, rfl⟩
          case measure => simp [intOf]; omega
      | false =>
        by_cases h1 : c = 38
        · subst h1
          obtain ⟨HF, hab⟩ := fin [38, 97, 109, 112, 59] rfl
          clear fin HM
          go_wp2_with fail
          go_roundw
          case rel => exact ⟨k + 1, by rw [HF.out], by go_num, by omega, rfl⟩
          case measure => simp [intOf]; omega
        by_cases h2 : c = 13
        · subst h2
          obtain ⟨HF, hab⟩ := fin [38, 35, 49, 51, 59] rfl
          clear fin HM
          go_wp2_with fail
          go_roundw
          case rel => exact ⟨k + 1, by rw [HF.out], by go_num, by omega, rfl⟩
          case measure => simp [intOf]; omega
        by_cases h3 : c = 60
        · subst h3
          obtain ⟨HF, hab⟩ := fin [38, 108, 116, 59] rfl
          clear fin HM
          go_wp2_with fail
          go_roundw
          case rel => exact ⟨k + 1, by rw [HF.out], by go_num, by omega, rfl⟩
          case measure => simp [intOf]; omega
        by_cases h4 : c = 62
        · subst h4
          obtain ⟨HF, hab⟩ := fin [38, 103, 116, 59] rfl
          clear fin HM
          go_wp2_with fail
          go_roundw
          case rel => exact ⟨k + 1, by rw [HF.out], by go_num, by omega, rfl⟩
          case measure => simp [intOf]; omega
        by_cases h5 : c = 34
        · subst h5
          obtain ⟨HF, hab⟩ := fin [34] rfl
          clear fin HM
          go_wp2_with fail
          go_roundw
          case rel => exact ⟨k + 1, by rw [HF.out], by go_num, by omega, rfl⟩
          case measure => simp [intOf]; omega
        · obtain ⟨HF, hab⟩ := fin [c] (by unfold E.esc; rw [if_neg h1, if_neg h2, if_neg (fun h => h3 h.1), if_neg (fun h => h4 h.1), if_neg (fun h => by cases h.2)])
          clear fin HM
          have g1 : (c == 38) = false := by simpa using h1
          have g2 : (c == 13) = false := by simpa using h2
          have g3 : (c == 60) = false := by simpa using h3
          have g4 : (c == 62) = false := by simpa using h4
          have g5 : (c == 34) = false := by simpa using h5
          go_wp2_with fail
          go_roundw
          case rel => exact ⟨k + 1, by rw [HF.out], by go_num, by omega, rfl⟩
          case measure => simp [intOf]; omega
    · have hge : (s.length : Int) ≤ (k : Int) := by omega
      have htk : s.take k = s := List.take_of_length_le (by omega)
      rw [htk]
      go_wp2_with fail
      go_ret
      exact ⟨rfl, rfl⟩

end K
end Go.Proofs.YtlnginciehjlnaaGreatDoor
