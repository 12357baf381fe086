/- What the law's ascii comes to. -/
import Derived.Test.YtafkeolpadfjfaaGreatDoorSty19
set_option linter.unusedVariables false
set_option linter.unusedSimpArgs false
namespace Go.Proofs.YtafkeolpadfjfaaGreatDoor
open Go.RowKit
namespace Y
open H

def AscP (c : UInt8) : Prop := (97 ≤ c.toNat ∧ c.toNat ≤ 122) ∨ (65 ≤ c.toNat ∧ c.toNat ≤ 90) ∨ (48 ≤ c.toNat ∧ c.toNat ≤ 57) ∨ c.toNat = 46 ∨ c.toNat = 45 ∨ c.toNat = 43 ∨ c.toNat = 37 ∨ c.toNat = 32
theorem asc_table : ∀ c : Fin 256, S.asc (UInt8.ofNat c.1) = decide ((97 ≤ c.1 ∧ c.1 ≤ 122) ∨ (65 ≤ c.1 ∧ c.1 ≤ 90) ∨ (48 ≤ c.1 ∧ c.1 ≤ 57) ∨ c.1 = 46 ∨ c.1 = 45 ∨ c.1 = 43 ∨ c.1 = 37 ∨ c.1 = 32) := by decide +kernel
theorem asc_iff (c : UInt8) : S.asc c = true ↔ AscP c := by
  have := asc_table ⟨c.toNat, c.toNat_lt⟩
  simp only [UInt8.ofNat_toNat] at this
  rw [this]
  unfold AscP
  exact decide_eq_true_iff

theorem asc_no {c : UInt8} (h : ¬ AscP c) : S.asc c = false := by
  rw [Bool.eq_false_iff]; exact fun h2 => h ((asc_iff c).1 h2)

set_option maxHeartbeats 8000000 in
set_option maxRecDepth 100000 in
theorem ascii (s : List UInt8) (w : World) (hs : s.length ≤ 1000000) : Calls Tryz.prog 16 #[.string ⟨s.toArray⟩] w fun e w' => e = .returned (.bool (s.all S.asc)) ∧ w = w' := by
  have zs := bytes_size s
  have HA0 : Hid (s.all S.asc = (s.drop 0).all S.asc) := Lib.hid rfl
  generalize s.all S.asc = B at *
  go_enter Tryz.func16, Tryz.ntmps16
  go_wp2_with fail
  go_loop [3] (fun v3 => ∃ k : Nat, v3 = .int .i64 k ∧ k ≤ s.length ∧ Hid (B = (s.drop k).all S.asc)) (fun v3 => s.length - (intOf v3).toNat)
  case atStart => exact ⟨0, rfl, by omega, HA0⟩
  case round =>
    obtain ⟨k, rfl, hk, HA⟩ := hrel
    clear HA0
    by_cases hlt : k < s.length
    · have hlI : (k : Int) < (s.length : Int) := by omega
      obtain ⟨c, t, hd⟩ := drop_cons hlt
      have hix := at_drop hd (by rw [bytes_size]; exact hlt)
      have HA2 := Lib.hid (HA.out.trans (by rw [hd, List.all_cons, ← drop_more hd]))
      have hcc : c.toNat < 256 := c.toNat_lt
      clear hd HA
      rcases (by omega : (0 ≤ c.toNat ∧ c.toNat ≤ 31) ∨ (32 ≤ c.toNat ∧ c.toNat ≤ 32) ∨ (33 ≤ c.toNat ∧ c.toNat ≤ 36) ∨ (37 ≤ c.toNat ∧ c.toNat ≤ 37) ∨ (38 ≤ c.toNat ∧ c.toNat ≤ 42) ∨ (43 ≤ c.toNat ∧ c.toNat ≤ 43) ∨ (44 ≤ c.toNat ∧ c.toNat ≤ 44) ∨ (45 ≤ c.toNat ∧ c.toNat ≤ 45) ∨ (46 ≤ c.toNat ∧ c.toNat ≤ 46) ∨ (47 ≤ c.toNat ∧ c.toNat ≤ 47) ∨ (48 ≤ c.toNat ∧ c.toNat ≤ 57) ∨ (58 ≤ c.toNat ∧ c.toNat ≤ 64) ∨ (65 ≤ c.toNat ∧ c.toNat ≤ 90) ∨ (91 ≤ c.toNat ∧ c.toNat ≤ 96) ∨ (97 ≤ c.toNat ∧ c.toNat ≤ 122) ∨ (123 ≤ c.toNat ∧ c.toNat ≤ 255)) with ⟨h1, h2⟩ | ⟨h1, h2⟩ | ⟨h1, h2⟩ | ⟨h1, h2⟩ | ⟨h1, h2⟩ | ⟨h1, h2⟩ | ⟨h1, h2⟩ | ⟨h1, h2⟩ | ⟨h1, h2⟩ | ⟨h1, h2⟩ | ⟨h1, h2⟩ | ⟨h1, h2⟩ | ⟨h1, h2⟩ | ⟨h1, h2⟩ | ⟨h1, h2⟩ | ⟨h1, h2⟩
      · have HA3 : Hid (B = false) := Lib.hid (by rw [HA2.out, asc_no (by unfold AscP; omega), Bool.false_and])
        have q97 : ¬ (97 : Int) ≤ (c.toNat : Int) := by omega
        have d97 : decide ((97 : Int) ≤ (c.toNat : Int)) = false := decide_eq_false q97
        have q122 : (c.toNat : Int) ≤ 122 := by omega
        have d122 : decide ((c.toNat : Int) ≤ 122) = true := decide_eq_true q122
        have q65 : ¬ (65 : Int) ≤ (c.toNat : Int) := by omega
        have d65 : decide ((65 : Int) ≤ (c.toNat : Int)) = false := decide_eq_false q65
        have q90 : (c.toNat : Int) ≤ 90 := by omega
        have d90 : decide ((c.toNat : Int) ≤ 90) = true := decide_eq_true q90
        have q48 : ¬ (48 : Int) ≤ (c.toNat : Int) := by omega
        have d48 : decide ((48 : Int) ≤ (c.toNat : Int)) = false := decide_eq_false q48
        have q57 : (c.toNat : Int) ≤ 57 := by omega
        have d57 : decide ((c.toNat : Int) ≤ 57) = true := decide_eq_true q57
        have q46 : ¬ (c.toNat : Int) = 46 := by omega
        have d46 : ((c.toNat : Int) == 46) = false := by rw [beq_eq_false_iff_ne]; exact q46
        have q45 : ¬ (c.toNat : Int) = 45 := by omega
        have d45 : ((c.toNat : Int) == 45) = false := by rw [beq_eq_false_iff_ne]; exact q45
        have q43 : ¬ (c.toNat : Int) = 43 := by omega
        have d43 : ((c.toNat : Int) == 43) = false := by rw [beq_eq_false_iff_ne]; exact q43
        have q37 : ¬ (c.toNat : Int) = 37 := by omega
        have d37 : ((c.toNat : Int) == 37) = false := by rw [beq_eq_false_iff_ne]; exact q37
        have q32 : ¬ (c.toNat : Int) = 32 := by omega
        have d32 : ((c.toNat : Int) == 32) = false := by rw [beq_eq_false_iff_ne]; exact q32
        clear HA2 h1 h2 hcc
        go_wp2_with fail
        go_ret
        exact ⟨ret_bool HA3.out.symm, rfl⟩
      · have HA3 : Hid (B = (s.drop (k + 1)).all S.asc) := Lib.hid (by rw [HA2.out, (asc_iff c).2 (by unfold AscP; omega), Bool.true_and])
        have q97 : ¬ (97 : Int) ≤ (c.toNat : Int) := by omega
        have d97 : decide ((97 : Int) ≤ (c.toNat : Int)) = false := decide_eq_false q97
        have q122 : (c.toNat : Int) ≤ 122 := by omega
        have d122 : decide ((c.toNat : Int) ≤ 122) = true := decide_eq_true q122
        have q65 : ¬ (65 : Int) ≤ (c.toNat : Int) := by omega
        have d65 : decide ((65 : Int) ≤ (c.toNat : Int)) = false := decide_eq_false q65
        have q90 : (c.toNat : Int) ≤ 90 := by omega
        have d90 : decide ((c.toNat : Int) ≤ 90) = true := decide_eq_true q90
        have q48 : ¬ (48 : Int) ≤ (c.toNat : Int) := by omega
        have d48 : decide ((48 : Int) ≤ (c.toNat : Int)) = false := decide_eq_false q48
        have q57 : (c.toNat : Int) ≤ 57 := by omega
        have d57 : decide ((c.toNat : Int) ≤ 57) = true := decide_eq_true q57
        have q46 : ¬ (c.toNat : Int) = 46 := by omega
        have d46 : ((c.toNat : Int) == 46) = false := by rw [beq_eq_false_iff_ne]; exact q46
        have q45 : ¬ (c.toNat : Int) = 45 := by omega
        have d45 : ((c.toNat : Int) == 45) = false := by rw [beq_eq_false_iff_ne]; exact q45
        have q43 : ¬ (c.toNat : Int) = 43 := by omega
        have d43 : ((c.toNat : Int) == 43) = false := by rw [beq_eq_false_iff_ne]; exact q43
        have q37 : ¬ (c.toNat : Int) = 37 := by omega
        have d37 : ((c.toNat : Int) == 37) = false := by rw [beq_eq_false_iff_ne]; exact q37
        have q32 : (c.toNat : Int) = 32 := by omega
        have d32 : ((c.toNat : Int) == 32) = true := by simp [q32]
        clear q32
        clear HA2 h1 h2 hcc
        go_wp2_with fail
        go_round
        case rel => exact ⟨k + 1, by go_num, by omega, HA3⟩
        case measure => simp [intOf]; omega
      · have HA3 : Hid (B = false) := Lib.hid (by rw [HA2.out, asc_no (by unfold AscP; omega), Bool.false_and])
        have q97 : ¬ (97 : Int) ≤ (c.toNat : Int) := by omega
        have d97 : decide ((97 : Int) ≤ (c.toNat : Int)) = false := decide_eq_false q97
        have q122 : (c.toNat : Int) ≤ 122 := by omega
        have d122 : decide ((c.toNat : Int) ≤ 122) = true := decide_eq_true q122
        have q65 : ¬ (65 : Int) ≤ (c.toNat : Int) := by omega
        have d65 : decide ((65 : Int) ≤ (c.toNat : Int)) = false := decide_eq_false q65
        have q90 : (c.toNat : Int) ≤ 90 := by omega
        have d90 : decide ((c.toNat : Int) ≤ 90) = true := decide_eq_true q90
        have q48 : ¬ (48 : Int) ≤ (c.toNat : Int) := by omega
        have d48 : decide ((48 : Int) ≤ (c.toNat : Int)) = false := decide_eq_false q48
        have q57 : (c.toNat : Int) ≤ 57 := by omega
        have d57 : decide ((c.toNat : Int) ≤ 57) = true := decide_eq_true q57
        have q46 : ¬ (c.toNat : Int) = 46 := by omega
        have d46 : ((c.toNat : Int) == 46) = false := by rw [beq_eq_false_iff_ne]; exact q46
        have q45 : ¬ (c.toNat : Int) = 45 := by omega
        have d45 : ((c.toNat : Int) == 45) = false := by rw [beq_eq_false_iff_ne]; exact q45
        have q43 : ¬ (c.toNat : Int) = 43 := by omega
        have d43 : ((c.toNat : Int) == 43) = false := by rw [beq_eq_false_iff_ne]; exact q43
        have q37 : ¬ (c.toNat : Int) = 37 := by omega
        have d37 : ((c.toNat : Int) == 37) = false := by rw [beq_eq_false_iff_ne]; exact q37
        have q32 : ¬ (c.toNat : Int) = 32 := by omega
        have d32 : ((c.toNat : Int) == 32) = false := by rw [beq_eq_false_iff_ne]; exact q32
        clear HA2 h1 h2 hcc
        go_wp2_with fail
        go_ret
        exact ⟨ret_bool HA3.out.symm, rfl⟩
      · have HA3 : Hid (B = (s.drop (k + 1)).all S.asc) := Lib.hid (by rw [HA2.out, (asc_iff c).2 (by unfold AscP; omega), Bool.true_and])
        have q97 : ¬ (97 : Int) ≤ (c.toNat : Int) := by omega
        have d97 : decide ((97 : Int) ≤ (c.toNat : Int)) = false := decide_eq_false q97
        have q122 : (c.toNat : Int) ≤ 122 := by omega
        have d122 : decide ((c.toNat : Int) ≤ 122) = true := decide_eq_true q122
        have q65 : ¬ (65 : Int) ≤ (c.toNat : Int) := by omega
        have d65 : decide ((65 : Int) ≤ (c.toNat : Int)) = false := decide_eq_false q65
        have q90 : (c.toNat : Int) ≤ 90 := by omega
        have d90 : decide ((c.toNat : Int) ≤ 90) = true := decide_eq_true q90
        have q48 : ¬ (48 : Int) ≤ (c.toNat : Int) := by omega
        have d48 : decide ((48 : Int) ≤ (c.toNat : Int)) = false := decide_eq_false q48
        have q57 : (c.toNat : Int) ≤ 57 := by omega
        have d57 : decide ((c.toNat : Int) ≤ 57) = true := decide_eq_true q57
        have q46 : ¬ (c.toNat : Int) = 46 := by omega
        have d46 : ((c.toNat : Int) == 46) = false := by rw [beq_eq_false_iff_ne]; exact q46
        have q45 : ¬ (c.toNat : Int) = 45 := by omega
        have d45 : ((c.toNat : Int) == 45) = false := by rw [beq_eq_false_iff_ne]; exact q45
        have q43 : ¬ (c.toNat : Int) = 43 := by omega
        have d43 : ((c.toNat : Int) == 43) = false := by rw [beq_eq_false_iff_ne]; exact q43
        have q37 : (c.toNat : Int) = 37 := by omega
        have d37 : ((c.toNat : Int) == 37) = true := by simp [q37]
        clear q37
        have q32 : ¬ (c.toNat : Int) = 32 := by omega
        have d32 : ((c.toNat : Int) == 32) = false := by rw [beq_eq_false_iff_ne]; exact q32
        clear HA2 h1 h2 hcc
        go_wp2_with fail
        go_round
        case rel => exact ⟨k + 1, by go_num, by omega, HA3⟩
        case measure => simp [intOf]; omega
      · have HA3 : Hid (B = false) := Lib.hid (by rw [HA2.out, asc_no (by unfold AscP; omega), Bool.false_and])
        have q97 : ¬ (97 : Int) ≤ (c.toNat : Int) := by omega
        have d97 : decide ((97 : Int) ≤ (c.toNat : Int)) = false := decide_eq_false q97
        have q122 : (c.toNat : Int) ≤ 122 := by omega
        have d122 : decide ((c.toNat : Int) ≤ 122) = true := decide_eq_true q122
        have q65 : ¬ (65 : Int) ≤ (c.toNat : Int) := by omega
        have d65 : decide ((65 : Int) ≤ (c.toNat : Int)) = false := decide_eq_false q65
        have q90 : (c.toNat : Int) ≤ 90 := by omega
        have d90 : decide ((c.toNat : Int) ≤ 90) = true := decide_eq_true q90
        have q48 : ¬ (48 : Int) ≤ (c.toNat : Int) := by omega
        have d48 : decide ((48 : Int) ≤ (c.toNat : Int)) = false := decide_eq_false q48
        have q57 : (c.toNat : Int) ≤ 57 := by omega
        have d57 : decide ((c.toNat : Int) ≤ 57) = true := decide_eq_true q57
        have q46 : ¬ (c.toNat : Int) = 46 := by omega
        have d46 : ((c.toNat : Int) == 46) = false := by rw [beq_eq_false_iff_ne]; exact q46
        have q45 : ¬ (c.toNat : Int) = 45 := by omega
        have d45 : ((c.toNat : Int) == 45) = false := by rw [beq_eq_false_iff_ne]; exact q45
        have q43 : ¬ (c.toNat : Int) = 43 := by omega
        have d43 : ((c.toNat : Int) == 43) = false := by rw [beq_eq_false_iff_ne]; exact q43
        have q37 : ¬ (c.toNat : Int) = 37 := by omega
        have d37 : ((c.toNat : Int) == 37) = false := by rw [beq_eq_false_iff_ne]; exact q37
        have q32 : ¬ (c.toNat : Int) = 32 := by omega
        have d32 : ((c.toNat : Int) == 32) = false := by rw [beq_eq_false_iff_ne]; exact q32
        clear HA2 h1 h2 hcc
        go_wp2_with fail
        go_ret
        exact ⟨ret_bool HA3.out.symm, rfl⟩
      · have HA3 : Hid (B = (s.drop (k + 1)).all S.asc) := Lib.hid (by rw [HA2.out, (asc_iff c).2 (by unfold AscP; omega), Bool.true_and])
        have q97 : ¬ (97 : Int) ≤ (c.toNat : Int) := by omega
        have d97 : decide ((97 : Int) ≤ (c.toNat : Int)) = false := decide_eq_false q97
        have q122 : (c.toNat : Int) ≤ 122 := by omega
        have d122 : decide ((c.toNat : Int) ≤ 122) = true := decide_eq_true q122
        have q65 : ¬ (65 : Int) ≤ (c.toNat : Int) := by omega
        have d65 : decide ((65 : Int) ≤ (c.toNat : Int)) = false := decide_eq_false q65
        have q90 : (c.toNat : Int) ≤ 90 := by omega
        have d90 : decide ((c.toNat : Int) ≤ 90) = true := decide_eq_true q90
        have q48 : ¬ (48 : Int) ≤ (c.toNat : Int) := by omega
        have d48 : decide ((48 : Int) ≤ (c.toNat : Int)) = false := decide_eq_false q48
        have q57 : (c.toNat : Int) ≤ 57 := by omega
        have d57 : decide ((c.toNat : Int) ≤ 57) = true := decide_eq_true q57
        have q46 : ¬ (c.toNat : Int) = 46 := by omega
        have d46 : ((c.toNat : Int) == 46) = false := by rw [beq_eq_false_iff_ne]; exact q46
        have q45 : ¬ (c.toNat : Int) = 45 := by omega
        have d45 : ((c.toNat : Int) == 45) = false := by rw [beq_eq_false_iff_ne]; exact q45
        have q43 : (c.toNat : Int) = 43 := by omega
        have d43 : ((c.toNat : Int) == 43) = true := by simp [q43]
        clear q43
        have q37 : ¬ (c.toNat : Int) = 37 := by omega
        have d37 : ((c.toNat : Int) == 37) = false := by rw [beq_eq_false_iff_ne]; exact q37
        have q32 : ¬ (c.toNat : Int) = 32 := by omega
        have d32 : ((c.toNat : Int) == 32) = false := by rw [beq_eq_false_iff_ne]; exact q32
        clear HA2 h1 h2 hcc
        go_wp2_with fail
        go_round
        case rel => exact ⟨k + 1, by go_num, by omega, HA3⟩
        case measure => simp [intOf]; omega
      · have HA3 : Hid (B = false) := Lib.hid (by rw [HA2.out, asc_no (by unfold AscP; omega), Bool.false_and])
        have q97 : ¬ (97 : Int) ≤ (c.toNat : Int) := by omega
        have d97 : decide ((97 : Int) ≤ (c.toNat : Int)) = false := decide_eq_false q97
        have q122 : (c.toNat : Int) ≤ 122 := by omega
        have d122 : decide ((c.toNat : Int) ≤ 122) = true := decide_eq_true q122
        have q65 : ¬ (65 : Int) ≤ (c.toNat : Int) := by omega
        have d65 : decide ((65 : Int) ≤ (c.toNat : Int)) = false := decide_eq_false q65
        have q90 : (c.toNat : Int) ≤ 90 := by omega
        have d90 : decide ((c.toNat : Int) ≤ 90) = true := decide_eq_true q90
        have q48 : ¬ (48 : Int) ≤ (c.toNat : Int) := by omega
        have d48 : decide ((48 : Int) ≤ (c.toNat : Int)) = false := decide_eq_false q48
        have q57 : (c.toNat : Int) ≤ 57 := by omega
        have d57 : decide ((c.toNat : Int) ≤ 57) = true := decide_eq_true q57
        have q46 : ¬ (c.toNat : Int) = 46 := by omega
        have d46 : ((c.toNat : Int) == 46) = false := by rw [beq_eq_false_iff_ne]; exact q46
        have q45 : ¬ (c.toNat : Int) = 45 := by omega
        have d45 : ((c.toNat : Int) == 45) = false := by rw [beq_eq_false_iff_ne]; exact q45
        have q43 : ¬ (c.toNat : Int) = 43 := by omega
        have d43 : ((c.toNat : Int) == 43) = false := by rw [beq_eq_false_iff_ne]; exact q43
        have q37 : ¬ (c.toNat : Int) = 37 := by omega
        have d37 : ((c.toNat : Int) == 37) = false := by rw [beq_eq_false_iff_ne]; exact q37
        have q32 : ¬ (c.toNat : Int) = 32 := by omega
        have d32 : ((c.toNat : Int) == 32) = false := by rw [beq_eq_false_iff_ne]; exact q32
        clear HA2 h1 h2 hcc
        go_wp2_with fail
        go_ret
        exact ⟨ret_bool HA3.out.symm, rfl⟩
      · have HA3 : Hid (B = (s.drop (k + 1)).all S.asc) := Lib.hid (by rw [HA2.out, (asc_iff c).2 (by unfold AscP; omega), Bool.true_and])
        have q97 : ¬ (97 : Int) ≤ (c.toNat : Int) := by omega
        have d97 : decide ((97 : Int) ≤ (c.toNat : Int)) = false := decide_eq_false q97
        have q122 : (c.toNat : Int) ≤ 122 := by omega
        have d122 : decide ((c.toNat : Int) ≤ 122) = true := decide_eq_true q122
        have q65 : ¬ (65 : Int) ≤ (c.toNat : Int) := by omega
        have d65 : decide ((65 : Int) ≤ (c.toNat : Int)) = false := decide_eq_false q65
        have q90 : (c.toNat : Int) ≤ 90 := by omega
        have d90 : decide ((c.toNat : Int) ≤ 90) = true := decide_eq_true q90
        have q48 : ¬ (48 : Int) ≤ (c.toNat : Int) := by omega
        have d48 : decide ((48 : Int) ≤ (c.toNat : Int)) = false := decide_eq_false q48
        have q57 : (c.toNat : Int) ≤ 57 := by omega
        have d57 : decide ((c.toNat : Int) ≤ 57) = true := decide_eq_true q57
        have q46 : ¬ (c.toNat : Int) = 46 := by omega
        have d46 : ((c.toNat : Int) == 46) = false := by rw [beq_eq_false_iff_ne]; exact q46
        have q45 : (c.toNat : Int) = 45 := by omega
        have d45 : ((c.toNat : Int) == 45) = true := by simp [q45]
        clear q45
        have q43 : ¬ (c.toNat : Int) = 43 := by omega
        have d43 : ((c.toNat : Int) == 43) = false := by rw [beq_eq_false_iff_ne]; exact q43
        have q37 : ¬ (c.toNat : Int) = 37 := by omega
        have d37 : ((c.toNat : Int) == 37) = false := by rw [beq_eq_false_iff_ne]; exact q37
        have q32 : ¬ (c.toNat : Int) = 32 := by omega
        have d32 : ((c.toNat : Int) == 32) = false := by rw [beq_eq_false_iff_ne]; exact q32
        clear HA2 h1 h2 hcc
        go_wp2_with fail
        go_round
        case rel => exact ⟨k + 1, by go_num, by omega, HA3⟩
        case measure => simp [intOf]; omega
      · have HA3 : Hid (B = (s.drop (k + 1)).all S.asc) := Lib.hid (by rw [HA2.out, (asc_iff c).2 (by unfold AscP; omega), Bool.true_and])
        have q97 : ¬ (97 : Int) ≤ (c.toNat : Int) := by omega
        have d97 : decide ((97 : Int) ≤ (c.toNat : Int)) = false := decide_eq_false q97
        have q122 : (c.toNat : Int) ≤ 122 := by omega
        have d122 : decide ((c.toNat : Int) ≤ 122) = true := decide_eq_true q122
        have q65 : ¬ (65 : Int) ≤ (c.toNat : Int) := by omega
        have d65 : decide ((65 : Int) ≤ (c.toNat : Int)) = false := decide_eq_false q65
        have q90 : (c.toNat : Int) ≤ 90 := by omega
        have d90 : decide ((c.toNat : Int) ≤ 90) = true := decide_eq_true q90
        have q48 : ¬ (48 : Int) ≤ (c.toNat : Int) := by omega
        have d48 : decide ((48 : Int) ≤ (c.toNat : Int)) = false := decide_eq_false q48
        have q57 : (c.toNat : Int) ≤ 57 := by omega
        have d57 : decide ((c.toNat : Int) ≤ 57) = true := decide_eq_true q57
        have q46 : (c.toNat : Int) = 46 := by omega
        have d46 : ((c.toNat : Int) == 46) = true := by simp [q46]
        clear q46
        have q45 : ¬ (c.toNat : Int) = 45 := by omega
        have d45 : ((c.toNat : Int) == 45) = false := by rw [beq_eq_false_iff_ne]; exact q45
        have q43 : ¬ (c.toNat : Int) = 43 := by omega
        have d43 : ((c.toNat : Int) == 43) = false := by rw [beq_eq_false_iff_ne]; exact q43
        have q37 : ¬ (c.toNat : Int) = 37 := by omega
        have d37 : ((c.toNat : Int) == 37) = false := by rw [beq_eq_false_iff_ne]; exact q37
        have q32 : ¬ (c.toNat : Int) = 32 := by omega
        have d32 : ((c.toNat : Int) == 32) = false := by rw [beq_eq_false_iff_ne]; exact q32
        clear HA2 h1 h2 hcc
        go_wp2_with fail
        go_round
        case rel => exact ⟨k + 1, by go_num, by omega, HA3⟩
        case measure => simp [intOf]; omega
      · have HA3 : Hid (B = false) := Lib.hid (by rw [HA2.out, asc_no (by unfold AscP; omega), Bool.false_and])
        have q97 : ¬ (97 : Int) ≤ (c.toNat : Int) := by omega
        have d97 : decide ((97 : Int) ≤ (c.toNat : Int)) = false := decide_eq_false q97
        have q122 : (c.toNat : Int) ≤ 122 := by omega
        have d122 : decide ((c.toNat : Int) ≤ 122) = true := decide_eq_true q122
        have q65 : ¬ (65 : Int) ≤ (c.toNat : Int) := by omega
        have d65 : decide ((65 : Int) ≤ (c.toNat : Int)) = false := decide_eq_false q65
        have q90 : (c.toNat : Int) ≤ 90 := by omega
        have d90 : decide ((c.toNat : Int) ≤ 90) = true := decide_eq_true q90
        have q48 : ¬ (48 : Int) ≤ (c.toNat : Int) := by omega
        have d48 : decide ((48 : Int) ≤ (c.toNat : Int)) = false := decide_eq_false q48
        have q57 : (c.toNat : Int) ≤ 57 := by omega
        have d57 : decide ((c.toNat : Int) ≤ 57) = true := decide_eq_true q57
        have q46 : ¬ (c.toNat : Int) = 46 := by omega
        have d46 : ((c.toNat : Int) == 46) = false := by rw [beq_eq_false_iff_ne]; exact q46
        have q45 : ¬ (c.toNat : Int) = 45 := by omega
        have d45 : ((c.toNat : Int) == 45) = false := by rw [beq_eq_false_iff_ne]; exact q45
        have q43 : ¬ (c.toNat : Int) = 43 := by omega
        have d43 : ((c.toNat : Int) == 43) = false := by rw [beq_eq_false_iff_ne]; exact q43
        have q37 : ¬ (c.toNat : Int) = 37 := by omega
        have d37 : ((c.toNat : Int) == 37) = false := by rw [beq_eq_false_iff_ne]; exact q37
        have q32 : ¬ (c.toNat : Int) = 32 := by omega
        have d32 : ((c.toNat : Int) == 32) = false := by rw [beq_eq_false_iff_ne]; exact q32
        clear HA2 h1 h2 hcc
        go_wp2_with fail
        go_ret
        exact ⟨ret_bool HA3.out.symm, rfl⟩
      · have HA3 : Hid (B = (s.drop (k + 1)).all S.asc) := Lib.hid (by rw [HA2.out, (asc_iff c).2 (by unfold AscP; omega), Bool.true_and])
        have q97 : ¬ (97 : Int) ≤ (c.toNat : Int) := by omega
        have d97 : decide ((97 : Int) ≤ (c.toNat : Int)) = false := decide_eq_false q97
        have q122 : (c.toNat : Int) ≤ 122 := by omega
        have d122 : decide ((c.toNat : Int) ≤ 122) = true := decide_eq_true q122
        have q65 : ¬ (65 : Int) ≤ (c.toNat : Int) := by omega
        have d65 : decide ((65 : Int) ≤ (c.toNat : Int)) = false := decide_eq_false q65
        have q90 : (c.toNat : Int) ≤ 90 := by omega
        have d90 : decide ((c.toNat : Int) ≤ 90) = true := decide_eq_true q90
        have q48 : (48 : Int) ≤ (c.toNat : Int) := by omega
        have d48 : decide ((48 : Int) ≤ (c.toNat : Int)) = true := decide_eq_true q48
        have q57 : (c.toNat : Int) ≤ 57 := by omega
        have d57 : decide ((c.toNat : Int) ≤ 57) = true := decide_eq_true q57
        have q46 : ¬ (c.toNat : Int) = 46 := by omega
        have d46 : ((c.toNat : Int) == 46) = false := by rw [beq_eq_false_iff_ne]; exact q46
        have q45 : ¬ (c.toNat : Int) = 45 := by omega
        have d45 : ((c.toNat : Int) == 45) = false := by rw [beq_eq_false_iff_ne]; exact q45
        have q43 : ¬ (c.toNat : Int) = 43 := by omega
        have d43 : ((c.toNat : Int) == 43) = false := by rw [beq_eq_false_iff_ne]; exact q43
        have q37 : ¬ (c.toNat : Int) = 37 := by omega
        have d37 : ((c.toNat : Int) == 37) = false := by rw [beq_eq_false_iff_ne]; exact q37
        have q32 : ¬ (c.toNat : Int) = 32 := by omega
        have d32 : ((c.toNat : Int) == 32) = false := by rw [beq_eq_false_iff_ne]; exact q32
        clear HA2 h1 h2 hcc
        go_wp2_with fail
        go_round
        case rel => exact ⟨k + 1, by go_num, by omega, HA3⟩
        case measure => simp [intOf]; omega
      · have HA3 : Hid (B = false) := Lib.hid (by rw [HA2.out, asc_no (by unfold AscP; omega), Bool.false_and])
        have q97 : ¬ (97 : Int) ≤ (c.toNat : Int) := by omega
        have d97 : decide ((97 : Int) ≤ (c.toNat : Int)) = false := decide_eq_false q97
        have q122 : (c.toNat : Int) ≤ 122 := by omega
        have d122 : decide ((c.toNat : Int) ≤ 122) = true := decide_eq_true q122
        have q65 : ¬ (65 : Int) ≤ (c.toNat : Int) := by omega
        have d65 : decide ((65 : Int) ≤ (c.toNat : Int)) = false := decide_eq_false q65
        have q90 : (c.toNat : Int) ≤ 90 := by omega
        have d90 : decide ((c.toNat : Int) ≤ 90) = true := decide_eq_true q90
        have q48 : (48 : Int) ≤ (c.toNat : Int) := by omega
        have d48 : decide ((48 : Int) ≤ (c.toNat : Int)) = true := decide_eq_true q48
        have q57 : ¬ (c.toNat : Int) ≤ 57 := by omega
        have d57 : decide ((c.toNat : Int) ≤ 57) = false := decide_eq_false q57
        have q46 : ¬ (c.toNat : Int) = 46 := by omega
        have d46 : ((c.toNat : Int) == 46) = false := by rw [beq_eq_false_iff_ne]; exact q46
        have q45 : ¬ (c.toNat : Int) = 45 := by omega
        have d45 : ((c.toNat : Int) == 45) = false := by rw [beq_eq_false_iff_ne]; exact q45
        have q43 : ¬ (c.toNat : Int) = 43 := by omega
        have d43 : ((c.toNat : Int) == 43) = false := by rw [beq_eq_false_iff_ne]; exact q43
        have q37 : ¬ (c.toNat : Int) = 37 := by omega
        have d37 : ((c.toNat : Int) == 37) = false := by rw [beq_eq_false_iff_ne]; exact q37
        have q32 : ¬ (c.toNat : Int) = 32 := by omega
        have d32 : ((c.toNat : Int) == 32) = false := by rw [beq_eq_false_iff_ne]; exact q32
        clear HA2 h1 h2 hcc
        go_wp2_with fail
        go_ret
        exact ⟨ret_bool HA3.out.symm, rfl⟩
      · have HA3 : Hid (B = (s.drop (k + 1)).all S.asc) := Lib.hid (by rw [HA2.out, (asc_iff c).2 (by unfold AscP; omega), Bool.true_and])
        have q97 : ¬ (97 : Int) ≤ (c.toNat : Int) := by omega
        have d97 : decide ((97 : Int) ≤ (c.toNat : Int)) = false := decide_eq_false q97
        have q122 : (c.toNat : Int) ≤ 122 := by omega
        have d122 : decide ((c.toNat : Int) ≤ 122) = true := decide_eq_true q122
        have q65 : (65 : Int) ≤ (c.toNat : Int) := by omega
        have d65 : decide ((65 : Int) ≤ (c.toNat : Int)) = true := decide_eq_true q65
        have q90 : (c.toNat : Int) ≤ 90 := by omega
        have d90 : decide ((c.toNat : Int) ≤ 90) = true := decide_eq_true q90
        have q48 : (48 : Int) ≤ (c.toNat : Int) := by omega
        have d48 : decide ((48 : Int) ≤ (c.toNat : Int)) = true := decide_eq_true q48
        have q57 : ¬ (c.toNat : Int) ≤ 57 := by omega
        have d57 : decide ((c.toNat : Int) ≤ 57) = false := decide_eq_false q57
        have q46 : ¬ (c.toNat : Int) = 46 := by omega
        have d46 : ((c.toNat : Int) == 46) = false := by rw [beq_eq_false_iff_ne]; exact q46
        have q45 : ¬ (c.toNat : Int) = 45 := by omega
        have d45 : ((c.toNat : Int) == 45) = false := by rw [beq_eq_false_iff_ne]; exact q45
        have q43 : ¬ (c.toNat : Int) = 43 := by omega
        have d43 : ((c.toNat : Int) == 43) = false := by rw [beq_eq_false_iff_ne]; exact q43
        have q37 : ¬ (c.toNat : Int) = 37 := by omega
        have d37 : ((c.toNat : Int) == 37) = false := by rw [beq_eq_false_iff_ne]; exact q37
        have q32 : ¬ (c.toNat : Int) = 32 := by omega
        have d32 : ((c.toNat : Int) == 32) = false := by rw [beq_eq_false_iff_ne]; exact q32
        clear HA2 h1 h2 hcc
        go_wp2_with fail
        go_round
        case rel => exact ⟨k + 1, by go_num, by omega, HA3⟩
        case measure => simp [intOf]; omega
      · have HA3 : Hid (B = false) := Lib.hid (by rw [HA2.out, asc_no (by unfold AscP; omega), Bool.false_and])
        have q97 : ¬ (97 : Int) ≤ (c.toNat : Int) := by omega
        have d97 : decide ((97 : Int) ≤ (c.toNat : Int)) = false := decide_eq_false q97
        have q122 : (c.toNat : Int) ≤ 122 := by omega
        have d122 : decide ((c.toNat : Int) ≤ 122) = true := decide_eq_true q122
        have q65 : (65 : Int) ≤ (c.toNat : Int) := by omega
        have d65 : decide ((65 : Int) ≤ (c.toNat : Int)) = true := decide_eq_true q65
        have q90 : ¬ (c.toNat : Int) ≤ 90 := by omega
        have d90 : decide ((c.toNat : Int) ≤ 90) = false := decide_eq_false q90
        have q48 : (48 : Int) ≤ (c.toNat : Int) := by omega
        have d48 : decide ((48 : Int) ≤ (c.toNat : Int)) = true := decide_eq_true q48
        have q57 : ¬ (c.toNat : Int) ≤ 57 := by omega
        have d57 : decide ((c.toNat : Int) ≤ 57) = false := decide_eq_false q57
        have q46 : ¬ (c.toNat : Int) = 46 := by omega
        have d46 : ((c.toNat : Int) == 46) = false := by rw [beq_eq_false_iff_ne]; exact q46
        have q45 : ¬ (c.toNat : Int) = 45 := by omega
        have d45 : ((c.toNat : Int) == 45) = false := by rw [beq_eq_false_iff_ne]; exact q45
        have q43 : ¬ (c.toNat : Int) = 43 := by omega
        have d43 : ((c.toNat : Int) == 43) = false := by rw [beq_eq_false_iff_ne]; exact q43
        have q37 : ¬ (c.toNat : Int) = 37 := by omega
        have d37 : ((c.toNat : Int) == 37) = false := by rw [beq_eq_false_iff_ne]; exact q37
        have q32 : ¬ (c.toNat : Int) = 32 := by omega
        have d32 : ((c.toNat : Int) == 32) = false := by rw [beq_eq_false_iff_ne]; exact q32
        clear HA2 h1 h2 hcc
        go_wp2_with fail
        go_ret
        exact ⟨ret_bool HA3.out.symm, rfl⟩
      · have HA3 : Hid (B = (s.drop (k + 1)).all S.asc) := Lib.hid (by rw [HA2.out, (asc_iff c).2 (by unfold AscP; omega), Bool.true_and])
        have q97 : (97 : Int) ≤ (c.toNat : Int) := by omega
        have d97 : decide ((97 : Int) ≤ (c.toNat : Int)) = true := decide_eq_true q97
        have q122 : (c.toNat : Int) ≤ 122 := by omega
        have d122 : decide ((c.toNat : Int) ≤ 122) = true := decide_eq_true q122
        have q65 : (65 : Int) ≤ (c.toNat : Int) := by omega
        have d65 : decide ((65 : Int) ≤ (c.toNat : Int)) = true := decide_eq_true q65
        have q90 : ¬ (c.toNat : Int) ≤ 90 := by omega
        have d90 : decide ((c.toNat : Int) ≤ 90) = false := decide_eq_false q90
        have q48 : (48 : Int) ≤ (c.toNat : Int) := by omega
        have d48 : decide ((48 : Int) ≤ (c.toNat : Int)) = true := decide_eq_true q48
        have q57 : ¬ (c.toNat : Int) ≤ 57 := by omega
        have d57 : decide ((c.toNat : Int) ≤ 57) = false := decide_eq_false q57
        have q46 : ¬ (c.toNat : Int) = 46 := by omega
        have d46 : ((c.toNat : Int) == 46) = false := by rw [beq_eq_false_iff_ne]; exact q46
        have q45 : ¬ (c.toNat : Int) = 45 := by omega
        have d45 : ((c.toNat : Int) == 45) = false := by rw [beq_eq_false_iff_ne]; exact q45
        have q43 : ¬ (c.toNat : Int) = 43 := by omega
        have d43 : ((c.toNat : Int) == 43) = false := by rw [beq_eq_false_iff_ne]; exact q43
        have q37 : ¬ (c.toNat : Int) = 37 := by omega
        have d37 : ((c.toNat : Int) == 37) = false := by rw [beq_eq_false_iff_ne]; exact q37
        have q32 : ¬ (c.toNat : Int) = 32 := by omega
        have d32 : ((c.toNat : Int) == 32) = false := by rw [beq_eq_false_iff_ne]; exact q32
        clear HA2 h1 h2 hcc
        go_wp2_with fail
        go_round
        case rel => exact ⟨k + 1, by go_num, by omega, HA3⟩
        case measure => simp [intOf]; omega
      · have HA3 : Hid (B = false) := Lib.hid (by rw [HA2.out, asc_no (by unfold AscP; omega), Bool.false_and])
        have q97 : (97 : Int) ≤ (c.toNat : Int) := by omega
        have d97 : decide ((97 : Int) ≤ (c.toNat : Int)) = true := decide_eq_true q97
        have q122 : ¬ (c.toNat : Int) ≤ 122 := by omega
        have d122 : decide ((c.toNat : Int) ≤ 122) = false := decide_eq_false q122
        have q65 : (65 : Int) ≤ (c.toNat : Int) := by omega
        have d65 : decide ((65 : Int) ≤ (c.toNat : Int)) = true := decide_eq_true q65
        have q90 : ¬ (c.toNat : Int) ≤ 90 := by omega
        have d90 : decide ((c.toNat : Int) ≤ 90) = false := decide_eq_false q90
        have q48 : (48 : Int) ≤ (c.toNat : Int) := by omega
        have d48 : decide ((48 : Int) ≤ (c.toNat : Int)) = true := decide_eq_true q48
        have q57 : ¬ (c.toNat : Int) ≤ 57 := by omega
        have d57 : decide ((c.toNat : Int) ≤ 57) = false := decide_eq_false q57
        have q46 : ¬ (c.toNat : Int) = 46 := by omega
        have d46 : ((c.toNat : Int) == 46) = false := by rw [beq_eq_false_iff_ne]; exact q46
        have q45 : ¬ (c.toNat : Int) = 45 := by omega
        have d45 : ((c.toNat : Int) == 45) = false := by rw [beq_eq_false_iff_ne]; exact q45
        have q43 : ¬ (c.toNat : Int) = 43 := by omega
        have d43 : ((c.toNat : Int) == 43) = false := by rw [beq_eq_false_iff_ne]; exact q43
        have q37 : ¬ (c.toNat : Int) = 37 := by omega
        have d37 : ((c.toNat : Int) == 37) = false := by rw [beq_eq_false_iff_ne]; exact q37
        have q32 : ¬ (c.toNat : Int) = 32 := by omega
        have d32 : ((c.toNat : Int) == 32) = false := by rw [beq_eq_false_iff_ne]; exact q32
        clear HA2 h1 h2 hcc
        go_wp2_with fail
        go_ret
        exact ⟨ret_bool HA3.out.symm, rfl⟩
    · have hlI : ¬ (k : Int) < (s.length : Int) := by omega
      have HA3 : Hid (B = true) := Lib.hid (by rw [HA.out, List.drop_eq_nil_of_le (by omega)]; rfl)
      clear HA
      go_wp2_with fail
      go_ret
      exact ⟨ret_bool HA3.out.symm, rfl⟩

end Y
end Go.Proofs.YtafkeolpadfjfaaGreatDoor
