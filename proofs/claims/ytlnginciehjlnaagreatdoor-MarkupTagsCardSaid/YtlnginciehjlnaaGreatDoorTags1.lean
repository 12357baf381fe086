/- What plain of the statements on markup comes to. -/
import Derived.Test.YtlnginciehjlnaaGreatDoorRaw
set_option linter.unusedVariables false
set_option linter.unusedSimpArgs false
namespace Go.Proofs.YtlnginciehjlnaaGreatDoor
open Go.RowKit
namespace K

theorem belowN {B : Nat} {w w' : World} (h : Below B w w') (n : Nat) : Below B w (w'.drewN n) := ⟨h.os, h.tape, h.output, h.size, h.block⟩

def smallC (c : UInt8) : Bool := decide (97 ≤ c.toNat) && decide (c.toNat ≤ 122)
/-- One to twenty small letters. -/
def plainB (s : List UInt8) : Bool := s.all smallC && (decide (0 < s.length) && decide (s.length ≤ 20))

set_option maxHeartbeats 1000000 in
theorem lplain (s : List UInt8) (w : World) (hs : s.length ≤ 140737488351232) :
    Calls Tryz.prog 14 #[.string ⟨s.toArray⟩] w fun e w' => e = .returned (.bool (plainB s)) ∧ w = w' := by
  have HP : Hid (plainB s = (s.all smallC && (decide (0 < s.length) && decide (s.length ≤ 20)))) := Lib.hid rfl
  generalize plainB s = R at *
  go_enter Tryz.func14, Tryz.ntmps14
  go_wp2_with fail
  go_loopw [3] (fun u wr => ∃ k : Nat, u = .int .i64 k ∧ k ≤ s.length ∧ w = wr ∧ Hid (s.all smallC = (s.drop k).all smallC)) (fun u _ => s.length - (intOf u).toNat)
  case atStart => exact ⟨0, rfl, Nat.zero_le _, rfl, Lib.hid rfl⟩
  case round =>
    obtain ⟨k, rfl, hk, rfl, HK⟩ := hrel
    by_cases hlt : k < s.length
    · have hlt1 : (k : Int) < (s.length : Int) := by omega
      obtain ⟨c, r, hd⟩ := drop_cons hlt
      have hix := at_drop hd (by rw [T.bytes_size]; exact hlt)
      have hc := c.toNat_lt
      by_cases h1 : c.toNat < 97
      · have g1 : (c.toNat : Int) < 97 := by omega
        have HV : Hid (R = false) := Lib.hid (by
          rw [HP.out, HK.out, hd, List.all_cons]
          have : smallC c = false := by unfold smallC; rw [decide_eq_false (by omega)]; rfl
          rw [this]; rfl)
        clear HK hd h1
        go_wp2_with fail
        go_ret
        rw [HV.out]
        exact ⟨rfl, rfl⟩
      · have g1 : 97 ≤ (c.toNat : Int) := by omega
        by_cases h2 : 122 < c.toNat
        · have g2 : 122 < (c.toNat : Int) := by omega
          have HV : Hid (R = false) := Lib.hid (by
            rw [HP.out, HK.out, hd, List.all_cons]
            have : smallC c = false := by unfold smallC; rw [decide_eq_false (p := c.toNat ≤ 122) (by omega), Bool.and_false]
            rw [this]; rfl)
          clear HK hd h1 h2
          go_wp2_with fail
          go_ret
          rw [HV.out]
          exact ⟨rfl, rfl⟩
        · have g2 : (c.toNat : Int) ≤ 122 := by omega
          have HK' : Hid (s.all smallC = (s.drop (k + 1)).all smallC) := Lib.hid (by
            rw [HK.out, hd, drop_more hd, List.all_cons]
            have : smallC c = true := by unfold smallC; rw [decide_eq_true (by omega), decide_eq_true (by omega)]; rfl
            rw [this]; rfl)
          clear HK hd h1 h2
          go_wp2_with fail
          go_roundw
          case rel => exact ⟨k + 1, by go_num, by omega, trivial, HK'⟩
          case measure => simp [intOf]; omega
    · have hge : (s.length : Int) ≤ (k : Int) := by omega
      have HA : Hid (R = (decide (0 < s.length) && decide (s.length ≤ 20))) := Lib.hid (by
        rw [HP.out, HK.out, List.drop_eq_nil_of_le (by omega)]; rfl)
      clear HK HP hlt
      by_cases h0 : 0 < s.length
      · have h01 : 0 < (s.length : Int) := by omega
        have HV : Hid (R = decide ((s.length : Int) ≤ 20)) := Lib.hid (by
          rw [HA.out, decide_eq_true h0, Bool.true_and]; congr 1; simp; omega)
        clear HA
        go_wp2_with fail
        go_ret
        rw [HV.out]
        exact ⟨rfl, rfl⟩
      · have h01 : (s.length : Int) = 0 := by omega
        have h02 : (s.length : Int) ≤ 0 := by omega
        have HV : Hid (R = false) := Lib.hid (by
          rw [HA.out, decide_eq_false h0]; rfl)
        clear HA h01
        go_wp2_with fail
        go_ret
        rw [HV.out]
        exact ⟨rfl, rfl⟩

end K
end Go.Proofs.YtlnginciehjlnaaGreatDoor
