/- What the reference's Collapse comes to. -/
import Derived.Test.YtlklkbhopdneaaaDoorTrim
set_option linter.unusedVariables false
set_option linter.unusedSimpArgs false
namespace Go.Proofs.YtlklkbhopdneaaaDoor
open Go.RowKit
namespace T

/-- Was the byte before place k white space? -/
def prevSp (s : ByteArray) : Nat → Bool
  | 0 => false
  | k + 1 => sp (s.data.toList.getD k 0)

theorem prevSp_at (s : ByteArray) (k : Nat) (h : k < s.size) : prevSp s (k + 1) = sp s[k] := by
  have e : s.data.toList.getD k 0 = s[k] := by
    have h' : k < s.data.toList.length := by simpa using h
    rw [List.getD, List.getElem?_eq_getElem h']; rfl
  show sp (s.data.toList.getD k 0) = sp s[k]
  rw [e]

def ClRel (s : ByteArray) (o i : Value) : Prop :=
  ∃ (k : Nat) (acc : List UInt8), k ≤ s.size ∧ i = .int .i64 k ∧ o = .string ⟨acc.toArray⟩ ∧ Hid (acc ++ coll (prevSp s k) (s.data.toList.drop k) = coll false s.data.toList) ∧ acc.length ≤ k

set_option maxHeartbeats 600000 in
set_option maxRecDepth 100000 in
theorem refCollapse (s : ByteArray) (w : World) (hs : s.size ≤ 100000) :
    Calls Tryd.prog 29 #[.string s] w fun e w' => e = .returned (.string ⟨(coll false s.data.toList).toArray⟩) ∧ w = w' := by
  go_enter Tryd.func29, Tryd.ntmps29
  go_wp2_with fail
  go_loop [3, 4] (fun o i => ClRel s o i) (fun _ i => s.size - (intOf i).toNat)
  case atStart => exact ⟨0, [], Nat.zero_le _, rfl, rfl, Lib.hid rfl, Nat.zero_le _⟩
  case round =>
    obtain ⟨k, acc, hk, rfl, rfl, HA, hal⟩ := hrel
    by_cases hlt : k < s.size
    · have HD := Lib.hid (drop_cons s k hlt)
      have HP := Lib.hid (prevSp_at s k hlt)
      have hkm : k + 1 ≤ s.size := by omega
      have hkm' : (k : Int) + 1 ≤ (s.size : Int) := by omega
      cases hsp : sp s[k] with
      | false =>
        have hex : s.extract k (k + 1) = ⟨[s[k]].toArray⟩ := by
          rw [extract_eq s k 1 hkm, HD.out]; rfl
        have hexs : (s.extract k (k + 1)).size = 1 := by rw [hex]; rfl
        have zz : ((⟨acc.toArray⟩ : ByteArray).size : Int) + ((s.extract k (k + 1)).size : Int) ≤ 1000000 := by rw [bytes_size, hexs]; omega
        have hab : (⟨acc.toArray⟩ : ByteArray) ++ s.extract k (k + 1) = ⟨(acc ++ [s[k]]).toArray⟩ := by rw [hex, append_bytes]
        have HAB := Lib.hid hab
        have hc := fun W => refSpace s[k] W
        rw [hsp] at hc
        have HC := Lib.hid hc
        have HSP := Lib.hid hsp
        clear hab hexs hex hc hsp
        go_wp2_with (go_at_call 24; refine (HC.out _).mono ?_; rintro e w' ⟨rfl, rfl⟩)
        go_round
        case rel =>
          refine ⟨k + 1, acc ++ [s[k]], by omega, by go_num, congrArg Value.string HAB.out, Lib.hid ?_, by simp; omega⟩
          have h3 := HA.out
          rw [HD.out] at h3
          rw [← h3, HP.out, HSP.out]
          simp [coll, HSP.out]
        case measure => simp [intOf]; omega
      | true =>
        have hc := fun W => refSpace s[k] W
        rw [hsp] at hc
        have HC := Lib.hid hc
        have HSP := Lib.hid hsp
        clear hc hsp hkm'
        cases k with
        | zero =>
          have HAL := Lib.hid hal
          have zz : ((⟨acc.toArray⟩ : ByteArray).size : Int) + 1 ≤ 1000000 := by rw [bytes_size]; omega
          go_wp2_with (go_at_call 24; refine (HC.out _).mono ?_; rintro e w' ⟨rfl, rfl⟩)
          go_round
          case rel =>
            refine ⟨0 + 1, acc ++ [32], by omega, by go_num, congrArg Value.string (append_bytes acc [32]), Lib.hid ?_, by have := HAL.out; simp only [List.length_append, List.length_singleton]; omega⟩
            have h3 := HA.out
            rw [HD.out] at h3
            rw [← h3, HP.out, HSP.out]
            simp [coll, HSP.out, prevSp]
          case measure => simp [intOf]; omega
        | succ j =>
          have hj : j < s.size := by omega
          have HPj := Lib.hid (prevSp_at s j hj)
          have t0 : (((j + 1 : Nat) : Int) == 0) = false := by simp; omega
          cases hp : sp s[j] with
          | true =>
            have hc2 := fun W => refSpace s[j] W
            rw [hp] at hc2
            have HC2 := Lib.hid hc2
            have HPP := Lib.hid hp
            clear hc2 hp
            go_wp2_with fail
            have h1 := HC.out w
            refine Calls.mono h1 ?_
            clear h1
            rintro e w' ⟨rfl, rfl⟩
            go_wp2_with fail
            have h1 := HC2.out w
            refine Calls.mono h1 ?_
            clear h1
            rintro e w' ⟨rfl, rfl⟩
            go_wp2_with fail
            go_round
            case rel =>
              refine ⟨j + 1 + 1, acc, by omega, by go_num, rfl, Lib.hid ?_, by omega⟩
              have h3 := HA.out
              rw [HD.out, HPj.out, HPP.out] at h3
              rw [← h3, HP.out, HSP.out]
              simp [coll, HSP.out]
            case measure => simp [intOf]; omega
          | false =>
            have hc2 := fun W => refSpace s[j] W
            rw [hp] at hc2
            have HC2 := Lib.hid hc2
            have HPP := Lib.hid hp
            clear hc2 hp
            go_wp2_with fail
            have h1 := HC.out w
            refine Calls.mono h1 ?_
            clear h1
            rintro e w' ⟨rfl, rfl⟩
            go_wp2_with fail
            have h1 := HC2.out w
            refine Calls.mono h1 ?_
            clear h1
            rintro e w' ⟨rfl, rfl⟩
            have zz : ((⟨acc.toArray⟩ : ByteArray).size : Int) + 1 ≤ 1000000 := by rw [bytes_size]; omega
            go_wp2_with fail
            go_round
            case rel =>
              refine ⟨j + 1 + 1, acc ++ [32], by omega, by go_num, congrArg Value.string (append_bytes acc [32]), Lib.hid ?_, by simp; omega⟩
              have h3 := HA.out
              rw [HD.out, HPj.out, HPP.out] at h3
              rw [← h3, HP.out, HSP.out]
              simp [coll, HSP.out]
            case measure => simp [intOf]; omega
    · have h3 := HA.out
      rw [drop_end s k hlt] at h3
      have h4 : acc = coll false s.data.toList := by simpa [coll] using h3
      have H4 := Lib.hid h4
      clear h3 h4
      go_wp2_with fail
      go_ret
      exact ⟨ret_str (congrArg (fun l : List UInt8 => (⟨l.toArray⟩ : ByteArray)) H4.out), rfl⟩

end T
end Go.Proofs.YtlklkbhopdneaaaDoor
