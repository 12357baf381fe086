/- What the reference's Lower and Upper come to; the statement TextCases: it returns true at every string. -/
import Derived.Test.YtafkeolpadfjfaaGreatDoorCases
set_option linter.unusedVariables false
set_option linter.unusedSimpArgs false
namespace Go.Proofs.YtafkeolpadfjfaaGreatDoor
open Go.RowKit
namespace T

set_option maxHeartbeats 1000000 in
set_option maxRecDepth 100000 in
theorem refLower (s : ByteArray) (w : World) (hs : s.size ≤ 140737488351232) :
    Calls Tryz.prog 18 #[.string s] w fun e w' => e = .returned (.string ⟨(s.data.toList.map low).toArray⟩) ∧ Below w.heap.size w w' := by
  obtain ⟨cap, W1, hconv, hR0, hB0⟩ := bytes_of s w
  have H0 := Lib.hid hR0
  clear hR0
  go_enter Tryz.func18, Tryz.ntmps18
  go_wp2_with fail
  clear hconv
  go_loopw [4] (fun i wr => MapRel low s w i wr) (fun i _ => s.size - (intOf i).toNat)
  case atStart => exact ⟨0, Nat.zero_le _, rfl, by simpa [mp] using H0.out, hB0⟩
  case round =>
    obtain ⟨k, hk, rfl, hR, hB⟩ := hrel
    have HR := Lib.hid hR
    clear hR
    by_cases hlt : k < s.size
    · have hl : k < s.data.toList.length := by simpa using hlt
      have hc := HR.out.1 k (by rw [mp_length]; exact hl)
      rw [mp_at low k _ hl] at hc
      have hf := HR.out.2 k (by rw [mp_length]; exact hl)
      have hb := (s.data.toList[k]).toNat_lt
      generalize hx : s.data.toList[k] = x at *
      have HX := Lib.hid hx
      clear hx
      by_cases h1 : 65 ≤ (x.toNat : Int)
      · by_cases h2 : (x.toNat : Int) ≤ 90
        · have HE := Lib.hid (low_in x h1 h2)
          go_wp2_with fail
          go_roundw
          case rel =>
            refine ⟨k + 1, by omega, by go_num, ?_, hB.setCell (p := ⟨w.heap.size, k, none⟩) (Nat.le_refl _) _⟩
            have h3 := HR.out.set k (by rw [mp_length]; exact hl) (low x)
            rw [← HX.out, mp_set low k _ hl, HX.out, HE.out] at h3
            exact h3
          case measure => simp [intOf]; omega
        · have HE := Lib.hid (low_out x (fun h => h2 h.2))
          have h2' : 90 < (x.toNat : Int) := by omega
          clear h2
          go_wp2_with fail
          go_roundw
          case rel =>
            refine ⟨k + 1, by omega, by go_num, ?_, hB⟩
            have h3 := HR.out
            rw [← mp_set low k _ hl, HX.out, HE.out]
            exact h3.same k (by rw [mp_length]; exact hl) x (by rw [mp_at low k _ hl]; exact HX.out)
          case measure => simp [intOf]; omega
      · have HE := Lib.hid (low_out x (fun h => h1 h.1))
        have h1' : (x.toNat : Int) < 65 := by omega
        clear h1
        go_wp2_with fail
        go_roundw
        case rel =>
          refine ⟨k + 1, by omega, by go_num, ?_, hB⟩
          have h3 := HR.out
          rw [← mp_set low k _ hl, HX.out, HE.out]
          exact h3.same k (by rw [mp_length]; exact hl) x (by rw [mp_at low k _ hl]; exact HX.out)
        case measure => simp [intOf]; omega
    · have hback := string_of wr w.heap.size s.size cap _ HR.out (by rw [mp_length]; simp)
      rw [mp_all low k _ (by simp; omega)] at hback
      go_wp2_with fail
      go_ret
      exact ⟨rfl, hB⟩

end T
end Go.Proofs.YtafkeolpadfjfaaGreatDoor
