/- The reader of selectors: sign. -/
import Derived.Test.YtnmcgmbhkmfiaaaDoorSel5
set_option linter.unusedVariables false
set_option linter.unusedSimpArgs false
namespace Go.Proofs.YtnmcgmbhkmfiaaaDoor
open Go.RowKit
namespace K
open H

def signV (n : Int) (x : Bool) : Value := .tuple #[.int .i64 n, .bool x]

set_option maxHeartbeats 1000000 in
theorem sign_plus (b : Nat) (s : List UInt8) (i : Nat) (w : World) (hs : s.length ≤ 1000000) (hi : i ≤ s.length) (hp : ([43] : List UInt8).isPrefixOf (s.drop i) = true) (hR : IsRdr b s i false w) :
    Calls Tryd.prog 56 #[.pointer (some ⟨b, 0, none⟩)] w (RdPost b s (i + 1) false (signV 1 true) w) := by
  have T := take b s [43] i w hs (by decide) hi hR
  rw [hp] at T
  have Q := Lib.hid T
  clear T hp hR
  go_enter Tryd.func56, Tryd.ntmps56
  go_wp2_with fail
  refine (Q.out).mono ?_
  rintro en w1 ⟨rfl, hr, hb⟩
  go_wp2_with fail
  refine bodyPost_ret (v := signV 1 true) (by simp [results, Tryd.results56, go_sem, signV]) rfl ⟨rfl, hr, hb⟩

set_option maxHeartbeats 1000000 in
theorem sign_minus (b : Nat) (s : List UInt8) (i : Nat) (w : World) (hs : s.length ≤ 1000000) (hi : i ≤ s.length) (hp : ([43] : List UInt8).isPrefixOf (s.drop i) = false) (hm : ([45] : List UInt8).isPrefixOf (s.drop i) = true) (hR : IsRdr b s i false w) :
    Calls Tryd.prog 56 #[.pointer (some ⟨b, 0, none⟩)] w (RdPost b s (i + 1) false (signV (-1) true) w) := by
  have T := take b s [43] i w hs (by decide) hi hR
  rw [hp] at T
  have Q := Lib.hid T
  have Q2 := Lib.hid (fun W => take b s [45] i W hs (by decide) hi)
  rw [hm] at Q2
  clear T hp hR hm
  go_enter Tryd.func56, Tryd.ntmps56
  go_wp2_with fail
  refine (Q.out).mono ?_
  rintro en w1 ⟨rfl, hr, hb⟩
  go_wp2_with fail
  refine (Q2.out _ hr).mono ?_
  rintro en w2 ⟨rfl, hr2, hb2⟩
  go_wp2_with fail
  refine bodyPost_ret (v := signV (-1) true) (by simp [results, Tryd.results56, go_sem, signV]) rfl ⟨rfl, hr2, hb.trans hb2⟩

set_option maxHeartbeats 1000000 in
theorem sign_none (b : Nat) (s : List UInt8) (i : Nat) (w : World) (hs : s.length ≤ 1000000) (hi : i ≤ s.length) (hp : ([43] : List UInt8).isPrefixOf (s.drop i) = false) (hm : ([45] : List UInt8).isPrefixOf (s.drop i) = false) (hR : IsRdr b s i false w) :
    Calls Tryd.prog 56 #[.pointer (some ⟨b, 0, none⟩)] w (RdPost b s i false (signV 1 false) w) := by
  have T := take b s [43] i w hs (by decide) hi hR
  rw [hp] at T
  have Q := Lib.hid T
  have Q2 := Lib.hid (fun W => take b s [45] i W hs (by decide) hi)
  rw [hm] at Q2
  clear T hp hR hm
  go_enter Tryd.func56, Tryd.ntmps56
  go_wp2_with fail
  refine (Q.out).mono ?_
  rintro en w1 ⟨rfl, hr, hb⟩
  go_wp2_with fail
  refine (Q2.out _ hr).mono ?_
  rintro en w2 ⟨rfl, hr2, hb2⟩
  go_wp2_with fail
  refine bodyPost_ret (v := signV 1 false) (by simp [results, Tryd.results56, go_sem, signV]) rfl ⟨rfl, hr2, hb.trans hb2⟩

end K
end Go.Proofs.YtnmcgmbhkmfiaaaDoor
