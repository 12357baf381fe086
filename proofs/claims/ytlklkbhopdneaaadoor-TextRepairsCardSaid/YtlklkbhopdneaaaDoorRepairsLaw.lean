/- The statement TextRepairs: it returns true at every string, where Go's two tables of package utf8 lie as their texts lay them. -/
import Derived.Test.YtlklkbhopdneaaaDoorTRepair
set_option linter.unusedVariables false
set_option linter.unusedSimpArgs false
namespace Go.Proofs.YtlklkbhopdneaaaDoor
open Go.RowKit
namespace T

set_option maxHeartbeats 1000000 in
set_option maxRecDepth 100000 in
theorem TextRepairs (s : ByteArray) (w : World) (hs0 : s.size ≤ maxLen) (hT : Tabs w) :
    Calls Tryd.prog 3 #[.string s] w fun e w' => e = .returned (.bool true) ∧ Below w.heap.size w w' := by
  unfold maxLen at hs0
  by_cases h2 : s.size ≤ 2000
  · have hrl := U.rep_le s.data.toList
    rw [U.list_size] at hrl
    have hrs : (⟨(U.rep s.data.toList).toArray⟩ : ByteArray).size ≤ 6000 := by show (U.rep s.data.toList).toArray.size ≤ 6000; rw [List.size_toArray]; omega
    have HT := Lib.hid hT
    clear hT
    go_enter Tryd.func3, Tryd.ntmps3
    go_wp2_with (go_at_call 9; refine (awake _).mono ?_)
    rintro e w1 ⟨rfl, b1⟩
    have T1 := Lib.hid (HT.out.below b1)
    go_wp2_with (go_at_call 10; refine (refRepair _ _ (by omega)).mono ?_)
    rintro e w2 ⟨rfl, b2⟩
    have T2 := Lib.hid (T1.out.below b2)
    have q1 := Lib.hid (Repair s w2 (by omega) T2.out)
    generalize hr : U.rep s.data.toList = r at *
    have HR := Lib.hid hr
    clear hr
    go_wp2_with (go_at_call 11; refine q1.out.mono ?_)
    rintro e w3 ⟨rfl, b3⟩
    have T3 := Lib.hid (T2.out.below b3)
    have hv := Valid s w3 (by omega) T3.out
    rw [HR.out] at hv
    have q2 := Lib.hid hv
    clear hv
    have hbb : (r == s.toList) = decide (r = s.data.toList) := by rw [Lib.toList_data, Bool.eq_iff_iff]; simp
    generalize decide (r = s.data.toList) = D at *
    go_wp2_with (go_at_call 12; refine q2.out.mono ?_)
    rintro e w4 ⟨rfl, b4⟩
    have T4 := Lib.hid (T3.out.below b4)
    have hv := Repair ⟨r.toArray⟩ w4 (by omega) T4.out
    simp only [List.toList_toArray, ← HR.out, U.rep_rep] at hv
    rw [HR.out] at hv
    have q3 := Lib.hid hv
    clear hv
    go_wp2_with (go_at_call 11; refine q3.out.mono ?_)
    rintro e w5 ⟨rfl, b5⟩
    have T5 := Lib.hid (T4.out.below b5)
    have hv := Valid ⟨r.toArray⟩ w5 (by omega) T5.out
    simp only [List.toList_toArray, ← HR.out, U.rep_rep, decide_true] at hv
    rw [HR.out] at hv
    have q4 := Lib.hid hv
    clear hv
    go_wp2_with (go_at_call 12; refine q4.out.mono ?_)
    rintro e w6 ⟨rfl, b6⟩
    go_wp2_with fail
    go_ret
    have z1 := b1.size
    have z2 := b2.size
    have z3 := b3.size
    have z4 := b4.size
    have z5 := b5.size
    exact ⟨rfl, ((((b1.trans (b2.mono z1)).trans (b3.mono (by omega))).trans (b4.mono (by omega))).trans (b5.mono (by omega))).trans (b6.mono (by omega))⟩
  · have h2' : 2000 < s.size := by omega
    clear h2
    go_enter Tryd.func3, Tryd.ntmps3
    go_wp2_with (go_at_call 9; refine (awake _).mono ?_)
    rintro e w1 ⟨rfl, b1⟩
    go_wp2_with (go_at_call 9; refine (awake _).mono ?_)
    rintro e w2 ⟨rfl, b2⟩
    go_wp2_with fail
    go_ret
    exact ⟨rfl, b1.trans (b2.mono b1.size)⟩

end T
end Go.Proofs.YtlklkbhopdneaaaDoor
