/- The reader of selectors: value. -/
import Derived.Test.YtnmcgmbhkmfiaaaDoorSel3
import Derived.Test.YtnmcgmbhkmfiaaaDoorCut1
set_option linter.unusedVariables false
set_option linter.unusedSimpArgs false
namespace Go.Proofs.YtnmcgmbhkmfiaaaDoor
open Go.RowKit
namespace K
open H

set_option maxHeartbeats 1000000 in
/-- A value that is no string: a name. -/
theorem value_name (b : Nat) (s : List UInt8) (i j : Nat) (bad' : Bool) (v : List UInt8) (w : World) (hs : s.length ≤ 1000000) (hi : i ≤ s.length) (hq : s.getD i 0 ≠ 34 ∧ s.getD i 0 ≠ 39)
    (hn : ∀ w, IsRdr b s i false w → Calls Tryd.prog 36 #[.pointer (some ⟨b, 0, none⟩)] w (RdPost b s j bad' (.string ⟨v.toArray⟩) w)) (hR : IsRdr b s i false w) :
    Calls Tryd.prog 48 #[.pointer (some ⟨b, 0, none⟩)] w (RdPost b s j bad' (.string ⟨v.toArray⟩) w) := by
  have P := Lib.hid (peek b s i false w hs hi hR)
  have HR := Lib.hid hR
  have hlb := lt_of_block hR
  have HN := Lib.hid hn
  have e1 : (((s.getD i 0).toNat : Int) == 34) = false := byte_ne (n := 34) hq.1 (by decide)
  have e2 : (((s.getD i 0).toNat : Int) == 39) = false := byte_ne (n := 39) hq.2 (by decide)
  have n1 : ¬ (((s.getD i 0).toNat : Int) = 34) := by rw [← beq_iff_eq, e1]; exact Bool.false_ne_true
  have n2 : ¬ (((s.getD i 0).toNat : Int) = 39) := by rw [← beq_iff_eq, e2]; exact Bool.false_ne_true
  have m1 : (((s.getD i 0).toNat : Int) != 34) = true := by rw [bne, e1]; rfl
  have m2 : (((s.getD i 0).toNat : Int) != 39) = true := by rw [bne, e2]; rfl
  generalize s.getD i 0 = c at *
  clear hR hn hq
  go_enter Tryd.func48, Tryd.ntmps48
  go_wp2_with fail
  refine (P.out).mono ?_
  rintro en w1 ⟨rfl, n, hw1⟩
  have hr1 : IsRdr b s i false w1 := by rw [hw1]; exact HR.out.drewN _
  have hb1 : But b w w1 := by rw [hw1]; exact (But.refl _ _).drewN _
  have Q := Lib.hid (HN.out w1 hr1)
  clear hr1 hw1
  go_wp2_with fail
  refine (Q.out).mono ?_
  rintro en w2 ⟨rfl, hr2, hb2⟩
  go_wp2_with fail
  go_ret
  exact ⟨rfl, hr2, hb1.trans hb2⟩

end K
end Go.Proofs.YtnmcgmbhkmfiaaaDoor
