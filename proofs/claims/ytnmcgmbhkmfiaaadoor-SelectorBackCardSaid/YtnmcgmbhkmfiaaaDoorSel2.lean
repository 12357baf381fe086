/- The reader of selectors: need, named, name. -/
import Derived.Test.YtnmcgmbhkmfiaaaDoorSel1
set_option linter.unusedVariables false
set_option linter.unusedSimpArgs false
namespace Go.Proofs.YtnmcgmbhkmfiaaaDoor
open Go.RowKit
namespace K
open H

def heads : List UInt8 → Bool
  | [] => false
  | d :: _ => L.first d

set_option maxHeartbeats 1000000 in
theorem need (b : Nat) (s p : List UInt8) (i : Nat) (w : World) (hs : s.length ≤ 1000000) (hp : p.length ≤ 1000) (hi : i ≤ s.length) (hR : IsRdr b s i false w) :
    Calls Tryd.prog 47 #[.pointer (some ⟨b, 0, none⟩), .string ⟨p.toArray⟩] w (RdPost b s (if p.isPrefixOf (s.drop i) then i + p.length else i) (!p.isPrefixOf (s.drop i)) (.tuple #[]) w) := by
  have T := take b s p i w hs hp hi hR
  have hlb := lt_of_block hR
  clear hR
  generalize (if p.isPrefixOf (s.drop i) then i + p.length else i) = j at *
  cases hpr : p.isPrefixOf (s.drop i) with
  | true =>
    rw [hpr] at T
    have Q := Lib.hid T
    clear T hpr
    go_enter Tryd.func47, Tryd.ntmps47
    go_wp2_with fail
    refine (Q.out).mono ?_
    rintro en w1 ⟨rfl, hr, hb⟩
    go_wp2_with fail
    first | go_ret | refine bodyPost_ret (results_none rfl _ _ _) rfl ?_
    exact ⟨rfl, hr, hb⟩
  | false =>
    rw [hpr] at T
    have Q := Lib.hid T
    clear T hpr
    go_enter Tryd.func47, Tryd.ntmps47
    go_wp2_with fail
    refine (Q.out).mono ?_
    rintro en w1 ⟨rfl, hr, hb⟩
    obtain ⟨hc, hf⟩ := cells_of hr
    have c2 : w1.cell? ⟨b, 2, none⟩ = some (.bool false) := hc 2
    have f2 : w1.frozen? ⟨b, 2, none⟩ = false := hf 2 (by show 2 < 3; omega)
    have HR := Lib.hid hr
    clear hc hf hr
    go_wp2_with fail
    first | go_ret | refine bodyPost_ret (results_none rfl _ _ _) rfl ?_
    exact ⟨rfl, HR.out.fail, hb.trans (But.set _ _ _)⟩

set_option maxHeartbeats 1000000 in
theorem need_bad (b : Nat) (s p : List UInt8) (i : Nat) (w : World) (hR : IsRdr b s i true w) :
    Calls Tryd.prog 47 #[.pointer (some ⟨b, 0, none⟩), .string ⟨p.toArray⟩] w (RdPost b s i true (.tuple #[]) w) := by
  have Q := Lib.hid (take_bad b s p i w hR)
  have hlb := lt_of_block hR
  clear hR
  go_enter Tryd.func47, Tryd.ntmps47
  go_wp2_with fail
  refine (Q.out).mono ?_
  rintro en w1 ⟨rfl, hr, hb⟩
  obtain ⟨hc, hf⟩ := cells_of hr
  have c2 : w1.cell? ⟨b, 2, none⟩ = some (.bool true) := hc 2
  have f2 : w1.frozen? ⟨b, 2, none⟩ = false := hf 2 (by show 2 < 3; omega)
  have HR := Lib.hid hr
  clear hc hf hr
  go_wp2_with fail
  first | go_ret | refine bodyPost_ret (results_none rfl _ _ _) rfl ?_
  exact ⟨rfl, HR.out.fail, hb.trans (But.set _ _ _)⟩

set_option maxHeartbeats 1000000 in
theorem named (b : Nat) (s : List UInt8) (i : Nat) (bad : Bool) (w : World) (hs : s.length ≤ 1000000) (hi : i ≤ s.length) (hR : IsRdr b s i bad w) :
    Calls Tryd.prog 34 #[.pointer (some ⟨b, 0, none⟩)] w fun e w' => e = .returned (.bool (L.begins (s.drop i))) ∧ ∃ n, w' = w.drewN n := by
  obtain ⟨hc, hf⟩ := cells_of hR
  have c0 : w.cell? ⟨b, 0, none⟩ = some (.string ⟨s.toArray⟩) := hc 0
  have c1 : w.cell? ⟨b, 1, none⟩ = some (.int .i64 i) := hc 1
  have P := peek b s i bad w hs hi hR
  clear hc hf
  by_cases hl : i < s.length
  · obtain ⟨c, r, hd⟩ := drop_cons hl
    rw [getD_drop hd] at P
    have hd1 := drop_more hd
    have q : ∀ W, Calls Tryd.prog 44 #[.int .u8 c.toNat] W fun e w' => e = .returned (.bool (L.first c)) ∧ W = w' := fun W => initial c W
    have Q := Lib.hid q
    have PP := Lib.hid P
    have Hb : Hid (L.begins (s.drop i) = (L.first c || (c == 45 && heads r))) := Lib.hid (by rw [hd]; rfl)
    have ec := byte_eq c 45 (by decide)
    generalize L.begins (s.drop i) = X at *
    clear q P hR hd
    cases hf1 : L.first c with
    | true =>
      rw [hf1] at Q
      obtain rfl : X = true := by rw [Hb.out, hf1]; rfl
      clear hf1 hd1
      clear Hb
      go_enter Tryd.func34, Tryd.ntmps34
      go_wp2_with fail
      refine (PP.out).mono ?_
      rintro en w1 ⟨rfl, n, hw1⟩
      have d0 : w1.cell? ⟨b, 0, none⟩ = some (.string ⟨s.toArray⟩) := by rw [hw1]; exact c0
      have d1 : w1.cell? ⟨b, 1, none⟩ = some (.int .i64 i) := by rw [hw1]; exact c1
      have HW := Lib.hid hw1
      clear c0 c1 hw1
      go_wp2_with fail
      go_quiet ((go_at_call 44; exact quietAdd (Q.out _)))
      go_wp2_with fail
      go_ret
      exact ⟨rfl, _, by rw [HW.out]; exact World.drewN_drewN _ _ _⟩
    | false =>
      rw [hf1] at Q
      by_cases hcd : c = 45
      · have hce : (c == 45) = true := by rw [hcd]; rfl
        clear ec
        have ec : ((c.toNat : Int) == 45) = true := byte_is (n := 45) hcd (by decide)
        clear hcd
        by_cases hl2 : i + 1 < s.length
        · obtain ⟨d, r2, hd2⟩ := drop_cons hl2
          have hx2 := at_drop hd2 (by rw [bytes_size]; exact hl2)
          obtain rfl : X = L.first d := by rw [Hb.out, hf1, hce, ← hd1, hd2]; rfl
          have q2 : ∀ W, Calls Tryd.prog 44 #[.int .u8 d.toNat] W fun e w' => e = .returned (.bool (L.first d)) ∧ W = w' := fun W => initial d W
          have Q2 := Lib.hid q2
          have zs := bytes_size s
          have h0 : (0 : Int) ≤ (i : Int) + 1 := by omega
          have g1 : IntKind.i64.wrap ((i : Int) + 1) = (i : Int) + 1 := IntWalk.i64_in _ (by omega)
          have h1 : (i : Int) + 1 < (s.length : Int) := by omega
          have h2 : decide ((i : Int) + 1 < (s.length : Int)) = true := decide_eq_true h1
          have h3 : ((i : Int) + 1).toNat = i + 1 := by omega
          generalize L.first d = X at *
          clear hf1 hd1 q2 hd2
          clear Hb
          go_enter Tryd.func34, Tryd.ntmps34
          go_wp2_with fail
          refine (PP.out).mono ?_
          rintro en w1 ⟨rfl, n, hw1⟩
          have d0 : w1.cell? ⟨b, 0, none⟩ = some (.string ⟨s.toArray⟩) := by rw [hw1]; exact c0
          have d1 : w1.cell? ⟨b, 1, none⟩ = some (.int .i64 i) := by rw [hw1]; exact c1
          have HW := Lib.hid hw1
          clear c0 c1 hw1
          go_wp2_with fail
          go_quiet (first | (go_at_call_of 44 (Value.int .u8 c.toNat); exact quietAdd (Q.out _)) | (go_at_call_of 44 (Value.int .u8 d.toNat); exact quietAdd (Q2.out _)))
          go_wp2_with fail
          go_ret
          exact ⟨rfl, _, by rw [HW.out]; exact World.drewN_drewN _ _ _⟩
        · have g1 : IntKind.i64.wrap ((i : Int) + 1) = (i : Int) + 1 := IntWalk.i64_in _ (by omega)
          have h1 : decide ((i : Int) + 1 < (s.length : Int)) = false := decide_eq_false (by omega)
          obtain rfl : X = false := by rw [Hb.out, hf1, hce, ← hd1, List.drop_eq_nil_of_le (by omega)]; rfl
          clear hf1 hd1
          clear Hb
          go_enter Tryd.func34, Tryd.ntmps34
          go_wp2_with fail
          refine (PP.out).mono ?_
          rintro en w1 ⟨rfl, n, hw1⟩
          have d0 : w1.cell? ⟨b, 0, none⟩ = some (.string ⟨s.toArray⟩) := by rw [hw1]; exact c0
          have d1 : w1.cell? ⟨b, 1, none⟩ = some (.int .i64 i) := by rw [hw1]; exact c1
          have HW := Lib.hid hw1
          clear c0 c1 hw1
          go_wp2_with fail
          go_quiet ((go_at_call 44; exact quietAdd (Q.out _)))
          go_wp2_with fail
          go_ret
          exact ⟨rfl, _, by rw [HW.out]; exact World.drewN_drewN _ _ _⟩
      · have ec2 : ((c.toNat : Int) == 45) = false := byte_ne (n := 45) hcd (by decide)
        obtain rfl : X = false := by rw [Hb.out, hf1, show (c == 45) = false from by simpa using hcd]; rfl
        clear hf1 hd1 ec
        clear Hb
        go_enter Tryd.func34, Tryd.ntmps34
        go_wp2_with fail
        refine (PP.out).mono ?_
        rintro en w1 ⟨rfl, n, hw1⟩
        have d0 : w1.cell? ⟨b, 0, none⟩ = some (.string ⟨s.toArray⟩) := by rw [hw1]; exact c0
        have d1 : w1.cell? ⟨b, 1, none⟩ = some (.int .i64 i) := by rw [hw1]; exact c1
        have HW := Lib.hid hw1
        clear c0 c1 hw1
        go_wp2_with fail
        go_quiet ((go_at_call 44; exact quietAdd (Q.out _)))
        go_wp2_with fail
        go_ret
        exact ⟨rfl, _, by rw [HW.out]; exact World.drewN_drewN _ _ _⟩
  · rw [getD_past (by omega)] at P
    have q : ∀ W, Calls Tryd.prog 44 #[.int .u8 0] W fun e w' => e = .returned (.bool false) ∧ W = w' := fun W => initial 0 W
    have Q := Lib.hid q
    have PP := Lib.hid P
    have Hb : Hid True := Lib.hid trivial
    rw [List.drop_eq_nil_of_le (by omega)]
    show Calls _ _ _ _ fun e w' => e = .returned (.bool false) ∧ ∃ n, w' = w.drewN n
    clear q P hR
    clear Hb
    go_enter Tryd.func34, Tryd.ntmps34
    go_wp2_with fail
    refine (PP.out).mono ?_
    rintro en w1 ⟨rfl, n, hw1⟩
    have d0 : w1.cell? ⟨b, 0, none⟩ = some (.string ⟨s.toArray⟩) := by rw [hw1]; exact c0
    have d1 : w1.cell? ⟨b, 1, none⟩ = some (.int .i64 i) := by rw [hw1]; exact c1
    have HW := Lib.hid hw1
    clear c0 c1 hw1
    go_wp2_with fail
    go_quiet ((go_at_call 44; exact quietAdd (Q.out _)))
    go_wp2_with fail
    go_ret
    exact ⟨rfl, _, by rw [HW.out]; exact World.drewN_drewN _ _ _⟩

end K
end Go.Proofs.YtnmcgmbhkmfiaaaDoor
