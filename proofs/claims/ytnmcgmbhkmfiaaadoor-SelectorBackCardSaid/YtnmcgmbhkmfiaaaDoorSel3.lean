/- The reader of selectors: name. -/
import Derived.Test.YtnmcgmbhkmfiaaaDoorSel2
set_option linter.unusedVariables false
set_option linter.unusedSimpArgs false
namespace Go.Proofs.YtnmcgmbhkmfiaaaDoor
open Go.RowKit
namespace K
open H

/-- A callee's contract that only draws, behind draws; it may draw itself. -/
theorem quietDrew {P : Program} {f : FuncId} {args : Array Value} {w : World} {n : Nat} {v : Value}
    (h : Calls P f args (w.drewN n) fun e w' => e = .returned v ∧ ∃ m, w' = (w.drewN n).drewN m) : Calls P f args (w.drewN n) fun e w'' => e = .returned v ∧ ∃ m, w'' = w.drewN m :=
  h.mono fun _ _ hh => ⟨hh.1, by obtain ⟨m, e⟩ := hh.2; exact ⟨_, e.trans (World.drewN_drewN _ _ _)⟩⟩

set_option maxHeartbeats 1000000 in
theorem name_bad (b : Nat) (s : List UInt8) (i : Nat) (w : World) (hR : IsRdr b s i true w) :
    Calls Tryd.prog 36 #[.pointer (some ⟨b, 0, none⟩)] w (RdPost b s i true (.string ⟨#[]⟩) w) := by
  have HR := Lib.hid hR
  obtain ⟨hc, hf⟩ := cells_of hR
  have hlb := lt_of_block hR
  have c2 : w.cell? ⟨b, 2, none⟩ = some (.bool true) := hc 2
  have f2 : w.frozen? ⟨b, 2, none⟩ = false := hf 2 (by show 2 < 3; omega)
  clear hc hf hR
  go_enter Tryd.func36, Tryd.ntmps36
  go_wp2_with fail
  go_ret
  exact ⟨rfl, HR.out.fail, But.set _ _ _⟩

set_option maxHeartbeats 1000000 in
theorem name_no (b : Nat) (s : List UInt8) (i : Nat) (w : World) (hs : s.length ≤ 1000000) (hi : i ≤ s.length) (hb : L.begins (s.drop i) = false) (hR : IsRdr b s i false w) :
    Calls Tryd.prog 36 #[.pointer (some ⟨b, 0, none⟩)] w (RdPost b s i true (.string ⟨#[]⟩) w) := by
  have HR := Lib.hid hR
  obtain ⟨hc, hf⟩ := cells_of hR
  have hlb := lt_of_block hR
  have c0 : w.cell? ⟨b, 0, none⟩ = some (.string ⟨s.toArray⟩) := hc 0
  have c1 : w.cell? ⟨b, 1, none⟩ = some (.int .i64 i) := hc 1
  have c2 : w.cell? ⟨b, 2, none⟩ = some (.bool false) := hc 2
  have f2 : w.frozen? ⟨b, 2, none⟩ = false := hf 2 (by show 2 < 3; omega)
  have q : Calls Tryd.prog 34 #[.pointer (some ⟨b, 0, none⟩)] w fun e w' => e = .returned (.bool false) ∧ ∃ m, w' = w.drewN m := by
    have h := named b s i false w hs hi hR
    rw [hb] at h
    exact h
  have Q := Lib.hid q
  clear hc hf hR q hb
  go_enter Tryd.func36, Tryd.ntmps36
  go_wp2_with fail
  refine (Q.out).mono ?_
  rintro en w1 ⟨rfl, n, hw1⟩
  have hw2 := hw1
  have d0 : w1.cell? ⟨b, 0, none⟩ = some (.string ⟨s.toArray⟩) := by rw [hw2]; exact c0
  have d1 : w1.cell? ⟨b, 1, none⟩ = some (.int .i64 i) := by rw [hw2]; exact c1
  have d2 : w1.cell? ⟨b, 2, none⟩ = some (.bool false) := by rw [hw2]; exact c2
  have g2 : w1.frozen? ⟨b, 2, none⟩ = false := by rw [hw2]; exact f2
  have HR1 : IsRdr b s i false w1 := by rw [hw2]; exact HR.out.drewN _
  have HB1 : But b w w1 := by rw [hw2]; exact (But.refl _ _).drewN _
  have HR1 := Lib.hid HR1
  have HB1 := Lib.hid HB1
  have hlb1 := lt_of_block HR1.out
  clear c0 c1 c2 f2 hw1 hw2
  go_wp2_with fail
  go_ret
  exact ⟨rfl, HR1.out.fail, HB1.out.trans (But.set _ _ _)⟩

set_option maxHeartbeats 2000000 in
theorem name (b : Nat) (s : List UInt8) (i : Nat) (w : World) (hs : s.length ≤ 1000000) (hi : i ≤ s.length) (hb : L.begins (s.drop i) = true) (hR : IsRdr b s i false w) :
    Calls Tryd.prog 36 #[.pointer (some ⟨b, 0, none⟩)] w (RdPost b s (twEnd L.inName s i) false (.string ⟨((s.drop i).takeWhile L.inName).toArray⟩) w) := by
  obtain ⟨E, hE⟩ : ∃ E, twEnd L.inName s i = E := ⟨_, rfl⟩
  have hv : (s.drop i).takeWhile L.inName = (s.drop i).take (E - i) := by rw [← hE, twEnd_take]
  have hEl : E ≤ s.length := by rw [← hE]; exact twEnd_le hi
  have hEi : i ≤ E := by rw [← hE]; exact twEnd_ge _ _ _
  have hxs := slice_str s i E hEi hEl
  rw [hv, hE, ← hxs]
  clear hv hxs
  have HE := Lib.hid hE
  have HR := Lib.hid hR
  obtain ⟨hc, hf⟩ := cells_of hR
  have hlb := lt_of_block hR
  have c0 : w.cell? ⟨b, 0, none⟩ = some (.string ⟨s.toArray⟩) := hc 0
  have c1 : w.cell? ⟨b, 1, none⟩ = some (.int .i64 i) := hc 1
  have c2 : w.cell? ⟨b, 2, none⟩ = some (.bool false) := hc 2
  have f2 : w.frozen? ⟨b, 2, none⟩ = false := hf 2 (by show 2 < 3; omega)
  have q : Calls Tryd.prog 34 #[.pointer (some ⟨b, 0, none⟩)] w fun e w' => e = .returned (.bool true) ∧ ∃ m, w' = w.drewN m := by
    have h := named b s i false w hs hi hR
    rw [hb] at h
    exact h
  have Q := Lib.hid q
  clear hc hf hR q hb hE
  go_enter Tryd.func36, Tryd.ntmps36
  go_wp2_with fail
  refine (Q.out).mono ?_
  rintro en w1 ⟨rfl, n, hw1⟩
  have hw2 := hw1
  have d0 : w1.cell? ⟨b, 0, none⟩ = some (.string ⟨s.toArray⟩) := by rw [hw2]; exact c0
  have d1 : w1.cell? ⟨b, 1, none⟩ = some (.int .i64 i) := by rw [hw2]; exact c1
  have d2 : w1.cell? ⟨b, 2, none⟩ = some (.bool false) := by rw [hw2]; exact c2
  have g2 : w1.frozen? ⟨b, 2, none⟩ = false := by rw [hw2]; exact f2
  have HR1 : IsRdr b s i false w1 := by rw [hw2]; exact HR.out.drewN _
  have HB1 : But b w w1 := by rw [hw2]; exact (But.refl _ _).drewN _
  have HR1 := Lib.hid HR1
  have HB1 := Lib.hid HB1
  have hlb1 := lt_of_block HR1.out
  clear c0 c1 c2 f2 hw1 hw2
  go_wp2_with fail
  go_loopw [] (fun wr => ∃ k : Nat, IsRdr b s k false wr ∧ But b w wr ∧ i ≤ k ∧ k ≤ s.length ∧ Hid (twEnd L.inName s k = E)) (fun wr => s.length - (match wr.cell? ⟨b, 1, none⟩ with | some (.int _ q) => q.toNat | _ => 0))
  case atStart => exact ⟨i, HR1.out, HB1.out, Nat.le_refl _, hi, HE⟩
  case round =>
    obtain ⟨k, hr, hb, hk1, hk2, HK⟩ := hrel
    obtain ⟨hc, hf⟩ := cells_of hr
    have hlr := lt_of_block hr
    have HRr := Lib.hid hr
    have c0 : wr.cell? ⟨b, 0, none⟩ = some (.string ⟨s.toArray⟩) := hc 0
    have c1 : wr.cell? ⟨b, 1, none⟩ = some (.int .i64 k) := hc 1
    have f1 : wr.frozen? ⟨b, 1, none⟩ = false := hf 1 (by show 1 < 3; omega)
    have hk0 : (0 : Int) ≤ (k : Int) := by omega
    have hi0 : (0 : Int) ≤ (i : Int) := by omega
    have hik : (i : Int) ≤ (k : Int) := by omega
    have hks : (k : Int) ≤ (s.length : Int) := by omega
    have zs := bytes_size s
    clear hr HR HE d0 d1 d2 g2 HR1 HB1
    by_cases hlt : k < s.length
    · have hlt1 : (k : Int) < (s.length : Int) := by omega
      obtain ⟨c, r, hd⟩ := drop_cons hlt
      have hix := at_drop hd (by rw [bytes_size]; exact hlt)
      have Q1 : Hid (∀ W, Calls Tryd.prog 44 #[.int .u8 c.toNat] W fun e w' => e = .returned (.bool (L.first c)) ∧ W = w') := Lib.hid (fun W => initial c W)
      have Q2 : Hid (∀ W, Calls Tryd.prog 46 #[.int .u8 c.toNat] W fun e w' => e = .returned (.bool (L.isDig c)) ∧ W = w') := Lib.hid (fun W => digit c W)
      have HN : Hid (L.inName c = (L.first c || (L.isDig c || c == 45))) := Lib.hid rfl
      have ec := byte_eq c 45 (by decide)
      rw [show UInt8.ofNat 45 = 45 from rfl] at ec
      cases hf1 : L.first c with
      | true =>
        rw [hf1] at Q1
        have hin : L.inName c = true := by rw [HN.out, hf1]; rfl
        clear hf1
        have HK' := Lib.hid ((twEnd_step hd hin).trans HK.out)
        clear hin hd HK hc hf HN
        go_wp2_with fail
        go_quiet (first | (go_at_call 44; exact quietAdd (Q1.out _)) | (go_at_call 46; exact quietAdd (Q2.out _)))
        go_wp2_with fail
        go_roundw
        case rel => exact ⟨k + 1, (HRr.out.drewN _).place (k + 1) (by omega), (hb.drewN _).trans (But.set _ _ _), by omega, by omega, HK'⟩
        case measure =>
          have hl := hlt
          have h1 := (cells_of ((HRr.out.drewN nq).place (k + 1) (z := (k : Int) + 1) (by omega))).1 1
          rw [h1, c1]
          show s.length - (((k + 1 : Nat) : Int)).toNat < s.length - ((k : Int)).toNat
          omega
      | false =>
        rw [hf1] at Q1
        cases hf2 : L.isDig c with
        | true =>
          rw [hf2] at Q2
          have hin : L.inName c = true := by rw [HN.out, hf1, hf2]; rfl
          clear hf1 hf2
          have HK' := Lib.hid ((twEnd_step hd hin).trans HK.out)
          clear hin hd HK hc hf HN
          go_wp2_with fail
          go_quiet (first | (go_at_call 44; exact quietAdd (Q1.out _)) | (go_at_call 46; exact quietAdd (Q2.out _)))
          go_wp2_with fail
          go_roundw
          case rel => exact ⟨k + 1, (HRr.out.drewN _).place (k + 1) (by omega), (hb.drewN _).trans (But.set _ _ _), by omega, by omega, HK'⟩
          case measure =>
            have hl := hlt
            have h1 := (cells_of ((HRr.out.drewN nq).place (k + 1) (z := (k : Int) + 1) (by omega))).1 1
            rw [h1, c1]
            show s.length - (((k + 1 : Nat) : Int)).toNat < s.length - ((k : Int)).toNat
            omega
        | false =>
          rw [hf2] at Q2
          cases hf3 : (c == 45) with
          | true =>
            rw [hf3] at ec
            have hin : L.inName c = true := by rw [HN.out, hf1, hf2, hf3]; rfl
            clear hf1 hf2 hf3
            have HK' := Lib.hid ((twEnd_step hd hin).trans HK.out)
            clear hin hd HK hc hf HN
            go_wp2_with fail
            go_quiet (first | (go_at_call 44; exact quietAdd (Q1.out _)) | (go_at_call 46; exact quietAdd (Q2.out _)))
            go_wp2_with fail
            go_roundw
            case rel => exact ⟨k + 1, (HRr.out.drewN _).place (k + 1) (by omega), (hb.drewN _).trans (But.set _ _ _), by omega, by omega, HK'⟩
            case measure =>
              have hl := hlt
              have h1 := (cells_of ((HRr.out.drewN nq).place (k + 1) (z := (k : Int) + 1) (by omega))).1 1
              rw [h1, c1]
              show s.length - (((k + 1 : Nat) : Int)).toNat < s.length - ((k : Int)).toNat
              omega
          | false =>
            rw [hf3] at ec
            have hin : L.inName c = false := by rw [HN.out, hf1, hf2, hf3]; rfl
            clear hf1 hf2 hf3
            obtain rfl : k = E := (twEnd_stop hd hin).symm.trans HK.out
            clear hin hd HK hc hf HN
            go_wp2_with fail
            go_quiet (first | (go_at_call 44; exact quietAdd (Q1.out _)) | (go_at_call 46; exact quietAdd (Q2.out _)))
            go_wp2_with fail
            go_quiet (fail)
            go_wp2_with fail
            go_ret
            exact ⟨rfl, (HRr.out.drewN _).drewN _, (hb.drewN _).drewN _⟩
    · have hge : (s.length : Int) ≤ (k : Int) := by omega
      have hge2 : decide ((k : Int) < (s.length : Int)) = false := decide_eq_false (by omega)
      obtain rfl : k = E := (twEnd_past (by omega)).symm.trans HK.out
      clear HK hc hf
      go_wp2_with fail
      go_quiet (fail)
      go_wp2_with fail
      go_quiet (fail)
      go_wp2_with fail
      go_ret
      exact ⟨rfl, (HRr.out.drewN _).drewN _, (hb.drewN _).drewN _⟩

end K
end Go.Proofs.YtnmcgmbhkmfiaaaDoor
