/- The reader of selectors: number. -/
import Derived.Test.YtnmcgmbhkmfiaaaDoorSel6
import Derived.Test.YtnmcgmbhkmfiaaaDoorLater
set_option linter.unusedVariables false
set_option linter.unusedSimpArgs false
namespace Go.Proofs.YtnmcgmbhkmfiaaaDoor
open Go.RowKit
namespace K
open H

set_option maxHeartbeats 2000000 in
theorem number_ok (b : Nat) (s : List UInt8) (i E : Nat) (n : Int) (w : World) (hs : s.length ≤ 1000000) (hi : i ≤ s.length) (hE : twEnd L.isDig s i = E) (h6 : E - i ≤ 6) (hR : IsRdr b s i false w)
    (hA : ∀ W, Calls Tryd.prog 61 #[.string ((⟨s.toArray⟩ : ByteArray).extract i E)] W fun e w' => e = .returned (.tuple #[.int .i64 n, .nilIface]) ∧ Below W.heap.size W w') :
    Calls Tryd.prog 57 #[.pointer (some ⟨b, 0, none⟩)] w (RdPost b s E false (.int .i64 n) w) := by
  have hEl : E ≤ s.length := by rw [← hE]; exact twEnd_le hi
  have hEi : i ≤ E := by rw [← hE]; exact twEnd_ge _ _ _
  have HE := Lib.hid hE
  have HR := Lib.hid hR
  have QA := Lib.hid hA
  obtain ⟨hc, hf⟩ := cells_of hR
  have hlb := lt_of_block hR
  have c1 : w.cell? ⟨b, 1, none⟩ = some (.int .i64 i) := hc 1
  clear hc hf hR hE hA
  go_enter Tryd.func57, Tryd.ntmps57
  go_wp2_with fail
  go_loopw [] (fun wr => ∃ k : Nat, IsRdr b s k false wr ∧ But b w wr ∧ i ≤ k ∧ k ≤ s.length ∧ Hid (twEnd L.isDig s k = E)) (fun wr => s.length - (match wr.cell? ⟨b, 1, none⟩ with | some (.int _ q) => q.toNat | _ => 0))
  case atStart => exact ⟨i, HR.out, But.refl _ _, Nat.le_refl _, hi, HE⟩
  case round =>
    obtain ⟨k, hr, hb, hk1, hk2, HK⟩ := hrel
    have P := Lib.hid (peek b s k false wr hs hk2 hr)
    obtain ⟨hc, hf⟩ := cells_of hr
    have hlr := lt_of_block hr
    have HRr := Lib.hid hr
    have c0 : wr.cell? ⟨b, 0, none⟩ = some (.string ⟨s.toArray⟩) := hc 0
    have c1 : wr.cell? ⟨b, 1, none⟩ = some (.int .i64 k) := hc 1
    have f1 : wr.frozen? ⟨b, 1, none⟩ = false := hf 1 (by show 1 < 3; omega)
    have hdg : (k < s.length ∧ L.isDig (s.getD k 0) = true ∧ Hid (twEnd L.isDig s (k + 1) = E)) ∨ (L.isDig (s.getD k 0) = false ∧ k = E) := by
      by_cases hlt : k < s.length
      · obtain ⟨c, r, hd⟩ := drop_cons hlt
        rw [getD_drop hd]
        cases hdc : L.isDig c with
        | true => exact Or.inl ⟨hlt, rfl, Lib.hid ((twEnd_step hd hdc).trans HK.out)⟩
        | false => exact Or.inr ⟨rfl, (twEnd_stop hd hdc).symm.trans HK.out⟩
      · rw [getD_past (by omega)]
        exact Or.inr ⟨rfl, (twEnd_past (by omega)).symm.trans HK.out⟩
    have Q := Lib.hid (fun W => digit (s.getD k 0) W)
    generalize s.getD k 0 = c at *
    clear hr HR HE hc hf HK
    rcases hdg with ⟨hlt, hdc, HK'⟩ | ⟨hdc, hkE⟩
    · rw [hdc] at Q
      clear hdc
      go_wp2_with fail
      refine (P.out).mono ?_
      rintro en w1 ⟨rfl, nn, hw1⟩
      have d1 : w1.cell? ⟨b, 1, none⟩ = some (.int .i64 k) := by rw [hw1]; exact c1
      have e1 : w1.frozen? ⟨b, 1, none⟩ = false := by rw [hw1]; exact f1
      have hl1 : b < w1.heap.size := by rw [hw1]; exact hlr
      have HR1 : IsRdr b s k false w1 := by rw [hw1]; exact HRr.out.drewN _
      have HB1 : But b w w1 := by rw [hw1]; exact hb.drewN _
      have HR1 := Lib.hid HR1
      have HB1 := Lib.hid HB1
      clear hw1
      go_wp2_with fail
      refine (Q.out _).mono ?_
      rintro en w2 ⟨rfl, rfl⟩
      go_wp2_with fail
      go_roundw
      case rel => exact ⟨k + 1, HR1.out.place (k + 1) (by omega), HB1.out.trans (But.set _ _ _), by omega, by omega, HK'⟩
      case measure =>
        have hl := hlt
        have h1 := (cells_of (HR1.out.place (k + 1) (z := (k : Int) + 1) (by omega))).1 1
        rw [h1, c1]
        show s.length - (((k + 1 : Nat) : Int)).toNat < s.length - ((k : Int)).toNat
        omega
    · subst hkE
      rw [hdc] at Q
      clear hdc
      go_wp2_with fail
      refine (P.out).mono ?_
      rintro en w1 ⟨rfl, nn, hw1⟩
      have d0 : w1.cell? ⟨b, 0, none⟩ = some (.string ⟨s.toArray⟩) := by rw [hw1]; exact c0
      have d1 : w1.cell? ⟨b, 1, none⟩ = some (.int .i64 k) := by rw [hw1]; exact c1
      have hl1 : b < w1.heap.size := by rw [hw1]; exact hlr
      have HR1 : IsRdr b s k false w1 := by rw [hw1]; exact HRr.out.drewN _
      have HB1 : But b w w1 := by rw [hw1]; exact hb.drewN _
      have HR1 := Lib.hid HR1
      have HB1 := Lib.hid HB1
      clear hw1
      go_wp2_with fail
      refine (Q.out _).mono ?_
      rintro en w2 ⟨rfl, rfl⟩
      have zs := bytes_size s
      have hi0 : (0 : Int) ≤ (i : Int) := by omega
      have hik : (i : Int) ≤ (k : Int) := by omega
      have hks : (k : Int) ≤ (s.length : Int) := by omega
      go_wp2_with fail
      have D0 := fun d : Later w1.heap.size w1 => Later.cell d0 hl1 d
      have D1 := fun d : Later w1.heap.size w1 => Later.cell d1 hl1 d
      refine wp_region_later (by kernel_rfl) (by kernel_rfl) ?_
      repeat (go_big_quiet_step ((go_at_call 61; exact Calls.later (QA.out _))))
      refine wpQuiet_nil ?_
      intro _ hw'
      obtain ⟨dq, hw''⟩ := hw'
      subst hw''
      have HR2 := Lib.hid (HR1.out.below dq.h)
      have HB2 := Lib.hid (HB1.out.trans (But.of dq.h))
      have l1 : dq.w.cell? ⟨b, 1, none⟩ = some (.int .i64 k) := D1 dq
      have g1 : IntKind.i64.wrap ((k : Int) - (i : Int)) = (k : Int) - (i : Int) := IntWalk.i64_in _ (by omega)
      have g2 : decide ((6 : Int) < (k : Int) - (i : Int)) = false := decide_eq_false (by omega)
      have g3 : ¬ ((6 : Int) < (k : Int) - (i : Int)) := by omega
      clear D0 D1
      go_wp2_with fail
      go_ret
      exact ⟨rfl, HR2.out, HB2.out⟩

set_option maxHeartbeats 2000000 in
/-- A numeral that is too long. -/
theorem number_long (b : Nat) (s : List UInt8) (i E : Nat) (n : Int) (w : World) (hs : s.length ≤ 1000000) (hi : i ≤ s.length) (hE : twEnd L.isDig s i = E) (h6 : 6 < E - i) (hR : IsRdr b s i false w)
    (hA : ∀ W, Calls Tryd.prog 61 #[.string ((⟨s.toArray⟩ : ByteArray).extract i E)] W fun e w' => e = .returned (.tuple #[.int .i64 n, .nilIface]) ∧ Below W.heap.size W w') :
    Calls Tryd.prog 57 #[.pointer (some ⟨b, 0, none⟩)] w (RdPost b s E true (.int .i64 n) w) := by
  have hEl : E ≤ s.length := by rw [← hE]; exact twEnd_le hi
  have hEi : i ≤ E := by rw [← hE]; exact twEnd_ge _ _ _
  have HE := Lib.hid hE
  have HR := Lib.hid hR
  have QA := Lib.hid hA
  obtain ⟨hc, hf⟩ := cells_of hR
  have hlb := lt_of_block hR
  have c1 : w.cell? ⟨b, 1, none⟩ = some (.int .i64 i) := hc 1
  clear hc hf hR hE hA
  go_enter Tryd.func57, Tryd.ntmps57
  go_wp2_with fail
  go_loopw [] (fun wr => ∃ k : Nat, IsRdr b s k false wr ∧ But b w wr ∧ i ≤ k ∧ k ≤ s.length ∧ Hid (twEnd L.isDig s k = E)) (fun wr => s.length - (match wr.cell? ⟨b, 1, none⟩ with | some (.int _ q) => q.toNat | _ => 0))
  case atStart => exact ⟨i, HR.out, But.refl _ _, Nat.le_refl _, hi, HE⟩
  case round =>
    obtain ⟨k, hr, hb, hk1, hk2, HK⟩ := hrel
    have P := Lib.hid (peek b s k false wr hs hk2 hr)
    obtain ⟨hc, hf⟩ := cells_of hr
    have hlr := lt_of_block hr
    have HRr := Lib.hid hr
    have c0 : wr.cell? ⟨b, 0, none⟩ = some (.string ⟨s.toArray⟩) := hc 0
    have c1 : wr.cell? ⟨b, 1, none⟩ = some (.int .i64 k) := hc 1
    have f1 : wr.frozen? ⟨b, 1, none⟩ = false := hf 1 (by show 1 < 3; omega)
    have hdg : (k < s.length ∧ L.isDig (s.getD k 0) = true ∧ Hid (twEnd L.isDig s (k + 1) = E)) ∨ (L.isDig (s.getD k 0) = false ∧ k = E) := by
      by_cases hlt : k < s.length
      · obtain ⟨c, r, hd⟩ := drop_cons hlt
        rw [getD_drop hd]
        cases hdc : L.isDig c with
        | true => exact Or.inl ⟨hlt, rfl, Lib.hid ((twEnd_step hd hdc).trans HK.out)⟩
        | false => exact Or.inr ⟨rfl, (twEnd_stop hd hdc).symm.trans HK.out⟩
      · rw [getD_past (by omega)]
        exact Or.inr ⟨rfl, (twEnd_past (by omega)).symm.trans HK.out⟩
    have Q := Lib.hid (fun W => digit (s.getD k 0) W)
    generalize s.getD k 0 = c at *
    clear hr HR HE hc hf HK
    rcases hdg with ⟨hlt, hdc, HK'⟩ | ⟨hdc, hkE⟩
    · rw [hdc] at Q
      clear hdc
      go_wp2_with fail
      refine (P.out).mono ?_
      rintro en w1 ⟨rfl, nn, hw1⟩
      have d1 : w1.cell? ⟨b, 1, none⟩ = some (.int .i64 k) := by rw [hw1]; exact c1
      have e1 : w1.frozen? ⟨b, 1, none⟩ = false := by rw [hw1]; exact f1
      have hl1 : b < w1.heap.size := by rw [hw1]; exact hlr
      have HR1 : IsRdr b s k false w1 := by rw [hw1]; exact HRr.out.drewN _
      have HB1 : But b w w1 := by rw [hw1]; exact hb.drewN _
      have HR1 := Lib.hid HR1
      have HB1 := Lib.hid HB1
      clear hw1
      go_wp2_with fail
      refine (Q.out _).mono ?_
      rintro en w2 ⟨rfl, rfl⟩
      go_wp2_with fail
      go_roundw
      case rel => exact ⟨k + 1, HR1.out.place (k + 1) (by omega), HB1.out.trans (But.set _ _ _), by omega, by omega, HK'⟩
      case measure =>
        have hl := hlt
        have h1 := (cells_of (HR1.out.place (k + 1) (z := (k : Int) + 1) (by omega))).1 1
        rw [h1, c1]
        show s.length - (((k + 1 : Nat) : Int)).toNat < s.length - ((k : Int)).toNat
        omega
    · subst hkE
      rw [hdc] at Q
      clear hdc
      go_wp2_with fail
      refine (P.out).mono ?_
      rintro en w1 ⟨rfl, nn, hw1⟩
      have d0 : w1.cell? ⟨b, 0, none⟩ = some (.string ⟨s.toArray⟩) := by rw [hw1]; exact c0
      have d1 : w1.cell? ⟨b, 1, none⟩ = some (.int .i64 k) := by rw [hw1]; exact c1
      have hl1 : b < w1.heap.size := by rw [hw1]; exact hlr
      have HR1 : IsRdr b s k false w1 := by rw [hw1]; exact HRr.out.drewN _
      have HB1 : But b w w1 := by rw [hw1]; exact hb.drewN _
      have HR1 := Lib.hid HR1
      have HB1 := Lib.hid HB1
      clear hw1
      go_wp2_with fail
      refine (Q.out _).mono ?_
      rintro en w2 ⟨rfl, rfl⟩
      have zs := bytes_size s
      have hi0 : (0 : Int) ≤ (i : Int) := by omega
      have hik : (i : Int) ≤ (k : Int) := by omega
      have hks : (k : Int) ≤ (s.length : Int) := by omega
      go_wp2_with fail
      have D0 := fun d : Later w1.heap.size w1 => Later.cell d0 hl1 d
      have D1 := fun d : Later w1.heap.size w1 => Later.cell d1 hl1 d
      refine wp_region_later (by kernel_rfl) (by kernel_rfl) ?_
      repeat (go_big_quiet_step ((go_at_call 61; exact Calls.later (QA.out _))))
      refine wpQuiet_nil ?_
      intro _ hw'
      obtain ⟨dq, hw''⟩ := hw'
      subst hw''
      have HR2 := Lib.hid (HR1.out.below dq.h)
      have HB2 := Lib.hid (HB1.out.trans (But.of dq.h))
      have l1 : dq.w.cell? ⟨b, 1, none⟩ = some (.int .i64 k) := D1 dq
      have g1 : IntKind.i64.wrap ((k : Int) - (i : Int)) = (k : Int) - (i : Int) := IntWalk.i64_in _ (by omega)
      have g2 : decide ((6 : Int) < (k : Int) - (i : Int)) = true := decide_eq_true (by omega)
      have g3 : (6 : Int) < (k : Int) - (i : Int) := by omega
      obtain ⟨hc2, hf2⟩ := cells_of HR2.out
      have f2 : dq.w.frozen? ⟨b, 2, none⟩ = false := hf2 2 (by show 2 < 3; omega)
      have hl2 := lt_of_block HR2.out
      have l2 : dq.w.cell? ⟨b, 2, none⟩ = some (.bool false) := hc2 2
      clear hc2 hf2
      clear D0 D1
      go_wp2_with fail
      go_ret
      exact ⟨rfl, HR2.out.fail, HB2.out.trans (But.set _ _ _)⟩

end K
end Go.Proofs.YtnmcgmbhkmfiaaaDoor
