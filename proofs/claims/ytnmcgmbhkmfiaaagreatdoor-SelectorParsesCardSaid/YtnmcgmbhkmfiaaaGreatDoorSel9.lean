/- The reader of selectors: sign. A region that draws its order, whose operations read what was there and whose callees only make memory: one walk, in the order of the text. The reader of selectors: number. The reader of selectors: number. The reader of selectors: one contract for each reading, whatever comes. -/
import Derived.Test.YtnmcgmbhkmfiaaaGreatDoorSel5
import Derived.Deep.QuietTactic
import Derived.BigQuiet
import Derived.Below
import Derived.RegionTactic
import Derived.BigRegion
set_option linter.unusedVariables false
set_option linter.unusedSimpArgs false
namespace Go.Proofs.YtnmcgmbhkmfiaaaGreatDoor
open Go.RowKit
namespace K
open H

def signV (n : Int) (x : Bool) : Value := .tuple #[.int .i64 n, .bool x]

set_option maxHeartbeats 1000000 in
theorem sign_plus (b : Nat) (s : List UInt8) (i : Nat) (w : World) (hs : s.length ≤ 1000000) (hi : i ≤ s.length) (hp : ([43] : List UInt8).isPrefixOf (s.drop i) = true) (hR : IsRdr b s i false w) :
    Calls Tryz.prog 81 #[.pointer (some ⟨b, 0, none⟩)] w (RdPost b s (i + 1) false (signV 1 true) w) := by
  have T := take b s [43] i w hs (by decide) hi hR
  rw [hp] at T
  have Q := Lib.hid T
  clear T hp hR
  go_enter Tryz.func81, Tryz.ntmps81
  go_wp2_with fail
  refine (Q.out).mono ?_
  rintro en w1 ⟨rfl, hr, hb⟩
  go_wp2_with fail
  refine bodyPost_ret (v := signV 1 true) (by simp [results, Tryz.results81, go_sem, signV]) rfl ⟨rfl, hr, hb⟩

set_option maxHeartbeats 1000000 in
theorem sign_minus (b : Nat) (s : List UInt8) (i : Nat) (w : World) (hs : s.length ≤ 1000000) (hi : i ≤ s.length) (hp : ([43] : List UInt8).isPrefixOf (s.drop i) = false) (hm : ([45] : List UInt8).isPrefixOf (s.drop i) = true) (hR : IsRdr b s i false w) :
    Calls Tryz.prog 81 #[.pointer (some ⟨b, 0, none⟩)] w (RdPost b s (i + 1) false (signV (-1) true) w) := by
  have T := take b s [43] i w hs (by decide) hi hR
  rw [hp] at T
  have Q := Lib.hid T
  have Q2 := Lib.hid (fun W => take b s [45] i W hs (by decide) hi)
  rw [hm] at Q2
  clear T hp hR hm
  go_enter Tryz.func81, Tryz.ntmps81
  go_wp2_with fail
  refine (Q.out).mono ?_
  rintro en w1 ⟨rfl, hr, hb⟩
  go_wp2_with fail
  refine (Q2.out _ hr).mono ?_
  rintro en w2 ⟨rfl, hr2, hb2⟩
  go_wp2_with fail
  refine bodyPost_ret (v := signV (-1) true) (by simp [results, Tryz.results81, go_sem, signV]) rfl ⟨rfl, hr2, hb.trans hb2⟩

set_option maxHeartbeats 1000000 in
theorem sign_none (b : Nat) (s : List UInt8) (i : Nat) (w : World) (hs : s.length ≤ 1000000) (hi : i ≤ s.length) (hp : ([43] : List UInt8).isPrefixOf (s.drop i) = false) (hm : ([45] : List UInt8).isPrefixOf (s.drop i) = false) (hR : IsRdr b s i false w) :
    Calls Tryz.prog 81 #[.pointer (some ⟨b, 0, none⟩)] w (RdPost b s i false (signV 1 false) w) := by
  have T := take b s [43] i w hs (by decide) hi hR
  rw [hp] at T
  have Q := Lib.hid T
  have Q2 := Lib.hid (fun W => take b s [45] i W hs (by decide) hi)
  rw [hm] at Q2
  clear T hp hR hm
  go_enter Tryz.func81, Tryz.ntmps81
  go_wp2_with fail
  refine (Q.out).mono ?_
  rintro en w1 ⟨rfl, hr, hb⟩
  go_wp2_with fail
  refine (Q2.out _ hr).mono ?_
  rintro en w2 ⟨rfl, hr2, hb2⟩
  go_wp2_with fail
  refine bodyPost_ret (v := signV 1 false) (by simp [results, Tryz.results81, go_sem, signV]) rfl ⟨rfl, hr2, hb.trans hb2⟩

end K
end Go.Proofs.YtnmcgmbhkmfiaaaGreatDoor

namespace Go.Proofs.YtnmcgmbhkmfiaaaGreatDoor
open Go.RowKit

/-- A world behind w0, in which all blocks below B are as they were. -/
structure Later (B : Nat) (w0 : World) where
  w : World
  h : Below B w0 w

instance laterNonempty (B : Nat) (w0 : World) : Nonempty (Later B w0) := ⟨⟨w0, Below.refl _ _⟩⟩

theorem Later.cell {w0 : World} {g o : Nat} {v : Value} (h : w0.cell? ⟨g, o, none⟩ = some v) (hp : g < w0.heap.size) (d : Later w0.heap.size w0) : d.w.cell? ⟨g, o, none⟩ = some v := (d.h.cell (p := ⟨g, o, none⟩) hp).trans h

theorem wp_region_later {P : Program} {id : Nat} {Q : Exit → Act → World → Prop} {a : Act} {w : World} {l : List Oper} (hm : P.follows .mixedOrders = true) (hB : Region.lexB .any l.toArray = true)
    (h : wpQuiet P l.toArray (fun w' => ∃ d : Later w.heap.size w, w' = d.w) (fun a' => ∀ w', (∃ d : Later w.heap.size w, w' = d.w) → Q .normal a' w') l a) : (Code.region id l.toArray true).wp P Q a w :=
  wp_region_quiet (C := fun w' => ∃ d : Later w.heap.size w, w' = d.w) hm hB ⟨⟨{ w with drawn := w.drawn + 1 }, ⟨rfl, rfl, rfl, Nat.le_refl _, fun _ _ => rfl⟩⟩, rfl⟩ (by simpa using h)

theorem Calls.later {P : Program} {f : FuncId} {args : Array Value} {w0 : World} {d : Later w0.heap.size w0} {v : Value}
    (h : Calls P f args d.w fun e w' => e = .returned v ∧ Below d.w.heap.size d.w w') : Calls P f args d.w fun e w'' => e = .returned v ∧ ∃ d' : Later w0.heap.size w0, w'' = d'.w :=
  h.mono fun _ _ h => ⟨h.1, ⟨_, d.h.trans (h.2.mono d.h.size)⟩, rfl⟩

theorem Calls.later_same {P : Program} {f : FuncId} {args : Array Value} {w0 : World} {d : Later w0.heap.size w0} {v : Value}
    (h : Calls P f args d.w fun e w' => e = .returned v ∧ d.w = w') : Calls P f args d.w fun e w'' => e = .returned v ∧ ∃ d' : Later w0.heap.size w0, w'' = d'.w :=
  h.mono fun _ _ h => ⟨h.1, d, h.2.symm⟩

end Go.Proofs.YtnmcgmbhkmfiaaaGreatDoor

namespace Go.Proofs.YtnmcgmbhkmfiaaaGreatDoor
open Go.RowKit
namespace K
open H

set_option maxHeartbeats 2000000 in
theorem number_ok (b : Nat) (s : List UInt8) (i E : Nat) (n : Int) (w : World) (hs : s.length ≤ 1000000) (hi : i ≤ s.length) (hE : twEnd L.isDig s i = E) (h6 : E - i ≤ 6) (hR : IsRdr b s i false w)
    (hA : ∀ W, Calls Tryz.prog 87 #[.string ((⟨s.toArray⟩ : ByteArray).extract i E)] W fun e w' => e = .returned (.tuple #[.int .i64 n, .nilIface]) ∧ Below W.heap.size W w') :
    Calls Tryz.prog 82 #[.pointer (some ⟨b, 0, none⟩)] w (RdPost b s E false (.int .i64 n) w) := by
  have hEl : E ≤ s.length := by rw [← hE]; exact twEnd_le hi
  have hEi : i ≤ E := by rw [← hE]; exact twEnd_ge _ _ _
  have HE := Lib.hid hE
  have HR := Lib.hid hR
  have QA := Lib.hid hA
  obtain ⟨hc, hf⟩ := cells_of hR
  have hlb := lt_of_block hR
  have c1 : w.cell? ⟨b, 1, none⟩ = some (.int .i64 i) := hc 1
  clear hc hf hR hE hA
  go_enter Tryz.func82, Tryz.ntmps82
  go_wp2_with fail
  go_loopw [] (fun wr => ∃ k : Nat, IsRdr b s k false wr ∧ But b w wr ∧ i ≤ k ∧ k ≤ s.length ∧ Hid (twEnd L.isDig s k = E)) (fun wr => s.length - (match wr.cell? ⟨b, 1, none⟩ with | some (.int _ q) => q.toNat | _ => 0))
  case atStart => exact ⟨i, HR.out, But.refl _ _, Nat.le_refl _, hi, HE⟩
  case round =>
    obtain ⟨k, hr, hb, hk1, hk2, HK⟩ := hrel
    have P := Lib.hid (peek b s k false wr hs hk2 hr)
    obtain ⟨hc, hf⟩ := cells_of hr
    have hlr := lt_of_block hr
    have HRr := Lib.hid hr
    have c0 : wr.cell? ⟨b, 0, none⟩ = some (.string ⟨s.toArray⟩) := hc 0
    have c1 : wr.cell? ⟨b, 1, none⟩ = some (.int .i64 k) := hc 1
    have f1 : wr.frozen? ⟨b, 1, none⟩ = false := hf 1 (by show 1 < 3; omega)
    have hdg : (k < s.length ∧ L.isDig (s.getD k 0) = true ∧ Hid (twEnd L.isDig s (k + 1) = E)) ∨ (L.isDig (s.getD k 0) = false ∧ k = E) := by
      by_cases hlt : k < s.length
      · obtain ⟨c, r, hd⟩ := drop_cons hlt
        rw [getD_drop hd]
        cases hdc : L.isDig c with
        | true => exact Or.inl ⟨hlt, rfl, Lib.hid ((twEnd_step hd hdc).trans HK.out)⟩
        | false => exact Or.inr ⟨rfl, (twEnd_stop hd hdc).symm.trans HK.out⟩
      · rw [getD_past (by omega)]
        exact Or.inr ⟨rfl, (twEnd_past (by omega)).symm.trans HK.out⟩
    have Q := Lib.hid (fun W => digit (s.getD k 0) W)
    generalize s.getD k 0 = c at *
    clear hr HR HE hc hf HK
    rcases hdg with ⟨hlt, hdc, HK'⟩ | ⟨hdc, hkE⟩
    · rw [hdc] at Q
      clear hdc
      go_wp2_with fail
      refine (P.out).mono ?_
      rintro en w1 ⟨rfl, nn, hw1⟩
      have d1 : w1.cell? ⟨b, 1, none⟩ = some (.int .i64 k) := by rw [hw1]; exact c1
      have e1 : w1.frozen? ⟨b, 1, none⟩ = false := by rw [hw1]; exact f1
      have hl1 : b < w1.heap.size := by rw [hw1]; exact hlr
      have HR1 : IsRdr b s k false w1 := by rw [hw1]; exact HRr.out.drewN _
      have HB1 : But b w w1 := by rw [hw1]; exact hb.drewN _
      have HR1 := Lib.hid HR1
      have HB1 := Lib.hid HB1
      clear hw1
      go_wp2_with fail
      refine (Q.out _).mono ?_
      rintro en w2 ⟨rfl, rfl⟩
      go_wp2_with fail
      go_roundw
      case rel => exact ⟨k + 1, HR1.out.place (k + 1) (by omega), HB1.out.trans (But.set _ _ _), by omega, by omega, HK'⟩
      case measure =>
        have hl := hlt
        have h1 := (cells_of (HR1.out.place (k + 1) (z := (k : Int) + 1) (by omega))).1 1
        rw [h1, c1]
        show s.length - (((k + 1 : Nat) : Int)).toNat < s.length - ((k : Int)).toNat
        omega
    · subst hkE
      rw [hdc] at Q
      clear hdc
      go_wp2_with fail
      refine (P.out).mono ?_
      rintro en w1 ⟨rfl, nn, hw1⟩
      have d0 : w1.cell? ⟨b, 0, none⟩ = some (.string ⟨s.toArray⟩) := by rw [hw1]; exact c0
      have d1 : w1.cell? ⟨b, 1, none⟩ = some (.int .i64 k) := by rw [hw1]; exact c1
      have hl1 : b < w1.heap.size := by rw [hw1]; exact hlr
      have HR1 : IsRdr b s k false w1 := by rw [hw1]; exact HRr.out.drewN _
      have HB1 : But b w w1 := by rw [hw1]; exact hb.drewN _
      have HR1 := Lib.hid HR1
      have HB1 := Lib.hid HB1
      clear hw1
      go_wp2_with fail
      refine (Q.out _).mono ?_
      rintro en w2 ⟨rfl, rfl⟩
      have zs := bytes_size s
      have hi0 : (0 : Int) ≤ (i : Int) := by omega
      have hik : (i : Int) ≤ (k : Int) := by omega
      have hks : (k : Int) ≤ (s.length : Int) := by omega
      go_wp2_with fail
      have D0 := fun d : Later w1.heap.size w1 => Later.cell d0 hl1 d
      have D1 := fun d : Later w1.heap.size w1 => Later.cell d1 hl1 d
      refine wp_region_later (by kernel_rfl) (by kernel_rfl) ?_
      repeat (go_big_quiet_step ((go_at_call 87; exact Calls.later (QA.out _))))
      refine wpQuiet_nil ?_
      intro _ hw'
      obtain ⟨dq, hw''⟩ := hw'
      subst hw''
      have HR2 := Lib.hid (HR1.out.below dq.h)
      have HB2 := Lib.hid (HB1.out.trans (But.of dq.h))
      have l1 : dq.w.cell? ⟨b, 1, none⟩ = some (.int .i64 k) := D1 dq
      have g1 : IntKind.i64.wrap ((k : Int) - (i : Int)) = (k : Int) - (i : Int) := IntWalk.i64_in _ (by omega)
      have g2 : decide ((6 : Int) < (k : Int) - (i : Int)) = false := decide_eq_false (by omega)
      have g3 : ¬ ((6 : Int) < (k : Int) - (i : Int)) := by omega
      clear D0 D1
      go_wp2_with fail
      go_ret
      exact ⟨rfl, HR2.out, HB2.out⟩

set_option maxHeartbeats 2000000 in
/-- A numeral that is too long. -/
theorem number_long (b : Nat) (s : List UInt8) (i E : Nat) (n : Int) (w : World) (hs : s.length ≤ 1000000) (hi : i ≤ s.length) (hE : twEnd L.isDig s i = E) (h6 : 6 < E - i) (hR : IsRdr b s i false w)
    (hA : ∀ W, Calls Tryz.prog 87 #[.string ((⟨s.toArray⟩ : ByteArray).extract i E)] W fun e w' => e = .returned (.tuple #[.int .i64 n, .nilIface]) ∧ Below W.heap.size W w') :
    Calls Tryz.prog 82 #[.pointer (some ⟨b, 0, none⟩)] w (RdPost b s E true (.int .i64 n) w) := by
  have hEl : E ≤ s.length := by rw [← hE]; exact twEnd_le hi
  have hEi : i ≤ E := by rw [← hE]; exact twEnd_ge _ _ _
  have HE := Lib.hid hE
  have HR := Lib.hid hR
  have QA := Lib.hid hA
  obtain ⟨hc, hf⟩ := cells_of hR
  have hlb := lt_of_block hR
  have c1 : w.cell? ⟨b, 1, none⟩ = some (.int .i64 i) := hc 1
  clear hc hf hR hE hA
  go_enter Tryz.func82, Tryz.ntmps82
  go_wp2_with fail
  go_loopw [] (fun wr => ∃ k : Nat, IsRdr b s k false wr ∧ But b w wr ∧ i ≤ k ∧ k ≤ s.length ∧ Hid (twEnd L.isDig s k = E)) (fun wr => s.length - (match wr.cell? ⟨b, 1, none⟩ with | some (.int _ q) => q.toNat | _ => 0))
  case atStart => exact ⟨i, HR.out, But.refl _ _, Nat.le_refl _, hi, HE⟩
  case round =>
    obtain ⟨k, hr, hb, hk1, hk2, HK⟩ := hrel
    have P := Lib.hid (peek b s k false wr hs hk2 hr)
    obtain ⟨hc, hf⟩ := cells_of hr
    have hlr := lt_of_block hr
    have HRr := Lib.hid hr
    have c0 : wr.cell? ⟨b, 0, none⟩ = some (.string ⟨s.toArray⟩) := hc 0
    have c1 : wr.cell? ⟨b, 1, none⟩ = some (.int .i64 k) := hc 1
    have f1 : wr.frozen? ⟨b, 1, none⟩ = false := hf 1 (by show 1 < 3; omega)
    have hdg : (k < s.length ∧ L.isDig (s.getD k 0) = true ∧ Hid (twEnd L.isDig s (k + 1) = E)) ∨ (L.isDig (s.getD k 0) = false ∧ k = E) := by
      by_cases hlt : k < s.length
      · obtain ⟨c, r, hd⟩ := drop_cons hlt
        rw [getD_drop hd]
        cases hdc : L.isDig c with
        | true => exact Or.inl ⟨hlt, rfl, Lib.hid ((twEnd_step hd hdc).trans HK.out)⟩
        | false => exact Or.inr ⟨rfl, (twEnd_stop hd hdc).symm.trans HK.out⟩
      · rw [getD_past (by omega)]
        exact Or.inr ⟨rfl, (twEnd_past (by omega)).symm.trans HK.out⟩
    have Q := Lib.hid (fun W => digit (s.getD k 0) W)
    generalize s.getD k 0 = c at *
    clear hr HR HE hc hf HK
    rcases hdg with ⟨hlt, hdc, HK'⟩ | ⟨hdc, hkE⟩
    · rw [hdc] at Q
      clear hdc
      go_wp2_with fail
      refine (P.out).mono ?_
      rintro en w1 ⟨rfl, nn, hw1⟩
      have d1 : w1.cell? ⟨b, 1, none⟩ = some (.int .i64 k) := by rw [hw1]; exact c1
      have e1 : w1.frozen? ⟨b, 1, none⟩ = false := by rw [hw1]; exact f1
      have hl1 : b < w1.heap.size := by rw [hw1]; exact hlr
      have HR1 : IsRdr b s k false w1 := by rw [hw1]; exact HRr.out.drewN _
      have HB1 : But b w w1 := by rw [hw1]; exact hb.drewN _
      have HR1 := Lib.hid HR1
      have HB1 := Lib.hid HB1
      clear hw1
      go_wp2_with fail
      refine (Q.out _).mono ?_
      rintro en w2 ⟨rfl, rfl⟩
      go_wp2_with fail
      go_roundw
      case rel => exact ⟨k + 1, HR1.out.place (k + 1) (by omega), HB1.out.trans (But.set _ _ _), by omega, by omega, HK'⟩
      case measure =>
        have hl := hlt
        have h1 := (cells_of (HR1.out.place (k + 1) (z := (k : Int) + 1) (by omega))).1 1
        rw [h1, c1]
        show s.length - (((k + 1 : Nat) : Int)).toNat < s.length - ((k : Int)).toNat
        omega
    · subst hkE
      rw [hdc] at Q
      clear hdc
      go_wp2_with fail
      refine (P.out).mono ?_
      rintro en w1 ⟨rfl, nn, hw1⟩
      have d0 : w1.cell? ⟨b, 0, none⟩ = some (.string ⟨s.toArray⟩) := by rw [hw1]; exact c0
      have d1 : w1.cell? ⟨b, 1, none⟩ = some (.int .i64 k) := by rw [hw1]; exact c1
      have hl1 : b < w1.heap.size := by rw [hw1]; exact hlr
      have HR1 : IsRdr b s k false w1 := by rw [hw1]; exact HRr.out.drewN _
      have HB1 : But b w w1 := by rw [hw1]; exact hb.drewN _
      have HR1 := Lib.hid HR1
      have HB1 := Lib.hid HB1
      clear hw1
      go_wp2_with fail
      refine (Q.out _).mono ?_
      rintro en w2 ⟨rfl, rfl⟩
      have zs := bytes_size s
      have hi0 : (0 : Int) ≤ (i : Int) := by omega
      have hik : (i : Int) ≤ (k : Int) := by omega
      have hks : (k : Int) ≤ (s.length : Int) := by omega
      go_wp2_with fail
      have D0 := fun d : Later w1.heap.size w1 => Later.cell d0 hl1 d
      have D1 := fun d : Later w1.heap.size w1 => Later.cell d1 hl1 d
      refine wp_region_later (by kernel_rfl) (by kernel_rfl) ?_
      repeat (go_big_quiet_step ((go_at_call 87; exact Calls.later (QA.out _))))
      refine wpQuiet_nil ?_
      intro _ hw'
      obtain ⟨dq, hw''⟩ := hw'
      subst hw''
      have HR2 := Lib.hid (HR1.out.below dq.h)
      have HB2 := Lib.hid (HB1.out.trans (But.of dq.h))
      have l1 : dq.w.cell? ⟨b, 1, none⟩ = some (.int .i64 k) := D1 dq
      have g1 : IntKind.i64.wrap ((k : Int) - (i : Int)) = (k : Int) - (i : Int) := IntWalk.i64_in _ (by omega)
      have g2 : decide ((6 : Int) < (k : Int) - (i : Int)) = true := decide_eq_true (by omega)
      have g3 : (6 : Int) < (k : Int) - (i : Int) := by omega
      obtain ⟨hc2, hf2⟩ := cells_of HR2.out
      have f2 : dq.w.frozen? ⟨b, 2, none⟩ = false := hf2 2 (by show 2 < 3; omega)
      have hl2 := lt_of_block HR2.out
      have l2 : dq.w.cell? ⟨b, 2, none⟩ = some (.bool false) := hc2 2
      clear hc2 hf2
      clear D0 D1
      go_wp2_with fail
      go_ret
      exact ⟨rfl, HR2.out.fail, HB2.out.trans (But.set _ _ _)⟩

end K
end Go.Proofs.YtnmcgmbhkmfiaaaGreatDoor

namespace Go.Proofs.YtnmcgmbhkmfiaaaGreatDoor
open Go.RowKit
namespace K
open H

set_option maxHeartbeats 2000000 in
/-- What is no numeral, or one that no int holds. -/
theorem number_err (b : Nat) (s : List UInt8) (i E : Nat) (n : Int) (w : World) (hs : s.length ≤ 1000000) (hi : i ≤ s.length) (hE : twEnd L.isDig s i = E) (ty : TypeId) (hR : IsRdr b s i false w)
    (hA : ∀ W, But b w W → Calls Tryz.prog 87 #[.string ((⟨s.toArray⟩ : ByteArray).extract i E)] W fun e w' => ∃ N, e = .returned (.tuple #[.int .i64 n, .iface ty (.pointer (some ⟨N, 0, none⟩))]) ∧ Below W.heap.size W w') :
    Calls Tryz.prog 82 #[.pointer (some ⟨b, 0, none⟩)] w (RdPost b s E true (.int .i64 n) w) := by
  have hEl : E ≤ s.length := by rw [← hE]; exact twEnd_le hi
  have hEi : i ≤ E := by rw [← hE]; exact twEnd_ge _ _ _
  have HE := Lib.hid hE
  have HR := Lib.hid hR
  have QA := Lib.hid hA
  obtain ⟨hc, hf⟩ := cells_of hR
  have hlb := lt_of_block hR
  have c1 : w.cell? ⟨b, 1, none⟩ = some (.int .i64 i) := hc 1
  clear hc hf hR hE hA
  go_enter Tryz.func82, Tryz.ntmps82
  go_wp2_with fail
  go_loopw [] (fun wr => ∃ k : Nat, IsRdr b s k false wr ∧ But b w wr ∧ i ≤ k ∧ k ≤ s.length ∧ Hid (twEnd L.isDig s k = E)) (fun wr => s.length - (match wr.cell? ⟨b, 1, none⟩ with | some (.int _ q) => q.toNat | _ => 0))
  case atStart => exact ⟨i, HR.out, But.refl _ _, Nat.le_refl _, hi, HE⟩
  case round =>
    obtain ⟨k, hr, hb, hk1, hk2, HK⟩ := hrel
    have P := Lib.hid (peek b s k false wr hs hk2 hr)
    obtain ⟨hc, hf⟩ := cells_of hr
    have hlr := lt_of_block hr
    have HRr := Lib.hid hr
    have c0 : wr.cell? ⟨b, 0, none⟩ = some (.string ⟨s.toArray⟩) := hc 0
    have c1 : wr.cell? ⟨b, 1, none⟩ = some (.int .i64 k) := hc 1
    have f1 : wr.frozen? ⟨b, 1, none⟩ = false := hf 1 (by show 1 < 3; omega)
    have hdg : (k < s.length ∧ L.isDig (s.getD k 0) = true ∧ Hid (twEnd L.isDig s (k + 1) = E)) ∨ (L.isDig (s.getD k 0) = false ∧ k = E) := by
      by_cases hlt : k < s.length
      · obtain ⟨c, r, hd⟩ := drop_cons hlt
        rw [getD_drop hd]
        cases hdc : L.isDig c with
        | true => exact Or.inl ⟨hlt, rfl, Lib.hid ((twEnd_step hd hdc).trans HK.out)⟩
        | false => exact Or.inr ⟨rfl, (twEnd_stop hd hdc).symm.trans HK.out⟩
      · rw [getD_past (by omega)]
        exact Or.inr ⟨rfl, (twEnd_past (by omega)).symm.trans HK.out⟩
    have Q := Lib.hid (fun W => digit (s.getD k 0) W)
    generalize s.getD k 0 = c at *
    clear hr HR HE hc hf HK
    rcases hdg with ⟨hlt, hdc, HK'⟩ | ⟨hdc, hkE⟩
    · rw [hdc] at Q
      clear hdc
      go_wp2_with fail
      refine (P.out).mono ?_
      rintro en w1 ⟨rfl, nn, hw1⟩
      have d1 : w1.cell? ⟨b, 1, none⟩ = some (.int .i64 k) := by rw [hw1]; exact c1
      have e1 : w1.frozen? ⟨b, 1, none⟩ = false := by rw [hw1]; exact f1
      have hl1 : b < w1.heap.size := by rw [hw1]; exact hlr
      have HR1 : IsRdr b s k false w1 := by rw [hw1]; exact HRr.out.drewN _
      have HB1 : But b w w1 := by rw [hw1]; exact hb.drewN _
      have HR1 := Lib.hid HR1
      have HB1 := Lib.hid HB1
      clear hw1
      go_wp2_with fail
      refine (Q.out _).mono ?_
      rintro en w2 ⟨rfl, rfl⟩
      go_wp2_with fail
      go_roundw
      case rel => exact ⟨k + 1, HR1.out.place (k + 1) (by omega), HB1.out.trans (But.set _ _ _), by omega, by omega, HK'⟩
      case measure =>
        have hl := hlt
        have h1 := (cells_of (HR1.out.place (k + 1) (z := (k : Int) + 1) (by omega))).1 1
        rw [h1, c1]
        show s.length - (((k + 1 : Nat) : Int)).toNat < s.length - ((k : Int)).toNat
        omega
    · subst hkE
      rw [hdc] at Q
      clear hdc
      go_wp2_with fail
      refine (P.out).mono ?_
      rintro en w1 ⟨rfl, nn, hw1⟩
      have d0 : w1.cell? ⟨b, 0, none⟩ = some (.string ⟨s.toArray⟩) := by rw [hw1]; exact c0
      have d1 : w1.cell? ⟨b, 1, none⟩ = some (.int .i64 k) := by rw [hw1]; exact c1
      have hl1 : b < w1.heap.size := by rw [hw1]; exact hlr
      have HR1 : IsRdr b s k false w1 := by rw [hw1]; exact HRr.out.drewN _
      have HB1 : But b w w1 := by rw [hw1]; exact hb.drewN _
      have HR1 := Lib.hid HR1
      have HB1 := Lib.hid HB1
      clear hw1
      go_wp2_with fail
      refine (Q.out _).mono ?_
      rintro en w2 ⟨rfl, rfl⟩
      have zs := bytes_size s
      have hi0 : (0 : Int) ≤ (i : Int) := by omega
      have hik : (i : Int) ≤ (k : Int) := by omega
      have hks : (k : Int) ≤ (s.length : Int) := by omega
      go_wp2_with fail
      go_region_with ((go_at_call 87; refine (QA.out w1.drew ⟨HB1.out.os, HB1.out.tape, HB1.out.output, HB1.out.size, HB1.out.block⟩).mono ?_; rintro e w' ⟨N, rfl, bL⟩; have k0 := (bL.cell (p := ⟨b, 0, none⟩) hl1).trans d0; have k1 := (bL.cell (p := ⟨b, 1, none⟩) hl1).trans d1))
      all_goals
        have bL' : Below w1.heap.size w1 w' := ⟨bL.os, bL.tape, bL.output, bL.size, bL.block⟩
        have hr2 : IsRdr b s k false w' := HR1.out.below bL'
        have hb2 : But b w1 w' := ⟨bL'.os, bL'.tape, bL'.output, bL'.size, fun g hg _ => bL'.block g hg⟩
        have f2 : w'.frozen? ⟨b, 2, none⟩ = false := (cells_of hr2).2 2 (by show 2 < 3; omega)
        have l2 : w'.cell? ⟨b, 2, none⟩ = some (.bool false) := (cells_of hr2).1 2
        have hl2 := lt_of_block hr2
        have HR2 := Lib.hid hr2
        have HB2 := Lib.hid hb2
        clear hr2 hb2 bL'
        go_wp2_with fail
        go_ret
        exact ⟨rfl, HR2.out.fail, (HB1.out.trans HB2.out).trans (But.set _ _ _)⟩


end K
end Go.Proofs.YtnmcgmbhkmfiaaaGreatDoor

namespace Go.Proofs.YtnmcgmbhkmfiaaaGreatDoor
open Go.RowKit
namespace K
open H

/-- A reading that failed, or came to x. -/
def Got {β : Type} (bad : Bool) (o : Option β) (x : β) : Prop := (bad = true ∧ o = none) ∨ (bad = false ∧ o = some x)

theorem Got.no {β : Type} {o : Option β} {x : β} (h : o = none) : Got true o x := Or.inl ⟨rfl, h⟩
theorem Got.yes {β : Type} {o : Option β} {x : β} (h : o = some x) : Got false o x := Or.inr ⟨rfl, h⟩

def StrPost (b : Nat) (s : List UInt8) (i : Nat) (o : Option (List UInt8 × List UInt8)) (w : World) (e : Ending) (w' : World) : Prop :=
  ∃ (t : List UInt8) (j : Nat) (bad' : Bool), e = .returned (.string ⟨t.toArray⟩) ∧ IsRdr b s j bad' w' ∧ But b w w' ∧ i ≤ j ∧ j ≤ s.length ∧ t.length ≤ s.length ∧ Hid (Got bad' o (t, s.drop j))

theorem name_any (b : Nat) (s : List UInt8) (i : Nat) (w : World) (hs : s.length ≤ 1000000) (hi : i ≤ s.length) (hR : IsRdr b s i false w) :
    Calls Tryz.prog 46 #[.pointer (some ⟨b, 0, none⟩)] w (StrPost b s i (L.ident (s.drop i)) w) := by
  cases hb : L.begins (s.drop i) with
  | false =>
    refine (name_no b s i w hs hi hb hR).mono ?_
    rintro e w' ⟨rfl, hr, hB⟩
    refine ⟨[], i, true, rfl, hr, hB, Nat.le_refl _, hi, Nat.zero_le _, Lib.hid (Got.no ?_)⟩
    unfold L.ident; rw [hb]; rfl
  | true =>
    refine (name b s i w hs hi hb hR).mono ?_
    rintro e w' ⟨rfl, hr, hB⟩
    refine ⟨_, _, false, rfl, hr, hB, twEnd_ge _ _ _, twEnd_le hi, ?_, Lib.hid (Got.yes ?_)⟩
    · have := tw_le L.inName (s.drop i); rw [List.length_drop] at this; omega
    · unfold L.ident; rw [hb, twEnd_drop]; rfl

theorem value_any (b : Nat) (s : List UInt8) (i : Nat) (w : World) (hs : s.length ≤ 1000000) (hi : i ≤ s.length) (hR : IsRdr b s i false w) :
    Calls Tryz.prog 68 #[.pointer (some ⟨b, 0, none⟩)] w (StrPost b s i (L.value (s.drop i)) w) := by
  have hnames : s.getD i 0 ≠ 34 ∧ s.getD i 0 ≠ 39 → Calls Tryz.prog 68 #[.pointer (some ⟨b, 0, none⟩)] w (StrPost b s i (L.ident (s.drop i)) w) := by
    intro hq
    cases hb : L.begins (s.drop i) with
    | false =>
      refine (value_name b s i i true [] w hs hi hq (fun W h => name_no b s i W hs hi hb h) hR).mono ?_
      rintro e w' ⟨rfl, hr, hB⟩
      refine ⟨[], i, true, rfl, hr, hB, Nat.le_refl _, hi, Nat.zero_le _, Lib.hid (Got.no ?_)⟩
      unfold L.ident; rw [hb]; rfl
    | true =>
      refine (value_name b s i _ false _ w hs hi hq (fun W h => name b s i W hs hi hb h) hR).mono ?_
      rintro e w' ⟨rfl, hr, hB⟩
      refine ⟨_, _, false, rfl, hr, hB, twEnd_ge _ _ _, twEnd_le hi, ?_, Lib.hid (Got.yes ?_)⟩
      · have := tw_le L.inName (s.drop i); rw [List.length_drop] at this; omega
      · unfold L.ident; rw [hb, twEnd_drop]; rfl
  cases hd : s.drop i with
  | nil =>
    have h := hnames (by rw [getD_past (by have := congrArg List.length hd; rw [List.length_drop] at this; simp at this; omega)]; decide)
    rw [hd] at h
    exact h
  | cons q t =>
    have hlt := lt_drop hd
    have htl : t.length + i + 1 = s.length := by have := congrArg List.length hd; rw [List.length_drop, List.length_cons] at this; omega
    by_cases h34 : q = 34
    · subst h34
      have hval : L.value (34 :: t) = match t.dropWhile (· != 34) with | [] => none | _ :: u => if (10 : UInt8) ∈ t.takeWhile (· != 34) then none else some (t.takeWhile (· != 34), u) := rfl
      have hln := tw_le (· != 34) t
      rw [hval]
      cases hu : t.dropWhile (· != 34) with
      | nil =>
        refine (value34_open b s t i w hs hd hu hR).mono ?_
        rintro e w' ⟨rfl, hr, hB⟩
        exact ⟨[], i, true, rfl, hr, hB, Nat.le_refl _, hi, Nat.zero_le _, Lib.hid (Got.no rfl)⟩
      | cons r u =>
        by_cases hl : (10 : UInt8) ∈ t.takeWhile (· != 34)
        · refine (value34_line b s t i u r w hs hd hu hl hR).mono ?_
          rintro e w' ⟨rfl, hr, hB⟩
          exact ⟨[], i, true, rfl, hr, hB, Nat.le_refl _, hi, Nat.zero_le _, Lib.hid (Got.no (by show (if _ then _ else _) = _; rw [if_pos hl]))⟩
        · refine (value34_ok b s t i u r w hs hd hu hl hR).mono ?_
          rintro e w' ⟨rfl, hr, hB⟩
          have h1 := List.takeWhile_append_dropWhile (p := (· != 34)) (l := t)
          have h2 : (t.takeWhile (· != 34)).length + (u.length + 1) = t.length := by rw [hu] at h1; have := congrArg List.length h1; simpa using this
          refine ⟨_, _, false, rfl, hr, hB, by omega, by omega, by omega, Lib.hid (Got.yes ?_)⟩
          show (if _ then _ else _) = _
          rw [if_neg hl]
          have h3 : s.drop (i + (t.takeWhile (· != 34)).length + 2) = u := by
            rw [show i + (t.takeWhile (· != 34)).length + 2 = i + (1 + ((t.takeWhile (· != 34)).length + 1)) by omega, ← List.drop_drop, hd, ← List.drop_drop]
            show (t.drop _) = u
            rw [← List.drop_drop, drop_tw, hu]; rfl
          rw [h3]
    · by_cases h39 : q = 39
      · subst h39
        have hval : L.value (39 :: t) = match t.dropWhile (· != 39) with | [] => none | _ :: u => if (10 : UInt8) ∈ t.takeWhile (· != 39) then none else some (t.takeWhile (· != 39), u) := rfl
        have hln := tw_le (· != 39) t
        rw [hval]
        cases hu : t.dropWhile (· != 39) with
        | nil =>
          refine (value39_open b s t i w hs hd hu hR).mono ?_
          rintro e w' ⟨rfl, hr, hB⟩
          exact ⟨[], i, true, rfl, hr, hB, Nat.le_refl _, hi, Nat.zero_le _, Lib.hid (Got.no rfl)⟩
        | cons r u =>
          by_cases hl : (10 : UInt8) ∈ t.takeWhile (· != 39)
          · refine (value39_line b s t i u r w hs hd hu hl hR).mono ?_
            rintro e w' ⟨rfl, hr, hB⟩
            exact ⟨[], i, true, rfl, hr, hB, Nat.le_refl _, hi, Nat.zero_le _, Lib.hid (Got.no (by show (if _ then _ else _) = _; rw [if_pos hl]))⟩
          · refine (value39_ok b s t i u r w hs hd hu hl hR).mono ?_
            rintro e w' ⟨rfl, hr, hB⟩
            have h1 := List.takeWhile_append_dropWhile (p := (· != 39)) (l := t)
            have h2 : (t.takeWhile (· != 39)).length + (u.length + 1) = t.length := by rw [hu] at h1; have := congrArg List.length h1; simpa using this
            refine ⟨_, _, false, rfl, hr, hB, by omega, by omega, by omega, Lib.hid (Got.yes ?_)⟩
            show (if _ then _ else _) = _
            rw [if_neg hl]
            have h3 : s.drop (i + (t.takeWhile (· != 39)).length + 2) = u := by
              rw [show i + (t.takeWhile (· != 39)).length + 2 = i + (1 + ((t.takeWhile (· != 39)).length + 1)) by omega, ← List.drop_drop, hd, ← List.drop_drop]
              show (t.drop _) = u
              rw [← List.drop_drop, drop_tw, hu]; rfl
            rw [h3]
      · have h := hnames (by rw [getD_drop hd]; exact ⟨h34, h39⟩)
        rw [hd] at h
        have hval : L.value (q :: t) = L.ident (q :: t) := by
          unfold L.value
          simp [h34, h39]
        rw [hval]
        exact h

/-- take, whatever the state. -/
def TakePost (b : Nat) (s p : List UInt8) (i : Nat) (bad : Bool) (w : World) (e : Ending) (w' : World) : Prop :=
  (e = .returned (.bool true) ∧ IsRdr b s (i + p.length) bad w' ∧ But b w w' ∧ Hid (bad = false ∧ p.isPrefixOf (s.drop i) = true)) ∨
  (e = .returned (.bool false) ∧ IsRdr b s i bad w' ∧ But b w w' ∧ Hid (bad = true ∨ p.isPrefixOf (s.drop i) = false))

theorem take_any (b : Nat) (s p : List UInt8) (i : Nat) (bad : Bool) (w : World) (hs : s.length ≤ 1000000) (hp : p.length ≤ 1000) (hi : i ≤ s.length) (hR : IsRdr b s i bad w) :
    Calls Tryz.prog 12 #[.pointer (some ⟨b, 0, none⟩), .string ⟨p.toArray⟩] w (TakePost b s p i bad w) := by
  cases bad with
  | true =>
    refine (take_bad b s p i w hR).mono ?_
    rintro e w' ⟨rfl, hr, hB⟩
    exact Or.inr ⟨rfl, hr, hB, Lib.hid (Or.inl rfl)⟩
  | false =>
    refine (take b s p i w hs hp hi hR).mono ?_
    rintro e w' ⟨rfl, hr, hB⟩
    cases hpr : p.isPrefixOf (s.drop i) with
    | true =>
      rw [hpr] at hr
      exact Or.inl ⟨rfl, hr, hB, Lib.hid ⟨rfl, hpr⟩⟩
    | false =>
      rw [hpr] at hr
      exact Or.inr ⟨rfl, hr, hB, Lib.hid (Or.inr hpr)⟩

theorem prefix_len {p s : List UInt8} (h : p.isPrefixOf s = true) : p.length ≤ s.length := by
  have := List.isPrefixOf_iff_prefix.1 h
  exact this.length_le

def NeedPost (b : Nat) (s p : List UInt8) (i : Nat) (bad : Bool) (w : World) (e : Ending) (w' : World) : Prop :=
  ∃ (j : Nat) (bad' : Bool), e = .returned (.tuple #[]) ∧ IsRdr b s j bad' w' ∧ But b w w' ∧ i ≤ j ∧ j ≤ s.length ∧ Hid ((bad = true → bad' = true) ∧ (bad = false → Got bad' (L.need p (s.drop i)) (s.drop j)))

theorem need_any (b : Nat) (s p : List UInt8) (i : Nat) (bad : Bool) (w : World) (hs : s.length ≤ 1000000) (hp : p.length ≤ 1000) (hi : i ≤ s.length) (hR : IsRdr b s i bad w) :
    Calls Tryz.prog 67 #[.pointer (some ⟨b, 0, none⟩), .string ⟨p.toArray⟩] w (NeedPost b s p i bad w) := by
  cases bad with
  | true =>
    refine (need_bad b s p i w hR).mono ?_
    rintro e w' ⟨rfl, hr, hB⟩
    exact ⟨i, true, rfl, hr, hB, Nat.le_refl _, hi, Lib.hid ⟨fun _ => rfl, fun h => by cases h⟩⟩
  | false =>
    refine (need b s p i w hs hp hi hR).mono ?_
    rintro e w' ⟨rfl, hr, hB⟩
    cases hpr : p.isPrefixOf (s.drop i) with
    | true =>
      have hl := prefix_len hpr
      rw [List.length_drop] at hl
      rw [hpr] at hr
      refine ⟨i + p.length, false, rfl, hr, hB, by omega, by omega, Lib.hid ⟨fun h => (by cases h), fun _ => Got.yes ?_⟩⟩
      unfold L.need; rw [if_pos hpr, List.drop_drop]
    | false =>
      rw [hpr] at hr
      refine ⟨i, true, rfl, hr, hB, Nat.le_refl _, hi, Lib.hid ⟨fun h => (by cases h), fun _ => Got.no ?_⟩⟩
      unfold L.need; rw [hpr]; rfl

/-- space, whatever the state. -/
def SpacePost (b : Nat) (s : List UInt8) (i : Nat) (bad : Bool) (w : World) (e : Ending) (w' : World) : Prop :=
  ∃ j, e = .returned (.bool (decide (i < j))) ∧ IsRdr b s j bad w' ∧ But b w w' ∧ i ≤ j ∧ j ≤ s.length ∧ Hid (s.drop j = L.space (s.drop i))

theorem space_any (b : Nat) (s : List UInt8) (i : Nat) (bad : Bool) (w : World) (hs : s.length ≤ 1000000) (hi : i ≤ s.length) (hR : IsRdr b s i bad w) :
    Calls Tryz.prog 13 #[.pointer (some ⟨b, 0, none⟩)] w (SpacePost b s i bad w) := by
  refine (space b s i bad w hs hi hR).mono ?_
  rintro e w' ⟨rfl, hr, hB⟩
  exact ⟨_, rfl, hr, hB, twEnd_ge _ _ _, twEnd_le hi, Lib.hid (twEnd_drop _ _ _)⟩

end K
end Go.Proofs.YtnmcgmbhkmfiaaaGreatDoor
