/- The reader of selectors: need, named, name. The reader of selectors: name. strings.Cut at a mark of one byte: no table is read. The reader of selectors: value. -/
import Derived.Test.YtnmcgmbhkmfiaaaGreatDoorSel1
import Derived.Test.YtnmcgmbhkmfiaaaGreatDoorOwn
set_option linter.unusedVariables false
set_option linter.unusedSimpArgs false
namespace Go.Proofs.YtnmcgmbhkmfiaaaGreatDoor
open Go.RowKit
namespace K
open H

def heads : List UInt8 → Bool
  | [] => false
  | d :: _ => L.first d

set_option maxHeartbeats 1000000 in
theorem need (b : Nat) (s p : List UInt8) (i : Nat) (w : World) (hs : s.length ≤ 1000000) (hp : p.length ≤ 1000) (hi : i ≤ s.length) (hR : IsRdr b s i false w) :
    Calls Tryz.prog 67 #[.pointer (some ⟨b, 0, none⟩), .string ⟨p.toArray⟩] w (RdPost b s (if p.isPrefixOf (s.drop i) then i + p.length else i) (!p.isPrefixOf (s.drop i)) (.tuple #[]) w) := by
  have T := take b s p i w hs hp hi hR
  have hlb := lt_of_block hR
  clear hR
  generalize (if p.isPrefixOf (s.drop i) then i + p.length else i) = j at *
  cases hpr : p.isPrefixOf (s.drop i) with
  | true =>
    rw [hpr] at T
    have Q := Lib.hid T
    clear T hpr
    go_enter Tryz.func67, Tryz.ntmps67
    go_wp2_with fail
    refine (Q.out).mono ?_
    rintro en w1 ⟨rfl, hr, hb⟩
    go_wp2_with fail
    first | go_ret | refine bodyPost_ret (results_none rfl _ _ _) rfl ?_
    exact ⟨rfl, hr, hb⟩
  | false =>
    rw [hpr] at T
    have Q := Lib.hid T
    clear T hpr
    go_enter Tryz.func67, Tryz.ntmps67
    go_wp2_with fail
    refine (Q.out).mono ?_
    rintro en w1 ⟨rfl, hr, hb⟩
    obtain ⟨hc, hf⟩ := cells_of hr
    have c2 : w1.cell? ⟨b, 2, none⟩ = some (.bool false) := hc 2
    have f2 : w1.frozen? ⟨b, 2, none⟩ = false := hf 2 (by show 2 < 3; omega)
    have HR := Lib.hid hr
    clear hc hf hr
    go_wp2_with fail
    first | go_ret | refine bodyPost_ret (results_none rfl _ _ _) rfl ?_
    exact ⟨rfl, HR.out.fail, hb.trans (But.set _ _ _)⟩

set_option maxHeartbeats 1000000 in
theorem need_bad (b : Nat) (s p : List UInt8) (i : Nat) (w : World) (hR : IsRdr b s i true w) :
    Calls Tryz.prog 67 #[.pointer (some ⟨b, 0, none⟩), .string ⟨p.toArray⟩] w (RdPost b s i true (.tuple #[]) w) := by
  have Q := Lib.hid (take_bad b s p i w hR)
  have hlb := lt_of_block hR
  clear hR
  go_enter Tryz.func67, Tryz.ntmps67
  go_wp2_with fail
  refine (Q.out).mono ?_
  rintro en w1 ⟨rfl, hr, hb⟩
  obtain ⟨hc, hf⟩ := cells_of hr
  have c2 : w1.cell? ⟨b, 2, none⟩ = some (.bool true) := hc 2
  have f2 : w1.frozen? ⟨b, 2, none⟩ = false := hf 2 (by show 2 < 3; omega)
  have HR := Lib.hid hr
  clear hc hf hr
  go_wp2_with fail
  first | go_ret | refine bodyPost_ret (results_none rfl _ _ _) rfl ?_
  exact ⟨rfl, HR.out.fail, hb.trans (But.set _ _ _)⟩

set_option maxHeartbeats 1000000 in
theorem named (b : Nat) (s : List UInt8) (i : Nat) (bad : Bool) (w : World) (hs : s.length ≤ 1000000) (hi : i ≤ s.length) (hR : IsRdr b s i bad w) :
    Calls Tryz.prog 44 #[.pointer (some ⟨b, 0, none⟩)] w fun e w' => e = .returned (.bool (L.begins (s.drop i))) ∧ ∃ n, w' = w.drewN n := by
  obtain ⟨hc, hf⟩ := cells_of hR
  have c0 : w.cell? ⟨b, 0, none⟩ = some (.string ⟨s.toArray⟩) := hc 0
  have c1 : w.cell? ⟨b, 1, none⟩ = some (.int .i64 i) := hc 1
  have P := peek b s i bad w hs hi hR
  clear hc hf
  by_cases hl : i < s.length
  · obtain ⟨c, r, hd⟩ := drop_cons hl
    rw [getD_drop hd] at P
    have hd1 := drop_more hd
    have q : ∀ W, Calls Tryz.prog 64 #[.int .u8 c.toNat] W fun e w' => e = .returned (.bool (L.first c)) ∧ W = w' := fun W => initial c W
    have Q := Lib.hid q
    have PP := Lib.hid P
    have Hb : Hid (L.begins (s.drop i) = (L.first c || (c == 45 && heads r))) := Lib.hid (by rw [hd]; rfl)
    have ec := byte_eq c 45 (by decide)
    generalize L.begins (s.drop i) = X at *
    clear q P hR hd
    cases hf1 : L.first c with
    | true =>
      rw [hf1] at Q
      obtain rfl : X = true := by rw [Hb.out, hf1]; rfl
      clear hf1 hd1
      clear Hb
      go_enter Tryz.func44, Tryz.ntmps44
      go_wp2_with fail
      refine (PP.out).mono ?_
      rintro en w1 ⟨rfl, n, hw1⟩
      have d0 : w1.cell? ⟨b, 0, none⟩ = some (.string ⟨s.toArray⟩) := by rw [hw1]; exact c0
      have d1 : w1.cell? ⟨b, 1, none⟩ = some (.int .i64 i) := by rw [hw1]; exact c1
      have HW := Lib.hid hw1
      clear c0 c1 hw1
      go_wp2_with fail
      go_quiet ((go_at_call 64; exact quietAdd (Q.out _)))
      go_wp2_with fail
      go_ret
      exact ⟨rfl, _, by rw [HW.out]; exact World.drewN_drewN _ _ _⟩
    | false =>
      rw [hf1] at Q
      by_cases hcd : c = 45
      · have hce : (c == 45) = true := by rw [hcd]; rfl
        clear ec
        have ec : ((c.toNat : Int) == 45) = true := byte_is (n := 45) hcd (by decide)
        clear hcd
        by_cases hl2 : i + 1 < s.length
        · obtain ⟨d, r2, hd2⟩ := drop_cons hl2
          have hx2 := at_drop hd2 (by rw [bytes_size]; exact hl2)
          obtain rfl : X = L.first d := by rw [Hb.out, hf1, hce, ← hd1, hd2]; rfl
          have q2 : ∀ W, Calls Tryz.prog 64 #[.int .u8 d.toNat] W fun e w' => e = .returned (.bool (L.first d)) ∧ W = w' := fun W => initial d W
          have Q2 := Lib.hid q2
          have zs := bytes_size s
          have h0 : (0 : Int) ≤ (i : Int) + 1 := by omega
          have g1 : IntKind.i64.wrap ((i : Int) + 1) = (i : Int) + 1 := IntWalk.i64_in _ (by omega)
          have h1 : (i : Int) + 1 < (s.length : Int) := by omega
          have h2 : decide ((i : Int) + 1 < (s.length : Int)) = true := decide_eq_true h1
          have h3 : ((i : Int) + 1).toNat = i + 1 := by omega
          generalize L.first d = X at *
          clear hf1 hd1 q2 hd2
          clear Hb
          go_enter Tryz.func44, Tryz.ntmps44
          go_wp2_with fail
          refine (PP.out).mono ?_
          rintro en w1 ⟨rfl, n, hw1⟩
          have d0 : w1.cell? ⟨b, 0, none⟩ = some (.string ⟨s.toArray⟩) := by rw [hw1]; exact c0
          have d1 : w1.cell? ⟨b, 1, none⟩ = some (.int .i64 i) := by rw [hw1]; exact c1
          have HW := Lib.hid hw1
          clear c0 c1 hw1
          go_wp2_with fail
          go_quiet (first | (go_at_call_of 64 (Value.int .u8 c.toNat); exact quietAdd (Q.out _)) | (go_at_call_of 64 (Value.int .u8 d.toNat); exact quietAdd (Q2.out _)))
          go_wp2_with fail
          go_ret
          exact ⟨rfl, _, by rw [HW.out]; exact World.drewN_drewN _ _ _⟩
        · have g1 : IntKind.i64.wrap ((i : Int) + 1) = (i : Int) + 1 := IntWalk.i64_in _ (by omega)
          have h1 : decide ((i : Int) + 1 < (s.length : Int)) = false := decide_eq_false (by omega)
          obtain rfl : X = false := by rw [Hb.out, hf1, hce, ← hd1, List.drop_eq_nil_of_le (by omega)]; rfl
          clear hf1 hd1
          clear Hb
          go_enter Tryz.func44, Tryz.ntmps44
          go_wp2_with fail
          refine (PP.out).mono ?_
          rintro en w1 ⟨rfl, n, hw1⟩
          have d0 : w1.cell? ⟨b, 0, none⟩ = some (.string ⟨s.toArray⟩) := by rw [hw1]; exact c0
          have d1 : w1.cell? ⟨b, 1, none⟩ = some (.int .i64 i) := by rw [hw1]; exact c1
          have HW := Lib.hid hw1
          clear c0 c1 hw1
          go_wp2_with fail
          go_quiet ((go_at_call 64; exact quietAdd (Q.out _)))
          go_wp2_with fail
          go_ret
          exact ⟨rfl, _, by rw [HW.out]; exact World.drewN_drewN _ _ _⟩
      · have ec2 : ((c.toNat : Int) == 45) = false := byte_ne (n := 45) hcd (by decide)
        obtain rfl : X = false := by rw [Hb.out, hf1, show (c == 45) = false from by simpa using hcd]; rfl
        clear hf1 hd1 ec
        clear Hb
        go_enter Tryz.func44, Tryz.ntmps44
        go_wp2_with fail
        refine (PP.out).mono ?_
        rintro en w1 ⟨rfl, n, hw1⟩
        have d0 : w1.cell? ⟨b, 0, none⟩ = some (.string ⟨s.toArray⟩) := by rw [hw1]; exact c0
        have d1 : w1.cell? ⟨b, 1, none⟩ = some (.int .i64 i) := by rw [hw1]; exact c1
        have HW := Lib.hid hw1
        clear c0 c1 hw1
        go_wp2_with fail
        go_quiet ((go_at_call 64; exact quietAdd (Q.out _)))
        go_wp2_with fail
        go_ret
        exact ⟨rfl, _, by rw [HW.out]; exact World.drewN_drewN _ _ _⟩
  · rw [getD_past (by omega)] at P
    have q : ∀ W, Calls Tryz.prog 64 #[.int .u8 0] W fun e w' => e = .returned (.bool false) ∧ W = w' := fun W => initial 0 W
    have Q := Lib.hid q
    have PP := Lib.hid P
    have Hb : Hid True := Lib.hid trivial
    rw [List.drop_eq_nil_of_le (by omega)]
    show Calls _ _ _ _ fun e w' => e = .returned (.bool false) ∧ ∃ n, w' = w.drewN n
    clear q P hR
    clear Hb
    go_enter Tryz.func44, Tryz.ntmps44
    go_wp2_with fail
    refine (PP.out).mono ?_
    rintro en w1 ⟨rfl, n, hw1⟩
    have d0 : w1.cell? ⟨b, 0, none⟩ = some (.string ⟨s.toArray⟩) := by rw [hw1]; exact c0
    have d1 : w1.cell? ⟨b, 1, none⟩ = some (.int .i64 i) := by rw [hw1]; exact c1
    have HW := Lib.hid hw1
    clear c0 c1 hw1
    go_wp2_with fail
    go_quiet ((go_at_call 64; exact quietAdd (Q.out _)))
    go_wp2_with fail
    go_ret
    exact ⟨rfl, _, by rw [HW.out]; exact World.drewN_drewN _ _ _⟩

end K
end Go.Proofs.YtnmcgmbhkmfiaaaGreatDoor

namespace Go.Proofs.YtnmcgmbhkmfiaaaGreatDoor
open Go.RowKit
namespace K
open H

/-- A callee's contract that only draws, behind draws; it may draw itself. -/
theorem quietDrew {P : Program} {f : FuncId} {args : Array Value} {w : World} {n : Nat} {v : Value}
    (h : Calls P f args (w.drewN n) fun e w' => e = .returned v ∧ ∃ m, w' = (w.drewN n).drewN m) : Calls P f args (w.drewN n) fun e w'' => e = .returned v ∧ ∃ m, w'' = w.drewN m :=
  h.mono fun _ _ hh => ⟨hh.1, by obtain ⟨m, e⟩ := hh.2; exact ⟨_, e.trans (World.drewN_drewN _ _ _)⟩⟩

set_option maxHeartbeats 1000000 in
theorem name_bad (b : Nat) (s : List UInt8) (i : Nat) (w : World) (hR : IsRdr b s i true w) :
    Calls Tryz.prog 46 #[.pointer (some ⟨b, 0, none⟩)] w (RdPost b s i true (.string ⟨#[]⟩) w) := by
  have HR := Lib.hid hR
  obtain ⟨hc, hf⟩ := cells_of hR
  have hlb := lt_of_block hR
  have c2 : w.cell? ⟨b, 2, none⟩ = some (.bool true) := hc 2
  have f2 : w.frozen? ⟨b, 2, none⟩ = false := hf 2 (by show 2 < 3; omega)
  clear hc hf hR
  go_enter Tryz.func46, Tryz.ntmps46
  go_wp2_with fail
  go_ret
  exact ⟨rfl, HR.out.fail, But.set _ _ _⟩

set_option maxHeartbeats 1000000 in
theorem name_no (b : Nat) (s : List UInt8) (i : Nat) (w : World) (hs : s.length ≤ 1000000) (hi : i ≤ s.length) (hb : L.begins (s.drop i) = false) (hR : IsRdr b s i false w) :
    Calls Tryz.prog 46 #[.pointer (some ⟨b, 0, none⟩)] w (RdPost b s i true (.string ⟨#[]⟩) w) := by
  have HR := Lib.hid hR
  obtain ⟨hc, hf⟩ := cells_of hR
  have hlb := lt_of_block hR
  have c0 : w.cell? ⟨b, 0, none⟩ = some (.string ⟨s.toArray⟩) := hc 0
  have c1 : w.cell? ⟨b, 1, none⟩ = some (.int .i64 i) := hc 1
  have c2 : w.cell? ⟨b, 2, none⟩ = some (.bool false) := hc 2
  have f2 : w.frozen? ⟨b, 2, none⟩ = false := hf 2 (by show 2 < 3; omega)
  have q : Calls Tryz.prog 44 #[.pointer (some ⟨b, 0, none⟩)] w fun e w' => e = .returned (.bool false) ∧ ∃ m, w' = w.drewN m := by
    have h := named b s i false w hs hi hR
    rw [hb] at h
    exact h
  have Q := Lib.hid q
  clear hc hf hR q hb
  go_enter Tryz.func46, Tryz.ntmps46
  go_wp2_with fail
  refine (Q.out).mono ?_
  rintro en w1 ⟨rfl, n, hw1⟩
  have hw2 := hw1
  have d0 : w1.cell? ⟨b, 0, none⟩ = some (.string ⟨s.toArray⟩) := by rw [hw2]; exact c0
  have d1 : w1.cell? ⟨b, 1, none⟩ = some (.int .i64 i) := by rw [hw2]; exact c1
  have d2 : w1.cell? ⟨b, 2, none⟩ = some (.bool false) := by rw [hw2]; exact c2
  have g2 : w1.frozen? ⟨b, 2, none⟩ = false := by rw [hw2]; exact f2
  have HR1 : IsRdr b s i false w1 := by rw [hw2]; exact HR.out.drewN _
  have HB1 : But b w w1 := by rw [hw2]; exact (But.refl _ _).drewN _
  have HR1 := Lib.hid HR1
  have HB1 := Lib.hid HB1
  have hlb1 := lt_of_block HR1.out
  clear c0 c1 c2 f2 hw1 hw2
  go_wp2_with fail
  go_ret
  exact ⟨rfl, HR1.out.fail, HB1.out.trans (But.set _ _ _)⟩

set_option maxHeartbeats 2000000 in
theorem name (b : Nat) (s : List UInt8) (i : Nat) (w : World) (hs : s.length ≤ 1000000) (hi : i ≤ s.length) (hb : L.begins (s.drop i) = true) (hR : IsRdr b s i false w) :
    Calls Tryz.prog 46 #[.pointer (some ⟨b, 0, none⟩)] w (RdPost b s (twEnd L.inName s i) false (.string ⟨((s.drop i).takeWhile L.inName).toArray⟩) w) := by
  obtain ⟨E, hE⟩ : ∃ E, twEnd L.inName s i = E := ⟨_, rfl⟩
  have hv : (s.drop i).takeWhile L.inName = (s.drop i).take (E - i) := by rw [← hE, twEnd_take]
  have hEl : E ≤ s.length := by rw [← hE]; exact twEnd_le hi
  have hEi : i ≤ E := by rw [← hE]; exact twEnd_ge _ _ _
  have hxs := slice_str s i E hEi hEl
  rw [hv, hE, ← hxs]
  clear hv hxs
  have HE := Lib.hid hE
  have HR := Lib.hid hR
  obtain ⟨hc, hf⟩ := cells_of hR
  have hlb := lt_of_block hR
  have c0 : w.cell? ⟨b, 0, none⟩ = some (.string ⟨s.toArray⟩) := hc 0
  have c1 : w.cell? ⟨b, 1, none⟩ = some (.int .i64 i) := hc 1
  have c2 : w.cell? ⟨b, 2, none⟩ = some (.bool false) := hc 2
  have f2 : w.frozen? ⟨b, 2, none⟩ = false := hf 2 (by show 2 < 3; omega)
  have q : Calls Tryz.prog 44 #[.pointer (some ⟨b, 0, none⟩)] w fun e w' => e = .returned (.bool true) ∧ ∃ m, w' = w.drewN m := by
    have h := named b s i false w hs hi hR
    rw [hb] at h
    exact h
  have Q := Lib.hid q
  clear hc hf hR q hb hE
  go_enter Tryz.func46, Tryz.ntmps46
  go_wp2_with fail
  refine (Q.out).mono ?_
  rintro en w1 ⟨rfl, n, hw1⟩
  have hw2 := hw1
  have d0 : w1.cell? ⟨b, 0, none⟩ = some (.string ⟨s.toArray⟩) := by rw [hw2]; exact c0
  have d1 : w1.cell? ⟨b, 1, none⟩ = some (.int .i64 i) := by rw [hw2]; exact c1
  have d2 : w1.cell? ⟨b, 2, none⟩ = some (.bool false) := by rw [hw2]; exact c2
  have g2 : w1.frozen? ⟨b, 2, none⟩ = false := by rw [hw2]; exact f2
  have HR1 : IsRdr b s i false w1 := by rw [hw2]; exact HR.out.drewN _
  have HB1 : But b w w1 := by rw [hw2]; exact (But.refl _ _).drewN _
  have HR1 := Lib.hid HR1
  have HB1 := Lib.hid HB1
  have hlb1 := lt_of_block HR1.out
  clear c0 c1 c2 f2 hw1 hw2
  go_wp2_with fail
  go_loopw [] (fun wr => ∃ k : Nat, IsRdr b s k false wr ∧ But b w wr ∧ i ≤ k ∧ k ≤ s.length ∧ Hid (twEnd L.inName s k = E)) (fun wr => s.length - (match wr.cell? ⟨b, 1, none⟩ with | some (.int _ q) => q.toNat | _ => 0))
  case atStart => exact ⟨i, HR1.out, HB1.out, Nat.le_refl _, hi, HE⟩
  case round =>
    obtain ⟨k, hr, hb, hk1, hk2, HK⟩ := hrel
    obtain ⟨hc, hf⟩ := cells_of hr
    have hlr := lt_of_block hr
    have HRr := Lib.hid hr
    have c0 : wr.cell? ⟨b, 0, none⟩ = some (.string ⟨s.toArray⟩) := hc 0
    have c1 : wr.cell? ⟨b, 1, none⟩ = some (.int .i64 k) := hc 1
    have f1 : wr.frozen? ⟨b, 1, none⟩ = false := hf 1 (by show 1 < 3; omega)
    have hk0 : (0 : Int) ≤ (k : Int) := by omega
    have hi0 : (0 : Int) ≤ (i : Int) := by omega
    have hik : (i : Int) ≤ (k : Int) := by omega
    have hks : (k : Int) ≤ (s.length : Int) := by omega
    have zs := bytes_size s
    clear hr HR HE d0 d1 d2 g2 HR1 HB1
    by_cases hlt : k < s.length
    · have hlt1 : (k : Int) < (s.length : Int) := by omega
      obtain ⟨c, r, hd⟩ := drop_cons hlt
      have hix := at_drop hd (by rw [bytes_size]; exact hlt)
      have Q1 : Hid (∀ W, Calls Tryz.prog 64 #[.int .u8 c.toNat] W fun e w' => e = .returned (.bool (L.first c)) ∧ W = w') := Lib.hid (fun W => initial c W)
      have Q2 : Hid (∀ W, Calls Tryz.prog 66 #[.int .u8 c.toNat] W fun e w' => e = .returned (.bool (L.isDig c)) ∧ W = w') := Lib.hid (fun W => digit c W)
      have HN : Hid (L.inName c = (L.first c || (L.isDig c || c == 45))) := Lib.hid rfl
      have ec := byte_eq c 45 (by decide)
      rw [show UInt8.ofNat 45 = 45 from rfl] at ec
      cases hf1 : L.first c with
      | true =>
        rw [hf1] at Q1
        have hin : L.inName c = true := by rw [HN.out, hf1]; rfl
        clear hf1
        have HK' := Lib.hid ((twEnd_step hd hin).trans HK.out)
        clear hin hd HK hc hf HN
        go_wp2_with fail
        go_quiet (first | (go_at_call 64; exact quietAdd (Q1.out _)) | (go_at_call 66; exact quietAdd (Q2.out _)))
        go_wp2_with fail
        go_roundw
        case rel => exact ⟨k + 1, (HRr.out.drewN _).place (k + 1) (by omega), (hb.drewN _).trans (But.set _ _ _), by omega, by omega, HK'⟩
        case measure =>
          have hl := hlt
          have h1 := (cells_of ((HRr.out.drewN nq).place (k + 1) (z := (k : Int) + 1) (by omega))).1 1
          rw [h1, c1]
          show s.length - (((k + 1 : Nat) : Int)).toNat < s.length - ((k : Int)).toNat
          omega
      | false =>
        rw [hf1] at Q1
        cases hf2 : L.isDig c with
        | true =>
          rw [hf2] at Q2
          have hin : L.inName c = true := by rw [HN.out, hf1, hf2]; rfl
          clear hf1 hf2
          have HK' := Lib.hid ((twEnd_step hd hin).trans HK.out)
          clear hin hd HK hc hf HN
          go_wp2_with fail
          go_quiet (first | (go_at_call 64; exact quietAdd (Q1.out _)) | (go_at_call 66; exact quietAdd (Q2.out _)))
          go_wp2_with fail
          go_roundw
          case rel => exact ⟨k + 1, (HRr.out.drewN _).place (k + 1) (by omega), (hb.drewN _).trans (But.set _ _ _), by omega, by omega, HK'⟩
          case measure =>
            have hl := hlt
            have h1 := (cells_of ((HRr.out.drewN nq).place (k + 1) (z := (k : Int) + 1) (by omega))).1 1
            rw [h1, c1]
            show s.length - (((k + 1 : Nat) : Int)).toNat < s.length - ((k : Int)).toNat
            omega
        | false =>
          rw [hf2] at Q2
          cases hf3 : (c == 45) with
          | true =>
            rw [hf3] at ec
            have hin : L.inName c = true := by rw [HN.out, hf1, hf2, hf3]; rfl
            clear hf1 hf2 hf3
            have HK' := Lib.hid ((twEnd_step hd hin).trans HK.out)
            clear hin hd HK hc hf HN
            go_wp2_with fail
            go_quiet (first | (go_at_call 64; exact quietAdd (Q1.out _)) | (go_at_call 66; exact quietAdd (Q2.out _)))
            go_wp2_with fail
            go_roundw
            case rel => exact ⟨k + 1, (HRr.out.drewN _).place (k + 1) (by omega), (hb.drewN _).trans (But.set _ _ _), by omega, by omega, HK'⟩
            case measure =>
              have hl := hlt
              have h1 := (cells_of ((HRr.out.drewN nq).place (k + 1) (z := (k : Int) + 1) (by omega))).1 1
              rw [h1, c1]
              show s.length - (((k + 1 : Nat) : Int)).toNat < s.length - ((k : Int)).toNat
              omega
          | false =>
            rw [hf3] at ec
            have hin : L.inName c = false := by rw [HN.out, hf1, hf2, hf3]; rfl
            clear hf1 hf2 hf3
            obtain rfl : k = E := (twEnd_stop hd hin).symm.trans HK.out
            clear hin hd HK hc hf HN
            go_wp2_with fail
            go_quiet (first | (go_at_call 64; exact quietAdd (Q1.out _)) | (go_at_call 66; exact quietAdd (Q2.out _)))
            go_wp2_with fail
            go_quiet (fail)
            go_wp2_with fail
            go_ret
            exact ⟨rfl, (HRr.out.drewN _).drewN _, (hb.drewN _).drewN _⟩
    · have hge : (s.length : Int) ≤ (k : Int) := by omega
      have hge2 : decide ((k : Int) < (s.length : Int)) = false := decide_eq_false (by omega)
      obtain rfl : k = E := (twEnd_past (by omega)).symm.trans HK.out
      clear HK hc hf
      go_wp2_with fail
      go_quiet (fail)
      go_wp2_with fail
      go_quiet (fail)
      go_wp2_with fail
      go_ret
      exact ⟨rfl, (HRr.out.drewN _).drewN _, (hb.drewN _).drewN _⟩

end K
end Go.Proofs.YtnmcgmbhkmfiaaaGreatDoor

namespace Go.Proofs.YtnmcgmbhkmfiaaaGreatDoor
open Go.RowKit
namespace H

theorem index_none {c : UInt8} : ∀ {s : List UInt8}, s.dropWhile (· != c) = [] → Lib.indexByte s c = -1
  | [], _ => rfl
  | b :: l, h => by
    unfold Lib.indexByte
    by_cases hb : b = c
    · subst hb; simp at h
    · have h1 : (b == c) = false := by simpa using hb
      have h2 : l.dropWhile (· != c) = [] := by simpa [List.dropWhile_cons, bne, h1] using h
      rw [h1, index_none h2]
      rfl

theorem index_some {c q : UInt8} : ∀ {s u : List UInt8}, s.dropWhile (· != c) = q :: u → Lib.indexByte s c = ((s.takeWhile (· != c)).length : Int)
  | [], _, h => by cases h
  | b :: l, u, h => by
    unfold Lib.indexByte
    by_cases hb : b = c
    · subst hb; simp
    · have h1 : (b == c) = false := by simpa using hb
      have h2 : l.dropWhile (· != c) = q :: u := by simpa [List.dropWhile_cons, bne, h1] using h
      rw [h1, index_some h2]
      have h3 : (b :: l).takeWhile (· != c) = b :: l.takeWhile (· != c) := by simp [List.takeWhile_cons, bne, h1]
      rw [h3]
      have h4 : (((l.takeWhile (· != c)).length : Int) == -1) = false := by
        rw [beq_eq_false_iff_ne]; omega
      rw [h4]
      simp

set_option maxHeartbeats 1000000 in
theorem liteCut_none (s : List UInt8) (c : UInt8) (w : World) (hs : s.length ≤ 1000000) (h : s.dropWhile (· != c) = []) :
    Calls Tryz.prog 86 #[.string ⟨s.toArray⟩, .string ⟨#[c]⟩] w fun e w' => e = .returned (.tuple #[.string ⟨s.toArray⟩, .string ⟨#[]⟩, .bool false]) ∧ ∃ n, w' = w.drewN n := by
  have q := Tryz.stringslite_Index_one ⟨s.toArray⟩ c w
  rw [bytes_toList, index_none h] at q
  have Q := Lib.hid q
  clear q h
  go_enter Tryz.func86, Tryz.ntmps86
  go_wp2_with fail
  refine (Q.out).mono ?_
  rintro en w1 ⟨rfl, rfl⟩
  go_wp2_with fail
  refine bodyPost_ret (v := .tuple #[.string ⟨s.toArray⟩, .string ⟨#[]⟩, .bool false]) (by simp [results, Tryz.results86, go_sem]) rfl ⟨rfl, 0, rfl⟩

set_option maxHeartbeats 1000000 in
theorem liteCut_some (s u : List UInt8) (c q : UInt8) (w : World) (hs : s.length ≤ 1000000) (h : s.dropWhile (· != c) = q :: u) :
    Calls Tryz.prog 86 #[.string ⟨s.toArray⟩, .string ⟨#[c]⟩] w fun e w' => e = .returned (.tuple #[.string ⟨(s.takeWhile (· != c)).toArray⟩, .string ⟨u.toArray⟩, .bool true]) ∧ ∃ n, w' = w.drewN n := by
  have qq := Tryz.stringslite_Index_one ⟨s.toArray⟩ c w
  rw [bytes_toList, index_some h] at qq
  have hdw := drop_tw (· != c) s
  rw [h] at hdw
  have htk : s.take (s.takeWhile (· != c)).length = s.takeWhile (· != c) := by
    have := List.takeWhile_append_dropWhile (p := (· != c)) (l := s)
    exact (congrArg (List.take (s.takeWhile (· != c)).length) this).symm.trans List.take_left
  have hlt : (s.takeWhile (· != c)).length < s.length := by
    have := congrArg List.length hdw
    rw [List.length_drop] at this
    simp at this
    omega
  generalize (s.takeWhile (· != c)) = t at *
  have hx1 := slice_str s 0 t.length (Nat.zero_le _) (by omega)
  have hx2 := slice_str s (t.length + 1) s.length (by omega) (Nat.le_refl _)
  rw [List.drop_zero, Nat.sub_zero, htk] at hx1
  rw [List.take_of_length_le (by rw [List.length_drop]; omega), drop_more hdw] at hx2
  have zs := bytes_size s
  have g1 : IntKind.i64.wrap ((t.length : Int) + 1) = (t.length : Int) + 1 := IntWalk.i64_in _ (by omega)
  have g2 : ((t.length : Int) + 1).toNat = t.length + 1 := by omega
  have g3 : (0 : Int) ≤ (t.length : Int) := by omega
  have g4 : (0 : Int) ≤ (t.length : Int) + 1 := by omega
  have g5 : (t.length : Int) ≤ (s.length : Int) := by omega
  have g6 : (t.length : Int) + 1 ≤ (s.length : Int) := by omega
  have Q := Lib.hid qq
  clear qq h hdw htk hlt
  go_enter Tryz.func86, Tryz.ntmps86
  go_wp2_with fail
  refine (Q.out).mono ?_
  rintro en w1 ⟨rfl, rfl⟩
  go_wp2_with fail
  go_quiet (fail)
  go_wp2_with fail
  refine bodyPost_ret (v := .tuple #[.string ⟨t.toArray⟩, .string ⟨u.toArray⟩, .bool true]) (by simp [results, Tryz.results86, go_sem]) rfl ⟨rfl, _, rfl⟩

set_option maxHeartbeats 1000000 in
theorem Cut_none (s : List UInt8) (c : UInt8) (w : World) (hs : s.length ≤ 1000000) (h : s.dropWhile (· != c) = []) :
    Calls Tryz.prog 80 #[.string ⟨s.toArray⟩, .string ⟨#[c]⟩] w fun e w' => e = .returned (.tuple #[.string ⟨s.toArray⟩, .string ⟨#[]⟩, .bool false]) ∧ ∃ n, w' = w.drewN n := by
  have Q := Lib.hid (liteCut_none s c w hs h)
  clear h
  go_enter Tryz.func80, Tryz.ntmps80
  go_wp2_with fail
  refine (Q.out).mono ?_
  rintro en w1 ⟨rfl, n, rfl⟩
  go_wp2_with fail
  refine bodyPost_ret (v := .tuple #[.string ⟨s.toArray⟩, .string ⟨#[]⟩, .bool false]) (by simp [results, Tryz.results80, go_sem]) rfl ⟨rfl, _, rfl⟩

set_option maxHeartbeats 1000000 in
theorem Cut_some (s u : List UInt8) (c q : UInt8) (w : World) (hs : s.length ≤ 1000000) (h : s.dropWhile (· != c) = q :: u) :
    Calls Tryz.prog 80 #[.string ⟨s.toArray⟩, .string ⟨#[c]⟩] w fun e w' => e = .returned (.tuple #[.string ⟨(s.takeWhile (· != c)).toArray⟩, .string ⟨u.toArray⟩, .bool true]) ∧ ∃ n, w' = w.drewN n := by
  have Q := Lib.hid (liteCut_some s u c q w hs h)
  clear h
  generalize (s.takeWhile (· != c)) = t at *
  go_enter Tryz.func80, Tryz.ntmps80
  go_wp2_with fail
  refine (Q.out).mono ?_
  rintro en w1 ⟨rfl, n, rfl⟩
  go_wp2_with fail
  refine bodyPost_ret (v := .tuple #[.string ⟨t.toArray⟩, .string ⟨u.toArray⟩, .bool true]) (by simp [results, Tryz.results80, go_sem]) rfl ⟨rfl, _, rfl⟩

end H
end Go.Proofs.YtnmcgmbhkmfiaaaGreatDoor

namespace Go.Proofs.YtnmcgmbhkmfiaaaGreatDoor
open Go.RowKit
namespace K
open H

set_option maxHeartbeats 1000000 in
/-- A value that is no string: a name. -/
theorem value_name (b : Nat) (s : List UInt8) (i j : Nat) (bad' : Bool) (v : List UInt8) (w : World) (hs : s.length ≤ 1000000) (hi : i ≤ s.length) (hq : s.getD i 0 ≠ 34 ∧ s.getD i 0 ≠ 39)
    (hn : ∀ w, IsRdr b s i false w → Calls Tryz.prog 46 #[.pointer (some ⟨b, 0, none⟩)] w (RdPost b s j bad' (.string ⟨v.toArray⟩) w)) (hR : IsRdr b s i false w) :
    Calls Tryz.prog 68 #[.pointer (some ⟨b, 0, none⟩)] w (RdPost b s j bad' (.string ⟨v.toArray⟩) w) := by
  have P := Lib.hid (peek b s i false w hs hi hR)
  have HR := Lib.hid hR
  have hlb := lt_of_block hR
  have HN := Lib.hid hn
  have e1 : (((s.getD i 0).toNat : Int) == 34) = false := byte_ne (n := 34) hq.1 (by decide)
  have e2 : (((s.getD i 0).toNat : Int) == 39) = false := byte_ne (n := 39) hq.2 (by decide)
  have n1 : ¬ (((s.getD i 0).toNat : Int) = 34) := by rw [← beq_iff_eq, e1]; exact Bool.false_ne_true
  have n2 : ¬ (((s.getD i 0).toNat : Int) = 39) := by rw [← beq_iff_eq, e2]; exact Bool.false_ne_true
  have m1 : (((s.getD i 0).toNat : Int) != 34) = true := by rw [bne, e1]; rfl
  have m2 : (((s.getD i 0).toNat : Int) != 39) = true := by rw [bne, e2]; rfl
  generalize s.getD i 0 = c at *
  clear hR hn hq
  go_enter Tryz.func68, Tryz.ntmps68
  go_wp2_with fail
  refine (P.out).mono ?_
  rintro en w1 ⟨rfl, n, hw1⟩
  have hr1 : IsRdr b s i false w1 := by rw [hw1]; exact HR.out.drewN _
  have hb1 : But b w w1 := by rw [hw1]; exact (But.refl _ _).drewN _
  have Q := Lib.hid (HN.out w1 hr1)
  clear hr1 hw1
  go_wp2_with fail
  refine (Q.out).mono ?_
  rintro en w2 ⟨rfl, hr2, hb2⟩
  go_wp2_with fail
  go_ret
  exact ⟨rfl, hr2, hb1.trans hb2⟩

end K
end Go.Proofs.YtnmcgmbhkmfiaaaGreatDoor
