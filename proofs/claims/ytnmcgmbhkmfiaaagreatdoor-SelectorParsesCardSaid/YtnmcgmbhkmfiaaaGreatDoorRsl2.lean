/- What the functions of the reference's reader come to: space, ident, value, digits. -/
import Derived.Test.YtnmcgmbhkmfiaaaGreatDoorRsl1
set_option linter.unusedVariables false
set_option linter.unusedSimpArgs false
namespace Go.Proofs.YtnmcgmbhkmfiaaaGreatDoor
open Go.RowKit
namespace T
theorem byte_eq' (b : UInt8) (n : Nat) (h : n < 256) : ((b.toNat : Int) == (n : Int)) = (b == UInt8.ofNat n) := by
  rw [Bool.eq_iff_iff]
  simp only [beq_iff_eq]
  constructor
  · intro e
    have e' : b.toNat = n := by omega
    rw [← e']; simp
  · intro e; subst e; simp; omega

set_option maxHeartbeats 1000000 in
theorem refSpace (b : UInt8) (w : World) :
    Calls Tryz.prog 34 #[.int .u8 b.toNat] w fun e w' => e = .returned (.bool (sp b)) ∧ w = w' := by
  have e1 := byte_eq' b 9 (by omega)
  have e2 := byte_eq' b 10 (by omega)
  have e3 := byte_eq' b 12 (by omega)
  have e4 := byte_eq' b 13 (by omega)
  have e5 := byte_eq' b 32 (by omega)
  have hsp : sp b = ((b == 9) || (b == 10) || (b == 12) || (b == 13) || (b == 32)) := rfl
  rw [hsp]
  clear hsp
  cases h1 : (b == 9) with
  | true =>
    have t1 : ((b.toNat : Int) == 9) = true := e1.trans h1
    clear e1 e2 e3 e4 e5 h1
    go_enter Tryz.func34, Tryz.ntmps34
    go_wp2
    go_ret
    exact ⟨rfl, rfl⟩
  | false =>
  have t1 : ((b.toNat : Int) == 9) = false := e1.trans h1
  cases h2 : (b == 10) with
  | true =>
    have t2 : ((b.toNat : Int) == 10) = true := e2.trans h2
    clear e1 e2 e3 e4 e5 h1 h2
    go_enter Tryz.func34, Tryz.ntmps34
    go_wp2
    go_ret
    exact ⟨rfl, rfl⟩
  | false =>
  have t2 : ((b.toNat : Int) == 10) = false := e2.trans h2
  cases h3 : (b == 12) with
  | true =>
    have t3 : ((b.toNat : Int) == 12) = true := e3.trans h3
    clear e1 e2 e3 e4 e5 h1 h2 h3
    go_enter Tryz.func34, Tryz.ntmps34
    go_wp2
    go_ret
    exact ⟨rfl, rfl⟩
  | false =>
  have t3 : ((b.toNat : Int) == 12) = false := e3.trans h3
  cases h4 : (b == 13) with
  | true =>
    have t4 : ((b.toNat : Int) == 13) = true := e4.trans h4
    clear e1 e2 e3 e4 e5 h1 h2 h3 h4
    go_enter Tryz.func34, Tryz.ntmps34
    go_wp2
    go_ret
    exact ⟨rfl, rfl⟩
  | false =>
  have t4 : ((b.toNat : Int) == 13) = false := e4.trans h4
  cases h5 : (b == 32) with
  | true =>
    have t5 : ((b.toNat : Int) == 32) = true := e5.trans h5
    clear e1 e2 e3 e4 e5 h1 h2 h3 h4 h5
    go_enter Tryz.func34, Tryz.ntmps34
    go_wp2
    go_ret
    exact ⟨rfl, rfl⟩
  | false =>
    have t5 : ((b.toNat : Int) == 32) = false := e5.trans h5
    clear e1 e2 e3 e4 e5 h1 h2 h3 h4 h5
    go_enter Tryz.func34, Tryz.ntmps34
    go_wp2
    go_ret
    exact ⟨rfl, rfl⟩

end T
namespace F
open H K

set_option maxHeartbeats 2000000 in
theorem space (b : Nat) (s : List UInt8) (i : Nat) (bad : Bool) (w : World) (hs : s.length ≤ 1000000) (hi : i ≤ s.length) (hR : IsRdF b s i bad w) :
    Calls Tryz.prog 18 #[.pointer (some ⟨b, 0, none⟩)] w (FdPost b s (twEnd T.sp s i) bad (.bool (decide (i < twEnd T.sp s i))) w) := by
  obtain ⟨E, hE⟩ : ∃ E, twEnd T.sp s i = E := ⟨_, rfl⟩
  have HE := Lib.hid hE
  have HR := Lib.hid hR
  obtain ⟨hc, hf⟩ := cells_of hR
  have hlb := lt_of_block hR
  rw [hE]
  clear hE hR
  go_enter Tryz.func18, Tryz.ntmps18
  go_wp2_with fail
  clear hc hf
  go_loopw [] (fun wr => ∃ k : Nat, IsRdF b s k bad wr ∧ But b w wr ∧ i ≤ k ∧ k ≤ s.length ∧ Hid (twEnd T.sp s k = E)) (fun wr => s.length - (match wr.cell? ⟨b, 1, none⟩ with | some (.int _ q) => q.toNat | _ => 0))
  case atStart => exact ⟨i, HR.out, But.refl _ _, Nat.le_refl _, hi, HE⟩
  case round =>
    obtain ⟨k, hr, hb, hk1, hk2, HK⟩ := hrel
    obtain ⟨hc, hf⟩ := cells_of hr
    have hlr := lt_of_block hr
    have HRr := Lib.hid hr
    have c0 : wr.cell? ⟨b, 0, none⟩ = some (.string ⟨s.toArray⟩) := hc 0
    have c1 : wr.cell? ⟨b, 1, none⟩ = some (.int .i64 k) := hc 1
    have f1 : wr.frozen? ⟨b, 1, none⟩ = false := hf 1 (by show 1 < 3; omega)
    have hk0 : (0 : Int) ≤ (k : Int) := by omega
    clear hr HR HE
    by_cases hlt : k < s.length
    · have hlt1 : (k : Int) < (s.length : Int) := by omega
      obtain ⟨c, r, hd⟩ := drop_cons hlt
      have hix := at_drop hd (by rw [bytes_size]; exact hlt)
      have q : ∀ W, Calls Tryz.prog 34 #[.int .u8 c.toNat] W fun e w' => e = .returned (.bool (T.sp c)) ∧ W = w' := fun W => T.refSpace c W
      cases hsp : T.sp c with
      | true =>
        rw [hsp] at q
        have Q := Lib.hid q
        have HK' := Lib.hid ((twEnd_step hd hsp).trans HK.out)
        clear q hsp hd HK hc hf
        go_wp2_with fail
        go_quiet ((go_at_call 34; exact quietAdd (Q.out _)))
        go_wp2_with fail
        go_roundw
        case rel => exact ⟨k + 1, (HRr.out.drewN _).place (k + 1) (by omega), (hb.drewN _).trans (But.set _ _ _), by omega, by omega, HK'⟩
        case measure =>
          have h1 := (cells_of ((HRr.out.drewN nq).place (k + 1) (z := (k : Int) + 1) (by omega))).1 1
          have hl := hlt
          rw [h1, c1]
          show s.length - (((k + 1 : Nat) : Int)).toNat < s.length - ((k : Int)).toNat
          omega
      | false =>
        rw [hsp] at q
        have Q := Lib.hid q
        obtain rfl : k = E := (twEnd_stop hd hsp).symm.trans HK.out
        clear q hsp hd HK hc hf
        go_wp2_with fail
        go_quiet ((go_at_call 34; exact quietAdd (Q.out _)))
        go_wp2_with fail
        go_ret
        refine ⟨ret_bool ?_, HRr.out.drewN _, hb.drewN _⟩
        first | (rw [Bool.eq_iff_iff]; simp; done) | (rw [Bool.eq_iff_iff]) | simp
    · have hge : (s.length : Int) ≤ (k : Int) := by omega
      have hge2 : decide ((k : Int) < (s.length : Int)) = false := decide_eq_false (by omega)
      obtain rfl : k = E := (twEnd_past (by omega)).symm.trans HK.out
      clear HK hc hf
      go_wp2_with fail
      go_quiet (fail)
      go_wp2_with fail
      go_ret
      refine ⟨ret_bool ?_, HRr.out.drewN _, hb.drewN _⟩
      first | (rw [Bool.eq_iff_iff]; simp; done) | (rw [Bool.eq_iff_iff]) | simp

theorem stop_at {p : UInt8 → Bool} {s : List UInt8} {k : Nat} (h : p (s.getD k 0) = false) : twEnd p s k = k := by
  rcases Nat.lt_or_ge k s.length with hl | hl
  · obtain ⟨c, r, hd⟩ := drop_cons hl
    rw [getD_drop hd] at h
    exact twEnd_stop hd h
  · exact twEnd_past hl
theorem step_at {p : UInt8 → Bool} {s : List UInt8} {k : Nat} (h0 : p 0 = false) (h : p (s.getD k 0) = true) : k < s.length ∧ twEnd p s (k + 1) = twEnd p s k := by
  rcases Nat.lt_or_ge k s.length with hl | hl
  · obtain ⟨c, r, hd⟩ := drop_cons hl
    rw [getD_drop hd] at h
    exact ⟨hl, twEnd_step hd h⟩
  · rw [getD_past hl, h0] at h; cases h

/-- A string was read, or the text is not in the language. -/
def FStr (b : Nat) (s : List UInt8) (i : Nat) (bad : Bool) (o : Option (List UInt8 × List UInt8)) (w : World) (e : Ending) (w' : World) : Prop :=
  ∃ (t : List UInt8) (j : Nat) (bad' : Bool), e = .returned (.string ⟨t.toArray⟩) ∧ IsRdF b s j bad' w' ∧ But b w w' ∧ i ≤ j ∧ j ≤ s.length ∧ t.length ≤ s.length ∧ Hid ((bad = true → bad' = true) ∧ (bad = false → Got bad' o (t, s.drop j)))

theorem space_any (b : Nat) (s : List UInt8) (i : Nat) (bad : Bool) (w : World) (hs : s.length ≤ 1000000) (hi : i ≤ s.length) (hR : IsRdF b s i bad w) :
    Calls Tryz.prog 18 #[.pointer (some ⟨b, 0, none⟩)] w fun e w' => ∃ j, e = .returned (.bool (decide (i < j))) ∧ IsRdF b s j bad w' ∧ But b w w' ∧ i ≤ j ∧ j ≤ s.length ∧ Hid (s.drop j = L.space (s.drop i)) := by
  refine (space b s i bad w hs hi hR).mono ?_
  rintro e w' ⟨rfl, hr, hB⟩
  exact ⟨_, rfl, hr, hB, twEnd_ge _ _ _, twEnd_le hi, Lib.hid (twEnd_drop _ _ _)⟩

set_option maxHeartbeats 2000000 in
set_option maxRecDepth 100000 in
theorem ident (b : Nat) (s : List UInt8) (i : Nat) (bad : Bool) (w : World) (hs : s.length ≤ 1000000) (hi : i ≤ s.length) (hR : IsRdF b s i bad w) :
    Calls Tryz.prog 55 #[.pointer (some ⟨b, 0, none⟩)] w (FStr b s i bad (L.ident (s.drop i)) w) := by
  have HR := Lib.hid hR
  have hlb := lt_of_block hR
  have QB := Lib.hid (begins b s i bad w hs hi hR)
  have HV := Lib.hid (L.ident.eq_1 (s.drop i))
  have hE1 := twEnd_ge L.inName s i
  have hE2 := twEnd_le (p := L.inName) hi
  have hEt := twEnd_take L.inName s i
  have hEd := twEnd_drop L.inName s i
  have hsl := slice_str s i (twEnd L.inName s i) hE1 hE2
  rw [hEt] at hsl
  have HD : Hid ((s.drop i).dropWhile L.inName = s.drop (twEnd L.inName s i)) := Lib.hid hEd.symm
  have hlen : ((s.drop i).takeWhile L.inName).length ≤ s.length := by have := tw_le L.inName (s.drop i); rw [List.length_drop] at this; omega
  have HSl := Lib.hid hsl
  generalize (s.drop i).takeWhile L.inName = tk at *
  generalize (s.drop i).dropWhile L.inName = dk at *
  obtain ⟨E, hE⟩ : ∃ E, twEnd L.inName s i = E := ⟨_, rfl⟩
  rw [hE] at hE1 hE2 HSl HD
  have HE := Lib.hid hE
  generalize L.ident (s.drop i) = o at *
  generalize L.begins (s.drop i) = B at *
  clear hR hEt hEd hsl hE
  go_enter Tryz.func55, Tryz.ntmps55
  go_wp2_with fail
  refine (QB.out).mono ?_
  rintro e w1 ⟨rfl, n1, hw1⟩
  have HR1 : Hid (IsRdF b s i bad w1) := Lib.hid (by rw [hw1]; exact HR.out.drewN n1)
  have HB1 : Hid (But b w w1) := Lib.hid (by rw [hw1]; exact (But.refl _ _).drewN n1)
  clear hw1 QB
  obtain ⟨hc, hf⟩ := cells_of HR1.out
  have hlb1 := lt_of_block HR1.out
  cases B with
  | false =>
    have HO : Hid (o = none) := Lib.hid (by rw [HV.out]; rfl)
    clear HV HE HSl HD hE1 hE2
    go_wp2_with fail
    go_ret
    exact ⟨[], i, true, rfl, HR1.out.fail, HB1.out.trans (But.set _ _ _), Nat.le_refl _, hi, Nat.zero_le _, Lib.hid ⟨fun _ => rfl, fun _ => Got.no HO.out⟩⟩
  | true =>
    have HO : Hid (o = some (tk, s.drop E)) := Lib.hid (by rw [HV.out, ← HD.out]; rfl)
    have c1 : w1.cell? ⟨b, 1, none⟩ = some (.int .i64 i) := hc 1
    clear HV hc hf HD
    go_wp2_with fail
    clear c1
    go_loopw [] (fun wr => ∃ k : Nat, IsRdF b s k bad wr ∧ But b w wr ∧ i ≤ k ∧ k ≤ s.length ∧ Hid (twEnd L.inName s k = E)) (fun wr => s.length - (match wr.cell? ⟨b, 1, none⟩ with | some (.int _ q) => q.toNat | _ => 0))
    case atStart => exact ⟨i, HR1.out, HB1.out, Nat.le_refl _, hi, HE⟩
    case round =>
      obtain ⟨k, hr, hb, hk1, hk2, HK⟩ := hrel
      clear HR1 HB1 hlb1 HE
      have P00 := Lib.hid (peek0 b s k bad wr hs hk2 hr)
      have P0 := Lib.hid (fun n => peek0 b s k bad (wr.drewN n) hs hk2 (hr.drewN n))
      have HRr := Lib.hid hr
      have HBr := Lib.hid hb
      obtain ⟨hcr, hfr⟩ := cells_of hr
      have c1 : wr.cell? ⟨b, 1, none⟩ = some (.int .i64 k) := hcr 1
      have c0 : wr.cell? ⟨b, 0, none⟩ = some (.string ⟨s.toArray⟩) := hcr 0
      have f1 : wr.frozen? ⟨b, 1, none⟩ = false := hfr 1 (by show 1 < 3; omega)
      have hlr := lt_of_block hr
      have HC1 := Lib.hid c1
      have zs := bytes_size s
      have HStop := Lib.hid (fun (h : L.inName (s.getD k 0) = false) => (stop_at h).symm.trans HK.out)
      have HStep := Lib.hid (fun (h : L.inName (s.getD k 0) = true) => step_at (p := L.inName) (by decide) h)
      generalize s.getD k 0 = c at *
      have Q := Lib.hid (fun W => first c W)
      have Q2 := Lib.hid (fun W => digit c W)
      have HIn : Hid (L.inName c = (L.first c || (L.isDig c || c == 45))) := Lib.hid rfl
      clear hr hb hcr hfr
      go_wp2_with fail
      refine (P00.out).mono ?_
      rintro e w2 ⟨rfl, n2, rfl⟩
      go_wp2_with fail
      refine (Q.out _).mono ?_
      rintro e w3 ⟨rfl, rfl⟩
      cases hf1 : L.first c with
      | true =>
        have hin : L.inName c = true := by rw [HIn.out, hf1]; rfl
        obtain ⟨hkl, hst⟩ := HStep.out hin
        have HK' := Lib.hid (hst.trans HK.out)
        clear HStop HStep hin hst HIn hf1
        go_wp2_with fail
        go_roundw
        case rel => exact ⟨k + 1, (HRr.out.drewN _).place (k + 1) (by omega), (HBr.out.drewN _).trans (But.set _ _ _), by omega, by omega, HK'⟩
        case measure =>
          have h1 := (cells_of ((HRr.out.drewN n2).place (k + 1) (z := (k : Int) + 1) (by omega))).1 1
          rw [h1, HC1.out]
          show s.length - (((k + 1 : Nat) : Int)).toNat < s.length - ((k : Int)).toNat
          omega
      | false =>
        go_wp2_with fail
        refine (P0.out n2).mono ?_
        rintro e w4 ⟨rfl, n4, hw4⟩
        rw [World.drewN_drewN] at hw4
        subst hw4
        go_wp2_with fail
        refine (Q2.out _).mono ?_
        rintro e w5 ⟨rfl, rfl⟩
        cases hf2 : L.isDig c with
        | true =>
          have hin : L.inName c = true := by rw [HIn.out, hf1, hf2]; rfl
          obtain ⟨hkl, hst⟩ := HStep.out hin
          have HK' := Lib.hid (hst.trans HK.out)
          clear HStop HStep hin hst HIn hf1 hf2
          go_wp2_with fail
          go_roundw
          case rel => exact ⟨k + 1, (HRr.out.drewN _).place (k + 1) (by omega), (HBr.out.drewN _).trans (But.set _ _ _), by omega, by omega, HK'⟩
          case measure =>
            have h1 := (cells_of ((HRr.out.drewN (n2 + n4)).place (k + 1) (z := (k : Int) + 1) (by omega))).1 1
            rw [h1, HC1.out]
            show s.length - (((k + 1 : Nat) : Int)).toNat < s.length - ((k : Int)).toNat
            omega
        | false =>
          go_wp2_with fail
          refine (P0.out _).mono ?_
          rintro e w6 ⟨rfl, n6, hw6⟩
          rw [World.drewN_drewN] at hw6
          subst hw6
          by_cases h45 : c = 45
          · have e1 : ((c.toNat : Int) == 45) = true := byte_is (n := 45) h45 (by decide)
            have e2 : (c.toNat == 45) = true := by rw [h45]; rfl
            have hin : L.inName c = true := by rw [h45]; rfl
            obtain ⟨hkl, hst⟩ := HStep.out hin
            have HK' := Lib.hid (hst.trans HK.out)
            clear HStop HStep hin hst HIn hf1 hf2 h45
            go_wp2_with fail
            go_roundw
            case rel => exact ⟨k + 1, (HRr.out.drewN _).place (k + 1) (by omega), (HBr.out.drewN _).trans (But.set _ _ _), by omega, by omega, HK'⟩
            case measure =>
              have h1 := (cells_of ((HRr.out.drewN (n2 + n4 + n6)).place (k + 1) (z := (k : Int) + 1) (by omega))).1 1
              rw [h1, HC1.out]
              show s.length - (((k + 1 : Nat) : Int)).toNat < s.length - ((k : Int)).toNat
              omega
          · have e1 : ((c.toNat : Int) == 45) = false := byte_ne (n := 45) h45 (by decide)
            have e2 : (c.toNat == 45) = false := by rw [beq_eq_false_iff_ne]; intro h; exact h45 (UInt8.toNat_inj.1 h)
            have hin : L.inName c = false := by rw [HIn.out, hf1, hf2, show (c == 45) = false by simpa using h45]; rfl
            have hkE := HStop.out hin
            clear HStop HStep hin HIn hf1 hf2 h45 HK
            subst hkE
            have hi0 : (0 : Int) ≤ (i : Int) := by omega
            have hik : (i : Int) ≤ (k : Int) := by omega
            have hks : (k : Int) ≤ (s.length : Int) := by omega
            have hslx := HSl.out
            go_wp2_with fail
            go_quiet (fail)
            go_wp2_with fail
            go_ret
            exact ⟨tk, k, bad, rfl, (HRr.out.drewN _).drewN _, (HBr.out.drewN _).drewN _, hk1, hk2, hlen, Lib.hid ⟨fun h => h, fun h => by rw [h]; exact Got.yes HO.out⟩⟩

end F
end Go.Proofs.YtnmcgmbhkmfiaaaGreatDoor
