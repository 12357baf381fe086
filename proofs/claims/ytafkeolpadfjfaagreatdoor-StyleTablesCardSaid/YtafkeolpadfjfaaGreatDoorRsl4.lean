/- What the functions of the reference's reader come to: value, digits. What the functions of the reference's reader come to: digits. -/
import Derived.Test.YtafkeolpadfjfaaGreatDoorRsl2
import Derived.Test.YtafkeolpadfjfaaGreatDoorSel14
set_option linter.unusedVariables false
set_option linter.unusedSimpArgs false
namespace Go.Proofs.YtafkeolpadfjfaaGreatDoor
open Go.RowKit
namespace F
open H K
theorem valueT (q : UInt8) (hq : q ≠ 10) : ∀ t : List UInt8,
  (∀ u, t.dropWhile (fun c => c != q && c != 10) = q :: u → (match t.dropWhile (· != q) with | [] => none | _ :: u => if (10 : UInt8) ∈ t.takeWhile (· != q) then none else some (t.takeWhile (· != q), u)) = some (t.takeWhile (fun c => c != q && c != 10), u)) ∧
  ((∀ u, t.dropWhile (fun c => c != q && c != 10) ≠ q :: u) → (match t.dropWhile (· != q) with | [] => none | _ :: u => if (10 : UInt8) ∈ t.takeWhile (· != q) then (none : Option (List UInt8 × List UInt8)) else some (t.takeWhile (· != q), u)) = none)
 | [] => ⟨fun u h => (by cases h), fun _ => rfl⟩
 | c :: r => by
  obtain ⟨i1, i2⟩ := valueT q hq r
  by_cases hc : c = q
  ·subst hc
   have e1 : (c :: r).dropWhile (fun d => d != c && d != 10) = c :: r := by rw [List.dropWhile_cons]; simp
   have e2 : (c :: r).dropWhile (· != c) = c :: r := by rw [List.dropWhile_cons]; simp
   have e3 : (c :: r).takeWhile (fun d => d != c && d != 10) = [] := by rw [List.takeWhile_cons]; simp
   have e4 : (c :: r).takeWhile (· != c) = [] := by rw [List.takeWhile_cons]; simp
   rw [e1, e2, e3, e4]
   refine ⟨fun u h => ?_, fun h => absurd rfl (h r)⟩
   obtain ⟨_, rfl⟩ := List.cons.inj h
   simp
  ·have e2 : (c :: r).dropWhile (· != q) = r.dropWhile (· != q) := by rw [List.dropWhile_cons]; simp [hc]
   have e4 : (c :: r).takeWhile (· != q) = c :: r.takeWhile (· != q) := by rw [List.takeWhile_cons]; simp [hc]
   rw [e2, e4]
   by_cases h10 : c = 10
   ·subst h10
    have e1 : (10 :: r).dropWhile (fun d => d != q && d != 10) = 10 :: r := by rw [List.dropWhile_cons]; simp
    have e3 : (10 :: r).takeWhile (fun d => d != q && d != 10) = [] := by rw [List.takeWhile_cons]; simp
    rw [e1, e3]
    refine ⟨fun u h => absurd (List.cons.inj h).1 hc, fun _ => ?_⟩
    cases r.dropWhile (· != q) with
    | nil => rfl
    | cons d u => simp
   ·have e1 : (c :: r).dropWhile (fun d => d != q && d != 10) = r.dropWhile (fun d => d != q && d != 10) := by rw [List.dropWhile_cons]; simp [hc, h10]
    have e3 : (c :: r).takeWhile (fun d => d != q && d != 10) = c :: r.takeWhile (fun d => d != q && d != 10) := by rw [List.takeWhile_cons]; simp [hc, h10]
    rw [e1, e3]
    have hm : ((10 : UInt8) ∈ c :: r.takeWhile (· != q)) ↔ (10 : UInt8) ∈ r.takeWhile (· != q) := by
     rw [List.mem_cons]
     exact ⟨fun h => h.elim (fun h => absurd h.symm h10) id, Or.inr⟩
    constructor
    ·intro u h
     have := i1 u h
     cases hd : r.dropWhile (· != q) with
     | nil => rw [hd] at this; cases this
     | cons d x =>
      rw [hd] at this
      dsimp only at this ⊢
      by_cases hh : (10 : UInt8) ∈ r.takeWhile (· != q)
      ·rw [if_pos hh] at this; cases this
      ·rw [if_neg hh] at this
       rw [if_neg (fun h => hh (hm.1 h))]
       obtain ⟨h1, h2⟩ := Prod.mk.inj (Option.some.inj this)
       rw [h1, h2]
    ·intro h
     have := i2 h
     cases hd : r.dropWhile (· != q) with
     | nil => rfl
     | cons d x =>
      rw [hd] at this
      dsimp only at this ⊢
      by_cases hh : (10 : UInt8) ∈ r.takeWhile (· != q)
      ·rw [if_pos (hm.2 hh)]
      ·rw [if_neg hh] at this; cases this
theorem value_name {s : List UInt8} {i : Nat} (h1 : s.getD i 0 ≠ 34) (h2 : s.getD i 0 ≠ 39) : L.value (s.drop i) = L.ident (s.drop i) := by
 cases hd : s.drop i with
 | nil => rfl
 | cons c r =>
  rw [getD_drop hd] at h1 h2
  have e1 : (c == 34) = false := by simpa using h1
  have e2 : (c == 39) = false := by simpa using h2
  unfold L.value
  dsimp only
  rw [e1, e2]; rfl
theorem value_q {q : UInt8} {t : List UInt8} (hq : q = 34 ∨ q = 39) : L.value (q :: t) = match t.dropWhile (· != q) with
  | [] => none
  | _ :: u => if (10 : UInt8) ∈ t.takeWhile (· != q) then none else some (t.takeWhile (· != q), u) := by
 rcases hq with rfl | rfl <;> rfl
set_option maxHeartbeats 4000000 in
set_option maxRecDepth 100000 in
theorem value (b : Nat) (s : List UInt8) (i : Nat) (bad : Bool) (w : World) (hs : s.length ≤ 1000000) (hi : i ≤ s.length) (hR : IsRdF b s i bad w) :
  Calls Tryz.prog 200 #[.pointer (some ⟨b, 0, none⟩)] w (FStr b s i bad (L.value (s.drop i)) w) := by
 have HR := Lib.hid hR
 have hlb := lt_of_block hR
 have P00 := Lib.hid (peek0 b s i bad w hs hi hR)
 clear hR
 by_cases hq : s.getD i 0 = 34 ∨ s.getD i 0 = 39
 ·have hlt : i < s.length := by
   rcases Nat.lt_or_ge i s.length with h | h
   ·exact h
   ·rw [getD_past h] at hq; exact absurd hq (by decide)
  obtain ⟨q, t, hd⟩ := drop_cons hlt
  rw [getD_drop hd] at hq P00
  have hV := value_q (t := t) hq
  have hd1 := drop_more hd
  have hq10 : q ≠ 10 := by rcases hq with h | h <;> (rw [h]; decide)
  obtain ⟨v1, v2⟩ := valueT q hq10 t
  rw [← hV] at v1 v2
  rw [hd]
  generalize L.value (q :: t) = o at *
  obtain ⟨E, hE⟩ : ∃ E, twEnd (fun c => c != q && c != 10) s (i + 1) = E := ⟨_, rfl⟩
  have hE1 := twEnd_ge (fun c => c != q && c != 10) s (i + 1)
  have hE2 := twEnd_le (p := fun c => c != q && c != 10) (show i + 1 ≤ s.length by omega)
  have hEt := twEnd_take (fun c => c != q && c != 10) s (i + 1)
  have hEd := twEnd_drop (fun c => c != q && c != 10) s (i + 1)
  have hsl := slice_str s (i + 1) (twEnd (fun c => c != q && c != 10) s (i + 1)) hE1 hE2
  rw [hEt] at hsl
  rw [hd1] at hEt hEd hsl
  rw [← hEd] at v1 v2
  have hlen : (t.takeWhile (fun c => c != q && c != 10)).length ≤ s.length := by
   have h1 := tw_le (fun c => c != q && c != 10) t
   have h2 := congrArg List.length hd1
   rw [List.length_drop] at h2
   omega
  rw [hE] at hE1 hE2 hsl v1 v2
  have HE := Lib.hid hE
  have HSl := Lib.hid hsl
  have HV1 := Lib.hid v1
  have HV2 := Lib.hid v2
  generalize t.takeWhile (fun c => c != q && c != 10) = tk at *
  clear hE hsl v1 v2 hEt hEd hd1 hV hd hq10
  rcases hq with hq | hq
  case' inl =>
   have x1 : ((q.toNat : Int) != 34) = false := by rw [hq]; rfl
   have x2 : ((q.toNat : Int) == 34) = true := by rw [hq]; rfl
  case' inr =>
   have x1 : ((q.toNat : Int) != 34) = true := by rw [hq]; rfl
   have x2 : ((q.toNat : Int) == 34) = false := by rw [hq]; rfl
   have x3 : ((q.toNat : Int) != 39) = false := by rw [hq]; rfl
   have x4 : ((q.toNat : Int) == 39) = true := by rw [hq]; rfl
  all_goals
   clear hq
   go_enter Tryz.func200, Tryz.ntmps200
   go_wp2_with fail
   refine (P00.out).mono ?_
   rintro e w1 ⟨rfl, n1, hw1⟩
   have HR1 : Hid (IsRdF b s i bad w1) := Lib.hid (by rw [hw1]; exact HR.out.drewN n1)
   have HB1 : Hid (But b w w1) := Lib.hid (by rw [hw1]; exact (But.refl _ _).drewN n1)
   have hlb1 := lt_of_block HR1.out
   obtain ⟨hc, hf⟩ := cells_of HR1.out
   have c1 : w1.cell? ⟨b, 1, none⟩ = some (.int .i64 i) := hc 1
   have f1 : w1.frozen? ⟨b, 1, none⟩ = false := hf 1 (by show 1 < 3; omega)
   have HR2 : Hid (IsRdF b s (i + 1) bad (w1.setCell ⟨b, 1, none⟩ (.int .i64 ((i : Int) + 1)))) := Lib.hid (HR1.out.place (i + 1) (by omega))
   have HB2 : Hid (But b w (w1.setCell ⟨b, 1, none⟩ (.int .i64 ((i : Int) + 1)))) := Lib.hid (HB1.out.trans (But.set _ _ _))
   clear hw1 hc hf P00 HR HR1 HB1
   go_wp2_with fail
   clear c1 f1
   go_loopw [] (fun wr => ∃ k : Nat, IsRdF b s k bad wr ∧ But b w wr ∧ i + 1 ≤ k ∧ k ≤ s.length ∧ Hid (twEnd (fun c => c != q && c != 10) s k = E)) (fun wr => s.length - (match wr.cell? ⟨b, 1, none⟩ with | some (.int _ z) => z.toNat | _ => 0))
   case atStart => exact ⟨i + 1, HR2.out, HB2.out, Nat.le_refl _, by omega, HE⟩
   case round =>
    obtain ⟨k, hr, hb, hk1, hk2, HK⟩ := hrel
    clear HR2 HB2 hlb1 HE x1 x2
    have HRr := Lib.hid hr
    have HBr := Lib.hid hb
    obtain ⟨hcr, hfr⟩ := cells_of hr
    have c1 : wr.cell? ⟨b, 1, none⟩ = some (.int .i64 k) := hcr 1
    have c0 : wr.cell? ⟨b, 0, none⟩ = some (.string ⟨s.toArray⟩) := hcr 0
    have f1 : wr.frozen? ⟨b, 1, none⟩ = false := hfr 1 (by show 1 < 3; omega)
    have hlr := lt_of_block hr
    have HC1 := Lib.hid c1
    have zs := bytes_size s
    have hk0 : (0 : Int) ≤ (k : Int) := by omega
    have g0 : (0 : Int) ≤ (i : Int) + 1 := by omega
    have g1 : (i : Int) + 1 ≤ (k : Int) := by omega
    have g2 : (k : Int) ≤ (s.length : Int) := by omega
    have g3 : ((i : Int) + 1).toNat = i + 1 := by omega
    have QT := Lib.hid (fun n => take b s q k bad (wr.drewN n) hs hk2 (hr.drewN n))
    have hx2 : i ≤ k := by omega
    clear hr hb hcr hfr
    by_cases hkl : k < s.length
    ·have hl1 : (k : Int) < (s.length : Int) := by omega
     have hl2 : decide ((k : Int) < (s.length : Int)) = true := decide_eq_true hl1
     obtain ⟨c, r, hd⟩ := drop_cons hkl
     have hx := at_drop hd (by rw [bytes_size]; exact hkl)
     by_cases hc : c = q
     ·have y1 : ((c.toNat : Int) == (q.toNat : Int)) = true := by rw [hc]; simp
      have y2 : ((c.toNat : Int) != (q.toNat : Int)) = false := by rw [hc]; simp
      have y3 : (c.toNat == q.toNat) = true := by rw [hc]; simp
      have hkE : k = E := (twEnd_stop hd (by simp [hc])).symm.trans HK.out
      subst hkE
      clear hd hc HK
      have hslx := HSl.out
      go_wp2_with fail
      go_quiet (fail)
      go_wp2_with fail
      go_quiet (fail)
      go_wp2_with fail
      refine (QT.out _).mono ?_
      rintro e w3 (⟨rfl, hr3, hb3, hj3, HT⟩ | ⟨rfl, hr3, hb3, HT⟩)
      ·have HR3 := Lib.hid hr3
       have HB3 := Lib.hid ((HBr.out.drewN _).trans hb3)
       have HO : Hid (o = some (tk, s.drop (k + 1))) := Lib.hid (HV1.out _ HT.out)
       clear hr3 hb3
       go_wp2_with fail
       go_ret
       exact ⟨tk, k + 1, bad, rfl, HR3.out, HB3.out, by omega, hj3, hlen, Lib.hid ⟨fun h => h, fun h => by rw [h]; exact Got.yes HO.out⟩⟩
      ·have HR3 := Lib.hid hr3
       have HB3 := Lib.hid ((HBr.out.drewN _).trans hb3)
       have HO : Hid (o = none) := Lib.hid (HV2.out HT.out)
       obtain ⟨hc3, hf3⟩ := cells_of hr3
       have hlb3 := lt_of_block hr3
       clear hr3 hb3
       go_wp2_with fail
       go_ret
       exact ⟨tk, k, true, rfl, HR3.out.fail, HB3.out.trans (But.set _ _ _), by omega, hk2, hlen, Lib.hid ⟨fun _ => rfl, fun _ => Got.no HO.out⟩⟩
     ·have y1 : ((c.toNat : Int) == (q.toNat : Int)) = false := by
       rw [beq_eq_false_iff_ne]; intro h; exact hc (UInt8.toNat_inj.1 (by omega))
      have y2 : ((c.toNat : Int) != (q.toNat : Int)) = true := by simp [bne, y1]
      have y3 : (c.toNat == q.toNat) = false := by rw [beq_eq_false_iff_ne]; intro h; exact hc (UInt8.toNat_inj.1 h)
      by_cases h10 : c = 10
      ·have z1 : ((c.toNat : Int) == 10) = true := byte_is (n := 10) h10 (by decide)
       have z2 : ((c.toNat : Int) != 10) = false := by simp [bne, z1]
       have hkE : k = E := (twEnd_stop hd (by simp [h10])).symm.trans HK.out
       subst hkE
       clear hd hc h10 HK
       have hslx := HSl.out
       go_wp2_with fail
       go_quiet (fail)
       go_wp2_with fail
       go_quiet (fail)
       go_wp2_with fail
       refine (QT.out _).mono ?_
       rintro e w3 (⟨rfl, hr3, hb3, hj3, HT⟩ | ⟨rfl, hr3, hb3, HT⟩)
       ·have HR3 := Lib.hid hr3
        have HB3 := Lib.hid ((HBr.out.drewN _).trans hb3)
        have HO : Hid (o = some (tk, s.drop (k + 1))) := Lib.hid (HV1.out _ HT.out)
        clear hr3 hb3
        go_wp2_with fail
        go_ret
        exact ⟨tk, k + 1, bad, rfl, HR3.out, HB3.out, by omega, hj3, hlen, Lib.hid ⟨fun h => h, fun h => by rw [h]; exact Got.yes HO.out⟩⟩
       ·have HR3 := Lib.hid hr3
        have HB3 := Lib.hid ((HBr.out.drewN _).trans hb3)
        have HO : Hid (o = none) := Lib.hid (HV2.out HT.out)
        obtain ⟨hc3, hf3⟩ := cells_of hr3
        have hlb3 := lt_of_block hr3
        clear hr3 hb3
        go_wp2_with fail
        go_ret
        exact ⟨tk, k, true, rfl, HR3.out.fail, HB3.out.trans (But.set _ _ _), by omega, hk2, hlen, Lib.hid ⟨fun _ => rfl, fun _ => Got.no HO.out⟩⟩
      ·have z1 : ((c.toNat : Int) == 10) = false := byte_ne (n := 10) h10 (by decide)
       have z2 : ((c.toNat : Int) != 10) = true := by simp [bne, z1]
       have HK' := Lib.hid ((twEnd_step hd (by simp [hc, h10])).trans HK.out)
       clear hd hc h10 HK QT
       go_wp2_with fail
       go_quiet (fail)
       go_wp2_with fail
       go_roundw
       case rel => exact ⟨k + 1, (HRr.out.drewN _).place (k + 1) (by omega), (HBr.out.drewN _).trans (But.set _ _ _), by omega, by omega, HK'⟩
       case measure =>
        have h1 := (cells_of ((HRr.out.drewN nq).place (k + 1) (z := (k : Int) + 1) (by omega))).1 1
        rw [h1, HC1.out]
        show s.length - (((k + 1 : Nat) : Int)).toNat < s.length - ((k : Int)).toNat
        omega
    ·have hl1 : (s.length : Int) ≤ (k : Int) := by omega
     have hl2 : decide ((k : Int) < (s.length : Int)) = false := decide_eq_false (by omega)
     have hkE : k = E := (twEnd_past (by omega)).symm.trans HK.out
     subst hkE
     clear HK
     have hslx := HSl.out
     go_wp2_with fail
     go_quiet (fail)
     go_wp2_with fail
     go_quiet (fail)
     go_wp2_with fail
     refine (QT.out _).mono ?_
     rintro e w3 (⟨rfl, hr3, hb3, hj3, HT⟩ | ⟨rfl, hr3, hb3, HT⟩)
     ·exfalso; omega
     ·have HR3 := Lib.hid hr3
      have HB3 := Lib.hid ((HBr.out.drewN _).trans hb3)
      have HO : Hid (o = none) := Lib.hid (HV2.out HT.out)
      obtain ⟨hc3, hf3⟩ := cells_of hr3
      have hlb3 := lt_of_block hr3
      clear hr3 hb3
      go_wp2_with fail
      go_ret
      exact ⟨tk, k, true, rfl, HR3.out.fail, HB3.out.trans (But.set _ _ _), by omega, hk2, hlen, Lib.hid ⟨fun _ => rfl, fun _ => Got.no HO.out⟩⟩
 ·have h34 : s.getD i 0 ≠ 34 := fun h => hq (Or.inl h)
  have h39 : s.getD i 0 ≠ 39 := fun h => hq (Or.inr h)
  rw [value_name h34 h39]
  generalize s.getD i 0 = q at *
  have x1 : ((q.toNat : Int) == 34) = false := byte_ne (n := 34) h34 (by decide)
  have x2 : ((q.toNat : Int) != 34) = true := by simp [bne, x1]
  have x3 : ((q.toNat : Int) == 39) = false := byte_ne (n := 39) h39 (by decide)
  have x4 : ((q.toNat : Int) != 39) = true := by simp [bne, x3]
  have QI := Lib.hid (fun n => ident b s i bad (w.drewN n) hs hi (HR.out.drewN n))
  clear hq h34 h39
  go_enter Tryz.func200, Tryz.ntmps200
  go_wp2_with fail
  refine (P00.out).mono ?_
  rintro e w1 ⟨rfl, n1, rfl⟩
  go_wp2_with fail
  refine (QI.out n1).mono ?_
  rintro e w2 ⟨t, j, bad', rfl, hr, hB, g1, g2, g3, HG⟩
  have HB2 : Hid (But b w w2) := Lib.hid (((But.refl b w).drewN n1).trans hB)
  have HR2 := Lib.hid hr
  clear hB hr
  go_wp2_with fail
  go_ret
  exact ⟨t, j, bad', rfl, HR2.out, HB2.out, g1, g2, g3, HG⟩
end F
end Go.Proofs.YtafkeolpadfjfaaGreatDoor
namespace Go.Proofs.YtafkeolpadfjfaaGreatDoor
open Go.RowKit
namespace F
open H K
/-- How the reference adds a digit. -/
def dg (n : Nat) (c : UInt8) : Nat := min (n * 10 + (c.toNat - 48)) 10000000
theorem dg_le (l : List UInt8) (n : Nat) (h : n ≤ 10000000) : l.foldl dg n ≤ 10000000 := by
 induction l generalizing n with
 | nil => exact h
 | cons c r ih => rw [List.foldl_cons]; exact ih _ (Nat.min_le_right _ _)
theorem dg_nat : ∀ (l : List UInt8) (acc k : Nat), (∀ c ∈ l, L.isDig c = true) → l.length + k ≤ 6 → acc < 10 ^ k → l.foldl dg acc = l.foldl (fun n c => n * 10 + (c.toNat - 48)) acc
 | [], acc, k, h, hl, ha => rfl
 | c :: r, acc, k, h, hl, ha => by
  have hc : c.toNat ≤ 57 := by have := h c (by simp); unfold L.isDig at this; simp at this; exact this.2
  have hp : (10 : Nat) ^ (k + 1) ≤ 10 ^ 6 := Nat.pow_le_pow_right (by omega) (by simp at hl; omega)
  have h1 : acc * 10 + (c.toNat - 48) < 10 ^ (k + 1) := by rw [Nat.pow_succ]; omega
  have e : dg acc c = acc * 10 + (c.toNat - 48) := by unfold dg; rw [Nat.min_eq_left]; omega
  rw [List.foldl_cons, List.foldl_cons, e]
  exact dg_nat r _ (k + 1) (fun d hd => h d (by simp [hd])) (by simp at hl; omega) h1
/-- A number was read, or the text is not in the language. -/
def FInt (b : Nat) (s : List UInt8) (i : Nat) (bad : Bool) (o : Option (Nat × List UInt8)) (w : World) (e : Ending) (w' : World) : Prop :=
 ∃ (n j : Nat) (bad' : Bool), e = .returned (.int .i64 n) ∧ IsRdF b s j bad' w' ∧ But b w w' ∧ i ≤ j ∧ j ≤ s.length ∧ n ≤ 10000000 ∧ Hid ((bad = true → bad' = true) ∧ (bad = false → Got bad' o (n, s.drop j)))
theorem take_more {s : List UInt8} {i k : Nat} (hik : i ≤ k) (hk : k < s.length) : (s.drop i).take (k + 1 - i) = (s.drop i).take (k - i) ++ [s.getD k 0] := by
 have h1 : k - i < (s.drop i).length := by rw [List.length_drop]; omega
 have e : k + 1 - i = k - i + 1 := by omega
 rw [e, List.take_succ_eq_append_getElem h1]
 congr 1
 rw [List.getElem_drop]
 have : i + (k - i) = k := by omega
 simp only [this]
 rw [List.getD_eq_getElem?_getD, List.getElem?_eq_getElem hk]; rfl
set_option maxHeartbeats 4000000 in
set_option maxRecDepth 100000 in
theorem digits (b : Nat) (s : List UInt8) (i : Nat) (bad : Bool) (w : World) (hs : s.length ≤ 1000000) (hi : i ≤ s.length) (hR : IsRdF b s i bad w) :
  Calls Tryz.prog 211 #[.pointer (some ⟨b, 0, none⟩)] w (FInt b s i bad (L.number (s.drop i)) w) := by
 have HR := Lib.hid hR
 have hlb := lt_of_block hR
 have hE1 := twEnd_ge L.isDig s i
 have hE2 := twEnd_le (p := L.isDig) hi
 have hEt := twEnd_take L.isDig s i
 have hEd := twEnd_drop L.isDig s i
 have hall : ∀ c ∈ (s.drop i).takeWhile L.isDig, L.isDig c = true := fun c hc => tw_all hc
 have hlen : ((s.drop i).takeWhile L.isDig).length = twEnd L.isDig s i - i := by unfold twEnd; omega
 have HV := Lib.hid (L.number.eq_1 (s.drop i))
 rw [← hEd] at HV
 have HT := Lib.hid hEt
 have HAll := Lib.hid hall
 obtain ⟨E, hE⟩ : ∃ E, twEnd L.isDig s i = E := ⟨_, rfl⟩
 rw [hE] at hE1 hE2 HT hlen HV
 have HE := Lib.hid hE
 have HLen := Lib.hid hlen
 generalize (s.drop i).takeWhile L.isDig = tk at *
 generalize L.number (s.drop i) = o at *
 clear hR hEt hEd hall hlen hE
 go_enter Tryz.func211, Tryz.ntmps211
 go_wp2_with fail
 go_loopw [3, 4] (fun v3 v4 wr => ∃ k : Nat, v3 = .int .i64 (((s.drop i).take (k - i)).foldl dg 0 : Nat) ∧ v4 = .int .i64 ((k - i : Nat) : Int) ∧ IsRdF b s k bad wr ∧ But b w wr ∧ i ≤ k ∧ k ≤ s.length ∧ Hid (twEnd L.isDig s k = E)) (fun _ _ wr => s.length - (match wr.cell? ⟨b, 1, none⟩ with | some (.int _ q) => q.toNat | _ => 0))
 case atStart => exact ⟨i, by simp, by simp, HR.out, But.refl _ _, Nat.le_refl _, hi, HE⟩
 case round =>
  obtain ⟨k, rfl, rfl, hr, hb, hk1, hk2, HK⟩ := hrel
  clear HR HE
  have P00 := Lib.hid (peek0 b s k bad wr hs hk2 hr)
  have P0 := Lib.hid (fun n => peek0 b s k bad (wr.drewN n) hs hk2 (hr.drewN n))
  have HRr := Lib.hid hr
  have HBr := Lib.hid hb
  obtain ⟨hcr, hfr⟩ := cells_of hr
  have c1 : wr.cell? ⟨b, 1, none⟩ = some (.int .i64 k) := hcr 1
  have f1 : wr.frozen? ⟨b, 1, none⟩ = false := hfr 1 (by show 1 < 3; omega)
  have f2 : wr.frozen? ⟨b, 2, none⟩ = false := hfr 2 (by show 2 < 3; omega)
  have c2 : wr.cell? ⟨b, 2, none⟩ = some (.bool bad) := hcr 2
  have hlr := lt_of_block hr
  have HC1 := Lib.hid c1
  have HStop := Lib.hid (fun (h : L.isDig (s.getD k 0) = false) => (stop_at h).symm.trans HK.out)
  have HStep := Lib.hid (fun (h : L.isDig (s.getD k 0) = true) => step_at (p := L.isDig) (by decide) h)
  have hnle := dg_le ((s.drop i).take (k - i)) 0 (by omega)
  have HMore := Lib.hid (fun (h : k < s.length) => take_more (s := s) hk1 h)
  obtain ⟨n, hn⟩ : ∃ n, ((s.drop i).take (k - i)).foldl dg 0 = n := ⟨_, rfl⟩
  rw [hn] at hnle ⊢
  have HN := Lib.hid hn
  obtain ⟨m, hm⟩ : ∃ m, m = k - i := ⟨_, rfl⟩
  rw [← hm]
  generalize s.getD k 0 = c at *
  have Q2 := Lib.hid (fun W => digit c W)
  have hc57 : L.isDig c = true → 48 ≤ c.toNat ∧ c.toNat ≤ 57 := dig_nat
  have HC57 := Lib.hid hc57
  have HM := Lib.hid hm
  have hmb : m ≤ 1000000 := by omega
  clear hr hb hcr hfr hn hc57 hm
  go_wp2_with fail
  refine (P00.out).mono ?_
  rintro e w2 ⟨rfl, n2, rfl⟩
  go_wp2_with fail
  refine (Q2.out _).mono ?_
  rintro e w3 ⟨rfl, rfl⟩
  cases hf1 : L.isDig c with
  | true =>
   obtain ⟨hc1, hc2⟩ := HC57.out hf1
   obtain ⟨hkl, hst⟩ := HStep.out hf1
   have HK' := Lib.hid (hst.trans HK.out)
   have g1 : IntKind.i64.wrap ((n : Int) * 10) = (n : Int) * 10 := IntWalk.i64_in _ (by omega)
   have g2 : IntKind.u8.wrap ((c.toNat : Int) - 48) = (c.toNat : Int) - 48 := by
    show ((c.toNat : Int) - 48) % 256 = _
    omega
   have g3 : IntKind.i64.wrap ((c.toNat : Int) - 48) = (c.toNat : Int) - 48 := IntWalk.i64_in _ (by omega)
   have g4 : IntKind.i64.wrap ((n : Int) * 10 + ((c.toNat : Int) - 48)) = (n : Int) * 10 + ((c.toNat : Int) - 48) := IntWalk.i64_in _ (by omega)
   clear HStop HStep hst hf1 f2 c2
   go_wp2_with fail
   refine (P0.out n2).mono ?_
   rintro e w4 ⟨rfl, n4, hw4⟩
   rw [World.drewN_drewN] at hw4
   subst hw4
   go_wp2_with fail
   go_roundw
   case rel =>
    refine ⟨k + 1, ?_, ?_, (HRr.out.drewN _).place (k + 1) (by omega), (HBr.out.drewN _).trans (But.set _ _ _), by omega, by omega, HK'⟩
    ·rw [HMore.out hkl, List.foldl_append, HN.out]
     show Value.int .i64 _ = Value.int .i64 ((dg n c : Nat) : Int)
     unfold dg
     congr 1
     omega
    ·show Value.int .i64 _ = Value.int .i64 ((k + 1 - i : Nat) : Int)
     congr 1
     have := HM.out
     omega
   case measure =>
    have h1 := (cells_of ((HRr.out.drewN (n2 + n4)).place (k + 1) (z := (k : Int) + 1) (by omega))).1 1
    rw [h1, HC1.out]
    show s.length - (((k + 1 : Nat) : Int)).toNat < s.length - ((k : Int)).toNat
    omega
  | false =>
   have hkE := HStop.out hf1
   clear HStop HStep hf1 HK c1 f1
   subst hkE
   have hlm : tk.length = m := by have := HLen.out; have := HM.out; omega
   by_cases h0 : m = 0
   ·have HO : Hid (o = none) := Lib.hid (by rw [HV.out, if_pos (by omega)])
    have d1 : ((m : Int) == 0) = true := by rw [h0]; rfl
    clear h0 hlm HV
    go_wp2_with fail
    go_ret
    exact ⟨n, k, true, rfl, (HRr.out.drewN _).fail, (HBr.out.drewN _).trans (But.set _ _ _), hk1, hk2, hnle, Lib.hid ⟨fun _ => rfl, fun _ => Got.no HO.out⟩⟩
   ·have d1 : ((m : Int) == 0) = false := by rw [beq_eq_false_iff_ne]; omega
    by_cases h6 : 6 < m
    ·have HO : Hid (o = none) := Lib.hid (by rw [HV.out, if_pos (by omega)])
     have d2 : decide ((6 : Int) < (m : Int)) = true := decide_eq_true (by omega)
     clear h0 hlm HV h6
     go_wp2_with fail
     go_ret
     exact ⟨n, k, true, rfl, (HRr.out.drewN _).fail, (HBr.out.drewN _).trans (But.set _ _ _), hk1, hk2, hnle, Lib.hid ⟨fun _ => rfl, fun _ => Got.no HO.out⟩⟩
    ·have d2 : decide ((6 : Int) < (m : Int)) = false := decide_eq_false (by omega)
     have HO : Hid (o = some (n, s.drop k)) := Lib.hid (by
      rw [HV.out, if_neg (by omega)]
      have h1 := dg_nat tk 0 0 HAll.out (by omega) (by decide)
      rw [HT.out, h1] at HN
      rw [← HN.out]; rfl)
     clear h0 hlm HV h6
     go_wp2_with fail
     go_ret
     exact ⟨n, k, bad, rfl, HRr.out.drewN _, HBr.out.drewN _, hk1, hk2, hnle, Lib.hid ⟨fun h => h, fun h => by rw [h]; exact Got.yes HO.out⟩⟩
end F
end Go.Proofs.YtafkeolpadfjfaaGreatDoor
