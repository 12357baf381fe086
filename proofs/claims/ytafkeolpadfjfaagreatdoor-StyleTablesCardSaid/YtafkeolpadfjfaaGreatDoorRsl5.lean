/- What the functions of the reference's reader come to: nth. -/
import Derived.Test.YtafkeolpadfjfaaGreatDoorRsl4
import Derived.Test.YtafkeolpadfjfaaGreatDoorSel14
import Derived.Test.YtafkeolpadfjfaaGreatDoorSty5
import Derived.Test.YtafkeolpadfjfaaGreatDoorCaseLaw
import Derived.Deep.DeepCutAuto
set_option linter.unusedVariables false
set_option linter.unusedSimpArgs false
namespace Go.Proofs.YtafkeolpadfjfaaGreatDoor
open Go.RowKit
namespace F
open H K
theorem lowerF (l : List UInt8) (w : World) (h : l.length ≤ 1000000) :
  Calls Tryz.prog 18 #[.string ⟨l.toArray⟩] w fun e w' => e = .returned (.string ⟨(L.lower l).toArray⟩) ∧ Below w.heap.size w w' := by
 have := T.refLower ⟨l.toArray⟩ w (by rw [bytes_size]; omega)
 rw [bytes_toList] at this
 exact this
def FNth (b : Nat) (s : List UInt8) (i : Nat) (bad : Bool) (o : Option (L.Tst × List UInt8)) (w : World) (e : Ending) (w' : World) : Prop :=
 ∃ (x y : Int) (j : Nat) (bad' : Bool), e = .returned (.tuple #[.int .i64 x, .int .i64 y]) ∧ IsRdF b s j bad' w' ∧ But b w w' ∧ i ≤ j ∧ j ≤ s.length ∧ Hid ((bad = true → bad' = true) ∧ (bad = false → Got bad' o (⟨9, [], [], x, y⟩, s.drop j)))
theorem lower_take (r : List UInt8) (n : Nat) : L.lower (r.take n) = (L.lower r).take n := by unfold L.lower; rw [List.map_take]
theorem nth_odd {r : List UInt8} (h : (L.lower r).take 3 = [111, 100, 100]) : L.nth r = some (⟨9, [], [], 2, 1⟩, r.drop 3) := by
 unfold L.nth; rw [if_pos (by rw [lower_take]; exact h)]
theorem nth_even {r : List UInt8} (h3 : (L.lower r).take 3 ≠ [111, 100, 100]) (h : (L.lower r).take 4 = [101, 118, 101, 110]) : L.nth r = some (⟨9, [], [], 2, 0⟩, r.drop 4) := by
 unfold L.nth; rw [if_neg (by rw [lower_take]; exact h3), if_pos (by rw [lower_take]; exact h)]
theorem nth_else {r : List UInt8} (h3 : (L.lower r).take 3 ≠ [111, 100, 100]) (h : (L.lower r).take 4 ≠ [101, 118, 101, 110]) : L.nth r = L.nthRest r := by
 unfold L.nth; rw [if_neg (by rw [lower_take]; exact h3), if_neg (by rw [lower_take]; exact h)]
theorem sign_at {s : List UInt8} {i : Nat} : (s.getD i 0 = 45 → i + 1 ≤ s.length ∧ L.sign (s.drop i) = (-1, true, s.drop (i + 1))) ∧ (s.getD i 0 = 43 → i + 1 ≤ s.length ∧ L.sign (s.drop i) = (1, true, s.drop (i + 1))) ∧ (s.getD i 0 ≠ 45 → s.getD i 0 ≠ 43 → L.sign (s.drop i) = (1, false, s.drop i)) := by
 cases hd : s.drop i with
 | nil =>
  have h0 : s.length ≤ i := by have := congrArg List.length hd; rw [List.length_drop] at this; simp at this; omega
  rw [getD_past h0]
  exact ⟨fun h => absurd h (by decide), fun h => absurd h (by decide), fun _ _ => rfl⟩
 | cons c r =>
  have hl := lt_drop hd
  rw [getD_drop hd, drop_more hd]
  refine ⟨fun h => ⟨hl, by rw [h]; rfl⟩, fun h => ⟨hl, by rw [h]; rfl⟩, fun h1 h2 => ?_⟩
  unfold L.sign
  split
  ·rename_i x hh; exact absurd (List.cons.inj hh).1 h2
  ·rename_i x hh; exact absurd (List.cons.inj hh).1 h1
  ·rfl
set_option maxHeartbeats 8000000 in
set_option maxRecDepth 100000 in
theorem nth (b : Nat) (s : List UInt8) (i : Nat) (bad : Bool) (w : World) (hs : s.length ≤ 1000000) (hi : i ≤ s.length) (hR : IsRdF b s i bad w) :
  Calls Tryz.prog 201 #[.pointer (some ⟨b, 0, none⟩)] w (FNth b s i bad (L.nth (s.drop i)) w) := by
 have HR := Lib.hid hR
 have hlb := lt_of_block hR
 obtain ⟨hc, hf⟩ := cells_of hR
 have c0 : w.cell? ⟨b, 0, none⟩ = some (.string ⟨s.toArray⟩) := hc 0
 have c1 : w.cell? ⟨b, 1, none⟩ = some (.int .i64 i) := hc 1
 have D0 := fun d : Later w.heap.size w => Later.cell c0 hlb d
 have D1 := fun d : Later w.heap.size w => Later.cell c1 hlb d
 have hx := slice_str s i s.length hi (Nat.le_refl _)
 rw [List.take_of_length_le (by rw [List.length_drop]; omega)] at hx
 have zs := bytes_size s
 have hi0 : (0 : Int) ≤ (i : Int) := by omega
 have hi1 : (i : Int) ≤ (s.length : Int) := by omega
 have QL := Lib.hid (fun X => lowerF (s.drop i) X (by rw [List.length_drop]; omega))
 have HOdd := Lib.hid (fun h => nth_odd (r := s.drop i) h)
 have HEven := Lib.hid (fun h3 h => nth_even (r := s.drop i) h3 h)
 have HElse := Lib.hid (fun h3 h => nth_else (r := s.drop i) h3 h)
 have hRl : (L.lower (s.drop i)).length = s.length - i := by rw [lower_length, List.length_drop]
 generalize L.lower (s.drop i) = R at *
 clear hR hc hf
 go_enter Tryz.func201, Tryz.ntmps201
 go_wp2_with fail
 refine wp_region_later (by kernel_rfl) (by kernel_rfl) ?_
 repeat (go_big_quiet_step ((go_at_call 18; exact Calls.later (QL.out _))))
 refine wpQuiet_nil ?_
 intro _ hw'
 obtain ⟨dq, hw''⟩ := hw'
 subst hw''
 have HR1 := Lib.hid (HR.out.below dq.h)
 have HB1 : Hid (But b w dq.w) := Lib.hid (But.of dq.h)
 clear D0 D1 c0 c1 hx zs QL HR hlb
 generalize dq.w = W1 at *
 obtain ⟨hc, hf⟩ := cells_of HR1.out
 have c1 : W1.cell? ⟨b, 1, none⟩ = some (.int .i64 i) := hc 1
 have f1 : W1.frozen? ⟨b, 1, none⟩ = false := hf 1 (by show 1 < 3; omega)
 have hlb1 := lt_of_block HR1.out
 clear hc hf
 have zR := bytes_size R
 have hs3 : 3 ≤ R.length → (⟨R.toArray⟩ : ByteArray).extract 0 3 = ⟨(R.take 3).toArray⟩ := fun h => by have := slice_str R 0 3 (by omega) h; simpa using this
 have hs4 : 4 ≤ R.length → (⟨R.toArray⟩ : ByteArray).extract 0 4 = ⟨(R.take 4).toArray⟩ := fun h => by have := slice_str R 0 4 (by omega) h; simpa using this
 have ht3 : (R.take 3).length = min 3 R.length := List.length_take
 have ht4 : (R.take 4).length = min 4 R.length := List.length_take
 generalize R.take 3 = T3 at *
 generalize R.take 4 = T4 at *
 have HW1 : Hid (W1 = W1) := Lib.hid rfl
 go_upto_region 2 with fail
 go_cut [29] (fun s29 wx => s29 = .bool (T3 == [111, 100, 100]) ∧ wx = W1)
 case first =>
  clear c1 f1
  rcases Nat.lt_or_ge R.length 3 with h | h
  ·have d3 : decide ((3 : Int) ≤ (R.length : Int)) = false := decide_eq_false (by omega)
   have hl3a : ¬ (3 : Int) ≤ (R.length : Int) := of_decide_eq_false d3
   have hl3b : (R.length : Int) < 3 := by omega
   have e3 : (T3 == [111, 100, 100]) = false := by
    rw [beq_eq_false_iff_ne]; intro hh; rw [hh] at ht3; simp at ht3; omega
   have E3 := Lib.hid e3
   clear hs3 hs4 ht3 ht4 e3
   go_wp2_with fail
   go_meet
   exact ⟨by rw [E3.out], rfl⟩
  ·have d3 : decide ((3 : Int) ≤ (R.length : Int)) = true := decide_eq_true (by omega)
   have hl3' : (3 : Int) ≤ (R.length : Int) := by omega
   have x3 := hs3 h
   have HT3 : Hid (R.take 0 = R.take 0) := Lib.hid rfl
   clear hs3 hs4 ht3 ht4 h
   go_wp2_with fail
   all_goals
    go_meet
    first | exact ⟨rfl, rfl⟩ | exact ⟨by simp_all, rfl⟩
 case rest =>
  obtain ⟨rfl, rfl⟩ := hcut
  by_cases h3 : T3 = [111, 100, 100]
  ·have e3 : (T3 == [111, 100, 100]) = true := by simpa using h3
   have hl3 : 3 ≤ R.length := by rw [h3] at ht3; simp at ht3; omega
   have HO := Lib.hid (HOdd.out h3)
   rw [e3]
   clear hs3 hs4 HOdd HEven HElse h3 ht3 ht4 e3
   go_wp2_with fail
   refine bodyPost_ret (v := .tuple #[.int .i64 2, .int .i64 1]) (by simp [results, Tryz.results201, go_sem]) rfl ⟨2, 1, i + 3, bad, rfl, HR1.out.place (i + 3) (by omega), HB1.out.trans (But.set _ _ _), by omega, by omega, Lib.hid ⟨fun h => h, fun h => by rw [h]; refine Got.yes ?_; rw [HO.out, List.drop_drop]⟩⟩
  ·have e3 : (T3 == [111, 100, 100]) = false := by simpa using h3
   rw [e3]
   clear hs3 ht3 e3 HOdd
   go_upto_region 5 with fail
   go_cut [44] (fun s44 wx => s44 = .bool (T4 == [101, 118, 101, 110]) ∧ wx = wc)
   case first =>
    clear c1 f1 h3
    rcases Nat.lt_or_ge R.length 4 with h | h
    ·have d3 : decide ((4 : Int) ≤ (R.length : Int)) = false := decide_eq_false (by omega)
     have hl3a : ¬ (4 : Int) ≤ (R.length : Int) := of_decide_eq_false d3
     have hl3b : (R.length : Int) < 4 := by omega
     have e4 : (T4 == [101, 118, 101, 110]) = false := by
      rw [beq_eq_false_iff_ne]; intro hh; rw [hh] at ht4; simp at ht4; omega
     have E4 := Lib.hid e4
     clear hs4 ht4 e4
     go_wp2_with fail
     go_meet
     exact ⟨by rw [E4.out], rfl⟩
    ·have d3 : decide ((4 : Int) ≤ (R.length : Int)) = true := decide_eq_true (by omega)
     have hl3' : (4 : Int) ≤ (R.length : Int) := by omega
     have x3 := hs4 h
     clear hs4 ht4 h
     go_wp2_with fail
     all_goals
      go_meet
      first | exact ⟨rfl, rfl⟩ | exact ⟨by simp_all, rfl⟩
   case rest =>
    obtain ⟨rfl, hwc⟩ := hcut
    subst hwc
    by_cases h4 : T4 = [101, 118, 101, 110]
    ·have e4 : (T4 == [101, 118, 101, 110]) = true := by simpa using h4
     have hl4 : 4 ≤ R.length := by rw [h4] at ht4; simp at ht4; omega
     have HO := Lib.hid (HEven.out h3 h4)
     rw [e4]
     clear hs4 HEven HElse h4 ht4 e4 h3
     go_wp2_with fail
     refine bodyPost_ret (v := .tuple #[.int .i64 2, .int .i64 0]) (by simp [results, Tryz.results201, go_sem]) rfl ⟨2, 0, i + 4, bad, rfl, HR1.out.place (i + 4) (by omega), HB1.out.trans (But.set _ _ _), by omega, by omega, Lib.hid ⟨fun h => h, fun h => by rw [h]; refine Got.yes ?_; rw [HO.out, List.drop_drop]⟩⟩
    ·have e4 : (T4 == [101, 118, 101, 110]) = false := by simpa using h4
     have HO := Lib.hid (HElse.out h3 h4)
     rw [e4]
     clear hs4 HEven HElse h4 ht4 e4 h3
     have P1 := Lib.hid (fun n => peek0 b s i bad (wc.drewN n) hs hi (HR1.out.drewN n))
     have P10 := Lib.hid (peek0 b s i bad wc hs hi HR1.out)
     have HSg := Lib.hid (sign_at (s := s) (i := i))
     generalize s.getD i 0 = sc at *
     have hsc : (sc = 45) ∨ (sc ≠ 45 ∧ sc = 43) ∨ (sc ≠ 45 ∧ sc ≠ 43) := by
      by_cases h1 : sc = 45
      ·exact Or.inl h1
      ·by_cases h2 : sc = 43
       ·exact Or.inr (Or.inl ⟨h1, h2⟩)
       ·exact Or.inr (Or.inr ⟨h1, h2⟩)
     rcases hsc with h45 | ⟨h45, h43⟩ | ⟨h45, h43⟩
     case' inl =>
      have x1 : ((sc.toNat : Int) == 45) = true := byte_is (n := 45) h45 (by decide)
      obtain ⟨hj1, hsg⟩ := HSg.out.1 h45
      have HSign : Hid (L.sign (s.drop i) = (-1, true, s.drop (i + 1))) := Lib.hid hsg
      clear hsg h45 HSg
      go_wp2_with fail
      refine (P10.out).mono ?_
      rintro e w2 ⟨rfl, n2, rfl⟩
      go_wp2_with fail
      refine (P1.out _).mono ?_
      rintro e w3 ⟨rfl, n3, hw3⟩
      rw [World.drewN_drewN] at hw3
      subst hw3
      go_upto_region 13 with fail
      have HRg : Hid (IsRdF b s (i + 1) bad ((wc.drewN (n2 + n3)).setCell ⟨b, 1, none⟩ (.int .i64 ((i : Int) + 1)))) := Lib.hid ((HR1.out.drewN _).place (i + 1) (by omega))
      have HBg : Hid (But b w ((wc.drewN (n2 + n3)).setCell ⟨b, 1, none⟩ (.int .i64 ((i : Int) + 1)))) := Lib.hid ((HB1.out.drewN _).trans (But.set _ _ _))
      obtain ⟨j1, hj1e⟩ : ∃ j1, j1 = i + 1 := ⟨_, rfl⟩
      rw [← hj1e] at HSign HRg hj1
      generalize ((wc.drewN (n2 + n3)).setCell ⟨b, 1, none⟩ (.int .i64 ((i : Int) + 1))) = W2 at *
      have hij1 : i ≤ j1 := by omega
      obtain ⟨g, hg⟩ : ∃ g : Int, g = -1 := ⟨_, rfl⟩
      obtain ⟨ok, hok⟩ : ∃ ok : Bool, ok = true := ⟨_, rfl⟩
     case' inr.inl =>
      have x1 : ((sc.toNat : Int) == 45) = false := byte_ne (n := 45) h45 (by decide)
      have x2 : ((sc.toNat : Int) == 43) = true := byte_is (n := 43) h43 (by decide)
      obtain ⟨hj1, hsg⟩ := HSg.out.2.1 h43
      have HSign : Hid (L.sign (s.drop i) = (1, true, s.drop (i + 1))) := Lib.hid hsg
      clear hsg h45 h43 HSg
      go_wp2_with fail
      refine (P10.out).mono ?_
      rintro e w2 ⟨rfl, n2, rfl⟩
      go_wp2_with fail
      refine (P1.out _).mono ?_
      rintro e w3 ⟨rfl, n3, hw3⟩
      rw [World.drewN_drewN] at hw3
      subst hw3
      go_wp2_with fail
      refine (P1.out _).mono ?_
      rintro e w4 ⟨rfl, n4, hw4⟩
      rw [World.drewN_drewN] at hw4
      subst hw4
      go_upto_region 13 with fail
      have HRg : Hid (IsRdF b s (i + 1) bad ((wc.drewN (n2 + n3 + n4)).setCell ⟨b, 1, none⟩ (.int .i64 ((i : Int) + 1)))) := Lib.hid ((HR1.out.drewN _).place (i + 1) (by omega))
      have HBg : Hid (But b w ((wc.drewN (n2 + n3 + n4)).setCell ⟨b, 1, none⟩ (.int .i64 ((i : Int) + 1)))) := Lib.hid ((HB1.out.drewN _).trans (But.set _ _ _))
      obtain ⟨j1, hj1e⟩ : ∃ j1, j1 = i + 1 := ⟨_, rfl⟩
      rw [← hj1e] at HSign HRg hj1
      generalize ((wc.drewN (n2 + n3 + n4)).setCell ⟨b, 1, none⟩ (.int .i64 ((i : Int) + 1))) = W2 at *
      have hij1 : i ≤ j1 := by omega
      obtain ⟨g, hg⟩ : ∃ g : Int, g = 1 := ⟨_, rfl⟩
      obtain ⟨ok, hok⟩ : ∃ ok : Bool, ok = true := ⟨_, rfl⟩
     case' inr.inr =>
      have x1 : ((sc.toNat : Int) == 45) = false := byte_ne (n := 45) h45 (by decide)
      have x2 : ((sc.toNat : Int) == 43) = false := byte_ne (n := 43) h43 (by decide)
      have HSign : Hid (L.sign (s.drop i) = (1, false, s.drop i)) := Lib.hid (HSg.out.2.2 h45 h43)
      clear h45 h43 HSg
      go_wp2_with fail
      refine (P10.out).mono ?_
      rintro e w2 ⟨rfl, n2, rfl⟩
      go_wp2_with fail
      refine (P1.out _).mono ?_
      rintro e w3 ⟨rfl, n3, hw3⟩
      rw [World.drewN_drewN] at hw3
      subst hw3
      go_wp2_with fail
      refine (P1.out _).mono ?_
      rintro e w4 ⟨rfl, n4, hw4⟩
      rw [World.drewN_drewN] at hw4
      subst hw4
      go_upto_region 13 with fail
      have HRg : Hid (IsRdF b s i bad (wc.drewN (n2 + n3 + n4))) := Lib.hid (HR1.out.drewN _)
      have HBg : Hid (But b w (wc.drewN (n2 + n3 + n4))) := Lib.hid (HB1.out.drewN _)
      obtain ⟨j1, hj1e⟩ : ∃ j1, j1 = i := ⟨_, rfl⟩
      have hj1 : j1 ≤ s.length := by omega
      have HSign2 : Hid (L.sign (s.drop i) = (1, false, s.drop j1)) := Lib.hid (by rw [hj1e]; exact HSign.out)
      have HRg2 : Hid (IsRdF b s j1 bad (wc.drewN (n2 + n3 + n4))) := Lib.hid (by rw [hj1e]; exact HRg.out)
      clear HSign HRg
      have HSign := HSign2
      have HRg := HRg2
      clear HSign2 HRg2
      generalize (wc.drewN (n2 + n3 + n4)) = W2 at *
      have hij1 : i ≤ j1 := by omega
      obtain ⟨g, hg⟩ : ∃ g : Int, g = 1 := ⟨_, rfl⟩
      obtain ⟨ok, hok⟩ : ∃ ok : Bool, ok = false := ⟨_, rfl⟩
     all_goals
      rw [← hg, ← hok] at HSign
      have hgg : g = 1 ∨ g = -1 := by omega
      have HGe := Lib.hid hg
      clear hok x1 P1 P10 HR1 HB1 c1 f1 hlb1 zR hRl hj1e hg
      go_cut [5, 6] (fun s5 s6 wx => s5 = .int .i64 g ∧ s6 = .int .i64 1 ∧ wx = W2)
      case first =>
       go_wp2_with fail
       go_meet
       exact ⟨by rw [HGe.out], rfl, rfl⟩
      obtain ⟨rfl, rfl, hwc2⟩ := hcut
      subst hwc2
      have PJ := Lib.hid (peek0 b s j1 bad _ hs hj1 HRg.out)
      have HCo := Lib.hid (fun h => coef_no (s := s) (j := j1) h)
      have HCy := Lib.hid (fun h => coef_yes (s := s) (j := j1) h)
      generalize s.getD j1 0 = c2 at *
      have QD := Lib.hid (fun W => digit c2 W)
      go_wp2_with fail
      refine (PJ.out).mono ?_
      rintro e w5 ⟨rfl, n5, hw5⟩
      have HR5 : Hid (IsRdF b s j1 bad w5) := Lib.hid (by rw [hw5]; exact HRg.out.drewN _)
      have HB5 : Hid (But b w w5) := Lib.hid (by rw [hw5]; exact HBg.out.drewN _)
      clear hw5 PJ HRg HBg
      go_wp2_with fail
      refine (QD.out _).mono ?_
      rintro e w6 ⟨rfl, rfl⟩
      clear QD
      obtain ⟨had, hhad⟩ : ∃ q : Bool, q = L.isDig c2 := ⟨_, rfl⟩
      rw [← hhad]
      have HHad := Lib.hid hhad
      clear hhad
      go_upto_if 73 with fail
      go_cut [6] (fun s6 wx => ∃ (n j2 : Nat) (bad2 : Bool), s6 = .int .i64 n ∧ IsRdF b s j2 bad2 wx ∧ But b w wx ∧ i ≤ j2 ∧ j2 ≤ s.length ∧ n ≤ 10000000 ∧ Hid ((bad = true → bad2 = true) ∧ (bad = false → (bad2 = true ∧ L.coef (s.drop j1) = none) ∨ (bad2 = false ∧ L.coef (s.drop j1) = some (n, had, s.drop j2)))))
      case first =>
       cases had with
       | true =>
        have HCc := Lib.hid (HCy.out HHad.out.symm)
        clear HCo HCy HHad
        go_wp2_with fail
        refine (digits b s j1 bad _ hs hj1 HR5.out).mono ?_
        rintro e w7 ⟨n, j2, bad2, rfl, hr7, hb7, hj2, hjl2, hn, HN⟩
        have HR7 := Lib.hid hr7
        have HB7 := Lib.hid (HB5.out.trans hb7)
        clear hr7 hb7
        go_wp2_with fail
        go_meet
        refine ⟨n, j2, bad2, rfl, HR7.out, HB7.out, by omega, hjl2, hn, Lib.hid ⟨HN.out.1, fun h => ?_⟩⟩
        rw [HCc.out]
        rcases HN.out.2 h with ⟨rfl, h2⟩ | ⟨rfl, h2⟩
        ·exact Or.inl ⟨rfl, by rw [h2]⟩
        ·exact Or.inr ⟨rfl, by rw [h2]⟩
       | false =>
        have HCc := Lib.hid (HCo.out HHad.out.symm)
        clear HCo HCy HHad
        go_wp2_with fail
        go_meet
        exact ⟨1, j1, bad, rfl, HR5.out, HB5.out, hij1, hj1, by omega, Lib.hid ⟨fun h => h, fun h => Or.inr ⟨h, HCc.out⟩⟩⟩
      case rest =>
       obtain ⟨n, j2, bad2, rfl, hr8, hb8, hj2, hjl2, hn, HCf⟩ := hcut
       have HR8 := Lib.hid hr8
       have HB8 := Lib.hid hb8
       clear hr8 hb8 HR5 HB5 HCo HCy HHad
       have g5 : IntKind.i64.wrap (g * (n : Int)) = g * (n : Int) := IntWalk.i64_in _ (by rcases hgg with h | h <;> rw [h] <;> omega)
       -- what the rest comes to
       have HRest : Hid (bad = false → bad2 = false → L.nthRest (s.drop i) = L.nthTail g n had (s.drop j2)) := Lib.hid (fun h1 h2 => by
        rcases HCf.out.2 h1 with ⟨h, _⟩ | ⟨_, h⟩
        ·rw [h2] at h; cases h
        ·exact rest_some HSign.out h)
       have HNone : Hid (bad = false → bad2 = true → L.nthRest (s.drop i) = none) := Lib.hid (fun h1 h2 => by
        rcases HCf.out.2 h1 with ⟨_, h⟩ | ⟨h, _⟩
        ·exact rest_none HSign.out h
        ·rw [h2] at h; cases h)
       have HBd : Hid (bad = true → bad2 = true) := Lib.hid HCf.out.1
       clear HCf HSign
       have HTn := Lib.hid (fun h => tail_n (s := s) (j := j2) (g := g) (n := n) (sm := had) h)
       have HTo := Lib.hid (fun h => tail_o (s := s) (j := j2) (g := g) (n := n) (sm := had) h)
       have PK0 := Lib.hid (peek0 b s j2 bad2 wc hs hjl2 HR8.out)
       have PK := Lib.hid (fun k => peek0 b s j2 bad2 (wc.drewN k) hs hjl2 (HR8.out.drewN k))
       generalize s.getD j2 0 = c3 at *
       go_upto_region 17 with fail
       go_cut [83] (fun s83 wx => s83 = .bool (!L.isN c3) ∧ ∃ k, wx = wc.drewN k)
       case first =>
        by_cases hA : c3 = 110
        ·have HQ2 : Hid ((!L.isN c3) = false) := Lib.hid (by rw [hA]; rfl)
         have x1 : ((c3.toNat : Int) == 110) = true := byte_is (n := 110) hA (by decide)
         have x2 : ((c3.toNat : Int) != 110) = false := by simp [bne, x1]
         clear hA
         go_wp2_with fail
         refine (PK0.out).mono ?_
         rintro e w9 ⟨rfl, k9, rfl⟩
         go_wp2_with fail
         go_meet
         exact ⟨by rw [HQ2.out], _, rfl⟩
        ·have x1 : ((c3.toNat : Int) == 110) = false := byte_ne (n := 110) hA (by decide)
         have x2 : ((c3.toNat : Int) != 110) = true := by simp [bne, x1]
         have hq : (!L.isN c3) = (!(c3 == 78)) := by unfold L.isN; rw [show (c3 == 110) = false by simpa using hA]; rfl
         have HQ := Lib.hid hq
         clear hq
         go_wp2_with fail
         refine (PK0.out).mono ?_
         rintro e w9 ⟨rfl, k9, rfl⟩
         go_wp2_with fail
         refine (PK.out _).mono ?_
         rintro e w10 ⟨rfl, k10, hw10⟩
         rw [World.drewN_drewN] at hw10
         subst hw10
         by_cases hB : c3 = 78
         ·have y1 : ((c3.toNat : Int) == 78) = true := byte_is (n := 78) hB (by decide)
          have y2 : ((c3.toNat : Int) != 78) = false := by simp [bne, y1]
          have HQ2 : Hid ((!L.isN c3) = false) := Lib.hid (by rw [HQ.out, hB]; rfl)
          clear hB hA HQ
          go_wp2_with fail
          go_meet
          exact ⟨by rw [HQ2.out], _, rfl⟩
         ·have y1 : ((c3.toNat : Int) == 78) = false := byte_ne (n := 78) hB (by decide)
          have y2 : ((c3.toNat : Int) != 78) = true := by simp [bne, y1]
          have HQ2 : Hid ((!L.isN c3) = true) := Lib.hid (by rw [HQ.out, show (c3 == 78) = false by simpa using hB]; rfl)
          clear hB hA HQ
          go_wp2_with fail
          go_meet
          exact ⟨by rw [HQ2.out], _, rfl⟩
       case rest =>
        obtain ⟨rfl, k9, hwc⟩ := hcut
        rename_i wold
        have HR9 : Hid (IsRdF b s j2 bad2 wc) := Lib.hid (by rw [hwc]; exact HR8.out.drewN _)
        have HB9 : Hid (But b w wc) := Lib.hid (by rw [hwc]; exact HB8.out.drewN _)
        clear hwc PK PK0 HR8 HB8
        cases hN : L.isN c3 with
        | false =>
         have HT0 := Lib.hid (HTo.out hN)
         clear HTn HTo hN
         cases had with
         | true =>
          have HG : Hid (bad = false → Got bad2 (L.nth (s.drop i)) ((⟨9, [], [], 0, g * (n : Int)⟩ : L.Tst), s.drop j2)) := Lib.hid (fun h => by
           rw [HO.out]
           cases bad2 with
           | true => exact Got.no (HNone.out h rfl)
           | false => rw [HRest.out h rfl, HT0.out]; exact Got.yes rfl)
          clear HT0 HRest HNone
          go_wp2_with fail
          refine bodyPost_ret (v := .tuple #[.int .i64 0, .int .i64 (g * (n : Int))]) (by simp [results, Tryz.results201, go_sem]) rfl ⟨0, g * (n : Int), j2, bad2, rfl, HR9.out, HB9.out, hj2, hjl2, Lib.hid ⟨HBd.out, HG.out⟩⟩
         | false =>
          have HG : Hid (bad = false → Got true (L.nth (s.drop i)) ((⟨9, [], [], 0, g * (n : Int)⟩ : L.Tst), s.drop j2)) := Lib.hid (fun h => by
           rw [HO.out]
           cases bad2 with
           | true => exact Got.no (HNone.out h rfl)
           | false => rw [HRest.out h rfl, HT0.out]; exact Got.no rfl)
          obtain ⟨hc9, hf9⟩ := cells_of HR9.out
          have hlb9 := lt_of_block HR9.out
          clear HT0 HRest HNone
          go_wp2_with fail
          refine bodyPost_ret (v := .tuple #[.int .i64 0, .int .i64 (g * (n : Int))]) (by simp [results, Tryz.results201, go_sem]) rfl ⟨0, g * (n : Int), j2, true, rfl, HR9.out.fail, HB9.out.trans (But.set _ _ _), hj2, hjl2, Lib.hid ⟨fun _ => rfl, HG.out⟩⟩
        | true =>
         obtain ⟨hjn, htl⟩ := HTn.out hN
         have HTl := Lib.hid htl
         obtain ⟨hc9, hf9⟩ := cells_of HR9.out
         have hlb9 := lt_of_block HR9.out
         have HRi : Hid (IsRdF b s (j2 + 1) bad2 (wc.setCell ⟨b, 1, none⟩ (.int .i64 ((j2 : Int) + 1)))) := Lib.hid (HR9.out.place (j2 + 1) (by omega))
         have HBi : Hid (But b w (wc.setCell ⟨b, 1, none⟩ (.int .i64 ((j2 : Int) + 1)))) := Lib.hid (HB9.out.trans (But.set _ _ _))
         clear HTn HTo hN htl
         go_wp2_with fail
         refine (space_any b s (j2 + 1) bad2 _ hs hjn HRi.out).mono ?_
         rintro e wa ⟨j3, rfl, hra, hba, hj3, hjl3, HJ3⟩
         have HRa := Lib.hid hra
         have HBa := Lib.hid (HBi.out.trans hba)
         clear hra hba hc9 hf9 HR9 HB9 HRi HBi hlb9
         have PK3 := Lib.hid (peek0 b s j3 bad2 wa hs hjl3 HRa.out)
         have HSg3 := Lib.hid (sign_at (s := s) (i := j3))
         generalize s.getD j3 0 = c4 at *
         go_wp2_with fail
         refine (PK3.out).mono ?_
         rintro e wb ⟨rfl, kb, hwb⟩
         have HRb : Hid (IsRdF b s j3 bad2 wb) := Lib.hid (by rw [hwb]; exact HRa.out.drewN _)
         have HBb : Hid (But b w wb) := Lib.hid (by rw [hwb]; exact HBa.out.drewN _)
         obtain ⟨hcb, hfb⟩ := cells_of HRb.out
         have hlbb := lt_of_block HRb.out
         clear hwb PK3 HRa HBa
         by_cases hpm : c4 = 45 ∨ c4 = 43
         ·have hsg3 : ∃ g', (g' = 1 ∨ g' = -1) ∧ j3 + 1 ≤ s.length ∧ L.sign (s.drop j3) = (g', true, s.drop (j3 + 1)) ∧ (g' = -1 ↔ c4 = 45) := by
           rcases hpm with h | h
           ·obtain ⟨h1, h2⟩ := HSg3.out.1 h
            exact ⟨-1, Or.inr rfl, h1, h2, ⟨fun _ => h, fun _ => rfl⟩⟩
           ·obtain ⟨h1, h2⟩ := HSg3.out.2.1 h
            exact ⟨1, Or.inl rfl, h1, h2, ⟨fun h' => (by omega), fun h' => (by rw [h] at h'; exact absurd h' (by decide))⟩⟩
          obtain ⟨g', hg', hj3l, hsg, hgi⟩ := hsg3
          have HS3 := Lib.hid hsg
          have HRc : Hid (IsRdF b s (j3 + 1) bad2 (wb.setCell ⟨b, 1, none⟩ (.int .i64 ((j3 : Int) + 1)))) := Lib.hid (HRb.out.place (j3 + 1) (by omega))
          have HBc : Hid (But b w (wb.setCell ⟨b, 1, none⟩ (.int .i64 ((j3 : Int) + 1)))) := Lib.hid (HBb.out.trans (But.set _ _ _))
          have QSp := Lib.hid (space_any b s (j3 + 1) bad2 _ hs hj3l HRc.out)
          have HFin : Hid (∀ (m j5 : Nat) (bad5 : Bool) (j4 : Nat), s.drop j4 = L.space (s.drop (j3 + 1)) → ((bad2 = true → bad5 = true) ∧ (bad2 = false → Got bad5 (L.number (s.drop j4)) (m, s.drop j5))) → (bad = true → bad5 = true) ∧ (bad = false → Got bad5 (L.nth (s.drop i)) ((⟨9, [], [], g * (n : Int), g' * (m : Int)⟩ : L.Tst), s.drop j5))) := Lib.hid (fun m j5 bad5 j4 h4 hd => by
           refine ⟨fun h => hd.1 (HBd.out h), fun h => ?_⟩
           rw [HO.out]
           cases bad2 with
           | true => rw [hd.1 rfl]; exact Got.no (HNone.out h rfl)
           | false =>
            rw [HRest.out h rfl, HTl.out, offset_yes HJ3.out.symm HS3.out h4.symm]
            rcases hd.2 rfl with ⟨rfl, h3⟩ | ⟨rfl, h3⟩
            ·rw [h3]; exact Got.no rfl
            ·rw [h3]; exact Got.yes rfl)
          rcases hpm with h45 | h43
          case' inl =>
           have y1 : ((c4.toNat : Int) == 45) = true := byte_is (n := 45) h45 (by decide)
           have y2 : ((c4.toNat : Int) != 45) = false := by simp [bne, y1]
           have y3 : ((c4.toNat : Int) == 43) = false := byte_ne (n := 43) (by rw [h45]; decide) (by decide)
           have y4 : ((c4.toNat : Int) != 43) = true := by simp [bne, y3]
           have HGv : Hid (g' = -1) := Lib.hid (hgi.2 h45)
           clear h45
          case' inr =>
           have y1 : ((c4.toNat : Int) == 45) = false := byte_ne (n := 45) (by rw [h43]; decide) (by decide)
           have y3 : ((c4.toNat : Int) == 43) = true := byte_is (n := 43) h43 (by decide)
           have y4 : ((c4.toNat : Int) != 43) = false := by simp [bne, y3]
           have HGv : Hid (g' = 1) := Lib.hid (hg'.resolve_right (fun h => by have := hgi.1 h; rw [h43] at this; exact absurd this (by decide)))
           clear h43
          all_goals
           clear hg' hsg hgi HSg3 HS3 HRest HNone HTl HJ3
           go_wp2_with fail
           refine (QSp.out).mono ?_
           rintro e wd ⟨j4, rfl, hrd, hbd, hj4, hjl4, HJ4⟩
           have HRd := Lib.hid hrd
           have HBdd := Lib.hid (HBc.out.trans hbd)
           clear hrd hbd hcb hfb hlbb QSp HRc HBc HRb HBb
           go_wp2_with fail
           refine (digits b s j4 bad2 _ hs hjl4 HRd.out).mono ?_
           rintro e we ⟨m, j5, bad5, rfl, hre, hbe, hj5, hjl5, hm, HM⟩
           have HRe := Lib.hid hre
           have HBe := Lib.hid (HBdd.out.trans hbe)
           have HF := Lib.hid (HFin.out m j5 bad5 j4 HJ4.out HM.out)
           have g6 : IntKind.i64.wrap (-(m : Int)) = -(m : Int) := IntWalk.i64_in _ (by omega)
           clear hre hbe HFin HM HJ4 HRd HBdd
           rw [HGv.out] at HF
           go_wp2_with fail
           first
            | (rw [show (-1 : Int) * (m : Int) = -(m : Int) by omega] at HF
               refine bodyPost_ret (v := .tuple #[.int .i64 (g * (n : Int)), .int .i64 (-(m : Int))]) (by simp [results, Tryz.results201, go_sem]) rfl ⟨g * (n : Int), -(m : Int), j5, bad5, rfl, HRe.out, HBe.out, by omega, hjl5, HF⟩)
            | (rw [show (1 : Int) * (m : Int) = (m : Int) by omega] at HF
               refine bodyPost_ret (v := .tuple #[.int .i64 (g * (n : Int)), .int .i64 (m : Int)]) (by simp [results, Tryz.results201, go_sem]) rfl ⟨g * (n : Int), (m : Int), j5, bad5, rfl, HRe.out, HBe.out, by omega, hjl5, HF⟩)
         ·have h45 : c4 ≠ 45 := fun h => hpm (Or.inl h)
          have h43 : c4 ≠ 43 := fun h => hpm (Or.inr h)
          have HS3 := Lib.hid (HSg3.out.2.2 h45 h43)
          have y1 : ((c4.toNat : Int) == 45) = false := byte_ne (n := 45) h45 (by decide)
          have y2 : ((c4.toNat : Int) != 45) = true := by simp [bne, y1]
          have y3 : ((c4.toNat : Int) == 43) = false := byte_ne (n := 43) h43 (by decide)
          have y4 : ((c4.toNat : Int) != 43) = true := by simp [bne, y3]
          have HG : Hid (bad = false → Got bad2 (L.nth (s.drop i)) ((⟨9, [], [], g * (n : Int), 0⟩ : L.Tst), s.drop (j2 + 1))) := Lib.hid (fun h => by
           rw [HO.out]
           cases bad2 with
           | true => exact Got.no (HNone.out h rfl)
           | false =>
            rw [HRest.out h rfl, HTl.out, offset_no HJ3.out.symm HS3.out]
            exact Got.yes rfl)
          clear hpm h45 h43 HS3 HSg3 HRest HNone HTl HJ3
          go_wp2_with fail
          refine bodyPost_ret (v := .tuple #[.int .i64 (g * (n : Int)), .int .i64 0]) (by simp [results, Tryz.results201, go_sem]) rfl ⟨g * (n : Int), 0, j2 + 1, bad2, rfl, HRb.out.place (j2 + 1) (by omega), HBb.out.trans (But.set _ _ _), by omega, hjn, Lib.hid ⟨HBd.out, HG.out⟩⟩
end F
end Go.Proofs.YtafkeolpadfjfaaGreatDoor
