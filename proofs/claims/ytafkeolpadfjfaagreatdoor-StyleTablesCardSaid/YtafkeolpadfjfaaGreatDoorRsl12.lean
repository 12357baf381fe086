/- What the functions of the reference's reader come to: pseudo (printed by genrpse.py). What the functions of the reference come to: Parse. -/
import Derived.Test.YtafkeolpadfjfaaGreatDoorRsl8
import Derived.Test.YtafkeolpadfjfaaGreatDoorRsl11
import Derived.Test.YtafkeolpadfjfaaGreatDoorSel19
set_option linter.unusedVariables false
set_option linter.unusedSimpArgs false
namespace Go.Proofs.YtafkeolpadfjfaaGreatDoor
open Go.RowKit
namespace F
open H K
set_option maxHeartbeats 16000000 in
set_option maxRecDepth 100000 in
theorem pseudo (b : Nat) (s : List UInt8) (i : Nat) (inner bad : Bool) (w : World) (hs : s.length ≤ 1000000) (hi : i ≤ s.length) (hR : IsRdF b s i bad w)
  (h2 : inner = false → ∀ i bad w, i ≤ s.length → IsRdF b s i bad w → Calls Tryz.prog 131 #[.pointer (some ⟨b, 0, none⟩), .bool true] w (FPart b s i true bad (L.part none (s.drop i)) w)) :
  Calls Tryz.prog 171 #[.pointer (some ⟨b, 0, none⟩), .bool inner] w (FTest b s i inner bad (L.pseudo (npOf inner) (s.drop i)) w) := by
 have HR := Lib.hid hR
 have H2 := Lib.hid h2
 have hlb := lt_of_block hR
 clear hR h2
 go_enter Tryz.func171, Tryz.ntmps171
 go_wp2_with fail
 have st0 := FdSt.new HR.out tzero 150
 refine (ident b s i bad _ hs hi st0.rdr).mono ?_
 rintro e w1 ⟨t, j1, bad1, rfl, hr1, hb1, g1, g1', htl, HN⟩
 have ST1 := Lib.hid (st0.step hr1 hb1)
 clear st0 hr1 hb1 HR
 go_wp2_with fail
 refine (lowerF t _ (by omega)).mono ?_
 rintro e w2 ⟨rfl, b2⟩
 have ST2 := Lib.hid (ST1.out.below b2)
 obtain ⟨nm, hnm⟩ : ∃ nm, L.lower t = nm := ⟨_, rfl⟩
 have HNM := Lib.hid hnm
 rw [hnm]
 clear b2 ST1 hnm
 generalize hRR : w.heap.size = R at *
 have hbR : b ≠ R := by omega
 have hRb : R ≠ b := by omega
 have hRX : R < w2.heap.size := ST2.out.res.lt
 have hbX : b < w2.heap.size := by omega
 have n1 : b ≠ w2.heap.size := by omega
 have n2 : w2.heap.size ≠ b := by omega
 have n3 : R ≠ w2.heap.size := by omega
 have n4 : w2.heap.size ≠ R := by omega
 have HWd : Hid (∀ k, k < 6 → (∀ m, m < k → pname m ≠ nm) → pname k = nm → (bad = true → bad1 = true) ∧ (bad = false → Got bad1 (L.pseudo (npOf inner) (s.drop i)) ((⟨⟨pkind k, [], [], 0, 0⟩, []⟩ : L.Test), s.drop j1))) := Lib.hid (by
  intro k hk hm h
  refine ⟨HN.out.1, fun hb => ?_⟩
  rcases HN.out.2 hb with ⟨rfl, h3⟩ | ⟨rfl, h3⟩
  ·exact Got.no (L.pseudo_no h3)
  ·exact Got.yes (L.pseudo_word h3 (by rw [HNM.out]; exact find_word hk hm h)))
 by_cases q0 : pname 0 = nm
 ·have HG : Hid ((bad = true → bad1 = true) ∧ (bad = false → Got bad1 (L.pseudo (npOf inner) (s.drop i)) ((⟨⟨7, [], [], 0, 0⟩, []⟩ : L.Test), s.drop j1))) := Lib.hid (HWd.out 0 (by omega) (by
   intro m hm
   omega
   ) q0)
  have hnm : nm = [102, 105, 114, 115, 116, 45, 99, 104, 105, 108, 100] := q0.symm
  have hcr := (cells_of ST2.out.res).1
  have hfr := (cells_of ST2.out.res).2
  unfold tzero at hcr hfr
  clear HWd HN HNM H2 q0
  subst hnm
  go_wp2_with fail
  refine bodyPost_ret (v := tval ⟨7, [], [], 0, 0⟩ (.slice none 0 0)) (by simp [results, Tryz.results171, go_sem, tval, tcells, hcr]) rfl ⟨⟨⟨7, [], [], 0, 0⟩, []⟩, _, j1, bad1, rfl, Lib.hid ListAt.nil, ?_, ?_, g1, g1', Lib.hid (fun _ => rfl), HG⟩
  ·exact (ST2.out.six _ _ _ _ _ _).1
  ·exact (ST2.out.six _ _ _ _ _ _).2
 by_cases q1 : pname 1 = nm
 ·have HG : Hid ((bad = true → bad1 = true) ∧ (bad = false → Got bad1 (L.pseudo (npOf inner) (s.drop i)) ((⟨⟨8, [], [], 0, 0⟩, []⟩ : L.Test), s.drop j1))) := Lib.hid (HWd.out 1 (by omega) (by
   intro m hm
   rcases (by omega : m = 0) with rfl
   all_goals assumption) q1)
  have hnm : nm = [108, 97, 115, 116, 45, 99, 104, 105, 108, 100] := q1.symm
  have hcr := (cells_of ST2.out.res).1
  have hfr := (cells_of ST2.out.res).2
  unfold tzero at hcr hfr
  clear HWd HN HNM H2 q1 q0
  subst hnm
  go_wp2_with fail
  refine bodyPost_ret (v := tval ⟨8, [], [], 0, 0⟩ (.slice none 0 0)) (by simp [results, Tryz.results171, go_sem, tval, tcells, hcr]) rfl ⟨⟨⟨8, [], [], 0, 0⟩, []⟩, _, j1, bad1, rfl, Lib.hid ListAt.nil, ?_, ?_, g1, g1', Lib.hid (fun _ => rfl), HG⟩
  ·exact (ST2.out.six _ _ _ _ _ _).1
  ·exact (ST2.out.six _ _ _ _ _ _).2
 by_cases q2 : pname 2 = nm
 ·have HG : Hid ((bad = true → bad1 = true) ∧ (bad = false → Got bad1 (L.pseudo (npOf inner) (s.drop i)) ((⟨⟨10, [], [], 0, 0⟩, []⟩ : L.Test), s.drop j1))) := Lib.hid (HWd.out 2 (by omega) (by
   intro m hm
   rcases (by omega : m = 0 ∨ m = 1) with rfl | rfl
   all_goals assumption) q2)
  have hnm : nm = [101, 109, 112, 116, 121] := q2.symm
  have hcr := (cells_of ST2.out.res).1
  have hfr := (cells_of ST2.out.res).2
  unfold tzero at hcr hfr
  clear HWd HN HNM H2 q2 q0 q1
  subst hnm
  go_wp2_with fail
  refine bodyPost_ret (v := tval ⟨10, [], [], 0, 0⟩ (.slice none 0 0)) (by simp [results, Tryz.results171, go_sem, tval, tcells, hcr]) rfl ⟨⟨⟨10, [], [], 0, 0⟩, []⟩, _, j1, bad1, rfl, Lib.hid ListAt.nil, ?_, ?_, g1, g1', Lib.hid (fun _ => rfl), HG⟩
  ·exact (ST2.out.six _ _ _ _ _ _).1
  ·exact (ST2.out.six _ _ _ _ _ _).2
 by_cases q3 : pname 3 = nm
 ·have HG : Hid ((bad = true → bad1 = true) ∧ (bad = false → Got bad1 (L.pseudo (npOf inner) (s.drop i)) ((⟨⟨11, [], [], 0, 0⟩, []⟩ : L.Test), s.drop j1))) := Lib.hid (HWd.out 3 (by omega) (by
   intro m hm
   rcases (by omega : m = 0 ∨ m = 1 ∨ m = 2) with rfl | rfl | rfl
   all_goals assumption) q3)
  have hnm : nm = [102, 111, 99, 117, 115] := q3.symm
  have hcr := (cells_of ST2.out.res).1
  have hfr := (cells_of ST2.out.res).2
  unfold tzero at hcr hfr
  clear HWd HN HNM H2 q3 q0 q1 q2
  subst hnm
  go_wp2_with fail
  refine bodyPost_ret (v := tval ⟨11, [], [], 0, 0⟩ (.slice none 0 0)) (by simp [results, Tryz.results171, go_sem, tval, tcells, hcr]) rfl ⟨⟨⟨11, [], [], 0, 0⟩, []⟩, _, j1, bad1, rfl, Lib.hid ListAt.nil, ?_, ?_, g1, g1', Lib.hid (fun _ => rfl), HG⟩
  ·exact (ST2.out.six _ _ _ _ _ _).1
  ·exact (ST2.out.six _ _ _ _ _ _).2
 by_cases q4 : pname 4 = nm
 ·have HG : Hid ((bad = true → bad1 = true) ∧ (bad = false → Got bad1 (L.pseudo (npOf inner) (s.drop i)) ((⟨⟨12, [], [], 0, 0⟩, []⟩ : L.Test), s.drop j1))) := Lib.hid (HWd.out 4 (by omega) (by
   intro m hm
   rcases (by omega : m = 0 ∨ m = 1 ∨ m = 2 ∨ m = 3) with rfl | rfl | rfl | rfl
   all_goals assumption) q4)
  have hnm : nm = [104, 111, 118, 101, 114] := q4.symm
  have hcr := (cells_of ST2.out.res).1
  have hfr := (cells_of ST2.out.res).2
  unfold tzero at hcr hfr
  clear HWd HN HNM H2 q4 q0 q1 q2 q3
  subst hnm
  go_wp2_with fail
  refine bodyPost_ret (v := tval ⟨12, [], [], 0, 0⟩ (.slice none 0 0)) (by simp [results, Tryz.results171, go_sem, tval, tcells, hcr]) rfl ⟨⟨⟨12, [], [], 0, 0⟩, []⟩, _, j1, bad1, rfl, Lib.hid ListAt.nil, ?_, ?_, g1, g1', Lib.hid (fun _ => rfl), HG⟩
  ·exact (ST2.out.six _ _ _ _ _ _).1
  ·exact (ST2.out.six _ _ _ _ _ _).2
 by_cases q5 : pname 5 = nm
 ·have HG : Hid ((bad = true → bad1 = true) ∧ (bad = false → Got bad1 (L.pseudo (npOf inner) (s.drop i)) ((⟨⟨13, [], [], 0, 0⟩, []⟩ : L.Test), s.drop j1))) := Lib.hid (HWd.out 5 (by omega) (by
   intro m hm
   rcases (by omega : m = 0 ∨ m = 1 ∨ m = 2 ∨ m = 3 ∨ m = 4) with rfl | rfl | rfl | rfl | rfl
   all_goals assumption) q5)
  have hnm : nm = [99, 104, 101, 99, 107, 101, 100] := q5.symm
  have hcr := (cells_of ST2.out.res).1
  have hfr := (cells_of ST2.out.res).2
  unfold tzero at hcr hfr
  clear HWd HN HNM H2 q5 q0 q1 q2 q3 q4
  subst hnm
  go_wp2_with fail
  refine bodyPost_ret (v := tval ⟨13, [], [], 0, 0⟩ (.slice none 0 0)) (by simp [results, Tryz.results171, go_sem, tval, tcells, hcr]) rfl ⟨⟨⟨13, [], [], 0, 0⟩, []⟩, _, j1, bad1, rfl, Lib.hid ListAt.nil, ?_, ?_, g1, g1', Lib.hid (fun _ => rfl), HG⟩
  ·exact (ST2.out.six _ _ _ _ _ _).1
  ·exact (ST2.out.six _ _ _ _ _ _).2
 have HNO : Hid (L.pseudos.find? (fun p => p.1 == nm) = none) := Lib.hid (find_none (by
  intro m hm
  rcases (by omega : m = 0 ∨ m = 1 ∨ m = 2 ∨ m = 3 ∨ m = 4 ∨ m = 5) with rfl | rfl | rfl | rfl | rfl | rfl
  all_goals assumption))
 have HBAD : Hid (¬ (nm = L.nthChild) → ¬ (nm = L.not_ ∧ inner = false) → (bad = true → true = true) ∧ (bad = false → Got true (L.pseudo (npOf inner) (s.drop i)) ((⟨⟨0, [], [], 0, 0⟩, []⟩ : L.Test), s.drop j1))) := Lib.hid (by
  intro g1 g2
  refine ⟨fun _ => rfl, fun hb => ?_⟩
  rcases HN.out.2 hb with ⟨rfl, h⟩ | ⟨rfl, h⟩
  ·exact Got.no (L.pseudo_no h)
  ·refine Got.no (L.pseudo_other h (by rw [HNM.out]; exact HNO.out) (by rw [HNM.out]; exact g1) ?_)
   rw [HNM.out]
   intro hq
   cases inner
   ·exact absurd ⟨hq, rfl⟩ g2
   ·rfl)
 have e0 : (nm == [102, 105, 114, 115, 116, 45, 99, 104, 105, 108, 100]) = false := by rw [beq_eq_false_iff_ne]; exact fun h => q0 h.symm
 have e1 : (nm == [108, 97, 115, 116, 45, 99, 104, 105, 108, 100]) = false := by rw [beq_eq_false_iff_ne]; exact fun h => q1 h.symm
 have e2 : (nm == [101, 109, 112, 116, 121]) = false := by rw [beq_eq_false_iff_ne]; exact fun h => q2 h.symm
 have e3 : (nm == [102, 111, 99, 117, 115]) = false := by rw [beq_eq_false_iff_ne]; exact fun h => q3 h.symm
 have e4 : (nm == [104, 111, 118, 101, 114]) = false := by rw [beq_eq_false_iff_ne]; exact fun h => q4 h.symm
 have e5 : (nm == [99, 104, 101, 99, 107, 101, 100]) = false := by rw [beq_eq_false_iff_ne]; exact fun h => q5 h.symm
 clear HWd q0 q1 q2 q3 q4 q5
 by_cases h1 : nm = L.nthChild
 ·subst h1
  clear HBAD
  unfold L.nthChild at HNM
  unfold L.nthChild at e0 e1 e2 e3 e4 e5
  unfold L.nthChild
  clear e0 e1 e2 e3 e4 e5
  have ST3 := Lib.hid (ST2.out.alloc (.cells tzero 150))
  have X3 := Lib.hid (Blk.new w2 tzero 150)
  go_wp2_with fail
  clear ST2
  refine (take_b b s 40 j1 bad1 _ hs g1' ST3.out.rdr).mono ?_
  rintro e w3 ⟨B, jk, rfl, hr5, hb5, hk, hk', HT⟩
  have ST4 := Lib.hid (ST3.out.step hr5 hb5)
  have X4 := Lib.hid (X3.out.but hb5 n2)
  clear ST3 X3 hr5 hb5
  generalize w2.heap.size = X at *
  have hXw : w.heap.size ≤ X := by omega
  cases B with
  | false =>
   have HGG : Hid ((bad = true → true = true) ∧ (bad = false → Got true (L.pseudo (npOf inner) (s.drop i)) ((⟨⟨0, [], [], 0, 0⟩, []⟩ : L.Test), s.drop jk))) := Lib.hid (by
    refine ⟨fun _ => rfl, fun hb => ?_⟩
    rcases HT.out with ⟨h, _⟩ | ⟨_, hjk, hno⟩
    ·cases h
    rcases HN.out.2 hb with ⟨rfl, h⟩ | ⟨rfl, h⟩
    ·exact Got.no (L.pseudo_no h)
    ·refine Got.no ?_
     rw [L.pseudo_nth h HNM.out, need_none (pre_one hno)])
   obtain ⟨hcb, hfb⟩ := cells_of ST4.out.rdr
   obtain ⟨hcx, hfx⟩ := cells_of X4.out
   obtain ⟨hcr, hfr⟩ := cells_of ST4.out.res
   unfold tzero at hcx hfx hcr hfr
   have hlr := ST4.out.res.lt
   have hlx := X4.out.lt
   have hlb4 := ST4.out.lt
   clear HN HT HNM HNO H2
   go_wp2_with fail
   refine bodyPost_ret (v := tval ⟨0, [], [], 0, 0⟩ (.slice none 0 0)) (by simp [results, Tryz.results171, go_sem, tval, tcells, hcr, hcx, hcb, hRb, hbR]) rfl ⟨⟨⟨0, [], [], 0, 0⟩, []⟩, _, jk, true, rfl, Lib.hid ListAt.nil, ?_, ?_, by omega, hk', Lib.hid (fun _ => rfl), ⟨fun _ => rfl, HGG.out.2⟩⟩
   ·exact (ST4.out.fail.six _ _ _ _ _ _).1
   ·exact (ST4.out.fail.six _ _ _ _ _ _).2
  | true =>
   have HPS : Hid ((bad = true → bad1 = true) ∧ (bad = false → bad1 = true → L.pseudo (npOf inner) (s.drop i) = none) ∧ (bad = false → bad1 = false → L.pseudo (npOf inner) (s.drop i) = (match L.nth (L.space (s.drop jk)) with | none => none | some (t, y) => match L.need [41] (L.space y) with | none => none | some z => some ((⟨t, []⟩ : L.Test), z)))) := Lib.hid (by
    rcases HT.out with ⟨_, _, hyes⟩ | ⟨h, _⟩
    case inr => cases h
    refine ⟨HN.out.1, fun hb h1 => ?_, fun hb h1 => ?_⟩
    ·rcases HN.out.2 hb with ⟨_, h⟩ | ⟨h, _⟩
     ·exact L.pseudo_no h
     ·rw [h1] at h; cases h
    ·rcases HN.out.2 hb with ⟨h, _⟩ | ⟨_, h⟩
     ·rw [h1] at h; cases h
     ·have := L.pseudo_nth (np := npOf inner) h HNM.out
      rw [drop_need hyes] at this
      exact this)
   clear HN HT HNM HNO
   go_wp2_with fail
   refine (space_any b s jk bad1 _ hs hk' ST4.out.rdr).mono ?_
   rintro e w4 ⟨j2, rfl, hr4, hb4, h4, h4', HJ2⟩
   have ST5 := Lib.hid (ST4.out.step hr4 hb4)
   have X5 := Lib.hid (X4.out.but hb4 n2)
   clear hr4 hb4 ST4 X4
   go_wp2_with fail
   refine (nth b s j2 bad1 _ hs h4' ST5.out.rdr).mono ?_
   rintro e w5 ⟨ax, ay, J, BAD, rfl, hr5, hb5, h5, hJl, HGn⟩
   have st6 := ST5.out.step hr5 hb5
   have x6 := X5.out.but hb5 n2
   obtain ⟨hcx, hfx⟩ := cells_of x6
   unfold tzero at hcx hfx
   have hlx := x6.lt
   have STW := Lib.hid (st6.farSix hXw (by omega) (.int .i64 9) (.string ⟨#[]⟩) (.string ⟨#[]⟩) (.int .i64 ax) (.int .i64 ay) (.slice none 0 0))
   have XW : Hid (Blk X (tcells ⟨9, [], [], ax, ay⟩ (.slice none 0 0)) 150 _) := Lib.hid (Blk.six x6 (.int .i64 9) (.string ⟨#[]⟩) (.string ⟨#[]⟩) (.int .i64 ax) (.int .i64 ay) (.slice none 0 0))
   clear hr5 hb5 st6 x6 ST5 X5 H2
   go_wp2_with fail
   clear hcx hfx hlx
   generalize ((((((w5.setCell ⟨X, 0, none⟩ (.int .i64 9)).setCell ⟨X, 1, none⟩ (.string ⟨#[]⟩)).setCell ⟨X, 2, none⟩ (.string ⟨#[]⟩)).setCell ⟨X, 3, none⟩ (.int .i64 ax)).setCell ⟨X, 4, none⟩ (.int .i64 ay)).setCell ⟨X, 5, none⟩ (.slice none 0 0)) = W at *
   obtain ⟨NS, hNS⟩ : ∃ NS : List L.Tst, NS = [] := ⟨_, rfl⟩
   have NTW : Hid (NotsAt (R + 1 ≤ ·) W (.slice none 0 0) NS) := Lib.hid (by rw [hNS]; exact ListAt.nil)
   obtain ⟨TT, hTT⟩ : ∃ TT : L.Tst, TT = ⟨9, [], [], ax, ay⟩ := ⟨_, rfl⟩
   rw [← hTT] at XW
   have HI : Hid (inner = true → NS = []) := Lib.hid (fun _ => hNS)
   have HG : Hid (∀ j' bad', ((BAD = true → bad' = true) ∧ (BAD = false → Got bad' (L.need [41] (L.space (s.drop J))) (s.drop j'))) → (bad = true → bad' = true) ∧ (bad = false → Got bad' (L.pseudo (npOf inner) (s.drop i)) ((⟨TT, NS⟩ : L.Test), s.drop j'))) := Lib.hid (by
    intro j' bad' hd
    refine ⟨fun hb => hd.1 (HGn.out.1 (HPS.out.1 hb)), fun hb => ?_⟩
    cases bad1 with
    | true =>
     rw [hd.1 (HGn.out.1 rfl)]
     exact Got.no (HPS.out.2.1 hb rfl)
    | false =>
     rw [HPS.out.2.2 hb rfl]
     have hj2 := HJ2.out
     rcases HGn.out.2 rfl with ⟨rfl, h⟩ | ⟨rfl, h⟩
     ·rw [hd.1 rfl]
      refine Got.no ?_
      try dsimp only
      rw [← hj2, h]
     ·try dsimp only
      rw [← hj2, h]
      try dsimp only
      rw [hNS, hTT]
      rcases hd.2 rfl with ⟨rfl, h3⟩ | ⟨rfl, h3⟩
      ·rw [h3]; exact Got.no rfl
      ·rw [h3]; exact Got.yes rfl)
   have HNil := Lib.hid hNS
   clear hNS hTT HPS HJ2 HGn
   refine (space_any b s J BAD _ hs hJl STW.out.rdr).mono ?_
   rintro e w7 ⟨j7, rfl, hr7, hb7, h7, h7', HJ7⟩
   have ST7 := Lib.hid (STW.out.step hr7 hb7)
   have X7 := Lib.hid (XW.out.but hb7 n2)
   have NT7 := Lib.hid (keeps_nots NTW.out (Kept.but hb7 (by omega)))
   clear hr7 hb7 STW XW NTW
   go_wp2_with fail
   refine (take_b b s 41 j7 BAD _ hs h7' ST7.out.rdr).mono ?_
   rintro e w8 ⟨B2, j8, rfl, hr8, hb8, h8, h8', HTb⟩
   have st8 := ST7.out.step hr8 hb8
   have x8 := X7.out.but hb8 n2
   have NT8 := Lib.hid (keeps_nots NT7.out (Kept.but hb8 (by omega)))
   obtain ⟨hcb, hfb⟩ := cells_of st8.rdr
   obtain ⟨hcx, hfx⟩ := cells_of x8
   obtain ⟨hcr, hfr⟩ := cells_of st8.res
   unfold tcells at hcx hfx
   unfold tzero at hcr hfr
   have hlr := st8.res.lt
   have hlx := x8.lt
   have hlb8 := st8.lt
   have ST8 := Lib.hid st8
   have HX := Lib.hid x8
   clear hr8 hb8 st8 x8 ST7 X7 NT7
   cases B2 with
   | true =>
    have HGG := Lib.hid (HG.out j8 BAD ⟨fun h => h, fun hB => (by
     rcases HTb.out with ⟨_, _, hy⟩ | ⟨h, _⟩
     ·rw [hB, ← HJ7.out, drop_need hy]; exact Got.yes rfl
     ·cases h)⟩)
    clear HTb HG HJ7
    go_wp2_with fail
    refine bodyPost_ret (v := tval TT (.slice none 0 0)) (by simp [results, Tryz.results171, go_sem, tval, tcells, hcr, hcx, n3, n4]) rfl ⟨⟨TT, NS⟩, _, j8, BAD, rfl, Lib.hid (by rw [HNil.out]; exact ListAt.nil), ?_, ?_, by omega, h8', HI, HGG⟩
    ·exact (ST8.out.six _ _ _ _ _ _).1
    ·exact (ST8.out.six _ _ _ _ _ _).2
   | false =>
    have HGG := Lib.hid (HG.out j8 true ⟨fun _ => rfl, fun hB => (by
     rcases HTb.out with ⟨h, _⟩ | ⟨_, _, hno⟩
     ·cases h
     ·rw [← HJ7.out, need_none (pre_one hno)]; exact Got.no rfl)⟩)
    clear HTb HG HJ7
    go_wp2_with fail
    refine bodyPost_ret (v := tval TT (.slice none 0 0)) (by simp [results, Tryz.results171, go_sem, tval, tcells, hcr, hcx, n3, n4, hRb, hbR, n1, n2]) rfl ⟨⟨TT, NS⟩, _, j8, true, rfl, Lib.hid (by rw [HNil.out]; exact ListAt.nil), ?_, ?_, by omega, h8', HI, ⟨fun _ => rfl, HGG.out.2⟩⟩
    ·exact (ST8.out.fail.six _ _ _ _ _ _).1
    ·exact (ST8.out.fail.six _ _ _ _ _ _).2
 ·by_cases h2 : nm = L.not_ ∧ inner = false
  ·obtain ⟨h2, hin⟩ := h2
   subst h2
   subst hin
   clear h1
   clear HBAD
   unfold L.not_ at HNM
   unfold L.not_ at e0 e1 e2 e3 e4 e5
   unfold L.not_
   clear e0 e1 e2 e3 e4 e5
   have ST3 := Lib.hid (ST2.out.alloc (.cells tzero 150))
   have X3 := Lib.hid (Blk.new w2 tzero 150)
   go_wp2_with fail
   clear ST2
   refine (take_b b s 40 j1 bad1 _ hs g1' ST3.out.rdr).mono ?_
   rintro e w3 ⟨B, jk, rfl, hr5, hb5, hk, hk', HT⟩
   have ST4 := Lib.hid (ST3.out.step hr5 hb5)
   have X4 := Lib.hid (X3.out.but hb5 n2)
   clear ST3 X3 hr5 hb5
   generalize w2.heap.size = X at *
   have hXw : w.heap.size ≤ X := by omega
   cases B with
   | false =>
    have HGG : Hid ((bad = true → true = true) ∧ (bad = false → Got true (L.pseudo (npOf false) (s.drop i)) ((⟨⟨0, [], [], 0, 0⟩, []⟩ : L.Test), s.drop jk))) := Lib.hid (by
     refine ⟨fun _ => rfl, fun hb => ?_⟩
     rcases HT.out with ⟨h, _⟩ | ⟨_, hjk, hno⟩
     ·cases h
     rcases HN.out.2 hb with ⟨rfl, h⟩ | ⟨rfl, h⟩
     ·exact Got.no (L.pseudo_no h)
     ·refine Got.no ?_
      rw [show npOf false = some L.inner from rfl]
      rw [L.pseudo_not h HNM.out, need_none (pre_one hno)])
    obtain ⟨hcb, hfb⟩ := cells_of ST4.out.rdr
    obtain ⟨hcx, hfx⟩ := cells_of X4.out
    obtain ⟨hcr, hfr⟩ := cells_of ST4.out.res
    unfold tzero at hcx hfx hcr hfr
    have hlr := ST4.out.res.lt
    have hlx := X4.out.lt
    have hlb4 := ST4.out.lt
    clear HN HT HNM HNO H2
    go_wp2_with fail
    refine bodyPost_ret (v := tval ⟨0, [], [], 0, 0⟩ (.slice none 0 0)) (by simp [results, Tryz.results171, go_sem, tval, tcells, hcr, hcx, hcb, hRb, hbR]) rfl ⟨⟨⟨0, [], [], 0, 0⟩, []⟩, _, jk, true, rfl, Lib.hid ListAt.nil, ?_, ?_, by omega, hk', Lib.hid (fun _ => rfl), ⟨fun _ => rfl, HGG.out.2⟩⟩
    ·exact (ST4.out.fail.six _ _ _ _ _ _).1
    ·exact (ST4.out.fail.six _ _ _ _ _ _).2
   | true =>
    have HPS : Hid ((bad = true → bad1 = true) ∧ (bad = false → bad1 = true → L.pseudo (npOf false) (s.drop i) = none) ∧ (bad = false → bad1 = false → L.pseudo (npOf false) (s.drop i) = (match L.inner (L.space (s.drop jk)) with | none => none | some ((ty, ts), y) => match L.need [41] (L.space y) with | none => none | some z => some ((⟨L.tst 14 ty, ts⟩ : L.Test), z)))) := Lib.hid (by
     rcases HT.out with ⟨_, _, hyes⟩ | ⟨h, _⟩
     case inr => cases h
     refine ⟨HN.out.1, fun hb h1 => ?_, fun hb h1 => ?_⟩
     ·rcases HN.out.2 hb with ⟨_, h⟩ | ⟨h, _⟩
      ·exact L.pseudo_no h
      ·rw [h1] at h; cases h
     ·rcases HN.out.2 hb with ⟨h, _⟩ | ⟨_, h⟩
      ·rw [h1] at h; cases h
      ·have := L.pseudo_not h HNM.out
       rw [drop_need hyes] at this
       exact this)
    clear HN HT HNM HNO
    go_wp2_with fail
    refine (space_any b s jk bad1 _ hs hk' ST4.out.rdr).mono ?_
    rintro e w4 ⟨j2, rfl, hr4, hb4, h4, h4', HJ2⟩
    have ST5 := Lib.hid (ST4.out.step hr4 hb4)
    have X5 := Lib.hid (X4.out.but hb4 n2)
    clear hr4 hb4 ST4 X4
    go_wp2_with fail
    refine (H2.out (by simp) j2 bad1 _ h4' ST5.out.rdr).mono ?_
    rintro e w5 ⟨ty, V, ts, J, BAD, rfl, HTS, hr5, hb5, h5, hJl, hty, htl5, HNo, HGn⟩
    obtain ⟨ao, cap, hV⟩ := HTS.out.form
    generalize hnn : ts.length = nn at hV
    subst hV
    have z5 := hb5.size
    have hX4 : X < w4.heap.size := X5.out.lt
    have hR4 : R < w4.heap.size := ST5.out.res.lt
    have NT5 := Lib.hid (HTS.out.nots (HNo.out rfl))
    have st6 := ST5.out.step hr5 hb5
    have x6 := X5.out.but hb5 n2
    obtain ⟨hcx, hfx⟩ := cells_of x6
    unfold tzero at hcx hfx
    have hlx := x6.lt
    have STW := Lib.hid ((st6.farSix hXw (by omega) (.int .i64 14) (.string ⟨ty.toArray⟩) (.string ⟨#[]⟩) (.int .i64 0) (.int .i64 0) (.slice ao nn cap)).alloc (.cells #[.int .i64 0, .string ⟨ty.toArray⟩, .slice ao nn cap] 105))
    have XW : Hid (Blk X (tcells ⟨14, ty, [], 0, 0⟩ (.slice ao nn cap)) 150 _) := Lib.hid ((Blk.six x6 (.int .i64 14) (.string ⟨ty.toArray⟩) (.string ⟨#[]⟩) (.int .i64 0) (.int .i64 0) (.slice ao nn cap)).alloc (.cells #[.int .i64 0, .string ⟨ty.toArray⟩, .slice ao nn cap] 105))
    have NTW := Lib.hid (keeps_nots (keeps_nots NT5.out (((Kept.refl w5).six (k := X) (by omega) (.int .i64 14) (.string ⟨ty.toArray⟩) (.string ⟨#[]⟩) (.int .i64 0) (.int .i64 0) (.slice ao nn cap)).alloc (.cells #[.int .i64 0, .string ⟨ty.toArray⟩, .slice ao nn cap] 105))) (Kept.late (B' := R + 1) (by omega)))
    clear hr5 hb5 st6 x6 ST5 X5 NT5 HTS HNo H2
    go_wp2_with fail
    clear hcx hfx hlx
    generalize (((((((w5.setCell ⟨X, 0, none⟩ (.int .i64 14)).setCell ⟨X, 1, none⟩ (.string ⟨ty.toArray⟩)).setCell ⟨X, 2, none⟩ (.string ⟨#[]⟩)).setCell ⟨X, 3, none⟩ (.int .i64 0)).setCell ⟨X, 4, none⟩ (.int .i64 0)).setCell ⟨X, 5, none⟩ (.slice ao nn cap)).alloc (.cells #[.int .i64 0, .string ⟨ty.toArray⟩, .slice ao nn cap] 105)) = W at *
    obtain ⟨NS, hNS⟩ : ∃ NS : List L.Tst, NS = ts.map (·.t) := ⟨_, rfl⟩
    rw [← hNS] at NTW
    obtain ⟨TT, hTT⟩ : ∃ TT : L.Tst, TT = ⟨14, ty, [], 0, 0⟩ := ⟨_, rfl⟩
    rw [← hTT] at XW
    have HI : Hid (false = true → NS = []) := Lib.hid (fun h => (by cases h))
    have HG : Hid (∀ j' bad', ((BAD = true → bad' = true) ∧ (BAD = false → Got bad' (L.need [41] (L.space (s.drop J))) (s.drop j'))) → (bad = true → bad' = true) ∧ (bad = false → Got bad' (L.pseudo (npOf false) (s.drop i)) ((⟨TT, NS⟩ : L.Test), s.drop j'))) := Lib.hid (by
     intro j' bad' hd
     refine ⟨fun hb => hd.1 (HGn.out.1 (HPS.out.1 hb)), fun hb => ?_⟩
     cases bad1 with
     | true =>
      rw [hd.1 (HGn.out.1 rfl)]
      exact Got.no (HPS.out.2.1 hb rfl)
     | false =>
      rw [HPS.out.2.2 hb rfl]
      have hj2 := HJ2.out
      rcases HGn.out.2 rfl with ⟨rfl, h⟩ | ⟨rfl, h⟩
      ·rw [hd.1 rfl]
       refine Got.no ?_
       try dsimp only
       rw [← hj2, show L.inner (s.drop j2) = none from by unfold L.inner; rw [h]]
      ·try dsimp only
       rw [← hj2, show L.inner (s.drop j2) = some ((ty, NS), s.drop J) from by unfold L.inner; rw [h, hNS]]
       dsimp only
       rw [hTT]
       rcases hd.2 rfl with ⟨rfl, h3⟩ | ⟨rfl, h3⟩
       ·rw [h3]; exact Got.no rfl
       ·rw [h3]; exact Got.yes rfl)
    clear hNS hTT HPS HJ2 HGn
    refine (space_any b s J BAD _ hs hJl STW.out.rdr).mono ?_
    rintro e w7 ⟨j7, rfl, hr7, hb7, h7, h7', HJ7⟩
    have ST7 := Lib.hid (STW.out.step hr7 hb7)
    have X7 := Lib.hid (XW.out.but hb7 n2)
    have NT7 := Lib.hid (keeps_nots NTW.out (Kept.but hb7 (by omega)))
    clear hr7 hb7 STW XW NTW
    go_wp2_with fail
    refine (take_b b s 41 j7 BAD _ hs h7' ST7.out.rdr).mono ?_
    rintro e w8 ⟨B2, j8, rfl, hr8, hb8, h8, h8', HTb⟩
    have st8 := ST7.out.step hr8 hb8
    have x8 := X7.out.but hb8 n2
    have NT8 := Lib.hid (keeps_nots NT7.out (Kept.but hb8 (by omega)))
    obtain ⟨hcb, hfb⟩ := cells_of st8.rdr
    obtain ⟨hcx, hfx⟩ := cells_of x8
    obtain ⟨hcr, hfr⟩ := cells_of st8.res
    unfold tcells at hcx hfx
    unfold tzero at hcr hfr
    have hlr := st8.res.lt
    have hlx := x8.lt
    have hlb8 := st8.lt
    have ST8 := Lib.hid st8
    have HX := Lib.hid x8
    clear hr8 hb8 st8 x8 ST7 X7 NT7
    cases B2 with
    | true =>
     have HGG := Lib.hid (HG.out j8 BAD ⟨fun h => h, fun hB => (by
      rcases HTb.out with ⟨_, _, hy⟩ | ⟨h, _⟩
      ·rw [hB, ← HJ7.out, drop_need hy]; exact Got.yes rfl
      ·cases h)⟩)
     clear HTb HG HJ7
     go_wp2_with fail
     refine bodyPost_ret (v := tval TT (.slice ao nn cap)) (by simp [results, Tryz.results171, go_sem, tval, tcells, hcr, hcx, n3, n4]) rfl ⟨⟨TT, NS⟩, _, j8, BAD, rfl, ?_, ?_, ?_, by omega, h8', HI, HGG⟩
     ·exact Lib.hid (keeps_nots (keeps_nots NT8.out (Kept.six (Kept.refl (S := (R + 1 ≤ ·)) _) (k := R) (by omega) _ _ _ _ _ _)) (Kept.late (by omega)))
     ·exact (ST8.out.six _ _ _ _ _ _).1
     ·exact (ST8.out.six _ _ _ _ _ _).2
    | false =>
     have HGG := Lib.hid (HG.out j8 true ⟨fun _ => rfl, fun hB => (by
      rcases HTb.out with ⟨h, _⟩ | ⟨_, _, hno⟩
      ·cases h
      ·rw [← HJ7.out, need_none (pre_one hno)]; exact Got.no rfl)⟩)
     clear HTb HG HJ7
     go_wp2_with fail
     refine bodyPost_ret (v := tval TT (.slice ao nn cap)) (by simp [results, Tryz.results171, go_sem, tval, tcells, hcr, hcx, n3, n4, hRb, hbR, n1, n2]) rfl ⟨⟨TT, NS⟩, _, j8, true, rfl, ?_, ?_, ?_, by omega, h8', HI, ⟨fun _ => rfl, HGG.out.2⟩⟩
     ·exact Lib.hid (keeps_nots (keeps_nots (keeps_nots NT8.out ((Kept.refl (S := (R + 1 ≤ ·)) _).set (k := b) (by omega) 2 (.bool true))) (Kept.six (Kept.refl (S := (R + 1 ≤ ·)) _) (k := R) (by omega) _ _ _ _ _ _)) (Kept.late (by omega)))
     ·exact (ST8.out.fail.six _ _ _ _ _ _).1
     ·exact (ST8.out.fail.six _ _ _ _ _ _).2
  ·have HB := Lib.hid (HBAD.out h1 h2).2
   have HC : Hid (nm ≠ [110, 116, 104, 45, 99, 104, 105, 108, 100] ∧ (inner = true ∨ nm ≠ [110, 111, 116])) := Lib.hid ⟨h1, by
    cases inner
    ·right; intro h; exact h2 ⟨h, rfl⟩
    ·left; rfl⟩
   clear HBAD HN HNM HNO H2
   have ST3 := Lib.hid (ST2.out.alloc (.cells tzero 150))
   have X3 := Lib.hid (Blk.new w2 tzero 150)
   obtain ⟨hcb, hfb⟩ := cells_of ST2.out.rdr
   obtain ⟨hcr, hfr⟩ := cells_of ST2.out.res
   unfold tzero at hcr hfr
   have hlb4 := ST2.out.lt
   clear h1 h2
   have p1 : (nm == [110, 116, 104, 45, 99, 104, 105, 108, 100]) = false := by simpa using HC.out.1
   rcases HC.out.2 with rfl | h3
   all_goals
    first
     | (have p2 : (nm == [110, 111, 116]) = false := by simpa using h3)
     | skip
    cases p3 : (nm == [110, 111, 116])
    all_goals
     go_wp2_with fail
     refine bodyPost_ret (v := tval ⟨0, [], [], 0, 0⟩ (.slice none 0 0)) (by simp [results, Tryz.results171, go_sem, tval, tcells, hcr, hcb, hRb, hbR, hRX, n3, n4]) rfl ⟨⟨⟨0, [], [], 0, 0⟩, []⟩, _, j1, true, rfl, Lib.hid ListAt.nil, ?_, ?_, g1, g1', Lib.hid (fun _ => rfl), ⟨fun _ => rfl, HB.out⟩⟩
     ·exact (ST2.out.fail.six _ _ _ _ _ _).1.alloc _
     ·exact (ST2.out.fail.six _ _ _ _ _ _).2.alloc _
end F
end Go.Proofs.YtafkeolpadfjfaaGreatDoor
namespace Go.Proofs.YtafkeolpadfjfaaGreatDoor
open Go.RowKit
namespace F
open H K
theorem infoSel : (Tryz.prog.info? 94).map (fun i => (i.zero, i.size, i.bytes)) = some (some (.agg #[.slice none 0 0]), 1, 24) := by kernel_rfl
theorem pseudo_inner (b : Nat) (s : List UInt8) (hs : s.length ≤ 1000000) (i : Nat) (bad : Bool) (w : World) (hi : i ≤ s.length) (hR : IsRdF b s i bad w) :
  Calls Tryz.prog 171 #[.pointer (some ⟨b, 0, none⟩), .bool true] w (FTest b s i true bad (L.pseudo (npOf true) (s.drop i)) w) :=
 pseudo b s i true bad w hs hi hR (fun h => (by cases h))
theorem part_inner (b : Nat) (s : List UInt8) (hs : s.length ≤ 1000000) (i : Nat) (bad : Bool) (w : World) (hi : i ≤ s.length) (hR : IsRdF b s i bad w) :
  Calls Tryz.prog 131 #[.pointer (some ⟨b, 0, none⟩), .bool true] w (FPart b s i true bad (L.part none (s.drop i)) w) :=
 part_of b s i true bad w hs hi hR (pseudo_inner b s hs)
theorem pseudo_outer (b : Nat) (s : List UInt8) (hs : s.length ≤ 1000000) (i : Nat) (bad : Bool) (w : World) (hi : i ≤ s.length) (hR : IsRdF b s i bad w) :
  Calls Tryz.prog 171 #[.pointer (some ⟨b, 0, none⟩), .bool false] w (FTest b s i false bad (L.pseudo (npOf false) (s.drop i)) w) :=
 pseudo b s i false bad w hs hi hR (fun _ => part_inner b s hs)
theorem part_outer (b : Nat) (s : List UInt8) (hs : s.length ≤ 1000000) (i : Nat) (bad : Bool) (w : World) (hi : i ≤ s.length) (hR : IsRdF b s i bad w) :
  Calls Tryz.prog 131 #[.pointer (some ⟨b, 0, none⟩), .bool false] w (FPart b s i false bad (L.outer (s.drop i)) w) :=
 part_of b s i false bad w hs hi hR (pseudo_outer b s hs)
theorem selector (b : Nat) (s : List UInt8) (hs : s.length ≤ 1000000) (i : Nat) (w : World) (hi : i ≤ s.length) (hR : IsRdF b s i false w) :
  Calls Tryz.prog 93 #[.pointer (some ⟨b, 0, none⟩)] w (FSel b s i (L.selector (s.drop i)) w) :=
 selector_of b s i w hs hi hR (part_outer b s hs)
def FParsePost (s : List UInt8) (w : World) (e : Ending) (w' : World) : Prop :=
 Below w.heap.size w w' ∧
 ((L.read s = none ∧ ∃ v, e = .returned (.tuple #[v, .bool false])) ∨
  (∃ l v, L.read s = some l ∧ e = .returned (.tuple #[v, .bool true]) ∧ SelsAt (w.heap.size ≤ ·) w' v l))
/-- The reader, and the selectors so far. -/
structure FParSt (b : Nat) (s : List UInt8) (j : Nat) (bad : Bool) (v : Value) (l : List (List L.Part)) (w1 w : World) : Prop where
 rdr : IsRdF b s j bad w
 but : But b w1 w
 row : OwnIn cSel PartsAt (b + 1 ≤ ·) (b + 1) 94 1 w v l
theorem FParSt.step {b : Nat} {s : List UInt8} {j j' : Nat} {bad bad' : Bool} {v : Value} {l : List (List L.Part)} {w1 w w' : World} (h : FParSt b s j bad v l w1 w) (hr : IsRdF b s j' bad' w') (hB : But b w w') : FParSt b s j' bad' v l w1 w' :=
 ⟨hr, h.but.trans hB, h.row.keep keeps_parts ⟨hB.size, fun g hg hlt => ⟨hg, hB.block g hlt (by omega)⟩⟩⟩
theorem FParSt.app {b : Nat} {s : List UInt8} {j : Nat} {bad : Bool} {v : Value} {l : List (List L.Part)} {w1 w w5 : World} (h : FParSt b s j bad v l w1 w) {o : Obj} {g cap : Nat} {x : List L.Part} {nv : Value} {qs : List (List L.Part × Value)}
  (hb : w1.heap.size = b) (hqs : qs.map (·.1) = l) (hI : ∀ q ∈ qs, PartsAt (fun k => b + 1 ≤ k ∧ v.ownBlock ≠ some k) w q.2 q.1)
  (hown : w5.ownsRow (b + 1) 94 1 (.slice (some ⟨g, 0, none⟩) (l.length + 1) cap) (l.length + 1) ((qs.flatMap fun p => cSel p.1 p.2) ++ cSel x nv))
  (hgrow : (w.alloc o).grownBy w5 v.ownBlock) (hat : v.ownBlock = some g ∨ g = w.heap.size + 1) (hx : PartsAt (fun k => b + 1 ≤ k ∧ v.ownBlock ≠ some k) w nv x) :
  FParSt b s j bad (.slice (some ⟨g, 0, none⟩) (l.length + 1) cap) (l ++ [x]) w1 w5 := by
 have ka : ∀ {S : Nat → Prop}, Kept S S w (w.alloc o) := fun {S} => (Kept.refl w).alloc o
 have hv : ∀ k, v.ownBlock = some k → b + 1 ≤ k := fun k hk => (h.row.lt hk).1
 have hlb := lt_of_block h.rdr
 have hsz : (w.alloc o).heap.size = w.heap.size + 1 := by simp
 have e1 : ∀ k, k < w.heap.size → k < b + 1 → w5.heap[k]? = w.heap[k]? := fun k h1 h2 =>
  (hgrow.block k (by rw [hsz]; omega) (fun he => by have := hv k he.symm; omega)).trans (Below.heap_alloc w o k h1)
 refine ⟨(e1 b hlb (by omega)).trans h.rdr, ⟨hgrow.os.trans h.but.os, hgrow.tape.trans h.but.tape, hgrow.output.trans h.but.output, by have := hgrow.size; have := h.but.size; omega, fun k hk hne =>
  (e1 k (by have := h.but.size; omega) (by omega)).trans (h.but.block k hk hne)⟩, ?_⟩
 refine OwnIn.append (I := PartsAt) (c := cSel) (x := x) (vx := nv) keeps_parts (w := w.alloc o) (v := v) hqs hown (fun p hp => keeps_parts (x := p.1) (hI p hp) ka) hgrow ?_ (keeps_parts hx ka)
 rcases hat with h1 | h1
 ·exact Or.inl ⟨h1, hv g h1⟩
 ·exact Or.inr ⟨by omega, by omega⟩
theorem FParSt.fresh {b : Nat} {s : List UInt8} {j : Nat} {bad : Bool} {v : Value} {l : List (List L.Part)} {w1 w : World} (h : FParSt b s j bad v l w1 w) {g : Nat} (hg : w.heap.size ≤ g) : b + 1 ≤ g ∧ v.ownBlock ≠ some g := by
 have h1 := lt_of_block h.rdr
 refine ⟨by omega, fun he => ?_⟩
 have := (h.row.lt he).2.2
 omega
theorem FParSt.below {b : Nat} {s : List UInt8} {j : Nat} {bad : Bool} {v : Value} {l : List (List L.Part)} {w0 w1 w : World} (h : FParSt b s j bad v l w1 w) (hb : w1.heap.size = b) (h1 : Below w0.heap.size w0 w1) : Below w0.heap.size w0 w :=
 h1.trans (Below.mono (B := w1.heap.size) ⟨h.but.os, h.but.tape, h.but.output, h.but.size, fun k hk => h.but.block k hk (by omega)⟩ h1.size)
theorem FParSt.sels {b : Nat} {s : List UInt8} {j : Nat} {bad : Bool} {v : Value} {l : List (List L.Part)} {w0 w1 w w' : World} (h : FParSt b s j bad v l w1 w) (hb : w0.heap.size ≤ b) (h1 : Below w.heap.size w w') : SelsAt (w0.heap.size ≤ ·) w' v l :=
 keeps_sels (OwnIn.list keeps_parts h.row) ((Kept.below h1).trans (Kept.wide (fun g hg => by show w0.heap.size ≤ g; omega)))
/-- What has been read of the list, and what is to come. -/
def FLInv (s : List UInt8) (j : Nat) (bad : Bool) (done : List (List L.Part)) (full : Option (List (List L.Part))) : Prop :=
 (bad = true ∧ full = none) ∨ (bad = false ∧ ∃ n, s.length - j < n ∧ full = (L.list n (s.drop j)).map (fun l => done ++ l))
theorem FLInv.start {s : List UInt8} : FLInv s 0 (!decide (U.rep s = s)) [] (L.read s) := by
 rcases L.LInv.start (s := s) with h | ⟨_, h1, h2⟩ | ⟨h, _⟩
 ·exact Or.inl h
 ·exact Or.inr ⟨h1, h2⟩
 ·cases h
section
variable {s : List UInt8} {j j1 j2 j3 j4 : Nat} {bad2 : Bool} {done : List (List L.Part)} {x : List L.Part} {full : Option (List (List L.Part))}
theorem FLInv.bad (h : FLInv s j true done full) : full = none := by
 rcases h with ⟨_, h⟩ | ⟨h, _⟩
 ·exact h
 ·cases h
theorem FLInv.fall (h : FLInv s j false done full) (h1 : s.drop j1 = L.space (s.drop j)) (hs : GotS true (L.selector (s.drop j1)) x (s.drop j2)) : full = none := by
 rcases h with ⟨h, _⟩ | ⟨_, n, hn, hf⟩
 ·cases h
 ·obtain ⟨m, rfl⟩ : ∃ m, n = m + 1 := ⟨n - 1, by omega⟩
  rcases hs with ⟨_, hs⟩ | ⟨h, _⟩
  ·rw [hf, L.list_fall (by rw [← h1]; exact hs)]; rfl
  ·cases h
theorem FLInv.last (h : FLInv s j false done full) (h1 : s.drop j1 = L.space (s.drop j)) (hs : GotS false (L.selector (s.drop j1)) x (s.drop j2)) (h3 : s.drop j3 = L.space (s.drop j2)) (he : s.length ≤ j3) : full = some (done ++ [x]) := by
 have he2 : s.drop j3 = [] := List.drop_eq_nil_of_le he
 rcases h with ⟨h, _⟩ | ⟨_, n, hn, hf⟩
 ·cases h
 ·obtain ⟨m, rfl⟩ : ∃ m, n = m + 1 := ⟨n - 1, by omega⟩
  rcases hs with ⟨h, _⟩ | ⟨_, hs | ⟨hs, hsp, c, u, hc, _⟩⟩
  ·cases h
  ·rw [hf, L.list_end (by rw [← h1]; exact hs) (by rw [← h3]; exact he2)]; rfl
  ·rw [h3, hsp, hc] at he2; cases he2
theorem FLInv.more (h : FLInv s j false done full) (h1 : s.drop j1 = L.space (s.drop j)) (hs : GotS false (L.selector (s.drop j1)) x (s.drop j2)) (h3 : s.drop j3 = L.space (s.drop j2)) (hj : j ≤ j3) (hl : j3 < s.length) (h4 : j4 = j3 + 1) (hc : s.drop j3 = 44 :: s.drop j4) : FLInv s j4 false (done ++ [x]) full := by
 rcases h with ⟨h, _⟩ | ⟨_, n, hn, hf⟩
 ·cases h
 ·obtain ⟨m, rfl⟩ : ∃ m, n = m + 1 := ⟨n - 1, by omega⟩
  rcases hs with ⟨h, _⟩ | ⟨_, hs | ⟨hs, hsp, c, u, hcu, hne⟩⟩
  ·cases h
  ·refine Or.inr ⟨rfl, m, by omega, ?_⟩
   rw [hf, L.list_more (by rw [← h1]; exact hs) (by rw [← h3]; exact hc)]
   cases L.list m (s.drop j4) <;> simp
  ·rw [h3, hsp, hcu] at hc
   exact absurd (List.cons.inj hc).1 hne
theorem FLInv.stop (h : FLInv s j false done full) (h1 : s.drop j1 = L.space (s.drop j)) (hs : GotS false (L.selector (s.drop j1)) x (s.drop j2)) (h3 : s.drop j3 = L.space (s.drop j2)) (hl : j3 < s.length) (hc : ∀ r, s.drop j3 ≠ 44 :: r) : full = none := by
 rcases h with ⟨h, _⟩ | ⟨_, n, hn, hf⟩
 ·cases h
 ·obtain ⟨m, rfl⟩ : ∃ m, n = m + 1 := ⟨n - 1, by omega⟩
  rcases hs with ⟨h, _⟩ | ⟨_, hs | ⟨hs, _⟩⟩
  ·cases h
  ·obtain ⟨c, u, hd⟩ := drop_cons hl
   rw [hf, L.list_other (by rw [← h1]; exact hs) (by rw [← h3]; exact hd) (fun h => hc u (by rw [hd, h]))]; rfl
  ·rw [hf, L.list_fall (by rw [← h1]; exact hs)]; rfl
end
end F
end Go.Proofs.YtafkeolpadfjfaaGreatDoor
