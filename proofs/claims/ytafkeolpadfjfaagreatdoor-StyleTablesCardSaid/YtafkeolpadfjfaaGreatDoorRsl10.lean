/- What the functions of the reference's reader come to: part, given pseudo. What the functions of the reference's reader come to: the state of selector. -/
import Derived.Test.YtafkeolpadfjfaaGreatDoorRsl8
import Derived.Deep.RegionLaw
import Derived.Deep.AppendLies
import Derived.Deep.DeepCutAuto
import Derived.OwnWalk
import Derived.Test.YtafkeolpadfjfaaGreatDoorSel17
set_option linter.unusedVariables false
set_option linter.unusedSimpArgs false
namespace Go.Proofs.YtafkeolpadfjfaaGreatDoor
open Go.RowKit
namespace F
open H K
set_option maxHeartbeats 16000000 in
set_option maxRecDepth 100000 in
theorem part_of (b : Nat) (s : List UInt8) (i : Nat) (inner bad : Bool) (w : World) (hs : s.length ≤ 1000000) (hi : i ≤ s.length) (hR : IsRdF b s i bad w)
  (hPs : ∀ i bad w, i ≤ s.length → IsRdF b s i bad w → Calls Tryz.prog 171 #[.pointer (some ⟨b, 0, none⟩), .bool inner] w (FTest b s i inner bad (L.pseudo (npOf inner) (s.drop i)) w)) :
  Calls Tryz.prog 131 #[.pointer (some ⟨b, 0, none⟩), .bool inner] w (FPart b s i inner bad (L.part (npOf inner) (s.drop i)) w) := by
 have HR := Lib.hid hR
 have HPs := Lib.hid hPs
 have hlb := lt_of_block hR
 have ST0 := Lib.hid (FPSt.start hR)
 clear hR hPs
 go_enter Tryz.func131, Tryz.ntmps131
 go_wp2_with fail
 refine (begins b s i bad _ hs hi ST0.out.st.rdr).mono ?_
 rintro e w1 ⟨rfl, nn, rfl⟩
 have ST1 := Lib.hid (ST0.out.drewN nn)
 clear ST0
 obtain ⟨bg, hbg⟩ : ∃ q, L.begins (s.drop i) = q := ⟨_, rfl⟩
 have HBg := Lib.hid hbg
 rw [hbg]
 clear hbg
 generalize hW1 : ((w.alloc (.cells pzero 105)).alloc (.cells pzero 105)).drewN nn = W1 at *
 clear hW1
 generalize hRR : w.heap.size = R at *
 generalize hPP : R + 1 = P at *
 go_upto_if 9 with fail
 go_cut [6] (fun s6 wx => ∃ ty j hb bad1, s6 = .bool hb ∧ FPSt b s j bad1 R P ty (.slice none 0 0) [] (P + 1 ≤ ·) w wx ∧ i ≤ j ∧ j ≤ s.length ∧ ty.length ≤ s.length ∧ Hid ((bad = true → bad1 = true) ∧ (bad = false → bad1 = false ∧ HeadOk s i ty j hb)))
 case first =>
  cases bg with
  | true =>
   go_wp2_with fail
   refine (ident b s i bad _ hs hi ST1.out.st.rdr).mono ?_
   rintro e w2 ⟨t, j1, bad1, rfl, hr1, hb1, g1, g1', htl, HG⟩
   have ST4 := Lib.hid (ST1.out.step hr1 hb1)
   clear hr1 hb1 ST1
   go_wp2_with fail
   refine (lowerF t _ (by omega)).mono ?_
   rintro e w3 ⟨rfl, b3⟩
   have st5 := ST4.out.below b3
   obtain ⟨hcp, hfp⟩ := cells_of st5.p
   have hlp := st5.p.lt
   have ST5 := Lib.hid st5
   clear st5 b3 ST4
   go_wp2_with fail
   go_meet
   refine ⟨_, j1, true, bad1, rfl, ST5.out.typed _, g1, g1', by rw [lower_length]; exact htl, Lib.hid ⟨HG.out.1, fun hb => ?_⟩⟩
   rcases HG.out.2 hb with ⟨_, h⟩ | ⟨rfl, h⟩
   ·obtain ⟨n, r, h2⟩ := ident_begins HBg.out
    rw [h] at h2; cases h2
   ·exact ⟨rfl, head_name HBg.out h⟩
  | false =>
   go_wp2_with fail
   refine (take_b b s 42 i bad _ hs hi ST1.out.st.rdr).mono ?_
   rintro e w2 ⟨B, j1, rfl, hr1, hb1, g1, g1', HT⟩
   have ST4 := Lib.hid (ST1.out.step hr1 hb1)
   clear hr1 hb1 ST1
   cases B with
   | true =>
    have HJ : Hid (bad = false → bad = false ∧ HeadOk s i [] j1 true) := Lib.hid (fun hb => ⟨hb, by
     rcases HT.out with ⟨_, h1, h2⟩ | ⟨h, _⟩
     ·exact head_star h1 h2
     ·cases h⟩)
    clear HT
    go_wp2_with fail
    go_meet
    exact ⟨[], j1, true, bad, rfl, ST4.out, g1, g1', Nat.zero_le _, Lib.hid ⟨fun h => h, HJ.out⟩⟩
   | false =>
    have HJ : Hid (bad = false → bad = false ∧ HeadOk s i [] j1 false) := Lib.hid (fun hb => ⟨hb, by
     rcases HT.out with ⟨h, _⟩ | ⟨_, h1, h2⟩
     ·cases h
     ·rw [h1]; exact head_none HBg.out h2⟩)
    clear HT
    go_wp2_with fail
    go_meet
    exact ⟨[], j1, false, bad, rfl, ST4.out, g1, g1', Nat.zero_le _, Lib.hid ⟨fun h => h, HJ.out⟩⟩
 case rest =>
  obtain ⟨ty, j0, hb, bad1, rfl, HS0, hij, hjl0, hty, HH⟩ := hcut
  clear ST1 HBg
  obtain ⟨full, hfull⟩ : ∃ f, L.tests (npOf inner) ((s.drop j0).length + 1) (s.drop j0) = f := ⟨_, rfl⟩
  have HFull := Lib.hid hfull
  have HF : Hid (FPartRel b s i j0 inner bad R P ty full hb w wc j0 bad1 hb) := Lib.hid ⟨_, [], HS0, Nat.zero_le _, by simp, ⟨HH.out.1, fun hb => by rw [(HH.out.2 hb).1, ← hfull]; exact L.PInv.start⟩, fun _ t h => (by cases h)⟩
  clear hfull HS0
  go_wp2_with fail
  go_loopw [6] (fun s6 wr => ∃ (j : Nat) (bad2 q : Bool), s6 = .bool q ∧ Hid (FPartRel b s i j0 inner bad R P ty full hb w wr j bad2 q) ∧ j0 ≤ j ∧ j ≤ s.length) (fun _ wr => s.length - (match wr.cell? ⟨b, 1, none⟩ with | some (.int _ q) => q.toNat | _ => 0))
  case atStart => exact ⟨j0, bad1, hb, rfl, HF, Nat.le_refl _, hjl0⟩
  case round =>
   obtain ⟨j, bad2, q, rfl, HRel, hj0, hjl⟩ := hrel
   clear HF
   obtain ⟨v, ts, hst, htl, hq, hinv, hno⟩ := HRel.out
   obtain ⟨ao, cap0, hv⟩ := hst.row.form
   have hbR : b < R := hst.hb
   have hRP := hst.hP
   have hlbr := hst.st.lt
   have hlPr := hst.p.lt
   have hlRr := hst.st.res.lt
   obtain ⟨hcb, hfb⟩ := cells_of hst.st.rdr
   obtain ⟨hcp, hfp⟩ := cells_of hst.p
   obtain ⟨hcr, hfr⟩ := cells_of hst.st.res
   unfold pzero at hcr hfr
   have HQ := Lib.hid hq
   have HNo := Lib.hid hno
   have HInv := Lib.hid hinv
   have ST := Lib.hid hst
   generalize hLL : ts.length = LL at hv
   subst hv
   have HLL := Lib.hid hLL
   rw [hLL] at htl
   clear hst hinv hno hq hLL HRel
   have n1 : b ≠ P := by omega
   have n2 : P ≠ b := by omega
   have n3 : R ≠ P := by omega
   have n4 : P ≠ R := by omega
   have n5 : b ≠ R := by omega
   have n6 : R ≠ b := by omega
   cases bad2 with
   | true =>
    have c2 : wr.cell? ⟨b, 2, none⟩ = some (.bool true) := hcb 2
    have f2 : wr.frozen? ⟨b, 2, none⟩ = false := hfb 2 (by show 2 < 3; omega)
    clear hcb hfb HPs
    have HG : Hid ((bad = true → true = true) ∧ (bad = false → Got true (L.part (npOf inner) (s.drop i)) ((ty, ts), s.drop j))) := Lib.hid ⟨fun _ => rfl, fun hb => Got.no (part_bad (HH.out.2 hb).2 (by
     rw [HFull.out]
     rcases HInv.out.2 hb with ⟨_, h⟩ | ⟨h, _⟩
     ·exact h
     ·cases h))⟩
    clear HH HFull HQ
    go_wp2_with fail
    refine bodyPost_ret (v := .agg #[.int .i64 0, .string ⟨ty.toArray⟩, .slice ao LL cap0]) (by simp [results, Tryz.results131, go_sem, hcr, hcp, n1, n2, n3, n4, n5, n6]) rfl ⟨ty, _, ts, j, true, rfl, Lib.hid ?_, ?_, ?_, by omega, hjl, hty, Lib.hid (by rw [HLL.out]; exact htl), HNo, ⟨fun _ => rfl, HG.out.2⟩⟩
    ·exact (ST.out.fail_.three _ _ _).2.2
    ·exact (ST.out.fail_.three _ _ _).1
    ·exact (ST.out.fail_.three _ _ _).2.1
   | false =>
    have hbad : bad = false := by
     cases bad with
     | false => rfl
     | true => exact absurd (HInv.out.1 rfl) (by simp)
    subst hbad
    have HH0 := Lib.hid (HH.out.2 rfl).2
    have HIn := Lib.hid (HInv.out.2 rfl)
    have c2 : wr.cell? ⟨b, 2, none⟩ = some (.bool false) := hcb 2
    have c1 : wr.cell? ⟨b, 1, none⟩ = some (.int .i64 j) := hcb 1
    have HC1 := Lib.hid c1
    have hPT : P < wr.heap.size := hlPr
    have STr : Hid (FPSt b s j false R P ty (.slice ao LL cap0) ts (fun k => P + 1 ≤ k ∧ k ≠ wr.heap.size) w (wr.alloc (.cells tzero 150))) := Lib.hid ((ST.out.thin (fun g hg hlt => ⟨hg, by omega⟩) (fun g hg => hg.1)).alloc _)
    have XTr : Hid (Blk wr.heap.size tzero 150 (wr.alloc (.cells tzero 150))) := Lib.hid (Blk.new wr tzero _)
    clear hcb hfb hcp hfp hcr hfr c1 ST HH HInv
    go_wp2_with fail
    clear c2
    generalize hTT : wr.heap.size = TB at *
    have hbT : b < TB := by omega
    have m1 : TB ≠ b := by omega
    refine (take_b b s 35 j false _ hs hjl STr.out.st.rdr).mono ?_
    rintro e w35 ⟨B35, j35, rfl, hr1, hb1, g1, g1', HT35⟩
    have ST1 := Lib.hid (STr.out.step hr1 hb1)
    have X1 := Lib.hid (XTr.out.but hb1 m1)
    have zT : TB < w35.heap.size := X1.out.lt
    clear hr1 hb1 STr XTr
    go_upto_if 23 with fail
    go_cut [7] (fun s7 wx => s7 = .pointer (some ⟨TB, 0, none⟩) ∧ FRound b s j inner R P TB ty (.slice ao LL cap0) ts w wx)
    case first =>
     cases B35 with
     | true =>
      have HO : Hid (∃ u, L.one (npOf inner) (s.drop j) = some u ∧ u = (match L.ident (s.drop j35) with | none => none | some (n, u) => some (⟨L.tst 1 n, []⟩, u))) := Lib.hid (by
       rcases HT35.out with ⟨_, _, h⟩ | ⟨h, _⟩
       ·exact ⟨_, by rw [h, L.one_35]; rfl, rfl⟩
       ·cases h)
      have hj35 : j < j35 := by
       rcases HT35.out with ⟨_, h, _⟩ | ⟨h, _⟩
       ·omega
       ·cases h
      clear HT35
      go_wp2_with fail
      refine (ident b s j35 false _ hs g1' ST1.out.st.rdr).mono ?_
      rintro e w2 ⟨t, j2, bad2, rfl, hr2, hb2, g2, g2', htt, HG⟩
      have ST2 := Lib.hid (ST1.out.step hr2 hb2)
      have X2 := Lib.hid (X1.out.but hb2 m1)
      obtain ⟨hcx, hfx⟩ := cells_of X2.out
      unfold tzero at hcx hfx
      have hlx := X2.out.lt
      clear hr2 hb2 ST1 X1
      go_wp2_with fail
      go_meet
      refine ⟨rfl, ⟨⟨1, t, [], 0, 0⟩, []⟩, .slice none 0 0, j2, bad2, ST2.out.six (by omega) (fun h => h.2 rfl) _ _ _ _ _ _, Blk.six X2.out _ _ _ _ _ _, ListAt.nil, by omega, g2', fun _ => rfl, ?_⟩
      obtain ⟨u, h1, h2⟩ := HO.out
      exact ⟨u, h1, by rw [h2]; exact got_name (HG.out.2 (by simp))⟩
     | false =>
      obtain ⟨hjj, hn35⟩ : j35 = j ∧ ∀ r, s.drop j ≠ 35 :: r := by
       rcases HT35.out with ⟨h, _⟩ | ⟨_, h1, h2⟩
       ·cases h
       ·exact ⟨h1, h2⟩
      subst hjj
      have HN35 := Lib.hid hn35
      clear HT35 hn35
      go_wp2_with fail
      refine (take_b b s 46 j35 false _ hs hjl ST1.out.st.rdr).mono ?_
      rintro e w46 ⟨B46, j46, rfl, hr1, hb1, g3, g3', HT46⟩
      have ST3 := Lib.hid (ST1.out.step hr1 hb1)
      have X3 := Lib.hid (X1.out.but hb1 m1)
      clear hr1 hb1 ST1 X1
      cases B46 with
      | true =>
       have HO : Hid (∃ u, L.one (npOf inner) (s.drop j35) = some u ∧ u = (match L.ident (s.drop j46) with | none => none | some (n, u) => some (⟨L.tst 2 n, []⟩, u))) := Lib.hid (by
        rcases HT46.out with ⟨_, _, h⟩ | ⟨h, _⟩
        ·exact ⟨_, by rw [h, L.one_46]; rfl, rfl⟩
        ·cases h)
       have hj35 : j35 < j46 := by
        rcases HT46.out with ⟨_, h, _⟩ | ⟨h, _⟩
        ·omega
        ·cases h
       clear HT46
       go_wp2_with fail
       refine (ident b s j46 false _ hs g3' ST3.out.st.rdr).mono ?_
       rintro e w2 ⟨t, j2, bad2, rfl, hr2, hb2, g2, g2', htt, HG⟩
       have ST2 := Lib.hid (ST3.out.step hr2 hb2)
       have X2 := Lib.hid (X3.out.but hb2 m1)
       obtain ⟨hcx, hfx⟩ := cells_of X2.out
       unfold tzero at hcx hfx
       have hlx := X2.out.lt
       clear hr2 hb2 ST3 X3
       go_wp2_with fail
       go_meet
       refine ⟨rfl, ⟨⟨2, t, [], 0, 0⟩, []⟩, .slice none 0 0, j2, bad2, ST2.out.six (by omega) (fun h => h.2 rfl) _ _ _ _ _ _, Blk.six X2.out _ _ _ _ _ _, ListAt.nil, by omega, g2', fun _ => rfl, ?_⟩
       obtain ⟨u, h1, h2⟩ := HO.out
       exact ⟨u, h1, by rw [h2]; exact got_name (HG.out.2 (by simp))⟩
      | false =>
       obtain ⟨hjj, hn46⟩ : j46 = j35 ∧ ∀ r, s.drop j35 ≠ 46 :: r := by
        rcases HT46.out with ⟨h, _⟩ | ⟨_, h1, h2⟩
        ·cases h
        ·exact ⟨h1, h2⟩
       subst hjj
       have HN46 := Lib.hid hn46
       clear HT46 hn46
       go_wp2_with fail
       refine (take_b b s 91 j46 false _ hs hjl ST3.out.st.rdr).mono ?_
       rintro e w91 ⟨B91, j91, rfl, hr1, hb1, g4, g4', HT91⟩
       have ST4 := Lib.hid (ST3.out.step hr1 hb1)
       have X4 := Lib.hid (X3.out.but hb1 m1)
       clear hr1 hb1 ST3 X3
       cases B91 with
       | true =>
        have HO : Hid (∃ u, L.one (npOf inner) (s.drop j46) = some u ∧ u = (match L.attr (s.drop j91) with | none => none | some (t, u) => some (⟨t, []⟩, u))) := Lib.hid (by
         rcases HT91.out with ⟨_, _, h⟩ | ⟨h, _⟩
         ·exact ⟨_, by rw [h, L.one_91]; rfl, rfl⟩
         ·cases h)
        have hj35 : j46 < j91 := by
         rcases HT91.out with ⟨_, h, _⟩ | ⟨h, _⟩
         ·omega
         ·cases h
        clear HT91
        go_wp2_with fail
        refine (attr b s j91 false _ hs g4' ST4.out.st.rdr).mono ?_
        rintro e w2 ⟨t, j2, bad2, rfl, hr2, hb2, g2, g2', HG⟩
        have ST2 := Lib.hid (ST4.out.step hr2 hb2)
        have X2 := Lib.hid (X4.out.but hb2 m1)
        obtain ⟨hcx, hfx⟩ := cells_of X2.out
        unfold tzero at hcx hfx
        have hlx := X2.out.lt
        clear hr2 hb2 ST4 X4
        unfold tval tcells
        go_wp2_with fail
        go_meet
        refine ⟨rfl, ⟨t, []⟩, .slice none 0 0, j2, bad2, ST2.out.six (by omega) (fun h => h.2 rfl) _ _ _ _ _ _, Blk.six X2.out _ _ _ _ _ _, ListAt.nil, by omega, g2', fun _ => rfl, ?_⟩
        obtain ⟨u, h1, h2⟩ := HO.out
        exact ⟨u, h1, by rw [h2]; exact got_attr (HG.out.2 (by simp))⟩
       | false =>
        obtain ⟨hjj, hn91⟩ : j91 = j46 ∧ ∀ r, s.drop j46 ≠ 91 :: r := by
         rcases HT91.out with ⟨h, _⟩ | ⟨_, h1, h2⟩
         ·cases h
         ·exact ⟨h1, h2⟩
        subst hjj
        have HN91 := Lib.hid hn91
        clear HT91 hn91
        go_wp2_with fail
        refine (take_b b s 58 j91 false _ hs hjl ST4.out.st.rdr).mono ?_
        rintro e w58 ⟨B58, j58, rfl, hr1, hb1, g5, g5', HT58⟩
        have ST5 := Lib.hid (ST4.out.step hr1 hb1)
        have X5 := Lib.hid (X4.out.but hb1 m1)
        clear hr1 hb1 ST4 X4
        cases B58 with
        | true =>
         have HO : Hid (L.one (npOf inner) (s.drop j91) = some (L.pseudo (npOf inner) (s.drop j58))) := Lib.hid (by
          rcases HT58.out with ⟨_, _, h⟩ | ⟨h, _⟩
          ·rw [h, L.one_58]
          ·cases h)
         have hj35 : j91 < j58 := by
          rcases HT58.out with ⟨_, h, _⟩ | ⟨h, _⟩
          ·omega
          ·cases h
         clear HT58
         go_wp2_with fail
         refine (HPs.out j58 false _ g5' ST5.out.st.rdr).mono ?_
         rintro e w2 ⟨t, nv, j2, bad2, rfl, HNv, hr2, hb2, g2, g2', HNt, HG⟩
         obtain ⟨an, cn, hnv⟩ := HNv.out.form
         generalize hln : t.nots.length = ln at hnv
         subst hnv
         clear hln
         have zT5 : TB < w58.heap.size := X5.out.lt
         have HNk : Hid (NotsAt (fun k => (P + 1 ≤ k ∧ k ≠ TB) ∧ (Value.slice ao LL cap0).ownBlock ≠ some k) w2 (.slice an ln cn) t.nots) := Lib.hid (keeps_nots HNv.out (Kept.wide (fun g hg => ⟨⟨(ST5.out.fresh hg).1, by show g ≠ TB; have : w58.heap.size ≤ g := hg; omega⟩, (ST5.out.fresh hg).2⟩)))
         have ST2 := Lib.hid (ST5.out.step hr2 hb2)
         have X2 := Lib.hid (X5.out.but hb2 m1)
         obtain ⟨hcx, hfx⟩ := cells_of X2.out
         unfold tzero at hcx hfx
         have hlx := X2.out.lt
         clear hr2 hb2 ST5 X5 HNv
         unfold tval tcells
         go_wp2_with fail
         go_meet
         exact ⟨rfl, t, .slice an ln cn, j2, bad2, ST2.out.six (by omega) (fun h => h.2 rfl) _ _ _ _ _ _, Blk.six X2.out _ _ _ _ _ _, keeps_nots HNk.out (Kept.six (Kept.refl _) (fun h => h.1.2 rfl) _ _ _ _ _ _), by omega, g2', HNt.out, ⟨_, HO.out, HG.out.2 (by simp)⟩⟩
        | false =>
         obtain ⟨hjj, hn58⟩ : j58 = j91 ∧ ∀ r, s.drop j91 ≠ 58 :: r := by
          rcases HT58.out with ⟨h, _⟩ | ⟨_, h1, h2⟩
          ·cases h
          ·exact ⟨h1, h2⟩
         subst hjj
         have HOne : Hid (L.one (npOf inner) (s.drop j58) = none) := Lib.hid (L.one_none HN35.out HN46.out HN91.out hn58)
         have HG : Hid (Got (!q) (L.part (npOf inner) (s.drop i)) ((ty, ts), s.drop j58)) := Lib.hid (by
          have := part_gotF HH0.out (by rw [HFull.out]; exact HIn.out.last HOne.out)
          rw [HQ.out]; exact this)
         have st := ST5.out
         obtain ⟨hcb, hfb⟩ := cells_of st.st.rdr
         obtain ⟨hcp, hfp⟩ := cells_of st.p
         obtain ⟨hcr, hfr⟩ := cells_of st.st.res
         unfold pzero at hcr hfr
         have hlb5 := st.st.lt
         have hlp5 := st.p.lt
         have hlr5 := st.st.res.lt
         have c2 : w58.cell? ⟨b, 2, none⟩ = some (.bool false) := hcb 2
         have f2 : w58.frozen? ⟨b, 2, none⟩ = false := hfb 2 (by show 2 < 3; omega)
         clear st HOne HN35 HN46 HN91 hn58 HT58 HPs HH0 HQ HIn HFull hcb hfb
         cases q
         all_goals
          go_wp2_with fail
          refine bodyPost_ret (v := .agg #[.int .i64 0, .string ⟨ty.toArray⟩, .slice ao LL cap0]) (by simp [results, Tryz.results131, go_sem, hcr, hcp, n1, n2, n3, n4, n5, n6]) rfl ⟨ty, _, ts, j58, _, rfl, Lib.hid ?_, ?_, ?_, by omega, hjl, hty, Lib.hid (by rw [HLL.out]; exact htl), HNo, Lib.hid ⟨fun h => (by cases h), fun _ => HG.out⟩⟩
          ·exact (ST5.out.fail_.three _ _ _).2.2
          ·exact (ST5.out.fail_.three _ _ _).1
          ·exact (ST5.out.fail_.three _ _ _).2.1
    case rest =>
     obtain ⟨rfl, t, nv, j2, bad2, hst2, hx2, hnv2, hj2, hjl2, hnt, hone⟩ := hcut
     clear HT35 ST1 X1 HPs zT
     obtain ⟨an, cn, hnf⟩ := ListAt.form hnv2
     generalize hln : t.nots.length = ln at hnf
     subst hnf
     clear hln
     have HOne := Lib.hid hone
     have HNt := Lib.hid hnt
     have ST6 := Lib.hid (hst2.alloc (.cells #[.int .i64 t.t.kind, .string ⟨t.t.name.toArray⟩, .string ⟨t.t.value.toArray⟩, .int .i64 t.t.a, .int .i64 t.t.b, .slice an ln cn] 150))
     have HNv : Hid (NotsAt (fun k => (P + 1 ≤ k ∧ k ≠ TB) ∧ (Value.slice ao LL cap0).ownBlock ≠ some k) (wc.alloc (.cells #[.int .i64 t.t.kind, .string ⟨t.t.name.toArray⟩, .string ⟨t.t.value.toArray⟩, .int .i64 t.t.a, .int .i64 t.t.b, .slice an ln cn] 150)) (.slice an ln cn) t.nots) := Lib.hid (keeps_nots hnv2 ((Kept.refl wc).alloc _))
     obtain ⟨hcx, hfx⟩ := cells_of hx2
     unfold tcells at hcx hfx
     obtain ⟨hcp, hfp⟩ := cells_of hst2.p
     have hlp := hst2.p.lt
     have hlx := hx2.lt
     clear hst2 hx2 hnv2 hone hnt
     obtain ⟨qs, hqs, hown0, hI, hnil, _⟩ := ST6.out.row
     rw [HLL.out] at hown0
     have HOwn := Lib.hid hown0
     have HQs := Lib.hid hqs
     have HI := Lib.hid hI
     clear hqs hown0 hI hnil
     obtain ⟨i0, hi0, hz0, hz1, hz2⟩ := info_parts infoTest
     go_wp2_with (at_builtin; refine wpList_append_lies _ rfl _ _ 103 rfl (P + 1) 150 i0 _ 6 80 Tryz.underlying103 hi0 hz0 hz1 hz2 rfl (by decide) (.slice ao LL cap0) LL (qs.flatMap fun p => cTest p.1 p.2) rfl HOwn.out ⟨wc.heap.size, 0, none⟩ 1 1 [.int .i64 t.t.kind, .string ⟨t.t.name.toArray⟩, .string ⟨t.t.value.toArray⟩, .int .i64 t.t.a, .int .i64 t.t.b, .slice an ln cn] rfl rfl ?c1 ?c2 ?c3 ?c4 ?c5 ?c6 (wc.heap.size + 1) ?c7 ?_)
     case c2 => simp [Value.oneCell']
     case c4 => unfold maxLen; omega
     case c5 => omega
     case c6 => first | omega | (go_goals; omega)
     intro gg cap2 w8 hown8 hgrow hat hlt8
     have hx := FPSt.app ST6.out (t := t) (nv := .slice an ln cn) HQs.out HI.out (by rw [HLL.out]; exact hown8) hgrow (by simpa using hat) ⟨by simp; omega, by simp; omega⟩ HNv.out
     rw [HLL.out] at hx
     have hbP := ST6.out.p5 hgrow
     obtain ⟨hcp8, hfp8⟩ := cells_of hbP
     have hlp8 := hbP.lt
     have HN : Hid (FPartRel b s i j0 inner false R P ty full hb w (w8.setCell ⟨P, 2, none⟩ (.slice (some ⟨gg, 0, none⟩) (LL + 1) cap2)) j2 bad2 true) := Lib.hid ⟨_, ts ++ [t], hx.thin (fun g hg _ => hg.1) (fun g hg => hg), by rw [List.length_append, HLL.out]; show LL + 1 ≤ _; omega, by simp, ⟨fun h => (by cases h), fun _ => (by obtain ⟨o, h1, h2⟩ := HOne.out; exact HIn.out.more h1 h2 hj2 hjl2)⟩, fun hin x hx => (List.mem_append.1 hx).elim (HNo.out hin x) (fun h => (by have e := List.mem_singleton.1 h; subst e; exact HNt.out hin))⟩
     have HM : Hid ((w8.setCell ⟨P, 2, none⟩ (.slice (some ⟨gg, 0, none⟩) (LL + 1) cap2)).cell? ⟨b, 1, none⟩ = some (.int .i64 j2)) := Lib.hid ((cells_of hx.st.rdr).1 1)
     clear hx hbP
     go_wp2_with fail
     go_roundw
     case rel => exact ⟨j2, bad2, true, rfl, HN, by omega, hjl2⟩
     case measure =>
      rw [HM.out, HC1.out]
      show s.length - ((j2 : Nat) : Int).toNat < s.length - ((j : Nat) : Int).toNat
      omega
end F
end Go.Proofs.YtafkeolpadfjfaaGreatDoor
namespace Go.Proofs.YtafkeolpadfjfaaGreatDoor
open Go.RowKit
namespace F
open H K
/-- The reader, the block of the result, and the parts so far (X holds their slice). -/
structure FSelSt (b : Nat) (s : List UInt8) (j : Nat) (bad : Bool) (R X : Nat) (v : Value) (ps : List L.Part) (w0 w : World) : Prop where
 st : FdSt b s j bad R #[.slice none 0 0] 94 w0 w
 x : Blk X #[v] 94 w
 row : OwnIn cPart IPart (fun k => R + 1 ≤ k ∧ k ≠ X) (R + 1) 105 3 w v ps
 hX : R < X
section
variable {b : Nat} {s : List UInt8} {j j' : Nat} {bad bad' : Bool} {R X : Nat} {v : Value} {ps : List L.Part} {w0 w w' : World}
theorem FSelSt.step (h : FSelSt b s j bad R X v ps w0 w) (hr : IsRdF b s j' bad' w') (hB : But b w w') : FSelSt b s j' bad' R X v ps w0 w' :=
 have h1 := h.st.hb
 have h2 := h.st.hR
 have h3 := h.hX
 ⟨h.st.step hr hB, h.x.but hB (by omega), h.row.keep keeps_part ⟨hB.size, fun g hg hlt => ⟨hg, hB.block g hlt (by omega)⟩⟩, h.hX⟩
theorem FSelSt.drewN (h : FSelSt b s j bad R X v ps w0 w) (n : Nat) : FSelSt b s j bad R X v ps w0 (w.drewN n) :=
 ⟨h.st.drewN n, h.x, h.row.keep keeps_part ⟨Nat.le_refl _, fun g hg _ => ⟨hg, rfl⟩⟩, h.hX⟩
theorem FSelSt.alloc (h : FSelSt b s j bad R X v ps w0 w) (o : Obj) : FSelSt b s j bad R X v ps w0 (w.alloc o) :=
 ⟨h.st.alloc o, h.x.alloc o, h.row.keep keeps_part ((Kept.refl w).alloc o), h.hX⟩
/-- The parts into the result. -/
theorem FSelSt.give (h : FSelSt b s j bad R X v ps w0 w) : IsRdF b s j bad (w.setCell ⟨R, 0, none⟩ v) ∧ But b w0 (w.setCell ⟨R, 0, none⟩ v) ∧ PartsAt (w0.heap.size ≤ ·) (w.setCell ⟨R, 0, none⟩ v) v ps := by
 have h1 := h.st.set 0 v
 have h2 := h.st.hR
 refine ⟨h1.rdr, h1.but, ?_⟩
 have k1 : Kept (fun k => R + 1 ≤ k ∧ k ≠ X) (fun k => R + 1 ≤ k ∧ k ≠ X) w (w.setCell ⟨R, 0, none⟩ v) := (Kept.refl w).set (by omega) 0 v
 exact ListAt.keep keeps_part (OwnIn.list keeps_part h.row) (k1.trans (Kept.wide (fun g hg => (by show w0.heap.size ≤ g; omega))))
theorem FSelSt.fresh (h : FSelSt b s j bad R X v ps w0 w) {g : Nat} (hg : w.heap.size ≤ g) : (R + 1 ≤ g ∧ g ≠ X) ∧ v.ownBlock ≠ some g := by
 have h1 := h.x.lt
 have h3 := h.hX
 refine ⟨⟨by omega, by omega⟩, fun he => ?_⟩
 have := (h.row.lt he).2.2
 omega
/-- One more part, behind the append. -/
theorem FSelSt.app (h : FSelSt b s j bad R X v ps w0 w) {w5 : World} {g cap : Nat} {p : L.Part} {nv : Value} {qs : List (L.Part × Value)}
  (hqs : qs.map (·.1) = ps) (hI : ∀ q ∈ qs, IPart (fun k => (R + 1 ≤ k ∧ k ≠ X) ∧ v.ownBlock ≠ some k) w q.2 q.1)
  (hown : w5.ownsRow (R + 1) 105 3 (.slice (some ⟨g, 0, none⟩) (ps.length + 1) cap) (ps.length + 1) ((qs.flatMap fun p => cPart p.1 p.2) ++ cPart p nv))
  (hgrow : w.grownBy w5 v.ownBlock) (hat : v.ownBlock = some g ∨ g = w.heap.size) (hx : TestsAt (fun k => (R + 1 ≤ k ∧ k ≠ X) ∧ v.ownBlock ≠ some k) w nv p.tests) :
  FSelSt b s j bad R X (.slice (some ⟨g, 0, none⟩) (ps.length + 1) cap) (ps ++ [p]) w0 (w5.setCell ⟨X, 0, none⟩ (.slice (some ⟨g, 0, none⟩) (ps.length + 1) cap)) := by
 have hv : ∀ k, v.ownBlock = some k → R + 1 ≤ k ∧ k ≠ X := fun k hk => (h.row.lt hk).1
 have hb := h.st.hb
 have hR := h.st.hR
 have hX := h.hX
 have e1 : ∀ k, k < w.heap.size → (k < R + 1 ∨ k = X) → w5.heap[k]? = w.heap[k]? := fun k h1 h2 =>
  hgrow.block k h1 (fun he => by have := hv k he.symm; omega)
 have r5 : IsRdF b s j bad w5 := (e1 b h.st.lt (by omega)).trans h.st.rdr
 have x5 : Blk X #[v] 94 w5 := (e1 X h.x.lt (Or.inr rfl)).trans h.x
 have R5 : Blk R #[.slice none 0 0] 94 w5 := (e1 R h.st.res.lt (by omega)).trans h.st.res
 have b5 : But b w0 w5 := ⟨hgrow.os.trans h.st.but.os, hgrow.tape.trans h.st.but.tape, hgrow.output.trans h.st.but.output, by have := hgrow.size; have := h.st.but.size; omega, fun k hk hne =>
  (e1 k (by have := h.st.but.size; omega) (by omega)).trans (h.st.but.block k hk hne)⟩
 have s5 : FdSt b s j bad R #[.slice none 0 0] 94 w0 w5 := ⟨r5, R5, b5, hb, hR⟩
 refine ⟨s5.far (by omega) (by omega) 0 _, H.Blk.set x5 0 _, OwnIn.keep keeps_part (w := w5) ?_ ((Kept.refl w5).set (by omega) 0 _), hX⟩
 refine OwnIn.append (I := IPart) (c := cPart) (x := p) (vx := nv) keeps_part (w := w) (v := v) hqs hown hI hgrow ?_ hx
 rcases hat with h1 | h1
 ·exact Or.inl ⟨h1, hv g h1⟩
 ·exact Or.inr ⟨by omega, by rw [h1]; have := h.x.lt; omega⟩
theorem FSelSt.x5 (h : FSelSt b s j bad R X v ps w0 w) {w5 : World} (hgrow : w.grownBy w5 v.ownBlock) : Blk X #[v] 94 w5 :=
 (hgrow.block X h.x.lt (fun he => by have := (h.row.lt he.symm).1; omega)).trans h.x
end
theorem infoPart : (Tryz.prog.info? 105).map (fun i => (i.zero, i.size, i.bytes)) = some (some (.agg pzero), 3, 48) := by kernel_rfl
/-- Behind the first part. -/
theorem FSelSt.start {b : Nat} {s : List UInt8} {j : Nat} {bad : Bool} {w w1 : World} {ty : List UInt8} {V : Value} {ts : List L.Test} (h : FdSt b s j bad w.heap.size #[.slice none 0 0] 94 w w1)
  (hT : TestsAt (w.heap.size + 1 ≤ ·) w1 V ts) :
  FSelSt b s j bad w.heap.size (w1.heap.size + 1) (.slice (some ⟨w1.heap.size, 0, none⟩) 1 1) [⟨0, ty, ts⟩] w
   ((w1.alloc (.cells #[.int .i64 0, .string ⟨ty.toArray⟩, V] 105)).alloc (.cells #[.slice (some ⟨w1.heap.size, 0, none⟩) 1 1] 94)) := by
 have h1 := h.res.lt
 refine ⟨(h.alloc _).alloc _, ?_, ?_, by omega⟩
 ·have := Blk.new (w1.alloc (.cells #[.int .i64 0, .string ⟨ty.toArray⟩, V] 105)) #[.slice (some ⟨w1.heap.size, 0, none⟩) 1 1] 94
  have e : (w1.alloc (.cells #[.int .i64 0, .string ⟨ty.toArray⟩, V] 105)).heap.size = w1.heap.size + 1 := by simp
  rw [e] at this
  exact this
 ·refine OwnIn.keep keeps_part (w := w1.alloc (.cells #[.int .i64 0, .string ⟨ty.toArray⟩, V] 105)) ?_ ((Kept.refl _).alloc _)
  exact OwnIn.one (c := cPart) (I := IPart) (x := ⟨0, ty, ts⟩) (vx := V) w1 (by omega) rfl ⟨by omega, by omega⟩ keeps_part (keeps_tests hT ⟨Nat.le_refl _, fun g hg hlt => ⟨⟨⟨hg, by omega⟩, hlt⟩, rfl⟩⟩)
/-- What reading a selector comes to: the reference leaves some faults to its caller. -/
def GotS (bad' : Bool) (o : Option (List L.Part × List UInt8)) (ps : List L.Part) (r : List UInt8) : Prop :=
 (bad' = true ∧ o = none) ∨ (bad' = false ∧ (o = some (ps, r) ∨ (o = none ∧ L.space r = r ∧ ∃ c u, r = c :: u ∧ c ≠ 44)))
def FSel (b : Nat) (s : List UInt8) (i : Nat) (o : Option (List L.Part × List UInt8)) (w : World) (e : Ending) (w' : World) : Prop :=
 ∃ (v : Value) (ps : List L.Part) (j : Nat) (bad' : Bool), e = .returned (.agg #[v]) ∧ Hid (PartsAt (w.heap.size ≤ ·) w' v ps) ∧ IsRdF b s j bad' w' ∧ But b w w' ∧ i ≤ j ∧ j ≤ s.length ∧ Hid (ps.length ≤ j - i + 1) ∧ Hid (GotS bad' o ps (s.drop j))
/-- The combinator, as the reference finds it behind the space. -/
def JoinF (s : List UInt8) (j j2 m j3 : Nat) : Prop :=
 (m = 0 ∧ j3 = j2 ∧ (L.join (s.drop j) = some none ∨ (L.join (s.drop j) = none ∧ ∃ c u, s.drop j2 = c :: u ∧ c ≠ 44))) ∨
 (0 < m ∧ m ≤ 4 ∧ L.join (s.drop j) = some (some (m, L.space (s.drop j3))) ∧ j < j3)
section
variable {s : List UInt8} {j j2 j3 : Nat}
theorem joinF_mark {c : UInt8} {m : Nat} (h2 : s.drop j2 = L.space (s.drop j)) (hj : j ≤ j2) (h : s.drop j2 = c :: s.drop j3) (h3 : j3 = j2 + 1) (hc : (c = 62 ∧ m = 2) ∨ (c = 43 ∧ m = 3) ∨ (c = 126 ∧ m = 4)) : JoinF s j j2 m j3 := by
 refine Or.inr ⟨by omega, by omega, ?_, by omega⟩
 have hsp : L.space (s.drop j) = c :: s.drop j3 := h2 ▸ h
 rcases hc with ⟨rfl, rfl⟩ | ⟨rfl, rfl⟩ | ⟨rfl, rfl⟩
 ·rw [L.join_mark hsp (by decide)]; rfl
 ·rw [L.join_mark hsp (by decide)]; rfl
 ·rw [L.join_mark hsp (by decide)]; rfl
theorem space_space (l : List UInt8) : L.space (L.space l) = L.space l := by
 unfold L.space
 induction l with
 | nil => rfl
 | cons c r ih =>
  by_cases h : T.sp c = true
  ·rw [List.dropWhile_cons_of_pos h]; exact ih
  ·rw [List.dropWhile_cons_of_neg h, List.dropWhile_cons_of_neg h]
theorem joinF_end (h2 : s.drop j2 = L.space (s.drop j)) (h : s.drop j2 = []) : JoinF s j j2 0 j2 :=
 Or.inl ⟨rfl, rfl, Or.inl (L.join_nil (h2 ▸ h))⟩
theorem joinF_comma {u : List UInt8} (h2 : s.drop j2 = L.space (s.drop j)) (h : s.drop j2 = 44 :: u) : JoinF s j j2 0 j2 :=
 Or.inl ⟨rfl, rfl, Or.inl (L.join_comma (h2 ▸ h))⟩
theorem jx_no {c : UInt8} (h1 : c ≠ 62) (h2 : c ≠ 43) (h3 : c ≠ 126) : ¬ 0 < L.jx c := by
 unfold L.jx
 by_cases h0 : c = 32
 ·rw [if_pos h0]; omega
 ·rw [if_neg h0, if_neg h1, if_neg h2, if_neg h3]; omega
theorem joinF_one {c : UInt8} {u : List UInt8} (h2 : s.drop j2 = L.space (s.drop j)) (hl : j2 ≤ s.length) (h : s.drop j2 = c :: u) (hc : ¬ 0 < L.jx c) (h44 : c ≠ 44) (hj : j < j2) : JoinF s j j2 1 j2 := by
 refine Or.inr ⟨by omega, by omega, ?_, hj⟩
 have hsp : L.space (s.drop j) = c :: u := h2 ▸ h
 rw [L.join_other hsp hc h44, if_pos, h2, space_space]
 rw [← h2, List.length_drop, List.length_drop]
 omega
theorem joinF_none {c : UInt8} {u : List UInt8} (h2 : s.drop j2 = L.space (s.drop j)) (hl : j2 ≤ s.length) (h : s.drop j2 = c :: u) (hc : ¬ 0 < L.jx c) (h44 : c ≠ 44) (hj : j = j2) : JoinF s j j2 0 j2 := by
 refine Or.inl ⟨rfl, rfl, Or.inr ⟨?_, c, u, h, h44⟩⟩
 have hsp : L.space (s.drop j) = c :: u := h2 ▸ h
 rw [L.join_other hsp hc h44, if_neg]
 rw [← h2, hj]
 omega
end
def FSelRel (b : Nat) (s : List UInt8) (i R X : Nat) (full : Option (List L.Part × List UInt8)) (w wr : World) (j : Nat) (bad : Bool) : Prop :=
 ∃ v ps, FSelSt b s j bad R X v ps w wr ∧ ps.length ≤ j - i + 1 ∧ L.SInv s j bad ps full
end F
end Go.Proofs.YtafkeolpadfjfaaGreatDoor
