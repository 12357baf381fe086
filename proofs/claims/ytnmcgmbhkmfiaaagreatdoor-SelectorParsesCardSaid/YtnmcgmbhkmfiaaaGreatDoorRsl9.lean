/- What the functions of the reference's reader come to: part, given pseudo. -/
import Derived.Test.YtnmcgmbhkmfiaaaGreatDoorRsl8
import Derived.Deep.RegionLaw
import Derived.Deep.AppendLies
import Derived.Deep.DeepCutAuto
import Derived.OwnWalk
set_option linter.unusedVariables false
set_option linter.unusedSimpArgs false
namespace Go.Proofs.YtnmcgmbhkmfiaaaGreatDoor
open Go.RowKit
namespace F
open H K

set_option maxHeartbeats 16000000 in
set_option maxRecDepth 100000 in
theorem part_of (b : Nat) (s : List UInt8) (i : Nat) (inner bad : Bool) (w : World) (hs : s.length ≤ 1000000) (hi : i ≤ s.length) (hR : IsRdF b s i bad w)
    (hPs : ∀ i bad w, i ≤ s.length → IsRdF b s i bad w → Calls Tryz.prog 57 #[.pointer (some ⟨b, 0, none⟩), .bool inner] w (FTest b s i inner bad (L.pseudo (npOf inner) (s.drop i)) w)) :
    Calls Tryz.prog 35 #[.pointer (some ⟨b, 0, none⟩), .bool inner] w (FPart b s i inner bad (L.part (npOf inner) (s.drop i)) w) := by
  have HR := Lib.hid hR
  have HPs := Lib.hid hPs
  have hlb := lt_of_block hR
  have ST0 := Lib.hid (FPSt.start hR)
  clear hR hPs
  go_enter Tryz.func35, Tryz.ntmps35
  go_wp2_with fail
  refine (begins b s i bad _ hs hi ST0.out.st.rdr).mono ?_
  rintro e w1 ⟨rfl, nn, rfl⟩
  have ST1 := Lib.hid (ST0.out.drewN nn)
  clear ST0
  obtain ⟨bg, hbg⟩ : ∃ q, L.begins (s.drop i) = q := ⟨_, rfl⟩
  have HBg := Lib.hid hbg
  rw [hbg]
  clear hbg
  generalize hW1 : ((w.alloc (.cells pzero 62)).alloc (.cells pzero 62)).drewN nn = W1 at *
  clear hW1
  generalize hRR : w.heap.size = R at *
  generalize hPP : R + 1 = P at *
  go_upto_if 9 with fail
  go_cut [6] (fun s6 wx => ∃ ty j hb bad1, s6 = .bool hb ∧ FPSt b s j bad1 R P ty (.slice none 0 0) [] (P + 1 ≤ ·) w wx ∧ i ≤ j ∧ j ≤ s.length ∧ ty.length ≤ s.length ∧ Hid ((bad = true → bad1 = true) ∧ (bad = false → bad1 = false ∧ HeadOk s i ty j hb)))
  case first =>
    cases bg with
    | true =>
      go_wp2_with fail
      refine (ident b s i bad _ hs hi ST1.out.st.rdr).mono ?_
      rintro e w2 ⟨t, j1, bad1, rfl, hr1, hb1, g1, g1', htl, HG⟩
      have ST4 := Lib.hid (ST1.out.step hr1 hb1)
      clear hr1 hb1 ST1
      go_wp2_with fail
      refine (lowerF t _ (by omega)).mono ?_
      rintro e w3 ⟨rfl, b3⟩
      have st5 := ST4.out.below b3
      obtain ⟨hcp, hfp⟩ := cells_of st5.p
      have hlp := st5.p.lt
      have ST5 := Lib.hid st5
      clear st5 b3 ST4
      go_wp2_with fail
      go_meet
      refine ⟨_, j1, true, bad1, rfl, ST5.out.typed _, g1, g1', by rw [lower_length]; exact htl, Lib.hid ⟨HG.out.1, fun hb => ?_⟩⟩
      rcases HG.out.2 hb with ⟨_, h⟩ | ⟨rfl, h⟩
      · obtain ⟨n, r, h2⟩ := ident_begins HBg.out
        rw [h] at h2; cases h2
      · exact ⟨rfl, head_name HBg.out h⟩
    | false =>
      go_wp2_with fail
      refine (take_b b s 42 i bad _ hs hi ST1.out.st.rdr).mono ?_
      rintro e w2 ⟨B, j1, rfl, hr1, hb1, g1, g1', HT⟩
      have ST4 := Lib.hid (ST1.out.step hr1 hb1)
      clear hr1 hb1 ST1
      cases B with
      | true =>
        have HJ : Hid (bad = false → bad = false ∧ HeadOk s i [] j1 true) := Lib.hid (fun hb => ⟨hb, by
          rcases HT.out with ⟨_, h1, h2⟩ | ⟨h, _⟩
          · exact head_star h1 h2
          · cases h⟩)
        clear HT
        go_wp2_with fail
        go_meet
        exact ⟨[], j1, true, bad, rfl, ST4.out, g1, g1', Nat.zero_le _, Lib.hid ⟨fun h => h, HJ.out⟩⟩
      | false =>
        have HJ : Hid (bad = false → bad = false ∧ HeadOk s i [] j1 false) := Lib.hid (fun hb => ⟨hb, by
          rcases HT.out with ⟨h, _⟩ | ⟨_, h1, h2⟩
          · cases h
          · rw [h1]; exact head_none HBg.out h2⟩)
        clear HT
        go_wp2_with fail
        go_meet
        exact ⟨[], j1, false, bad, rfl, ST4.out, g1, g1', Nat.zero_le _, Lib.hid ⟨fun h => h, HJ.out⟩⟩
  case rest =>
    obtain ⟨ty, j0, hb, bad1, rfl, HS0, hij, hjl0, hty, HH⟩ := hcut
    clear ST1 HBg
    obtain ⟨full, hfull⟩ : ∃ f, L.tests (npOf inner) ((s.drop j0).length + 1) (s.drop j0) = f := ⟨_, rfl⟩
    have HFull := Lib.hid hfull
    have HF : Hid (FPartRel b s i j0 inner bad R P ty full hb w wc j0 bad1 hb) := Lib.hid ⟨_, [], HS0, Nat.zero_le _, by simp, ⟨HH.out.1, fun hb => by rw [(HH.out.2 hb).1, ← hfull]; exact L.PInv.start⟩, fun _ t h => (by cases h)⟩
    clear hfull HS0
    go_wp2_with fail
    go_loopw [6] (fun s6 wr => ∃ (j : Nat) (bad2 q : Bool), s6 = .bool q ∧ Hid (FPartRel b s i j0 inner bad R P ty full hb w wr j bad2 q) ∧ j0 ≤ j ∧ j ≤ s.length) (fun _ wr => s.length - (match wr.cell? ⟨b, 1, none⟩ with | some (.int _ q) => q.toNat | _ => 0))
    case atStart => exact ⟨j0, bad1, hb, rfl, HF, Nat.le_refl _, hjl0⟩
    case round =>
      obtain ⟨j, bad2, q, rfl, HRel, hj0, hjl⟩ := hrel
      clear HF
      obtain ⟨v, ts, hst, htl, hq, hinv, hno⟩ := HRel.out
      obtain ⟨ao, cap0, hv⟩ := hst.row.form
      have hbR : b < R := hst.hb
      have hRP := hst.hP
      have hlbr := hst.st.lt
      have hlPr := hst.p.lt
      have hlRr := hst.st.res.lt
      obtain ⟨hcb, hfb⟩ := cells_of hst.st.rdr
      obtain ⟨hcp, hfp⟩ := cells_of hst.p
      obtain ⟨hcr, hfr⟩ := cells_of hst.st.res
      unfold pzero at hcr hfr
      have HQ := Lib.hid hq
      have HNo := Lib.hid hno
      have HInv := Lib.hid hinv
      have ST := Lib.hid hst
      generalize hLL : ts.length = LL at hv
      subst hv
      have HLL := Lib.hid hLL
      rw [hLL] at htl
      clear hst hinv hno hq hLL HRel
      have n1 : b ≠ P := by omega
      have n2 : P ≠ b := by omega
      have n3 : R ≠ P := by omega
      have n4 : P ≠ R := by omega
      have n5 : b ≠ R := by omega
      have n6 : R ≠ b := by omega
      cases bad2 with
      | true =>
        have c2 : wr.cell? ⟨b, 2, none⟩ = some (.bool true) := hcb 2
        have f2 : wr.frozen? ⟨b, 2, none⟩ = false := hfb 2 (by show 2 < 3; omega)
        clear hcb hfb HPs
        have HG : Hid ((bad = true → true = true) ∧ (bad = false → Got true (L.part (npOf inner) (s.drop i)) ((ty, ts), s.drop j))) := Lib.hid ⟨fun _ => rfl, fun hb => Got.no (part_bad (HH.out.2 hb).2 (by
          rw [HFull.out]
          rcases HInv.out.2 hb with ⟨_, h⟩ | ⟨h, _⟩
          · exact h
          · cases h))⟩
        clear HH HFull HQ
        go_wp2_with fail
        refine bodyPost_ret (v := .agg #[.int .i64 0, .string ⟨ty.toArray⟩, .slice ao LL cap0]) (by simp [results, Tryz.results35, go_sem, hcr, hcp, n1, n2, n3, n4, n5, n6]) rfl ⟨ty, _, ts, j, true, rfl, Lib.hid ?_, ?_, ?_, by omega, hjl, hty, Lib.hid (by rw [HLL.out]; exact htl), HNo, ⟨fun _ => rfl, HG.out.2⟩⟩
        · exact (ST.out.fail_.three _ _ _).2.2
        · exact (ST.out.fail_.three _ _ _).1
        · exact (ST.out.fail_.three _ _ _).2.1
      | false =>
        have hbad : bad = false := by
          cases bad with
          | false => rfl
          | true => exact absurd (HInv.out.1 rfl) (by simp)
        subst hbad
        have HH0 := Lib.hid (HH.out.2 rfl).2
        have HIn := Lib.hid (HInv.out.2 rfl)
        have c2 : wr.cell? ⟨b, 2, none⟩ = some (.bool false) := hcb 2
        have c1 : wr.cell? ⟨b, 1, none⟩ = some (.int .i64 j) := hcb 1
        have HC1 := Lib.hid c1
        have hPT : P < wr.heap.size := hlPr
        have STr : Hid (FPSt b s j false R P ty (.slice ao LL cap0) ts (fun k => P + 1 ≤ k ∧ k ≠ wr.heap.size) w (wr.alloc (.cells tzero 88))) := Lib.hid ((ST.out.thin (fun g hg hlt => ⟨hg, by omega⟩) (fun g hg => hg.1)).alloc _)
        have XTr : Hid (Blk wr.heap.size tzero 88 (wr.alloc (.cells tzero 88))) := Lib.hid (Blk.new wr tzero _)
        clear hcb hfb hcp hfp hcr hfr c1 ST HH HInv
        go_wp2_with fail
        clear c2
        generalize hTT : wr.heap.size = TB at *
        have hbT : b < TB := by omega
        have m1 : TB ≠ b := by omega
        refine (take_b b s 35 j false _ hs hjl STr.out.st.rdr).mono ?_
        rintro e w35 ⟨B35, j35, rfl, hr1, hb1, g1, g1', HT35⟩
        have ST1 := Lib.hid (STr.out.step hr1 hb1)
        have X1 := Lib.hid (XTr.out.but hb1 m1)
        have zT : TB < w35.heap.size := X1.out.lt
        clear hr1 hb1 STr XTr
        go_upto_if 23 with fail
        go_cut [7] (fun s7 wx => s7 = .pointer (some ⟨TB, 0, none⟩) ∧ FRound b s j inner R P TB ty (.slice ao LL cap0) ts w wx)
        case first =>
          cases B35 with
          | true =>
            have HO : Hid (∃ u, L.one (npOf inner) (s.drop j) = some u ∧ u = (match L.ident (s.drop j35) with | none => none | some (n, u) => some (⟨L.tst 1 n, []⟩, u))) := Lib.hid (by
              rcases HT35.out with ⟨_, _, h⟩ | ⟨h, _⟩
              · exact ⟨_, by rw [h, L.one_35]; rfl, rfl⟩
              · cases h)
            have hj35 : j < j35 := by
              rcases HT35.out with ⟨_, h, _⟩ | ⟨h, _⟩
              · omega
              · cases h
            clear HT35
            go_wp2_with fail
            refine (ident b s j35 false _ hs g1' ST1.out.st.rdr).mono ?_
            rintro e w2 ⟨t, j2, bad2, rfl, hr2, hb2, g2, g2', htt, HG⟩
            have ST2 := Lib.hid (ST1.out.step hr2 hb2)
            have X2 := Lib.hid (X1.out.but hb2 m1)
            obtain ⟨hcx, hfx⟩ := cells_of X2.out
            unfold tzero at hcx hfx
            have hlx := X2.out.lt
            clear hr2 hb2 ST1 X1
            go_wp2_with fail
            go_meet
            refine ⟨rfl, ⟨⟨1, t, [], 0, 0⟩, []⟩, .slice none 0 0, j2, bad2, ST2.out.six (by omega) (fun h => h.2 rfl) _ _ _ _ _ _, Blk.six X2.out _ _ _ _ _ _, ListAt.nil, by omega, g2', fun _ => rfl, ?_⟩
            obtain ⟨u, h1, h2⟩ := HO.out
            exact ⟨u, h1, by rw [h2]; exact got_name (HG.out.2 (by simp))⟩
          | false =>
            obtain ⟨hjj, hn35⟩ : j35 = j ∧ ∀ r, s.drop j ≠ 35 :: r := by
              rcases HT35.out with ⟨h, _⟩ | ⟨_, h1, h2⟩
              · cases h
              · exact ⟨h1, h2⟩
            subst hjj
            have HN35 := Lib.hid hn35
            clear HT35 hn35
            go_wp2_with fail
            refine (take_b b s 46 j35 false _ hs hjl ST1.out.st.rdr).mono ?_
            rintro e w46 ⟨B46, j46, rfl, hr1, hb1, g3, g3', HT46⟩
            have ST3 := Lib.hid (ST1.out.step hr1 hb1)
            have X3 := Lib.hid (X1.out.but hb1 m1)
            clear hr1 hb1 ST1 X1
            cases B46 with
            | true =>
              have HO : Hid (∃ u, L.one (npOf inner) (s.drop j35) = some u ∧ u = (match L.ident (s.drop j46) with | none => none | some (n, u) => some (⟨L.tst 2 n, []⟩, u))) := Lib.hid (by
                rcases HT46.out with ⟨_, _, h⟩ | ⟨h, _⟩
                · exact ⟨_, by rw [h, L.one_46]; rfl, rfl⟩
                · cases h)
              have hj35 : j35 < j46 := by
                rcases HT46.out with ⟨_, h, _⟩ | ⟨h, _⟩
                · omega
                · cases h
              clear HT46
              go_wp2_with fail
              refine (ident b s j46 false _ hs g3' ST3.out.st.rdr).mono ?_
              rintro e w2 ⟨t, j2, bad2, rfl, hr2, hb2, g2, g2', htt, HG⟩
              have ST2 := Lib.hid (ST3.out.step hr2 hb2)
              have X2 := Lib.hid (X3.out.but hb2 m1)
              obtain ⟨hcx, hfx⟩ := cells_of X2.out
              unfold tzero at hcx hfx
              have hlx := X2.out.lt
              clear hr2 hb2 ST3 X3
              go_wp2_with fail
              go_meet
              refine ⟨rfl, ⟨⟨2, t, [], 0, 0⟩, []⟩, .slice none 0 0, j2, bad2, ST2.out.six (by omega) (fun h => h.2 rfl) _ _ _ _ _ _, Blk.six X2.out _ _ _ _ _ _, ListAt.nil, by omega, g2', fun _ => rfl, ?_⟩
              obtain ⟨u, h1, h2⟩ := HO.out
              exact ⟨u, h1, by rw [h2]; exact got_name (HG.out.2 (by simp))⟩
            | false =>
              obtain ⟨hjj, hn46⟩ : j46 = j35 ∧ ∀ r, s.drop j35 ≠ 46 :: r := by
                rcases HT46.out with ⟨h, _⟩ | ⟨_, h1, h2⟩
                · cases h
                · exact ⟨h1, h2⟩
              subst hjj
              have HN46 := Lib.hid hn46
              clear HT46 hn46
              go_wp2_with fail
              refine (take_b b s 91 j46 false _ hs hjl ST3.out.st.rdr).mono ?_
              rintro e w91 ⟨B91, j91, rfl, hr1, hb1, g4, g4', HT91⟩
              have ST4 := Lib.hid (ST3.out.step hr1 hb1)
              have X4 := Lib.hid (X3.out.but hb1 m1)
              clear hr1 hb1 ST3 X3
              cases B91 with
              | true =>
                have HO : Hid (∃ u, L.one (npOf inner) (s.drop j46) = some u ∧ u = (match L.attr (s.drop j91) with | none => none | some (t, u) => some (⟨t, []⟩, u))) := Lib.hid (by
                  rcases HT91.out with ⟨_, _, h⟩ | ⟨h, _⟩
                  · exact ⟨_, by rw [h, L.one_91]; rfl, rfl⟩
                  · cases h)
                have hj35 : j46 < j91 := by
                  rcases HT91.out with ⟨_, h, _⟩ | ⟨h, _⟩
                  · omega
                  · cases h
                clear HT91
                go_wp2_with fail
                refine (attr b s j91 false _ hs g4' ST4.out.st.rdr).mono ?_
                rintro e w2 ⟨t, j2, bad2, rfl, hr2, hb2, g2, g2', HG⟩
                have ST2 := Lib.hid (ST4.out.step hr2 hb2)
                have X2 := Lib.hid (X4.out.but hb2 m1)
                obtain ⟨hcx, hfx⟩ := cells_of X2.out
                unfold tzero at hcx hfx
                have hlx := X2.out.lt
                clear hr2 hb2 ST4 X4
                unfold tval tcells
                go_wp2_with fail
                go_meet
                refine ⟨rfl, ⟨t, []⟩, .slice none 0 0, j2, bad2, ST2.out.six (by omega) (fun h => h.2 rfl) _ _ _ _ _ _, Blk.six X2.out _ _ _ _ _ _, ListAt.nil, by omega, g2', fun _ => rfl, ?_⟩
                obtain ⟨u, h1, h2⟩ := HO.out
                exact ⟨u, h1, by rw [h2]; exact got_attr (HG.out.2 (by simp))⟩
              | false =>
                obtain ⟨hjj, hn91⟩ : j91 = j46 ∧ ∀ r, s.drop j46 ≠ 91 :: r := by
                  rcases HT91.out with ⟨h, _⟩ | ⟨_, h1, h2⟩
                  · cases h
                  · exact ⟨h1, h2⟩
                subst hjj
                have HN91 := Lib.hid hn91
                clear HT91 hn91
                go_wp2_with fail
                refine (take_b b s 58 j91 false _ hs hjl ST4.out.st.rdr).mono ?_
                rintro e w58 ⟨B58, j58, rfl, hr1, hb1, g5, g5', HT58⟩
                have ST5 := Lib.hid (ST4.out.step hr1 hb1)
                have X5 := Lib.hid (X4.out.but hb1 m1)
                clear hr1 hb1 ST4 X4
                cases B58 with
                | true =>
                  have HO : Hid (L.one (npOf inner) (s.drop j91) = some (L.pseudo (npOf inner) (s.drop j58))) := Lib.hid (by
                    rcases HT58.out with ⟨_, _, h⟩ | ⟨h, _⟩
                    · rw [h, L.one_58]
                    · cases h)
                  have hj35 : j91 < j58 := by
                    rcases HT58.out with ⟨_, h, _⟩ | ⟨h, _⟩
                    · omega
                    · cases h
                  clear HT58
                  go_wp2_with fail
                  refine (HPs.out j58 false _ g5' ST5.out.st.rdr).mono ?_
                  rintro e w2 ⟨t, nv, j2, bad2, rfl, HNv, hr2, hb2, g2, g2', HNt, HG⟩
                  obtain ⟨an, cn, hnv⟩ := HNv.out.form
                  generalize hln : t.nots.length = ln at hnv
                  subst hnv
                  clear hln
                  have zT5 : TB < w58.heap.size := X5.out.lt
                  have HNk : Hid (NotsAt (fun k => (P + 1 ≤ k ∧ k ≠ TB) ∧ (Value.slice ao LL cap0).ownBlock ≠ some k) w2 (.slice an ln cn) t.nots) := Lib.hid (keeps_nots HNv.out (Kept.wide (fun g hg => ⟨⟨(ST5.out.fresh hg).1, by show g ≠ TB; have : w58.heap.size ≤ g := hg; omega⟩, (ST5.out.fresh hg).2⟩)))
                  have ST2 := Lib.hid (ST5.out.step hr2 hb2)
                  have X2 := Lib.hid (X5.out.but hb2 m1)
                  obtain ⟨hcx, hfx⟩ := cells_of X2.out
                  unfold tzero at hcx hfx
                  have hlx := X2.out.lt
                  clear hr2 hb2 ST5 X5 HNv
                  unfold tval tcells
                  go_wp2_with fail
                  go_meet
                  exact ⟨rfl, t, .slice an ln cn, j2, bad2, ST2.out.six (by omega) (fun h => h.2 rfl) _ _ _ _ _ _, Blk.six X2.out _ _ _ _ _ _, keeps_nots HNk.out (Kept.six (Kept.refl _) (fun h => h.1.2 rfl) _ _ _ _ _ _), by omega, g2', HNt.out, ⟨_, HO.out, HG.out.2 (by simp)⟩⟩
                | false =>
                  obtain ⟨hjj, hn58⟩ : j58 = j91 ∧ ∀ r, s.drop j91 ≠ 58 :: r := by
                    rcases HT58.out with ⟨h, _⟩ | ⟨_, h1, h2⟩
                    · cases h
                    · exact ⟨h1, h2⟩
                  subst hjj
                  have HOne : Hid (L.one (npOf inner) (s.drop j58) = none) := Lib.hid (L.one_none HN35.out HN46.out HN91.out hn58)
                  have HG : Hid (Got (!q) (L.part (npOf inner) (s.drop i)) ((ty, ts), s.drop j58)) := Lib.hid (by
                    have := part_gotF HH0.out (by rw [HFull.out]; exact HIn.out.last HOne.out)
                    rw [HQ.out]; exact this)
                  have st := ST5.out
                  obtain ⟨hcb, hfb⟩ := cells_of st.st.rdr
                  obtain ⟨hcp, hfp⟩ := cells_of st.p
                  obtain ⟨hcr, hfr⟩ := cells_of st.st.res
                  unfold pzero at hcr hfr
                  have hlb5 := st.st.lt
                  have hlp5 := st.p.lt
                  have hlr5 := st.st.res.lt
                  have c2 : w58.cell? ⟨b, 2, none⟩ = some (.bool false) := hcb 2
                  have f2 : w58.frozen? ⟨b, 2, none⟩ = false := hfb 2 (by show 2 < 3; omega)
                  clear st HOne HN35 HN46 HN91 hn58 HT58 HPs HH0 HQ HIn HFull hcb hfb
                  cases q
                  all_goals
                    go_wp2_with fail
                    refine bodyPost_ret (v := .agg #[.int .i64 0, .string ⟨ty.toArray⟩, .slice ao LL cap0]) (by simp [results, Tryz.results35, go_sem, hcr, hcp, n1, n2, n3, n4, n5, n6]) rfl ⟨ty, _, ts, j58, _, rfl, Lib.hid ?_, ?_, ?_, by omega, hjl, hty, Lib.hid (by rw [HLL.out]; exact htl), HNo, Lib.hid ⟨fun h => (by cases h), fun _ => HG.out⟩⟩
                    · exact (ST5.out.fail_.three _ _ _).2.2
                    · exact (ST5.out.fail_.three _ _ _).1
                    · exact (ST5.out.fail_.three _ _ _).2.1
        case rest =>
          obtain ⟨rfl, t, nv, j2, bad2, hst2, hx2, hnv2, hj2, hjl2, hnt, hone⟩ := hcut
          clear HT35 ST1 X1 HPs zT
          obtain ⟨an, cn, hnf⟩ := ListAt.form hnv2
          generalize hln : t.nots.length = ln at hnf
          subst hnf
          clear hln
          have HOne := Lib.hid hone
          have HNt := Lib.hid hnt
          have ST6 := Lib.hid (hst2.alloc (.cells #[.int .i64 t.t.kind, .string ⟨t.t.name.toArray⟩, .string ⟨t.t.value.toArray⟩, .int .i64 t.t.a, .int .i64 t.t.b, .slice an ln cn] 88))
          have HNv : Hid (NotsAt (fun k => (P + 1 ≤ k ∧ k ≠ TB) ∧ (Value.slice ao LL cap0).ownBlock ≠ some k) (wc.alloc (.cells #[.int .i64 t.t.kind, .string ⟨t.t.name.toArray⟩, .string ⟨t.t.value.toArray⟩, .int .i64 t.t.a, .int .i64 t.t.b, .slice an ln cn] 88)) (.slice an ln cn) t.nots) := Lib.hid (keeps_nots hnv2 ((Kept.refl wc).alloc _))
          obtain ⟨hcx, hfx⟩ := cells_of hx2
          unfold tcells at hcx hfx
          obtain ⟨hcp, hfp⟩ := cells_of hst2.p
          have hlp := hst2.p.lt
          have hlx := hx2.lt
          clear hst2 hx2 hnv2 hone hnt
          obtain ⟨qs, hqs, hown0, hI, hnil, _⟩ := ST6.out.row
          rw [HLL.out] at hown0
          have HOwn := Lib.hid hown0
          have HQs := Lib.hid hqs
          have HI := Lib.hid hI
          clear hqs hown0 hI hnil
          obtain ⟨i0, hi0, hz0, hz1, hz2⟩ := info_parts infoTest
          go_wp2_with (at_builtin; refine wpList_append_lies _ rfl _ _ 60 rfl (P + 1) 88 i0 _ 6 80 Tryz.underlying60 hi0 hz0 hz1 hz2 rfl (by decide) (.slice ao LL cap0) LL (qs.flatMap fun p => cTest p.1 p.2) rfl HOwn.out ⟨wc.heap.size, 0, none⟩ 1 1 [.int .i64 t.t.kind, .string ⟨t.t.name.toArray⟩, .string ⟨t.t.value.toArray⟩, .int .i64 t.t.a, .int .i64 t.t.b, .slice an ln cn] rfl rfl ?c1 ?c2 ?c3 ?c4 ?c5 ?c6 (wc.heap.size + 1) ?c7 ?_)
          case c2 => simp [Value.oneCell']
          case c4 => unfold maxLen; omega
          case c5 => omega
          case c6 => first | omega | (go_goals; omega)
          intro gg cap2 w8 hown8 hgrow hat hlt8
          have hx := FPSt.app ST6.out (t := t) (nv := .slice an ln cn) HQs.out HI.out (by rw [HLL.out]; exact hown8) hgrow (by simpa using hat) ⟨by simp; omega, by simp; omega⟩ HNv.out
          rw [HLL.out] at hx
          have hbP := ST6.out.p5 hgrow
          obtain ⟨hcp8, hfp8⟩ := cells_of hbP
          have hlp8 := hbP.lt
          have HN : Hid (FPartRel b s i j0 inner false R P ty full hb w (w8.setCell ⟨P, 2, none⟩ (.slice (some ⟨gg, 0, none⟩) (LL + 1) cap2)) j2 bad2 true) := Lib.hid ⟨_, ts ++ [t], hx.thin (fun g hg _ => hg.1) (fun g hg => hg), by rw [List.length_append, HLL.out]; show LL + 1 ≤ _; omega, by simp, ⟨fun h => (by cases h), fun _ => (by obtain ⟨o, h1, h2⟩ := HOne.out; exact HIn.out.more h1 h2 hj2 hjl2)⟩, fun hin x hx => (List.mem_append.1 hx).elim (HNo.out hin x) (fun h => (by have e := List.mem_singleton.1 h; subst e; exact HNt.out hin))⟩
          have HM : Hid ((w8.setCell ⟨P, 2, none⟩ (.slice (some ⟨gg, 0, none⟩) (LL + 1) cap2)).cell? ⟨b, 1, none⟩ = some (.int .i64 j2)) := Lib.hid ((cells_of hx.st.rdr).1 1)
          clear hx hbP
          go_wp2_with fail
          go_roundw
          case rel => exact ⟨j2, bad2, true, rfl, HN, by omega, hjl2⟩
          case measure =>
            rw [HM.out, HC1.out]
            show s.length - ((j2 : Nat) : Int).toNat < s.length - ((j : Nat) : Int).toNat
            omega

end F
end Go.Proofs.YtnmcgmbhkmfiaaaGreatDoor
