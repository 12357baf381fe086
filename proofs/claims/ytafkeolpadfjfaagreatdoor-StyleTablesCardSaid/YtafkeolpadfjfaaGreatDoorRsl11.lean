/- What the functions of the reference's reader come to: selector, given part. -/
import Derived.Test.YtafkeolpadfjfaaGreatDoorRsl10
import Derived.Deep.DeepCutAuto
set_option linter.unusedVariables false
set_option linter.unusedSimpArgs false
namespace Go.Proofs.YtafkeolpadfjfaaGreatDoor
open Go.RowKit
namespace F
open H K
set_option maxHeartbeats 8000000 in
set_option maxRecDepth 100000 in
theorem selector_of (b : Nat) (s : List UInt8) (i : Nat) (w : World) (hs : s.length ≤ 1000000) (hi : i ≤ s.length) (hR : IsRdF b s i false w)
  (hPt : ∀ i bad w, i ≤ s.length → IsRdF b s i bad w → Calls Tryz.prog 131 #[.pointer (some ⟨b, 0, none⟩), .bool false] w (FPart b s i false bad (L.outer (s.drop i)) w)) :
  Calls Tryz.prog 93 #[.pointer (some ⟨b, 0, none⟩)] w (FSel b s i (L.selector (s.drop i)) w) := by
 have HR := Lib.hid hR
 have HPt := Lib.hid hPt
 have hlb := lt_of_block hR
 clear hR hPt
 go_enter Tryz.func93, Tryz.ntmps93
 go_wp2_with fail
 have st0 := FdSt.new HR.out #[.slice none 0 0] 94
 refine (HPt.out i false _ hi st0.rdr).mono ?_
 rintro e w1 ⟨ty, V, ts, j0, bad0, rfl, HTS, hr1, hb1, hij, hjl0, hty, htl, HNo, HG⟩
 have HTS1 : Hid (TestsAt (w.heap.size + 1 ≤ ·) w1 V ts) := Lib.hid (by have := HTS.out; simpa using this)
 have HS := Lib.hid (FSelSt.start (ty := ty) (st0.step hr1 hb1) HTS1.out)
 have HI := Lib.hid (L.SInv.start (HG.out.2 rfl))
 obtain ⟨ao, cap, hV⟩ := HTS.out.form
 clear st0 hr1 hb1 HTS HTS1 HNo HG
 generalize hnn : ts.length = nn at hV
 clear hnn
 subst hV
 go_wp2_with fail
 have HF : Hid (FSelRel b s i w.heap.size (w1.heap.size + 1) (L.selector (s.drop i)) w ((w1.alloc (.cells #[.int .i64 0, .string ⟨ty.toArray⟩, .slice ao nn cap] 105)).alloc (.cells #[.slice (some ⟨w1.heap.size, 0, none⟩) 1 1] 94)) j0 bad0) :=
  Lib.hid ⟨_, _, HS.out, by show 1 ≤ _; omega, HI.out⟩
 clear HS HI htl
 generalize L.selector (s.drop i) = full at *
 generalize w1.heap.size + 1 = X at *
 generalize hRR : w.heap.size = R at *
 go_loopw [] (fun wr => ∃ (j : Nat) (bad : Bool), Hid (FSelRel b s i R X full w wr j bad) ∧ j0 ≤ j ∧ j ≤ s.length) (fun wr => s.length - (match wr.cell? ⟨b, 1, none⟩ with | some (.int _ q) => q.toNat | _ => 0))
 case atStart => exact ⟨j0, bad0, HF, Nat.le_refl _, hjl0⟩
 case round =>
  obtain ⟨j, bad, HRel, hj0, hjl⟩ := hrel
  clear HF
  obtain ⟨v, ps, hst, hpl, hinv⟩ := HRel.out
  obtain ⟨av, cv, hv⟩ := hst.row.form
  have hbR : b < R := by have := hst.st.hb; have := hst.st.hR; omega
  have hRX := hst.hX
  have hlbr := hst.st.lt
  have hlXr := hst.x.lt
  have hlRr := hst.st.res.lt
  obtain ⟨hcb, hfb⟩ := cells_of hst.st.rdr
  obtain ⟨hcx, hfx⟩ := cells_of hst.x
  obtain ⟨hcr, hfr⟩ := cells_of hst.st.res
  have HInv := Lib.hid hinv
  have ST := Lib.hid hst
  generalize hLL : ps.length = LL at hv
  subst hv
  have HLL := Lib.hid hLL
  rw [hLL] at hpl
  clear hst hinv hLL HRel
  have n1 : b ≠ X := by omega
  have n2 : X ≠ b := by omega
  have n3 : R ≠ X := by omega
  have n4 : X ≠ R := by omega
  have n5 : b ≠ R := by omega
  have n6 : R ≠ b := by omega
  cases bad with
  | true =>
   have c2 : wr.cell? ⟨b, 2, none⟩ = some (.bool true) := hcb 2
   clear hcb hfb HPt
   have HG : Hid (GotS true full ps (s.drop j)) := Lib.hid (Or.inl ⟨rfl, by
    rcases HInv.out with ⟨_, h⟩ | ⟨h, _⟩
    ·exact h
    ·cases h⟩)
   go_wp2_with fail
   refine bodyPost_ret (v := .agg #[.slice av LL cv]) (by simp [results, Tryz.results93, go_sem, hcr, hcx, n3, n4]) rfl ⟨_, ps, j, true, rfl, Lib.hid ?_, ?_, ?_, by omega, hjl, Lib.hid (by rw [HLL.out]; exact hpl), HG⟩
   ·exact ST.out.give.2.2
   ·exact ST.out.give.1
   ·exact ST.out.give.2.1
  | false =>
   have c2 : wr.cell? ⟨b, 2, none⟩ = some (.bool false) := hcb 2
   have c1 : wr.cell? ⟨b, 1, none⟩ = some (.int .i64 j) := hcb 1
   have HC1 := Lib.hid c1
   clear hcb hfb hcx hfx hcr hfr c1
   go_wp2_with fail
   clear c2
   refine (space_any b s j false _ hs hjl ST.out.st.rdr).mono ?_
   rintro e w2 ⟨j2, rfl, hr2, hb2, hj2, hjl2, HJ2⟩
   have ST2 := Lib.hid (ST.out.step hr2 hb2)
   clear ST hr2 hb2
   obtain ⟨spc, hspc⟩ : ∃ q : Bool, q = decide (j < j2) := ⟨_, rfl⟩
   rw [← hspc]
   have HSp := Lib.hid hspc
   clear hspc
   go_wp2_with fail
   refine (take_b b s 62 j2 false _ hs hjl2 ST2.out.st.rdr).mono ?_
   rintro e w3 ⟨B1, k1, rfl, hr3, hb3, g1, g1', HT1⟩
   have ST3 := Lib.hid (ST2.out.step hr3 hb3)
   clear ST2 hr3 hb3
   go_upto_if 19 with fail
   go_cut [4, 5] (fun s4 s5 wx => ∃ m j3 : Nat, s5 = .int .i64 m ∧ FSelSt b s j3 false R X (.slice av LL cv) ps w wx ∧ j ≤ j3 ∧ j3 ≤ s.length ∧ Hid (JoinF s j j2 m j3))
   case first =>
    clear HPt HInv
    cases B1 with
    | true =>
     have HJF : Hid (JoinF s j j2 2 k1) := Lib.hid (by
      rcases HT1.out with ⟨_, h1, h2⟩ | ⟨h, _⟩
      ·exact joinF_mark HJ2.out hj2 h2 h1 (Or.inl ⟨rfl, rfl⟩)
      ·cases h)
     clear HT1 HJ2 HSp
     go_wp2_with fail
     go_meet
     exact ⟨2, k1, rfl, ST3.out, by omega, g1', HJF⟩
    | false =>
     obtain ⟨hkk, hn1⟩ : k1 = j2 ∧ ∀ r, s.drop j2 ≠ 62 :: r := by
      rcases HT1.out with ⟨h, _⟩ | ⟨_, h1, h2⟩
      ·cases h
      ·exact ⟨h1, h2⟩
     subst hkk
     have HN1 := Lib.hid hn1
     clear HT1 hn1
     go_wp2_with fail
     refine (take_b b s 43 k1 false _ hs hjl2 ST3.out.st.rdr).mono ?_
     rintro e w4 ⟨B2, k2, rfl, hr4, hb4, g2, g2', HT2⟩
     have ST4 := Lib.hid (ST3.out.step hr4 hb4)
     clear ST3 hr4 hb4
     cases B2 with
     | true =>
      have HJF : Hid (JoinF s j k1 3 k2) := Lib.hid (by
       rcases HT2.out with ⟨_, h1, h2⟩ | ⟨h, _⟩
       ·exact joinF_mark HJ2.out hj2 h2 h1 (Or.inr (Or.inl ⟨rfl, rfl⟩))
       ·cases h)
      clear HT2 HJ2 HSp HN1
      go_wp2_with fail
      go_meet
      exact ⟨3, k2, rfl, ST4.out, by omega, g2', HJF⟩
     | false =>
      obtain ⟨hkk, hn2⟩ : k2 = k1 ∧ ∀ r, s.drop k1 ≠ 43 :: r := by
       rcases HT2.out with ⟨h, _⟩ | ⟨_, h1, h2⟩
       ·cases h
       ·exact ⟨h1, h2⟩
      subst hkk
      have HN2 := Lib.hid hn2
      clear HT2 hn2
      go_wp2_with fail
      refine (take_b b s 126 k2 false _ hs hjl2 ST4.out.st.rdr).mono ?_
      rintro e w5 ⟨B3, k3, rfl, hr5, hb5, g3, g3', HT3⟩
      have ST5 := Lib.hid (ST4.out.step hr5 hb5)
      clear ST4 hr5 hb5
      cases B3 with
      | true =>
       have HJF : Hid (JoinF s j k2 4 k3) := Lib.hid (by
        rcases HT3.out with ⟨_, h1, h2⟩ | ⟨h, _⟩
        ·exact joinF_mark HJ2.out hj2 h2 h1 (Or.inr (Or.inr ⟨rfl, rfl⟩))
        ·cases h)
       clear HT3 HJ2 HSp HN1 HN2
       go_wp2_with fail
       go_meet
       exact ⟨4, k3, rfl, ST5.out, by omega, g3', HJF⟩
      | false =>
       obtain ⟨hkk, hn3⟩ : k3 = k2 ∧ ∀ r, s.drop k2 ≠ 126 :: r := by
        rcases HT3.out with ⟨h, _⟩ | ⟨_, h1, h2⟩
        ·cases h
        ·exact ⟨h1, h2⟩
       subst hkk
       have HN3 := Lib.hid hn3
       clear HT3 hn3
       obtain ⟨hcb, hfb⟩ := cells_of ST5.out.st.rdr
       have c0 : w5.cell? ⟨b, 0, none⟩ = some (.string ⟨s.toArray⟩) := hcb 0
       have c1 : w5.cell? ⟨b, 1, none⟩ = some (.int .i64 k3) := hcb 1
       have hlb5 := ST5.out.st.lt
       have zs := bytes_size s
       clear hcb hfb
       have PK := Lib.hid (fun n => peek0 b s k3 false (w5.drewN n) hs hjl2 (ST5.out.st.rdr.drewN n))
       by_cases hlen : k3 = s.length
       ·have HJF : Hid (JoinF s j k3 0 k3) := Lib.hid (joinF_end HJ2.out (List.drop_eq_nil_of_le (by omega)))
        have e1 : decide ((k3 : Int) < (s.length : Int)) = false := decide_eq_false (by omega)
        have e2 : ¬ (k3 : Int) < (s.length : Int) := by omega
        have e3 : ((s.length : Int) ≤ (k3 : Int)) := by omega
        have e4 : decide (k3 < s.length) = false := decide_eq_false (by omega)
        have e5 : ¬ k3 < s.length := by omega
        clear HJ2 HSp HN1 HN2 HN3 PK hlen
        cases spc
        all_goals
         go_wp2_with fail
         go_quiet (fail)
         go_wp2_with fail
         go_meet
         exact ⟨0, k3, rfl, ST5.out.drewN _, by omega, hjl2, HJF⟩
       ·have hlt2 : k3 < s.length := by omega
        obtain ⟨c, rest, hd⟩ := drop_cons hlt2
        have HD := Lib.hid hd
        have e1 : decide ((k3 : Int) < (s.length : Int)) = true := decide_eq_true (by omega)
        have e2 : (k3 : Int) < (s.length : Int) := by omega
        have e4 : decide (k3 < s.length) = true := decide_eq_true hlt2
        rw [getD_drop hd] at PK
        have hjx : ¬ 0 < L.jx c := jx_no (fun h => HN1.out rest (by rw [hd, h])) (fun h => HN2.out rest (by rw [hd, h])) (fun h => HN3.out rest (by rw [hd, h]))
        have HJx := Lib.hid hjx
        clear hd hjx HN1 HN2 HN3 hlen
        by_cases h44 : c = 44
        ·have HJF : Hid (JoinF s j k3 0 k3) := Lib.hid (joinF_comma HJ2.out (u := rest) (by rw [HD.out, h44]))
         have d1 : ((c.toNat : Int) == 44) = true := byte_is (n := 44) h44 (by decide)
         have d2 : (c.toNat : Int) = 44 := by rw [h44]; rfl
         have d3 : ((c.toNat : Int) != 44) = false := by rw [bne, d1]; rfl
         clear HJ2 HSp h44 HJx HD
         cases spc
         all_goals
          go_wp2_with fail
          go_quiet ((go_at_call 132; exact quietDrew (PK.out _)))
          go_wp2_with fail
          go_meet
          exact ⟨0, k3, rfl, ST5.out.drewN _, by omega, hjl2, HJF⟩
        ·have d1 : ((c.toNat : Int) == 44) = false := byte_ne (n := 44) h44 (by decide)
         have d2 : ¬ (c.toNat : Int) = 44 := by simpa using d1
         have d3 : ((c.toNat : Int) != 44) = true := by rw [bne, d1]; rfl
         cases hsp : spc with
         | true =>
          have HJF : Hid (JoinF s j k3 1 k3) := Lib.hid (joinF_one HJ2.out hjl2 HD.out HJx.out h44 (of_decide_eq_true ((HSp.out.symm).trans hsp)))
          clear HJ2 HSp h44 HJx HD hsp
          go_wp2_with fail
          go_quiet ((go_at_call 132; exact quietDrew (PK.out _)))
          go_wp2_with fail
          go_meet
          exact ⟨1, k3, rfl, ST5.out.drewN _, by omega, hjl2, HJF⟩
         | false =>
          have HJF : Hid (JoinF s j k3 0 k3) := Lib.hid (joinF_none HJ2.out hjl2 HD.out HJx.out h44 (by
           have := of_decide_eq_false ((HSp.out.symm).trans hsp)
           omega))
          clear HJ2 HSp h44 HJx HD hsp PK
          go_wp2_with fail
          go_quiet (fail)
          go_wp2_with fail
          go_meet
          exact ⟨0, k3, rfl, ST5.out.drewN _, by omega, hjl2, HJF⟩
   case rest =>
    obtain ⟨m, j3, rfl, hst, hjj3, hjl3, HJF⟩ := hcut
    clear ST3 HT1 HSp
    by_cases hm0 : m = 0
    ·have HG : Hid (GotS false full ps (s.drop j3)) := Lib.hid (Or.inr ⟨rfl, by
      rcases HJF.out with ⟨_, rfl, h⟩ | ⟨h, _⟩
      ·rcases h with h | ⟨h, c, u, h2, h3⟩
       ·left; rw [HInv.out.last h, HJ2.out]
       ·right; exact ⟨HInv.out.fall h, by rw [HJ2.out, space_space], c, u, h2, h3⟩
      ·omega⟩)
     obtain ⟨hcx, hfx⟩ := cells_of hst.x
     obtain ⟨hcr, hfr⟩ := cells_of hst.st.res
     have hlx := hst.x.lt
     have hlr := hst.st.res.lt
     have ST4 := Lib.hid hst
     subst hm0
     clear hst HJF HJ2 HInv HPt
     go_wp2_with fail
     refine bodyPost_ret (v := .agg #[.slice av LL cv]) (by simp [results, Tryz.results93, go_sem, hcr, hcx, n3, n4]) rfl ⟨_, ps, j3, false, rfl, Lib.hid ?_, ?_, ?_, by omega, hjl3, Lib.hid (by rw [HLL.out]; omega), HG⟩
     ·exact ST4.out.give.2.2
     ·exact ST4.out.give.1
     ·exact ST4.out.give.2.1
    ·have e1 : ((m : Int) == 0) = false := by rw [beq_eq_false_iff_ne]; omega
     have e2 : ¬ (m : Int) = 0 := by omega
     have hJ : L.join (s.drop j) = some (some (m, L.space (s.drop j3))) ∧ j < j3 ∧ m ≤ 4 := by
      rcases HJF.out with ⟨h, _⟩ | ⟨_, h4, h, h2⟩
      ·exact absurd h hm0
      ·exact ⟨h, h2, h4⟩
     obtain ⟨hJ1, hlt3, hm4⟩ := hJ
     have HJN1 := Lib.hid hJ1
     have ST4 := Lib.hid hst
     clear hst HJF HJ2 hJ1 hm0
     go_wp2_with fail
     refine (space_any b s j3 false _ hs hjl3 ST4.out.st.rdr).mono ?_
     rintro e w5 ⟨k3, rfl, hr5, hb5, hk3', hk3, HJ5⟩
     have STc := Lib.hid (ST4.out.step hr5 hb5)
     have HJN : Hid (L.join (s.drop j) = some (some (m, s.drop k3))) := Lib.hid (by rw [HJN1.out, HJ5.out])
     clear hr5 hb5 HJN1 HJ5 ST4
     go_wp2_with fail
     have hj34 : j < k3 := by omega
     refine (HPt.out k3 false _ hk3 STc.out.st.rdr).mono ?_
     rintro e w6 ⟨ty6, V6, ts6, j6, bad6, rfl, HT6, hr6, hb6, hj6, hjl6, hty6, htl6, HNo6, HG6⟩
     obtain ⟨a6, c6, hV6⟩ := HT6.out.form
     have HF6 := Lib.hid (keeps_tests HT6.out (Kept.wide (fun g hg => STc.out.fresh hg)))
     have ST6 := Lib.hid (STc.out.step hr6 hb6)
     clear hr6 hb6 HT6 HNo6 htl6
     generalize ts6.length = n6' at hV6
     subst hV6
     have hlx6 := ST6.out.x.lt
     have hlb6 := ST6.out.st.lt
     obtain ⟨hcx6, hfx6⟩ := cells_of ST6.out.x
     have ST7 := Lib.hid ((ST6.out.alloc (.cells #[.int .i64 (m : Int), .string ⟨ty6.toArray⟩, .slice a6 n6' c6] 105)).alloc (.cells #[.int .i64 (m : Int), .string ⟨ty6.toArray⟩, .slice a6 n6' c6] 105))
     have HF7 : Hid (TestsAt (fun k => (R + 1 ≤ k ∧ k ≠ X) ∧ (Value.slice av LL cv).ownBlock ≠ some k) ((w6.alloc (.cells #[.int .i64 (m : Int), .string ⟨ty6.toArray⟩, .slice a6 n6' c6] 105)).alloc (.cells #[.int .i64 (m : Int), .string ⟨ty6.toArray⟩, .slice a6 n6' c6] 105)) (.slice a6 n6' c6) ts6) := Lib.hid (keeps_tests HF6.out (((Kept.refl w6).alloc _).alloc _))
     clear HF6
     obtain ⟨qs, hqs, hown0, hI, hnil, _⟩ := ST7.out.row
     rw [HLL.out] at hown0
     have HOwn := Lib.hid hown0
     have HQ := Lib.hid hqs
     have HI := Lib.hid hI
     clear hqs hown0 hI hnil
     obtain ⟨i0, hi0, hz0, hz1, hz2⟩ := info_parts infoPart
     go_wp2_with (at_builtin; refine wpList_append_lies _ rfl _ _ 92 rfl (R + 1) 105 i0 _ 3 48 Tryz.underlying92 hi0 hz0 hz1 hz2 rfl (by decide) (.slice av LL cv) LL (qs.flatMap fun p => cPart p.1 p.2) rfl HOwn.out ⟨w6.heap.size + 1, 0, none⟩ 1 1 [.int .i64 (m : Int), .string ⟨ty6.toArray⟩, .slice a6 n6' c6] rfl rfl ?c1 ?c2 ?c3 ?c4 ?c5 ?c6 (w6.heap.size + 2) ?c7 ?_)
     case c1 =>
      have hb := heap_alloc_new (w6.alloc (.cells #[.int .i64 (m : Int), .string ⟨ty6.toArray⟩, .slice a6 n6' c6] 105)) (.cells #[.int .i64 (m : Int), .string ⟨ty6.toArray⟩, .slice a6 n6' c6] 105)
      have e : (w6.alloc (.cells #[.int .i64 (m : Int), .string ⟨ty6.toArray⟩, .slice a6 n6' c6] 105)).heap.size = w6.heap.size + 1 := by simp
      rw [e] at hb
      exact World.news_of_block hb
     case c2 => simp [Value.oneCell']
     case c3 => omega
     case c4 => unfold maxLen; omega
     case c5 => omega
     case c6 => simp; omega
     case c7 => simp
     intro gg cap2 w8 hown8 hgrow hat hlt8
     have hx := FSelSt.app ST7.out (p := ⟨m, ty6, ts6⟩) (nv := .slice a6 n6' c6) HQ.out HI.out (by rw [HLL.out]; exact hown8) hgrow (by simpa using hat) HF7.out
     rw [HLL.out] at hx
     have hbX := ST7.out.x5 hgrow
     obtain ⟨hcx8, hfx8⟩ := cells_of hbX
     have hlx8 := hbX.lt
     have HN : Hid (FSelRel b s i R X full w (w8.setCell ⟨X, 0, none⟩ (.slice (some ⟨gg, 0, none⟩) (LL + 1) cap2)) j6 bad6) := Lib.hid ⟨_, ps ++ [⟨m, ty6, ts6⟩], hx, by rw [List.length_append, HLL.out]; show LL + 1 ≤ _; omega, HInv.out.more HJN.out (HG6.out.2 (by simp)) (by omega) hjl6⟩
     have HM : Hid ((w8.setCell ⟨X, 0, none⟩ (.slice (some ⟨gg, 0, none⟩) (LL + 1) cap2)).cell? ⟨b, 1, none⟩ = some (.int .i64 j6)) := Lib.hid ((cells_of hx.st.rdr).1 1)
     clear hx hbX
     go_wp2_with fail
     go_roundw
     case rel => exact ⟨j6, bad6, HN, by omega, hjl6⟩
     case measure =>
      rw [HM.out, HC1.out]
      show s.length - ((j6 : Nat) : Int).toNat < s.length - ((j : Nat) : Int).toNat
      omega
end F
end Go.Proofs.YtafkeolpadfjfaaGreatDoor
