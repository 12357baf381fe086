/- The reader of selectors: selector. -/
import Derived.Test.YtnmcgmbhkmfiaaaGreatDoorSel16
set_option linter.unusedVariables false
set_option linter.unusedSimpArgs false
namespace Go.Proofs.YtnmcgmbhkmfiaaaGreatDoor
open Go.RowKit
namespace K
open H

theorem infoPart : (Tryz.prog.info? 57).map (fun i => (i.zero, i.size, i.bytes)) = some (some (.agg pzero), 3, 48) := by kernel_rfl

theorem SelSt.of_drewN {b : Nat} {s : List UInt8} {j : Nat} {bad : Bool} {R X : Nat} {v : Value} {ps : List L.Part} {w0 w w' : World} {n : Nat} (h : SelSt b s j bad R X v ps w0 w) (hb : But b (w.drewN n) w') : SelSt b s j bad R X v ps w0 (w.drewN n) := h.drewN n

/-- Behind the first part. -/
theorem SelSt.start {b : Nat} {s : List UInt8} {j : Nat} {bad : Bool} {w w1 : World} {ty : List UInt8} {V : Value} {ts : List L.Test} (h : RdSt b s j bad w.heap.size #[.slice none 0 0] 39 w w1)
    (hT : TestsAt (w.heap.size + 1 ≤ ·) w1 V ts) :
    SelSt b s j bad w.heap.size (w1.heap.size + 1) (.slice (some ⟨w1.heap.size, 0, none⟩) 1 1) [⟨0, ty, ts⟩] w
      ((w1.alloc (.cells #[.int .i64 0, .string ⟨ty.toArray⟩, V] 57)).alloc (.cells #[.slice (some ⟨w1.heap.size, 0, none⟩) 1 1] 39)) := by
  have h1 := h.res.lt
  refine ⟨(h.alloc _).alloc _, ?_, ?_, by omega⟩
  · have := Blk.new (w1.alloc (.cells #[.int .i64 0, .string ⟨ty.toArray⟩, V] 57)) #[.slice (some ⟨w1.heap.size, 0, none⟩) 1 1] 39
    have e : (w1.alloc (.cells #[.int .i64 0, .string ⟨ty.toArray⟩, V] 57)).heap.size = w1.heap.size + 1 := by simp
    rw [e] at this
    exact this
  · refine OwnIn.keep keeps_part (w := w1.alloc (.cells #[.int .i64 0, .string ⟨ty.toArray⟩, V] 57)) ?_ ((Kept.refl _).alloc _)
    exact OwnIn.one (c := cPart) (I := IPart) (x := ⟨0, ty, ts⟩) (vx := V) w1 (by omega) rfl ⟨by omega, by omega⟩ keeps_part (keeps_tests hT ⟨Nat.le_refl _, fun g hg hlt => ⟨⟨⟨hg, by omega⟩, hlt⟩, rfl⟩⟩)

def SelRel (b : Nat) (s : List UInt8) (i R X : Nat) (full : Option (List L.Part × List UInt8)) (w wr : World) (j : Nat) (bad : Bool) : Prop :=
  ∃ v ps, SelSt b s j bad R X v ps w wr ∧ ps.length ≤ j - i + 1 ∧ L.SInv s j bad ps full

theorem jx_range (c : UInt8) : -1 ≤ L.jx c ∧ L.jx c ≤ 3 := by
  unfold L.jx
  repeat' split
  all_goals omega

theorem joinAt (c : UInt8) (w : World) : Calls Tryz.prog 30 #[.string ⟨#[32, 62, 43, 126]⟩, .int .u8 c.toNat] w fun e w' => e = .returned (.int .i64 (L.jx c)) ∧ w' = w := by
  refine (Tryz.strings_IndexByte ⟨#[32, 62, 43, 126]⟩ c.toNat w).mono ?_
  rintro e w' ⟨rfl, rfl⟩
  have h : ((c.toNat : Int).toNat.toUInt8) = c := by simp
  rw [h, indexJoin]
  exact ⟨rfl, rfl⟩

set_option maxHeartbeats 4000000 in
set_option maxRecDepth 100000 in
theorem selector (b : Nat) (s : List UInt8) (i : Nat) (w : World) (hs : s.length ≤ 1000000) (hi : i ≤ s.length) (hR : IsRdr b s i false w) (hE : Env w) (ht : top ≤ b) :
    Calls Tryz.prog 14 #[.pointer (some ⟨b, 0, none⟩)] w (SelPost b s i (L.selector (s.drop i)) w) := by
  have HR := Lib.hid hR
  have HE := Lib.hid hE
  have hlb := lt_of_block hR
  clear hR hE
  go_enter Tryz.func14, Tryz.ntmps14
  go_wp2_with fail
  have st0 := RdSt.new HR.out #[.slice none 0 0] 39
  refine (part_outer b s hs ht i _ hi st0.rdr (HE.out.but st0.but ht)).mono ?_
  rintro e w1 ⟨ty, V, ts, j0, bad0, rfl, HTS, hr1, hb1, hij, hjl0, hty, htl, HNo, HG⟩
  have HTS1 : Hid (TestsAt (w.heap.size + 1 ≤ ·) w1 V ts) := Lib.hid (by have := HTS.out; simpa using this)
  have HS := Lib.hid (SelSt.start (ty := ty) (st0.step hr1 hb1) HTS1.out)
  have HI := Lib.hid (L.SInv.start HG.out)
  obtain ⟨ao, cap, hV⟩ := HTS.out.form
  clear st0 hr1 hb1 HTS HTS1 HNo HG
  generalize hnn : ts.length = nn at hV
  clear hnn
  subst hV
  go_wp2_with fail
  have HF : Hid (SelRel b s i w.heap.size (w1.heap.size + 1) (L.selector (s.drop i)) w ((w1.alloc (.cells #[.int .i64 0, .string ⟨ty.toArray⟩, .slice ao nn cap] 57)).alloc (.cells #[.slice (some ⟨w1.heap.size, 0, none⟩) 1 1] 39)) j0 bad0) :=
    Lib.hid ⟨_, _, HS.out, by show 1 ≤ _; omega, HI.out⟩
  clear HS HI htl
  generalize L.selector (s.drop i) = full at *
  generalize w1.heap.size + 1 = X at *
  generalize hRR : w.heap.size = R at *
  go_loopw [] (fun wr => ∃ (j : Nat) (bad : Bool), Hid (SelRel b s i R X full w wr j bad) ∧ j0 ≤ j ∧ j ≤ s.length) (fun wr => s.length - (match wr.cell? ⟨b, 1, none⟩ with | some (.int _ q) => q.toNat | _ => 0))
  case atStart => exact ⟨j0, bad0, HF, Nat.le_refl _, hjl0⟩
  case round =>
    obtain ⟨j, bad, HRel, hj0, hjl⟩ := hrel
    clear HF
    obtain ⟨v, ps, hst, hpl, hinv⟩ := HRel.out
    obtain ⟨av, cv, hv⟩ := hst.row.form
    have hbR : b < R := by have := hst.st.hb; have := hst.st.hR; omega
    have hRX := hst.hX
    have hlbr := hst.st.lt
    have hlXr := hst.x.lt
    have hlRr := hst.st.res.lt
    obtain ⟨hcb, hfb⟩ := cells_of hst.st.rdr
    obtain ⟨hcx, hfx⟩ := cells_of hst.x
    obtain ⟨hcr, hfr⟩ := cells_of hst.st.res
    have HInv := Lib.hid hinv
    have ST := Lib.hid hst
    generalize hLL : ps.length = LL at hv
    subst hv
    have HLL := Lib.hid hLL
    rw [hLL] at hpl
    clear hst hinv hLL HRel
    have n1 : b ≠ X := by omega
    have n2 : X ≠ b := by omega
    have n3 : R ≠ X := by omega
    have n4 : X ≠ R := by omega
    have n5 : b ≠ R := by omega
    have n6 : R ≠ b := by omega
    cases bad with
    | true =>
      have c2 : wr.cell? ⟨b, 2, none⟩ = some (.bool true) := hcb 2
      clear hcb hfb
      have HG : Hid (Got true full (ps, s.drop j)) := Lib.hid (Got.no (by
        rcases HInv.out with ⟨_, h⟩ | ⟨h, _⟩
        · exact h
        · cases h))
      go_wp2_with fail
      refine bodyPost_ret (v := .agg #[.slice av LL cv]) (by simp [results, Tryz.results14, go_sem, hcr, hcx, n3, n4]) rfl ⟨_, ps, j, true, rfl, Lib.hid ?_, ?_, ?_, by omega, hjl, Lib.hid (by rw [HLL.out]; exact hpl), HG⟩
      · exact ST.out.give.2.2
      · exact ST.out.give.1
      · exact ST.out.give.2.1
    | false =>
      have c2 : wr.cell? ⟨b, 2, none⟩ = some (.bool false) := hcb 2
      have c1 : wr.cell? ⟨b, 1, none⟩ = some (.int .i64 j) := hcb 1
      have HC1 := Lib.hid c1
      clear hcb hfb hcx hfx hcr hfr c1
      go_wp2_with fail
      clear c2
      refine (space_any b s j false _ hs hjl ST.out.st.rdr).mono ?_
      rintro e w2 ⟨j2, rfl, hr2, hb2, hj2, hjl2, HJ2⟩
      have ST2 := Lib.hid (ST.out.step hr2 hb2)
      clear ST hr2 hb2
      obtain ⟨spc, hspc⟩ : ∃ q : Bool, q = decide (j < j2) := ⟨_, rfl⟩
      rw [← hspc]
      have HSp := Lib.hid hspc
      clear hspc
      go_wp2_with fail
      refine (peek b s j2 false _ hs hjl2 ST2.out.st.rdr).mono ?_
      rintro e w3 ⟨rfl, nn3, hw3⟩
      have ST3 : Hid (SelSt b s j2 false R X (.slice av LL cv) ps w w3) := Lib.hid (by rw [hw3]; exact ST2.out.drewN nn3)
      clear hw3 ST2
      go_wp2_with fail
      refine (joinAt (s.getD j2 0) _).mono ?_
      rintro e w4 ⟨rfl, rfl⟩
      have hjx := jx_range (s.getD j2 0)
      obtain ⟨hcb, hfb⟩ := cells_of ST3.out.st.rdr
      have c0 : w4.cell? ⟨b, 0, none⟩ = some (.string ⟨s.toArray⟩) := hcb 0
      have c1 : w4.cell? ⟨b, 1, none⟩ = some (.int .i64 j2) := hcb 1
      have f1 : w4.frozen? ⟨b, 1, none⟩ = false := hfb 1 (by show 1 < 3; omega)
      have f2 : w4.frozen? ⟨b, 2, none⟩ = false := hfb 2 (by show 2 < 3; omega)
      have c2 : w4.cell? ⟨b, 2, none⟩ = some (.bool false) := hcb 2
      obtain ⟨hcx, hfx⟩ := cells_of ST3.out.x
      obtain ⟨hcr, hfr⟩ := cells_of ST3.out.st.res
      have hlb4 := ST3.out.st.lt
      have hlx4 := ST3.out.x.lt
      have hlr4 := ST3.out.st.res.lt
      have zs := bytes_size s
      clear hcb hfb
      have PK := Lib.hid (fun n => peek b s j2 false (w4.drewN n) hs hjl2 (ST3.out.st.rdr.drewN n))
      by_cases hlen : j2 = s.length
      · have HSpN : Hid (L.space (s.drop j) = []) := Lib.hid (by rw [← HJ2.out]; exact List.drop_eq_nil_of_le (by omega))
        have HG : Hid (Got false full (ps, s.drop j2)) := Lib.hid (Got.yes (by rw [HInv.out.last (L.join_nil HSpN.out), HJ2.out]))
        have e1 : ((j2 : Int) == (s.length : Int)) = true := by rw [hlen]; simp
        have e2 : (j2 == s.length) = true := by rw [hlen]; simp
        have e3 : decide (j2 = s.length) = true := decide_eq_true hlen
        clear HJ2 HSpN PK
        go_wp2_with fail
        go_quiet (fail)
        go_wp2_with fail
        refine bodyPost_ret (v := .agg #[.slice av LL cv]) (by simp [results, Tryz.results14, go_sem, hcr, hcx, n3, n4]) rfl ⟨_, ps, j2, false, rfl, Lib.hid ?_, ?_, ?_, by omega, hjl2, Lib.hid (by rw [HLL.out]; omega), HG⟩
        · exact (ST3.out.drewN _).give.2.2
        · exact (ST3.out.drewN _).give.1
        · exact (ST3.out.drewN _).give.2.1
      · have hlt2 : j2 < s.length := by omega
        obtain ⟨c, rest, hd⟩ := drop_cons hlt2
        have HD := Lib.hid hd
        have HSpC : Hid (L.space (s.drop j) = c :: rest) := Lib.hid (by rw [← HJ2.out]; exact hd)
        have e1 : ((j2 : Int) == (s.length : Int)) = false := by rw [beq_eq_false_iff_ne]; omega
        have e2 : (j2 == s.length) = false := by simpa using hlen
        have e3 : decide (j2 = s.length) = false := decide_eq_false hlen
        rw [getD_drop hd] at PK hjx ⊢
        clear hd
        by_cases h44 : c = 44
        · have HG : Hid (Got false full (ps, s.drop j2)) := Lib.hid (Got.yes (by rw [HInv.out.last (L.join_comma (u := rest) (by rw [HSpC.out, h44])), HJ2.out]))
          have d1 : ((c.toNat : Int) == 44) = true := byte_is (n := 44) h44 (by decide)
          have d2 : (c.toNat == 44) = true := by rw [h44]; rfl
          have d3 : (c == 44) = true := by rw [h44]; rfl
          clear HJ2 HSpC h44
          go_wp2_with fail
          go_quiet ((go_at_call 31; exact quietDrew (PK.out _)))
          go_wp2_with fail
          refine bodyPost_ret (v := .agg #[.slice av LL cv]) (by simp [results, Tryz.results14, go_sem, hcr, hcx, n3, n4]) rfl ⟨_, ps, j2, false, rfl, Lib.hid ?_, ?_, ?_, by omega, hjl2, Lib.hid (by rw [HLL.out]; omega), HG⟩
          · exact (ST3.out.drewN _).give.2.2
          · exact (ST3.out.drewN _).give.1
          · exact (ST3.out.drewN _).give.2.1
        · have d1 : ((c.toNat : Int) == 44) = false := byte_ne (n := 44) h44 (by decide)
          have d2 : (c.toNat == 44) = false := by
            rw [beq_eq_false_iff_ne]; intro h; exact h44 (UInt8.toNat_inj.1 h)
          have d3 : (c == 44) = false := by simpa using h44
          have HJo := Lib.hid (fun hc => L.join_mark (u := rest) HSpC.out hc)
          have HJr := Lib.hid (fun hc => L.join_other (u := rest) HSpC.out hc h44)
          clear h44
          generalize hJJ : L.jx c = J at *
          have hJb : decide (0 < J) = decide (0 < J) := rfl
          by_cases hJ : 0 < J
          · have hJd : decide (0 < J) = true := decide_eq_true hJ
            have HJN1 := Lib.hid (HJo.out hJ)
            clear HJo HJr HJ2
            go_wp2_with fail
            go_quiet ((go_at_call 31; exact quietDrew (PK.out _)))
            go_wp2_with fail
            refine (space_any b s (j2 + 1) false _ hs hlt2 ((ST3.out.drewN _).place (j2 + 1) (by omega)).st.rdr).mono ?_
            rintro e w5 ⟨k3, rfl, hr5, hb5, hk3', hk3, HJ5⟩
            have STc := Lib.hid (SelSt.step (SelSt.place (SelSt.drewN ST3.out _) (j2 + 1) (by omega)) hr5 hb5)
            have HJN0 : Hid (L.join (s.drop j) = some (some ((J + 1).toNat, s.drop k3))) := Lib.hid (by rw [HJN1.out, HJ5.out, drop_more HD.out])
            clear hr5 hb5 HJN1 HJ5 ST3 PK c0 c1 c2 f1 f2 hcx hfx hcr hfr hlb4 hlx4 hlr4 d1 d2 d3 e1 e2 e3
            obtain ⟨JJ, hJJ0⟩ : ∃ q : Int, q = J := ⟨_, rfl⟩
            rw [← hJJ0] at HJN0 ⊢
            have hJJ1 : 0 ≤ JJ := by omega
            have hJJ2 : JJ ≤ 3 := by omega
            clear hJJ hJd hJ hJJ0
            go_wp2_with fail
            have hj34 : j < k3 := by omega
            obtain ⟨m, hm⟩ : ∃ m : Nat, (m : Int) = JJ + 1 := ⟨(JJ + 1).toNat, by omega⟩
            have g1 : IntKind.i64.wrap (1 + JJ) = (m : Int) := by rw [hm, Int.add_comm]; exact IntWalk.i64_in _ (by omega)
            have HJN : Hid (L.join (s.drop j) = some (some (m, s.drop k3))) := Lib.hid (by rw [show m = (JJ + 1).toNat by omega]; exact HJN0.out)
            clear HJN0 hm
            refine (part_outer b s hs ht k3 _ hk3 STc.out.st.rdr (HE.out.but STc.out.st.but ht)).mono ?_
            rintro e w6 ⟨ty6, V6, ts6, j6, bad6, rfl, HT6, hr6, hb6, hj6, hjl6, hty6, htl6, HNo6, HG6⟩
            obtain ⟨a6, c6, hV6⟩ := HT6.out.form
            have HF6 := Lib.hid (keeps_tests HT6.out (Kept.wide (fun g hg => STc.out.fresh hg)))
            have ST6 := Lib.hid (STc.out.step hr6 hb6)
            clear hr6 hb6 HT6 HNo6 htl6
            generalize ts6.length = n6' at hV6
            subst hV6
            have hlx6 := ST6.out.x.lt
            have hlb6 := ST6.out.st.lt
            obtain ⟨hcx6, hfx6⟩ := cells_of ST6.out.x
            have ST7 := Lib.hid ((ST6.out.alloc (.cells #[.int .i64 (m : Int), .string ⟨ty6.toArray⟩, .slice a6 n6' c6] 57)).alloc (.cells #[.int .i64 (m : Int), .string ⟨ty6.toArray⟩, .slice a6 n6' c6] 57))
            have HF7 : Hid (TestsAt (fun k => (R + 1 ≤ k ∧ k ≠ X) ∧ (Value.slice av LL cv).ownBlock ≠ some k) ((w6.alloc (.cells #[.int .i64 (m : Int), .string ⟨ty6.toArray⟩, .slice a6 n6' c6] 57)).alloc (.cells #[.int .i64 (m : Int), .string ⟨ty6.toArray⟩, .slice a6 n6' c6] 57)) (.slice a6 n6' c6) ts6) := Lib.hid (keeps_tests HF6.out (((Kept.refl w6).alloc _).alloc _))
            clear HF6
            obtain ⟨qs, hqs, hown0, hI, hnil, _⟩ := ST7.out.row
            rw [HLL.out] at hown0
            have HOwn := Lib.hid hown0
            have HQ := Lib.hid hqs
            have HI := Lib.hid hI
            clear hqs hown0 hI hnil
            obtain ⟨i0, hi0, hz0, hz1, hz2⟩ := info_parts infoPart
            go_wp2_with (at_builtin; refine wpList_append_lies _ rfl _ _ 37 rfl (R + 1) 57 i0 _ 3 48 Tryz.underlying37 hi0 hz0 hz1 hz2 rfl (by decide) (.slice av LL cv) LL (qs.flatMap fun p => cPart p.1 p.2) rfl HOwn.out ⟨w6.heap.size + 1, 0, none⟩ 1 1 [.int .i64 (m : Int), .string ⟨ty6.toArray⟩, .slice a6 n6' c6] rfl rfl ?c1 ?c2 ?c3 ?c4 ?c5 ?c6 (w6.heap.size + 2) ?c7 ?_)
            case c1 =>
              have hb := heap_alloc_new (w6.alloc (.cells #[.int .i64 (m : Int), .string ⟨ty6.toArray⟩, .slice a6 n6' c6] 57)) (.cells #[.int .i64 (m : Int), .string ⟨ty6.toArray⟩, .slice a6 n6' c6] 57)
              have e : (w6.alloc (.cells #[.int .i64 (m : Int), .string ⟨ty6.toArray⟩, .slice a6 n6' c6] 57)).heap.size = w6.heap.size + 1 := by simp
              rw [e] at hb
              exact World.news_of_block hb
            case c2 => simp [Value.oneCell']
            case c3 => omega
            case c4 => unfold maxLen; omega
            case c5 => omega
            case c6 => simp; omega
            case c7 => simp
            intro gg cap2 w8 hown8 hgrow hat hlt8
            have hx := SelSt.app ST7.out (p := ⟨m, ty6, ts6⟩) (nv := .slice a6 n6' c6) HQ.out HI.out (by rw [HLL.out]; exact hown8) hgrow (by simpa using hat) HF7.out
            rw [HLL.out] at hx
            have hbX := ST7.out.x5 hgrow
            obtain ⟨hcx8, hfx8⟩ := cells_of hbX
            have hlx8 := hbX.lt
            have HN : Hid (SelRel b s i R X full w (w8.setCell ⟨X, 0, none⟩ (.slice (some ⟨gg, 0, none⟩) (LL + 1) cap2)) j6 bad6) := Lib.hid ⟨_, ps ++ [⟨m, ty6, ts6⟩], hx, by rw [List.length_append, HLL.out]; show LL + 1 ≤ _; omega, HInv.out.more HJN.out HG6.out (by omega) hjl6⟩
            have HM : Hid ((w8.setCell ⟨X, 0, none⟩ (.slice (some ⟨gg, 0, none⟩) (LL + 1) cap2)).cell? ⟨b, 1, none⟩ = some (.int .i64 j6)) := Lib.hid ((cells_of hx.st.rdr).1 1)
            clear hx hbX
            go_wp2_with fail
            go_roundw
            case rel => exact ⟨j6, bad6, HN, by omega, hjl6⟩
            case measure =>
              rw [HM.out, HC1.out]
              show s.length - ((j6 : Nat) : Int).toNat < s.length - ((j : Nat) : Int).toNat
              omega
          · have hJd : decide (0 < J) = false := decide_eq_false hJ
            cases hsp : spc with
            | true =>
              clear HJo
              go_wp2_with fail
              go_quiet ((go_at_call 31; exact quietDrew (PK.out _)))
              go_wp2_with fail
              have HJN0 : Hid (L.join (s.drop j) = some (some (((0 : Int) + 1).toNat, s.drop j2))) := Lib.hid (by
                rw [HJr.out hJ, if_pos, ← HJ2.out]
                · rfl
                · rw [← HJ2.out, List.length_drop, List.length_drop]
                  have h := HSp.out
                  rw [hsp] at h
                  have h2 : j < j2 := of_decide_eq_true h.symm
                  omega)
              have hjlt : j < j2 := by
                have h := HSp.out
                rw [hsp] at h
                exact of_decide_eq_true h.symm
              clear HJr HJ2 HSp PK c0 c1 c2 f1 f2 hcx hfx hcr hfr hlb4 hlx4 hlr4 d1 d2 d3 e1 e2 e3
              have HJN : Hid (L.join (s.drop j) = some (some (1, s.drop j2))) := HJN0
              clear HJN0
              refine (part_outer b s hs ht j2 _ hjl2 (ST3.out.drewN _).st.rdr (HE.out.but (ST3.out.drewN _).st.but ht)).mono ?_
              rintro e w6 ⟨ty6, V6, ts6, j6, bad6, rfl, HT6, hr6, hb6, hj6, hjl6, hty6, htl6, HNo6, HG6⟩
              have STc := Lib.hid (SelSt.of_drewN ST3.out hb6)
              clear ST3
              obtain ⟨a6, c6, hV6⟩ := HT6.out.form
              have HF6 := Lib.hid (keeps_tests HT6.out (Kept.wide (fun g hg => STc.out.fresh hg)))
              have ST6 := Lib.hid (STc.out.step hr6 hb6)
              clear hr6 hb6 HT6 HNo6 htl6
              generalize ts6.length = n6' at hV6
              subst hV6
              have hlx6 := ST6.out.x.lt
              have hlb6 := ST6.out.st.lt
              obtain ⟨hcx6, hfx6⟩ := cells_of ST6.out.x
              have ST7 := Lib.hid ((ST6.out.alloc (.cells #[.int .i64 1, .string ⟨ty6.toArray⟩, .slice a6 n6' c6] 57)).alloc (.cells #[.int .i64 1, .string ⟨ty6.toArray⟩, .slice a6 n6' c6] 57))
              have HF7 : Hid (TestsAt (fun k => (R + 1 ≤ k ∧ k ≠ X) ∧ (Value.slice av LL cv).ownBlock ≠ some k) ((w6.alloc (.cells #[.int .i64 1, .string ⟨ty6.toArray⟩, .slice a6 n6' c6] 57)).alloc (.cells #[.int .i64 1, .string ⟨ty6.toArray⟩, .slice a6 n6' c6] 57)) (.slice a6 n6' c6) ts6) := Lib.hid (keeps_tests HF6.out (((Kept.refl w6).alloc _).alloc _))
              clear HF6
              obtain ⟨qs, hqs, hown0, hI, hnil, _⟩ := ST7.out.row
              rw [HLL.out] at hown0
              have HOwn := Lib.hid hown0
              have HQ := Lib.hid hqs
              have HI := Lib.hid hI
              clear hqs hown0 hI hnil
              obtain ⟨i0, hi0, hz0, hz1, hz2⟩ := info_parts infoPart
              go_wp2_with (at_builtin; refine wpList_append_lies _ rfl _ _ 37 rfl (R + 1) 57 i0 _ 3 48 Tryz.underlying37 hi0 hz0 hz1 hz2 rfl (by decide) (.slice av LL cv) LL (qs.flatMap fun p => cPart p.1 p.2) rfl HOwn.out ⟨w6.heap.size + 1, 0, none⟩ 1 1 [.int .i64 1, .string ⟨ty6.toArray⟩, .slice a6 n6' c6] rfl rfl ?c1 ?c2 ?c3 ?c4 ?c5 ?c6 (w6.heap.size + 2) ?c7 ?_)
              case c1 =>
                have hb := heap_alloc_new (w6.alloc (.cells #[.int .i64 1, .string ⟨ty6.toArray⟩, .slice a6 n6' c6] 57)) (.cells #[.int .i64 1, .string ⟨ty6.toArray⟩, .slice a6 n6' c6] 57)
                have e : (w6.alloc (.cells #[.int .i64 1, .string ⟨ty6.toArray⟩, .slice a6 n6' c6] 57)).heap.size = w6.heap.size + 1 := by simp
                rw [e] at hb
                exact World.news_of_block hb
              case c2 => simp [Value.oneCell']
              case c3 => omega
              case c4 => unfold maxLen; omega
              case c5 => omega
              case c6 => simp; omega
              case c7 => simp
              intro gg cap2 w8 hown8 hgrow hat hlt8
              have hx := SelSt.app ST7.out (p := ⟨1, ty6, ts6⟩) (nv := .slice a6 n6' c6) HQ.out HI.out (by rw [HLL.out]; exact hown8) hgrow (by simpa using hat) HF7.out
              rw [HLL.out] at hx
              have hbX := ST7.out.x5 hgrow
              obtain ⟨hcx8, hfx8⟩ := cells_of hbX
              have hlx8 := hbX.lt
              have HN : Hid (SelRel b s i R X full w (w8.setCell ⟨X, 0, none⟩ (.slice (some ⟨gg, 0, none⟩) (LL + 1) cap2)) j6 bad6) := Lib.hid ⟨_, ps ++ [⟨1, ty6, ts6⟩], hx, by rw [List.length_append, HLL.out]; show LL + 1 ≤ _; omega, HInv.out.more HJN.out HG6.out (by omega) hjl6⟩
              have HM : Hid ((w8.setCell ⟨X, 0, none⟩ (.slice (some ⟨gg, 0, none⟩) (LL + 1) cap2)).cell? ⟨b, 1, none⟩ = some (.int .i64 j6)) := Lib.hid ((cells_of hx.st.rdr).1 1)
              clear hx hbX
              go_wp2_with fail
              go_roundw
              case rel => exact ⟨j6, bad6, HN, by omega, hjl6⟩
              case measure =>
                rw [HM.out, HC1.out]
                show s.length - ((j6 : Nat) : Int).toNat < s.length - ((j : Nat) : Int).toNat
                omega
            | false =>
              clear HJo
              go_wp2_with fail
              go_quiet ((go_at_call 31; exact quietDrew (PK.out _)))
              go_wp2_with fail
              have HG : Hid (Got true full (ps, s.drop j2)) := Lib.hid (Got.no (HInv.out.fall (by
                rw [HJr.out hJ, if_neg]
                rw [← HJ2.out, List.length_drop, List.length_drop]
                have h := HSp.out
                rw [hsp] at h
                have h2 : ¬ j < j2 := of_decide_eq_false h.symm
                omega)))
              refine bodyPost_ret (v := .agg #[.slice av LL cv]) (by simp [results, Tryz.results14, go_sem, hcr, hcx, n1, n2, n3, n4, n5, n6]) rfl ⟨_, ps, j2, true, rfl, Lib.hid ?_, ?_, ?_, by omega, hjl2, Lib.hid (by rw [HLL.out]; omega), HG⟩
              · exact (ST3.out.drewN _).fail_.give.2.2
              · exact (ST3.out.drewN _).fail_.give.1
              · exact (ST3.out.drewN _).fail_.give.2.1

end K
end Go.Proofs.YtnmcgmbhkmfiaaaGreatDoor
