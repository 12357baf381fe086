/- SelectorBack. -/
import Derived.Test.YtnmcgmbhkmfiaaaDoorSame
import Derived.Test.YtnmcgmbhkmfiaaaDoorBk
import Derived.Test.YtnmcgmbhkmfiaaaDoorLater
set_option linter.unusedVariables false
set_option linter.unusedSimpArgs false
namespace Go.Proofs.YtnmcgmbhkmfiaaaDoor
open Go.RowKit
namespace K
open H

/-- What the law asks of the world. -/
structure LEnv (w : World) : Prop where
  p : PEnv w
  tab : Lib.TabIs Tryd.prog w "internal/strconv.uint64pow10" .u64 Lib.pow10Tab
theorem LEnv.f {w : World} (h : LEnv w) : FEnv w := ⟨h.p.env, h.tab, h.p.big⟩
theorem LEnv.below {w w' : World} (h : LEnv w) (b : Below w.heap.size w w') : LEnv w' := ⟨h.p.below b, (h.f.below b).tab⟩

theorem read_p : L.read [112] = some [[⟨0, [112], []⟩]] := by rfl
theorem text_p : L.fList [[⟨0, [112], []⟩]] = [112] := by rfl

theorem ok_p : ∀ ps ∈ [[(⟨0, [112], []⟩ : L.Part)]], SelOk ps := by
  intro ps hp
  rw [List.mem_singleton.1 hp]
  refine ⟨fun p hq => ?_, by simp⟩
  rw [List.mem_singleton.1 hq]
  exact ⟨fun t ht => (by cases ht), by simp, by simp⟩

set_option maxHeartbeats 2000000 in
set_option maxRecDepth 100000 in
theorem awake (w : World) (hE : LEnv w) : Calls Tryd.prog 4 #[] w (TruePost w) := by
  have HE := Lib.hid hE
  have QP := Lib.hid (parse [112] w (by simp) hE.p (fun l hl => by rw [read_p] at hl; obtain rfl := Option.some.inj hl; simp))
  clear hE
  go_enter Tryd.func4, Tryd.ntmps4
  go_wp2_with fail
  refine QP.out.mono ?_
  rintro e w1 ⟨hb1, (⟨h, _⟩ | ⟨l, h, ht, _⟩ | ⟨l, v, h, _, rfl, hS⟩)⟩
  · rw [read_p] at h; cases h
  · rw [read_p] at h
    obtain rfl := Option.some.inj h
    exact absurd ht (by decide)
  · rw [read_p] at h
    obtain rfl := Option.some.inj h
    obtain ⟨a, c, rfl⟩ := hS.form
    have QF := Lib.hid (format _ _ w1 _ hS (by simp) (by simp) ok_p (by rw [text_p]; simp) (HE.out.below hb1).f)
    rw [text_p] at QF
    have HB := Lib.hid hb1
    clear hS h hb1 QP
    simp only [List.length_cons, List.length_nil, Nat.zero_add] at QF ⊢
    go_wp2_with fail
    refine QF.out.mono ?_
    rintro e w2 ⟨rfl, hb2⟩
    have HB2 := Lib.hid (HB.out.trans (hb2.mono HB.out.size))
    clear hb2 QF
    go_wp2_with fail
    go_ret
    exact ⟨rfl, HB2.out⟩

set_option maxHeartbeats 4000000 in
set_option maxRecDepth 100000 in
theorem SelectorBack (s : List UInt8) (w : World) (hE : LEnv w) : Calls Tryd.prog 3 #[.string ⟨s.toArray⟩] w (TruePost w) := by
  have HE := Lib.hid hE
  have zs := bytes_size s
  have QA := Lib.hid (fun W (h : LEnv W) => awake W h)
  clear hE
  by_cases hlen : 800 < s.length
  · have hd : decide ((800 : Int) < (s.length : Int)) = true := decide_eq_true (by omega)
    go_enter Tryd.func3, Tryd.ntmps3
    go_wp2_with fail
    refine (QA.out _ HE.out).mono ?_
    rintro e w1 ⟨rfl, hb1⟩
    have HB1 := Lib.hid hb1
    clear hb1
    go_wp2_with fail
    refine (QA.out _ (HE.out.below HB1.out)).mono ?_
    rintro e w2 ⟨rfl, hb2⟩
    have HB2 := Lib.hid (HB1.out.trans (hb2.mono HB1.out.size))
    clear hb2
    go_wp2_with fail
    go_ret
    exact ⟨rfl, HB2.out⟩
  · have hd : decide ((800 : Int) < (s.length : Int)) = false := decide_eq_false (by omega)
    have hs800 : s.length ≤ 800 := by omega
    have hm : ∀ l, L.read s = some l → l.length ≤ 1000 := fun l hl => by
      have := (L.read_back hl (by omega)).2.2.1; omega
    have QP := Lib.hid (fun W (h : LEnv W) => parse s W (by omega) h.p hm)
    clear hlen hm
    go_enter Tryd.func3, Tryd.ntmps3
    go_wp2_with fail
    refine (QA.out _ HE.out).mono ?_
    rintro e w1 ⟨rfl, hb1⟩
    have HB1 := Lib.hid hb1
    have HE1 := Lib.hid (HE.out.below hb1)
    clear hb1 QA
    go_wp2_with fail
    refine (QP.out _ HE1.out).mono ?_
    rintro e w2 ⟨hb2, (⟨h, rfl⟩ | ⟨l, h, ht, rfl⟩ | ⟨l, v, h, ht, rfl, hS⟩)⟩
    · have HB2 := Lib.hid (HB1.out.trans (hb2.mono HB1.out.size))
      clear hb2 QP
      go_wp2_with fail
      go_ret
      exact ⟨rfl, HB2.out⟩
    · have HB2 := Lib.hid (HB1.out.trans (hb2.mono HB1.out.size))
      clear hb2 QP
      go_wp2_with fail
      go_ret
      exact ⟨rfl, HB2.out⟩
    · obtain ⟨b1, b2, b3, b4, b5, b6⟩ := L.read_back h (by omega)
      have HB2 := Lib.hid (HB1.out.trans (hb2.mono HB1.out.size))
      have HE2 := Lib.hid (HE1.out.below hb2)
      obtain ⟨a1, c1, rfl⟩ := hS.form
      have HS := Lib.hid hS
      have QF := Lib.hid (format _ l w2 _ hS (by omega) b4 b5 (by omega) HE2.out.f)
      have HOk := Lib.hid b5
      have hm2 : ∀ m, L.read (L.fList l) = some m → m.length ≤ 1000 := fun m hm => by
        rw [b1] at hm; obtain rfl := Option.some.inj hm; omega
      have hq2 : (L.fList l).length ≤ 1000000 := by omega
      have QP2 := Lib.hid (fun W (h : LEnv W) => parse (L.fList l) W hq2 h.p hm2)
      have HRd := Lib.hid b1
      have HTl := Lib.hid ht
      have HN0 : l.length ≤ 1000 := by omega
      obtain ⟨N, hN⟩ : ∃ N, N = l.length := ⟨_, rfl⟩
      rw [← hN] at HN0 HS QF
      have HN := Lib.hid hN
      have hgoal : l.length = N := hN.symm
      rw [hgoal]
      clear hS h hb2 b1 b2 b3 b4 b5 b6 hm2 hq2 ht QP hN hgoal
      go_wp2_with fail
      refine QF.out.mono ?_
      rintro e w3 ⟨rfl, hb3⟩
      have HB3 := Lib.hid (HB2.out.trans (hb3.mono HB2.out.size))
      have HE3 := Lib.hid (HE2.out.below hb3)
      have HS3 := Lib.hid (keeps_sels HS.out (Kept.below hb3))
      clear hb3 QF HS
      go_wp2_with fail
      refine (QP2.out _ HE3.out).mono ?_
      rintro e w4 ⟨hb4, (⟨h, rfl⟩ | ⟨m, h, ht, rfl⟩ | ⟨m, v, h, ht, rfl, hS⟩)⟩
      · exfalso; rw [HRd.out] at h; cases h
      · exfalso
        rw [HRd.out] at h
        obtain rfl := Option.some.inj h
        rw [HTl.out] at ht; cases ht
      · rw [HRd.out] at h
        obtain rfl := Option.some.inj h
        have HB4 := Lib.hid (HB3.out.trans (hb4.mono HB3.out.size))
        have HS4 := Lib.hid (keeps_sels HS3.out (Kept.below hb4))
        obtain ⟨a2, c2, rfl⟩ := hS.form
        have hgoal : l.length = N := HN.out.symm
        rw [hgoal] at hS ⊢
        have HM4 := Lib.hid hS
        clear hb4 QP2 HS3 HE3 hS ht hgoal
        generalize hS1 : (w1.heap.size ≤ ·) = S1 at HS4
        generalize hS2 : (w3.heap.size ≤ ·) = S2 at HM4
        clear hS1 hS2
        have HI0 := Lib.hid (Below.refl w4.heap.size w4)
        go_wp2_with fail
        go_loopw [7] (fun ix wr => ∃ k : Nat, ix = .int .i64 k ∧ k ≤ N ∧ Hid (Below w4.heap.size w4 wr)) (fun ix _ => N - (intOf ix).toNat)
        case atStart => exact ⟨0, rfl, Nat.zero_le _, HI0⟩
        case round =>
          obtain ⟨k, rfl, hk, HI⟩ := hrel
          clear HI0
          by_cases hkN : k < N
          · have hkl : k < l.length := by rw [← HN.out]; exact hkN
            have hkI : (k : Int) < (N : Int) := by omega
            have s1 := keeps_sels HS4.out (Kept.below HI.out)
            have s2 := keeps_sels HM4.out (Kept.below HI.out)
            obtain ⟨g1, rfl⟩ := slice_at s1 (by omega)
            obtain ⟨g2, rfl⟩ := slice_at s2 (by omega)
            obtain ⟨hlt1, hnl1, hs1, n1, hc1, hp1⟩ := ListAt.at_ cSel_len s1 hkl
            obtain ⟨hlt2, hnl2, hs2, n2, hc2, hp2⟩ := ListAt.at_ cSel_len s2 hkl
            have hok := HOk.out l[k] (List.getElem_mem hkl)
            have c10 := hc1 0 (by omega)
            have c20 := hc2 0 (by omega)
            simp only [Nat.mul_one, Nat.add_zero] at c10 c20
            have k1 : wr.cell? ⟨g1, k, none⟩ = some n1 := c10
            have k2 : wr.cell? ⟨g2, k, none⟩ = some n2 := c20
            have QS := Lib.hid (fun W (hB : Below wr.heap.size wr W) => same n1 n2 l[k] W S1 S2 (keeps_parts hp1 (Kept.below hB)) (keeps_parts hp2 (Kept.below hB)) hok)
            have D1 := fun d : Later wr.heap.size wr => Later.cell k1 hlt1 d
            have D2 := fun d : Later wr.heap.size wr => Later.cell k2 hlt2 d
            clear hnl1 hs1 hnl2 hs2 s1 s2 hc1 hc2 c10 c20 hkl hp1 hp2 hok
            go_wp2_with fail
            refine wp_region_later (by kernel_rfl) (by kernel_rfl) ?_
            repeat (go_big_quiet_step ((go_at_call 7; exact Calls.later (QS.out _ (Later.h _)))))
            refine wpQuiet_nil ?_
            intro _ hw'
            obtain ⟨dq, hw''⟩ := hw'
            subst hw''
            clear D1 D2 k1 k2 QS
            go_wp2_with fail
            go_roundw
            case rel => exact ⟨k + 1, by go_num, by omega, Lib.hid (HI.out.trans (dq.h.mono HI.out.size))⟩
            case measure => simp [intOf]; omega
          · obtain rfl : k = N := by omega
            go_wp2_with fail
            go_ret
            exact ⟨rfl, HB4.out.trans (HI.out.mono HB4.out.size)⟩

end K
end Go.Proofs.YtnmcgmbhkmfiaaaDoor
