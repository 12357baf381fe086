/- What is read is well formed enough for the reference's writer. SelectorParses. -/
import Derived.Test.YtnmcgmbhkmfiaaaGreatDoorRwr4
import Derived.Test.YtnmcgmbhkmfiaaaGreatDoorBk
import Derived.Test.YtnmcgmbhkmfiaaaGreatDoorAwk
import Derived.Test.YtnmcgmbhkmfiaaaGreatDoorRcnt2
import Derived.Test.YtnmcgmbhkmfiaaaGreatDoorRsl13
import Derived.ChangeKeysEq
set_option linter.unusedVariables false
set_option linter.unusedSimpArgs false
namespace Go.Proofs.YtnmcgmbhkmfiaaaGreatDoor
open Go.RowKit
namespace L

theorem W1.kind {t : Tst} (h : W1 t) : 1 ≤ t.kind ∧ t.kind ≤ 13 := by
  cases h with
  | nth a b ha hb => dsimp only; omega
  | id k n hk' hid => dsimp only; omega
  | has n hid => dsimp only; omega
  | attr k n v hk' hid hv => dsimp only; omega
  | word p hp =>
    simp only [pseudos, List.mem_cons, List.not_mem_nil, or_false] at hp
    rcases hp with rfl | rfl | rfl | rfl | rfl | rfl <;> exact ⟨by decide, by decide⟩

/-- The kinds of a test that is read. -/
structure KT (t : Test) : Prop where
  k : F.KindOk t.t.kind
  nots : ∀ u ∈ t.nots, F.KindOk u.kind ∧ u.kind ≠ 14
  lone : t.t.kind ≠ 14 → t.nots = []

theorem WT.kinds {t : Test} (h : WT t) : KT t := by
  cases h with
  | one t h => exact ⟨⟨h.kind.1, by have := h.kind.2; dsimp only; omega⟩, fun u hu => (by cases hu), fun _ => rfl⟩
  | not ty l hty hl =>
    refine ⟨⟨by show 1 ≤ 14; omega, by show 14 ≤ 14; omega⟩, fun u hu => ?_, fun h0 => absurd rfl h0⟩
    have := (hl u hu).kind
    exact ⟨⟨this.1, by omega⟩, by omega⟩

theorem WS.kinds {ps : List Part} (h : WS ps) : ∀ p ∈ ps, ∀ t ∈ p.tests, KT t := fun p hp t ht => ((h.all p hp).1.tests t ht).kinds

theorem fsel_ok {ps : List Part} (h : WS ps) (hk : K.SelOk ps) : F.FSelOk ps :=
  ⟨fun p hp => ⟨fun t ht => ⟨(hk.1 p hp).1 t ht, (h.kinds p hp t ht).k, fun u hu => ((h.kinds p hp t ht).nots u hu).1⟩, (hk.1 p hp).2.1, (hk.1 p hp).2.2⟩, hk.2⟩

end L
end Go.Proofs.YtnmcgmbhkmfiaaaGreatDoor

namespace Go.Proofs.YtnmcgmbhkmfiaaaGreatDoor
open Go.RowKit
namespace K
open H

theorem pk_of {ps : List L.Part} (h : L.WS ps) (hk : SelOk ps) : L.PK ps :=
  fun p hp => ⟨fun t ht => ⟨fun u hu => ((h.kinds p hp t ht).nots u hu).2, ((hk.1 p hp).1 t ht).2.2⟩, (hk.1 p hp).2.1⟩

/-- What stands behind Parse, both ways. -/
theorem of_read {s : List UInt8} {l : List (List L.Part)} (h : L.read s = some l) (hs : s.length ≤ 800) :
    l.length ≤ 800 ∧ 0 < l.length ∧ (∀ ps ∈ l, SelOk ps) ∧ (∀ ps ∈ l, F.FSelOk ps) ∧ (∀ ps ∈ l, L.PK ps) ∧ (L.fList l).length ≤ 100000000 := by
  obtain ⟨b1, b2, b3, b4, b5, b6⟩ := L.read_back h (by omega)
  exact ⟨by omega, b4, b5, fun ps hp => L.fsel_ok (b6 ps hp) (b5 ps hp), fun ps hp => pk_of (b6 ps hp) (b5 ps hp), by omega⟩

theorem long_has {l : List (List L.Part)} (h : tooLong l = true) : ∃ (k : Nat) (hk : k < l.length), 128 < l[k].length := by
  unfold tooLong at h
  rw [List.any_eq_true] at h
  obtain ⟨x, hx, hl⟩ := h
  obtain ⟨k, hk, rfl⟩ := List.getElem_of_mem hx
  exact ⟨k, hk, by simpa using hl⟩
theorem short_all {l : List (List L.Part)} (h : tooLong l = false) : ∀ ps ∈ l, ps.length ≤ 128 := by
  unfold tooLong at h
  rw [List.any_eq_false] at h
  intro ps hp
  have := h ps hp
  simpa using this

set_option maxRecDepth 100000 in
/-- Three integers are what they are. -/
theorem eq3 (a b c : Int) (w : World) : (Op.equalIn 10000 35 (.agg #[.int .i64 a, .int .i64 b, .int .i64 c]) (.agg #[.int .i64 a, .int .i64 b, .int .i64 c])).run Tryz.prog w = .ok true w := by
  have hz : (Tryz.prog.info? 3).map (·.size) = some 1 := by kernel_rfl
  obtain ⟨i, hi, _⟩ := Option.map_eq_some_iff.1 hz
  rw [run_equalIn_array w 9999 _ _ Tryz.underlying35 hi]
  have e : Tryz.prog.cellsOf 3 = 1 := by kernel_rfl
  rw [e]
  have hr : List.range 3 = [0, 1, 2] := by decide
  rw [hr]
  simp [Op.eqItems, go_sem]

attribute [local go_sem] eq3

set_option maxHeartbeats 8000000 in
set_option maxRecDepth 100000 in
theorem SelectorParses (s : List UInt8) (w : World) (hE : LEnv w) : Calls Tryz.prog 3 #[.string ⟨s.toArray⟩] w (TruePost w) := by
  have HE := Lib.hid hE
  have zs := bytes_size s
  have QA := Lib.hid (fun W (h : LEnv W) => awake W h)
  clear hE
  by_cases hlen : 800 < s.length
  · have hd : decide ((800 : Int) < (s.length : Int)) = true := decide_eq_true (by omega)
    go_enter Tryz.func3, Tryz.ntmps3
    go_wp2_with fail
    refine (QA.out _ HE.out).mono ?_
    rintro e w1 ⟨rfl, hb1⟩
    have HB1 := Lib.hid hb1
    clear hb1
    go_wp2_with fail
    refine (QA.out _ (HE.out.below HB1.out)).mono ?_
    rintro e w2 ⟨rfl, hb2⟩
    have HB2 := Lib.hid (HB1.out.trans (hb2.mono HB1.out.size))
    clear hb2
    go_wp2_with fail
    go_ret
    exact ⟨rfl, HB2.out⟩
  · have hd : decide ((800 : Int) < (s.length : Int)) = false := decide_eq_false (by omega)
    have hs800 : s.length ≤ 800 := by omega
    have hm : ∀ l, L.read s = some l → l.length ≤ 1000 := fun l hl => by
      have := (of_read hl hs800).1; omega
    have QP := Lib.hid (fun W (h : LEnv W) => parse s W (by omega) h.p hm)
    have QF := Lib.hid (fun W => F.parse s W (by omega))
    clear hlen hm
    go_enter Tryz.func3, Tryz.ntmps3
    go_wp2_with fail
    refine (QA.out _ HE.out).mono ?_
    rintro e w1 ⟨rfl, hb1⟩
    have HB1 := Lib.hid hb1
    have HE1 := Lib.hid (HE.out.below hb1)
    clear hb1 QA
    go_wp2_with fail
    refine (QP.out _ HE1.out).mono ?_
    rintro e w2 ⟨hb2, (⟨h, rfl⟩ | ⟨l, h, ht, rfl⟩ | ⟨l, v, h, ht, rfl, hS⟩)⟩
    · have HB2 := Lib.hid (HB1.out.trans (hb2.mono HB1.out.size))
      have HRd := Lib.hid h
      clear hb2 QP h
      go_wp2_with fail
      refine (QF.out _).mono ?_
      rintro e w3 ⟨hb3, (⟨h, v, rfl⟩ | ⟨l, v, h, rfl, hS⟩)⟩
      · have HB3 := Lib.hid (HB2.out.trans (hb3.mono HB2.out.size))
        clear hb3 QF h
        go_wp2_with fail
        go_ret
        exact ⟨rfl, HB3.out⟩
      · exfalso; rw [HRd.out] at h; cases h
    · have HB2 := Lib.hid (HB1.out.trans (hb2.mono HB1.out.size))
      have HRd := Lib.hid h
      have HTl := Lib.hid ht
      clear hb2 QP h ht
      go_wp2_with fail
      refine (QF.out _).mono ?_
      rintro e w3 ⟨hb3, (⟨h, v, rfl⟩ | ⟨l', v, h, rfl, hS⟩)⟩
      · exfalso; rw [HRd.out] at h; cases h
      · rw [HRd.out] at h
        obtain rfl := Option.some.inj h
        have HB3 := Lib.hid (HB2.out.trans (hb3.mono HB2.out.size))
        obtain ⟨a2, c2, rfl⟩ := hS.form
        have hn := (of_read HRd.out hs800).1
        generalize hNN : l.length = N at hS hn ⊢
        have HN := Lib.hid hNN
        have HS := Lib.hid hS
        generalize (w2.heap.size ≤ ·) = S at HS
        clear hb3 QF h hS hNN
        go_wp2_with fail
        go_loopw [7] (fun ix wr => ∃ k : Nat, ix = .int .i64 k ∧ k ≤ N ∧ Hid (∀ j (hj : j < l.length), j < k → l[j].length ≤ 128) ∧ Hid (w3 = wr)) (fun ix _ => N - (intOf ix).toNat)
        case atStart => exact ⟨0, rfl, Nat.zero_le _, Lib.hid (fun j _ hj => by omega), Lib.hid rfl⟩
        case round =>
          obtain ⟨k, rfl, hk, HA, HW⟩ := hrel
          obtain rfl := HW.out
          by_cases hkN : k < N
          · have hkl : k < l.length := by rw [HN.out]; exact hkN
            have hkI : (k : Int) < (N : Int) := by omega
            obtain ⟨g1, hg1, _⟩ := lslice HS.out (by omega)
            subst hg1
            obtain ⟨hlt1, hnl1, hs1, n1, hc1, hp1⟩ := ListAt.at_ cSel_len HS.out hkl
            have c10 := hc1 0 (by omega)
            simp only [Nat.mul_one, Nat.add_zero] at c10
            have k1 : w3.cell? ⟨g1, k, none⟩ = some n1 := c10
            obtain ⟨ap, cp, hvk⟩ := hp1.form
            generalize hMM : l[k].length = M at hvk
            subst hvk
            have HM := Lib.hid hMM
            clear hnl1 hs1 hc1 c10 hp1 hMM
            by_cases hM : 128 < M
            · have e1 : decide ((128 : Int) < (M : Int)) = true := decide_eq_true (by omega)
              have e2 : (128 : Int) < (M : Int) := by omega
              go_wp2_with fail
              go_ret
              exact ⟨rfl, HB3.out⟩
            · have e1 : decide ((128 : Int) < (M : Int)) = false := decide_eq_false (by omega)
              have e2 : ¬ (128 : Int) < (M : Int) := by omega
              go_wp2_with fail
              go_roundw
              case rel => exact ⟨k + 1, by go_num, by omega, Lib.hid (fun j hj hjk => by
                rcases Nat.lt_or_ge j k with h | h
                · exact HA.out j hj h
                · obtain rfl : j = k := by omega
                  rw [HM.out]; omega), Lib.hid trivial⟩
              case measure => simp [intOf]; omega
          · exfalso
            obtain ⟨j, hj, hl⟩ := long_has HTl.out
            have := HA.out j hj (by have := HN.out; omega)
            omega
    · have HB2 := Lib.hid (HB1.out.trans (hb2.mono HB1.out.size))
      have HE2 := Lib.hid (HE1.out.below hb2)
      have HRd := Lib.hid h
      have HTl := Lib.hid ht
      obtain ⟨hn, hn0, ok1, ok2, ok3, hfl⟩ := of_read h hs800
      have HO1 := Lib.hid ok1
      have HO2 := Lib.hid ok2
      have HO3 := Lib.hid ok3
      have HFl := Lib.hid hfl
      have HSl := Lib.hid hS
      obtain ⟨a1, c1, rfl⟩ := hS.form
      generalize hS1 : (w1.heap.size ≤ ·) = S1 at HSl
      obtain ⟨N, hN⟩ : ∃ N, N = l.length := ⟨_, rfl⟩
      rw [← hN] at HSl hn hn0 ⊢
      have HN := Lib.hid hN
      clear hb2 QP h ht hS ok1 ok2 ok3 hfl hS1 hN
      go_wp2_with fail
      refine (QF.out _).mono ?_
      rintro e w3 ⟨hb3, (⟨h, v, rfl⟩ | ⟨l', v, h, rfl, hS⟩)⟩
      · exfalso; rw [HRd.out] at h; cases h
      · rw [HRd.out] at h
        obtain rfl := Option.some.inj h
        have HB3 := Lib.hid (HB2.out.trans (hb3.mono HB2.out.size))
        have HE3 := Lib.hid (HE2.out.below hb3)
        have HP := Lib.hid (keeps_sels HSl.out (Kept.below hb3))
        obtain ⟨a2, c2, rfl⟩ := hS.form
        have hgoal : l.length = N := HN.out.symm
        rw [hgoal] at hS ⊢
        have HS := Lib.hid hS
        generalize (w2.heap.size ≤ ·) = S2 at HS
        clear hb3 QF h hS HSl HE2 hgoal
        go_wp2_with fail
        go_loopw [7] (fun ix wr => ∃ k : Nat, ix = .int .i64 k ∧ k ≤ N ∧ Hid (w3 = wr)) (fun ix _ => N - (intOf ix).toNat)
        case atStart => exact ⟨0, rfl, Nat.zero_le _, Lib.hid rfl⟩
        case round =>
          obtain ⟨k, rfl, hk, HW⟩ := hrel
          obtain rfl := HW.out
          clear HW
          by_cases hkN : k < N
          · have hkl : k < l.length := by rw [← HN.out]; exact hkN
            have hkI : (k : Int) < (N : Int) := by omega
            obtain ⟨g1, hg1, _⟩ := lslice HS.out (by omega)
            subst hg1
            obtain ⟨hlt1, hnl1, hs1, n1, hc1, hp1⟩ := ListAt.at_ cSel_len HS.out hkl
            have c10 := hc1 0 (by omega)
            simp only [Nat.mul_one, Nat.add_zero] at c10
            have k1 : w3.cell? ⟨g1, k, none⟩ = some n1 := c10
            obtain ⟨ap, cp, hvk⟩ := hp1.form
            have hM := short_all HTl.out l[k] (List.getElem_mem hkl)
            generalize l[k].length = M at hvk hM
            subst hvk
            have e1 : decide ((128 : Int) < (M : Int)) = false := decide_eq_false (by omega)
            have e2 : ¬ (128 : Int) < (M : Int) := by omega
            clear hnl1 hs1 hc1 c10 hp1
            go_wp2_with fail
            go_roundw
            case rel => exact ⟨k + 1, by go_num, by omega, Lib.hid trivial⟩
            case measure => simp [intOf]; omega
          · obtain rfl : N = k := by omega
            have QK := Lib.hid (format _ _ w3 _ HP.out (by rw [← HN.out]; omega) (by rw [← HN.out]; omega) HO1.out HFl.out HE3.out.f)
            go_wp2_with fail
            refine QK.out.mono ?_
            rintro e w4 ⟨rfl, hb4⟩
            have HB4 := Lib.hid (HB3.out.trans (hb4.mono HB3.out.size))
            have HP4 := Lib.hid (keeps_sels HP.out (Kept.below hb4))
            have HS4 := Lib.hid (keeps_sels HS.out (Kept.below hb4))
            have QR := Lib.hid (F.format _ _ w4 _ HS4.out (by rw [← HN.out]; omega) HO2.out HFl.out)
            clear hb4 QK
            go_wp2_with fail
            refine QR.out.mono ?_
            rintro e w5 ⟨rfl, hb5⟩
            have HB5 := Lib.hid (HB4.out.trans (hb5.mono HB4.out.size))
            have HP5 := Lib.hid (keeps_sels HP4.out (Kept.below hb5))
            have HS5 := Lib.hid (keeps_sels HS4.out (Kept.below hb5))
            clear hb5 QR HP4 HS4
            have HI0 := Lib.hid (Below.refl w5.heap.size w5)
            go_wp2_with fail
            go_loopw [8] (fun ix wr => ∃ k : Nat, ix = .int .i64 k ∧ k ≤ N ∧ Hid (Below w5.heap.size w5 wr)) (fun ix _ => N - (intOf ix).toNat)
            case atStart => exact ⟨0, rfl, Nat.zero_le _, HI0⟩
            case round =>
              obtain ⟨j, rfl, hj, HI⟩ := hrel
              clear HI0
              by_cases hjN : j < N
              · have hjl : j < l.length := by rw [← HN.out]; exact hjN
                have hjI : (j : Int) < (N : Int) := by omega
                have s1 := keeps_sels HP5.out (Kept.below HI.out)
                have s2 := keeps_sels HS5.out (Kept.below HI.out)
                obtain ⟨g1, hg1, _⟩ := lslice s1 (by omega)
                obtain ⟨g2, hg2, _⟩ := lslice s2 (by omega)
                subst hg1 hg2
                obtain ⟨hlt1, hnl1, hs1, n1, hc1, hp1⟩ := ListAt.at_ cSel_len s1 hjl
                obtain ⟨hlt2, hnl2, hs2, n2, hc2, hp2⟩ := ListAt.at_ cSel_len s2 hjl
                have hpk := HO3.out l[j] (List.getElem_mem hjl)
                have hpl := (HO1.out l[j] (List.getElem_mem hjl)).2
                have c10 := hc1 0 (by omega)
                have c20 := hc2 0 (by omega)
                simp only [Nat.mul_one, Nat.add_zero] at c10 c20
                have k1 : wr.cell? ⟨g1, j, none⟩ = some n1 := c10
                have k2 : wr.cell? ⟨g2, j, none⟩ = some n2 := c20
                have QS1 := Lib.hid (fun W (hB : Below wr.heap.size wr W) => spec n1 l[j] W S1 (keeps_parts hp1 (Kept.below hB)) hpl hpk)
                have QS2 := Lib.hid (fun W (hB : Below wr.heap.size wr W) => F.spec n2 l[j] W S2 (keeps_parts hp2 (Kept.below hB)) hpl hpk)
                generalize L.weight l[j] = wt at QS1 QS2
                obtain ⟨wa, wb, wc⟩ := wt
                unfold SpecPost c3 at QS1 QS2
                dsimp only at QS1 QS2
                have D1 := fun d : Later wr.heap.size wr => Later.cell k1 hlt1 d
                have D2 := fun d : Later wr.heap.size wr => Later.cell k2 hlt2 d
                clear hnl1 hs1 hnl2 hs2 s1 s2 hc1 hc2 c10 c20 hjl hp1 hp2 hpk hpl
                go_wp2_with fail
                refine wp_region_later (by kernel_rfl) (by kernel_rfl) ?_
                repeat (go_big_quiet_step (first | (go_at_call 9; exact Calls.later (QS1.out _ (Later.h _))) | (go_at_call 10; exact Calls.later (QS2.out _ (Later.h _)))))
                refine wpQuiet_nil ?_
                intro _ hw'
                obtain ⟨dq, hw''⟩ := hw'
                subst hw''
                clear D1 D2 k1 k2 QS1 QS2
                go_wp2_with fail
                go_roundw
                case rel => exact ⟨j + 1, by go_num, by omega, Lib.hid (HI.out.trans (dq.h.mono HI.out.size))⟩
                case measure => simp [intOf]; omega
              · obtain rfl : N = j := by omega
                go_wp2_with fail
                go_ret
                exact ⟨rfl, HB5.out.trans (HI.out.mono HB5.out.size)⟩

end K
end Go.Proofs.YtnmcgmbhkmfiaaaGreatDoor
