/- The statement MarkupLate: it returns true at every slice of strings and every slice of bytes. -/
import Derived.Test.YtlnginciehjlnaaGreatDoorPiecesLaw
set_option linter.unusedVariables false
set_option linter.unusedSimpArgs false
namespace Go.Proofs.YtlnginciehjlnaaGreatDoor
open Go.RowKit
namespace K

/-- One token in a slice of its own. -/
theorem toks_one {w : World} {base : Nat} {t : M.Tok} {a : Value} (h : HasAttrs base a t.attrs w) (hb : base ≤ w.heap.size) :
    HasToks base (.slice (some ⟨w.heap.size, 0, none⟩) 1 1) [t] (w.alloc (.cells #[.int .i64 t.kind, .string ⟨t.name.toArray⟩, a, .bool t.closed, .string ⟨t.text.toArray⟩] 30)) := by
  refine ⟨[(t, a)], rfl, ⟨rfl, Or.inr ⟨w.heap.size, 1, _, rfl, hb, heap_alloc_new _ _, Nat.le_refl _, by unfold maxLen; decide, rfl, rfl⟩⟩, fun p hp => ?_⟩
  obtain rfl : p = (t, a) := by simpa using hp
  exact own_below ((Below.refl _ _).alloc (Nat.le_refl _) _) h

set_option maxHeartbeats 4000000 in
set_option maxRecDepth 100000 in
theorem MarkupLate (ao : Option Addr) (len cap : Nat) (S : Nat → List UInt8) (bo : Option Addr) (bn bc : Nat) (BV : Nat → Nat) (w : World) (hlen : len ≤ 9223372036854775807) (hS : StrArg w ao len S) (hbn : bn ≤ 9223372036854775807) (hBA : ByteArg w bo bn BV) (hE : Env w) :
    Calls Tryz.prog 8 #[.slice ao len cap, .slice bo bn bc] w fun e w' => e = .returned (.bool true) ∧ Below w.heap.size w w' := by
  have HE := Lib.hid hE
  have HS := Lib.hid hS
  have HBY := Lib.hid hBA
  have htop := hE.size
  clear hE hS hBA
  obtain ⟨i0, hi0, hq0, hq1, hq2⟩ := info_parts infoToken
  by_cases h6 : len ≤ 60
  · have h6' : (len : Int) ≤ 60 := by omega
    by_cases hb6 : bn ≤ 60
    · have hb6' : (bn : Int) ≤ 60 := by omega
      go_enter Tryz.func8, Tryz.ntmps8
      go_wp2_with fail
      refine (awake _ HE.out).mono ?_
      rintro e w1 ⟨rfl, b1⟩
      have z1 := b1.size
      have HE1 := Lib.hid (HE.out.same b1)
      go_wp2_with fail
      go_loopw [6, 7, 8] (fun v4 v5 v6 wr => ∃ (k : Nat) (all d : List UInt8) (ret : Bool), v5 = .string ⟨all.toArray⟩ ∧ v6 = .int .i64 k ∧ k ≤ len ∧ PcRel len w1.heap.size k all w1 v4 wr d ret) (fun _ _ u _ => len - (intOf u).toNat)
      case atStart =>
        refine ⟨0, [], [], false, rfl, rfl, Nat.zero_le _, [], [], [], by simp, by simp, by simp, by simp, heap_alloc_new _ _, World.ownsRow_nil _ _ _ _, Lib.hid (fun p h => by cases h), Lib.hid PInv.start, (Below.refl _ _).alloc (Nat.le_refl _) _, by simp⟩
      case round =>
        obtain ⟨k, all, d, ret, rfl, rfl, hk, rest, raw, L, hal, hdl, hrw, hsum, htz, hown, HA, HP, hB, hge⟩ := hrel
        obtain ⟨wo, rfl⟩ : ∃ wo : World, wo = wr := ⟨_, rfl⟩
        have HTZ := Lib.hid htz
        have HOW := Lib.hid hown
        have HEo := Lib.hid (HE1.out.below hB (by omega))
        clear htz hown
        by_cases hlt : k < len
        · obtain ⟨b, off, rfl, hbw, hc⟩ := HS.out (by omega)
          obtain ⟨hck, hsz⟩ := hc k hlt
          have hck1 : wo.cell? ⟨b, off + k, none⟩ = some (.string ⟨(S k).toArray⟩) := by
            rw [hB.cell (p := ⟨b, off + k, none⟩) (by show b < _; omega), b1.cell (p := ⟨b, off + k, none⟩) hbw]; exact hck
          clear hck hc
          generalize S k = s at *
          have zs := T.bytes_size s
          have za := T.bytes_size all
          have hlt1 : (k : Int) < (len : Int) := by omega
          by_cases hlong : 1500 < all.length + s.length
          · have hl1 : (1500 : Int) < (all.length : Int) + (s.length : Int) := by omega
            go_wp2_with fail
            go_ret
            exact ⟨rfl, b1.trans (hB.mono b1.size)⟩
          · have hl1 : (all.length : Int) + (s.length : Int) ≤ 1500 := by omega
            have hab := T.append_bytes all s
            have HPF := Lib.hid (HP.out.feed s)
            have hfl := feed_len rest d s ret
            have hd3 := rest_le3 (d ++ s)
            have hal2 : (all ++ s).length ≤ 1500 := by rw [List.length_append]; omega
            have hal3 : (all ++ s).length = all.length + s.length := List.length_append
            have qf := Feed w1.heap.size d s rest raw ret wo (by omega) (by omega) HEo.out (by omega) HTZ.out
            unfold TFeedPost at qf
            generalize (d ++ s).drop (U.fcut (d ++ s)) = d2 at *
            generalize U.last13 ret (U.rep ((d ++ s).take (U.fcut (d ++ s)))) = ret2 at *
            generalize rest ++ U.nlr ret (U.rep ((d ++ s).take (U.fcut (d ++ s)))) = rest2 at *
            have QF := Lib.hid qf
            clear qf
            go_wp2_with fail
            refine QF.out.mono ?_
            rintro e w2 ⟨rfl, ht2, b2⟩
            have hB2 := hB.trans (b2.below (by omega))
            have HT2 := Lib.hid ht2
            have ho2 := Lib.hid (But.own b2 (by omega) HOW.out)
            have hA2 := Lib.hid (fun p hp => But.own b2 (by omega) (HA.out p hp))
            have hz2 := b2.size
            clear ht2 QF HTZ HOW HA HP HEo hck1 hab
            generalize all ++ s = all2 at *
            go_wp2_with fail
            go_loopw [6, 9] (fun v6 v9 wr => ∃ m : Nat, v9 = .int .i64 m ∧ m ≤ 4 ∧ PcRel len w1.heap.size (k + 1) all2 w1 v6 wr d2 ret2) (fun _ v _ => 4 - (intOf v).toNat)
            case atStart => exact ⟨0, rfl, by omega, rest2, raw, L, hal2, hd3, hrw, by omega, HT2.out, ho2.out, hA2, HPF, hB2, by omega⟩
            case round =>
              obtain ⟨m, rfl, hm4, rest3, raw3, L3, _, _, hrw3, hsum3, htz3, hown3, HA3, HP3, hB3, hge3⟩ := hrel
              have HTZ3 := Lib.hid htz3
              have HOW3 := Lib.hid hown3
              by_cases hgo : k < bn ∧ m < BV k % 4
              · obtain ⟨hkb, hmt⟩ := hgo
                obtain ⟨tb, toff, rfl, htw, hct⟩ := HBY.out (by omega)
                obtain ⟨hcx, htv⟩ := hct k hkb
                have hcT : wr.cell? ⟨tb, toff + k, none⟩ = some (.int .u8 (BV k)) := by
                  rw [hB3.cell (p := ⟨tb, toff + k, none⟩) (by show tb < _; omega), b1.cell (p := ⟨tb, toff + k, none⟩) htw]; exact hcx
                clear hcx hct
                generalize BV k = tv at *
                have hkb1 : (k : Int) < (bn : Int) := by omega
                have hmt1 : (m : Int) < (tv : Int) % 4 := by omega
                have hnx := HP3.out.next (n := rest3.length + 1) (by omega)
                have hmode := M.steps_mode (rest3.length + 1) false raw3 rest3 hrw3
                have HE3 := Lib.hid (HE1.out.below hB3 (by omega))
                have hBu : Below wr.heap.size wr (wr.alloc (.cells #[.string ⟨d2.toArray⟩, .string ⟨rest3.toArray⟩, .string ⟨raw3.toArray⟩, .bool ret2] 46)) := (Below.refl _ _).alloc (Nat.le_refl _) _
                have htu : IsTz wr.heap.size d2 rest3 raw3 ret2 (wr.alloc (.cells #[.string ⟨d2.toArray⟩, .string ⟨rest3.toArray⟩, .string ⟨raw3.toArray⟩, .bool ret2] 46)) := heap_alloc_new _ _
                have qu := Next1 wr.heap.size d2 rest3 raw3 ret2 _ (by omega) hrw3 (HE3.out.same hBu) (by omega) htu
                have qt := fun W hE hT => Next1 w1.heap.size d2 rest3 raw3 ret2 W (by omega) hrw3 hE (by omega) hT
                generalize M.steps (rest3.length + 1) false raw3 rest3 = X at hnx hmode qu qt
                obtain ⟨o, r4, s4⟩ := X
                have QU := Lib.hid qu
                have QT := Lib.hid qt
                have HNX := Lib.hid hnx
                have HMO := Lib.hid hmode
                have HBU := Lib.hid hBu
                obtain ⟨hcz, hfz⟩ := cells_of htz3
                have hltz := lt_of_block htz3
                clear qu qt hnx hmode htz3 hown3 hBu htu
                go_wp2_with fail
                refine QU.out.mono ?_
                rintro en w4 ⟨a1, rfl, ha1, _, b4⟩
                obtain ⟨ao4, Lc4, cap4, rfl⟩ := own_slice3 ha1
                have hz4 : wr.heap.size + 1 ≤ w4.heap.size := by have := b4.size; simpa using this
                have htz4 : IsTz w1.heap.size d2 rest3 raw3 ret2 w4 := (b4.block _ (by simp; omega) (by omega)).trans (HTZ3.out.below HBU.out)
                have hbw4 : Below wr.heap.size wr w4 := HBU.out.trans (b4.below (by simp))
                have HBW4 := Lib.hid hbw4
                have HTZ4 := Lib.hid htz4
                have HA1 := Lib.hid ha1
                clear b4 ha1 htz4 hbw4 QU hcz hfz
                unfold tokV
                have hBx : Below w4.heap.size w4 (w4.alloc (.cells #[.int .i64 (o.getD .none).kind, .string ⟨(o.getD .none).name.toArray⟩, .slice ao4 Lc4 cap4, .bool (o.getD .none).closed, .string ⟨(o.getD .none).text.toArray⟩] 30)) := (Below.refl _ _).alloc (Nat.le_refl _) _
                have hxc : (w4.alloc (.cells #[.int .i64 (o.getD .none).kind, .string ⟨(o.getD .none).name.toArray⟩, .slice ao4 Lc4 cap4, .bool (o.getD .none).closed, .string ⟨(o.getD .none).text.toArray⟩] 30)).heap[w4.heap.size]? = some (.cells #[.int .i64 (o.getD .none).kind, .string ⟨(o.getD .none).name.toArray⟩, .slice ao4 Lc4 cap4, .bool (o.getD .none).closed, .string ⟨(o.getD .none).text.toArray⟩] 30 (0, 0)) := heap_alloc_new _ _
                have HBX := Lib.hid hBx
                have HXC := Lib.hid hxc
                clear hBx hxc
                go_wp2_with fail
                refine (QT.out _ (((HE3.out.same HBW4.out)).same HBX.out) (HTZ4.out.below HBX.out)).mono ?_
                rintro en w5 ⟨a2, rfl, ha2, ht5, b5⟩
                obtain ⟨ao5, Lc5, cap5, rfl⟩ := own_slice3 ha2
                have hz5 : w4.heap.size + 1 ≤ w5.heap.size := by have := b5.size; simpa using this
                have hx5 := (b5.block w4.heap.size (by simp) (by omega)).trans HXC.out
                have HX5 := Lib.hid hx5
                have HT5 := Lib.hid ht5
                have HA2 := Lib.hid ha2
                have HB5 := Lib.hid b5
                have HA1b := Lib.hid (But.own b5 (by simp; omega) (own_below HBX.out HA1.out))
                have hown5 := But.own b5 (by omega) (own_below HBX.out (own_below HBW4.out HOW3.out))
                have hA5 : Hid (∀ p ∈ L3, HasAttrs (w1.heap.size + 1) p.2 p.1.attrs w5) := Lib.hid (fun p hp => But.own b5 (by omega) (own_below HBX.out (own_below HBW4.out (HA3.out p hp))))
                have HOW5 := Lib.hid hown5
                have hB5 : Below w1.heap.size w1 w5 := ((hB3.trans (HBW4.out.mono (by omega))).trans (HBX.out.mono (by omega))).trans (b5.below (by simp; omega))
                clear ha2 ht5 b5 hx5 hown5 HA3 HOW3 HTZ3 HTZ4 HBX HXC HBU HBW4 HA1
                unfold tokV
                go_upto_region 19 with fail
                refine code_gen ?_
                intro F hF
                have hBF : Below w5.heap.size w5 F := by rw [hF]; exact (Below.refl _ _).alloc (Nat.le_refl _) _
                have hyc : F.heap[w5.heap.size]? = some (.cells #[.int .i64 (o.getD .none).kind, .string ⟨(o.getD .none).name.toArray⟩, .slice ao5 Lc5 cap5, .bool (o.getD .none).closed, .string ⟨(o.getD .none).text.toArray⟩] 30 (0, 0)) := by rw [hF]; exact heap_alloc_new _ _
                have hxF := (hBF.block w4.heap.size (by omega)).trans HX5.out
                have hzF := hBF.size
                have hFz : IsTz w1.heap.size d2 s4 r4 ret2 F := HT5.out.below hBF
                have hFb : Below w1.heap.size w1 F := hB5.trans (hBF.mono (by omega))
                have hFo := own_below hBF HOW5.out
                have hFL : Hid (∀ p ∈ L3, HasAttrs (w1.heap.size + 1) p.2 p.1.attrs F) := Lib.hid (fun p hp => own_below hBF (hA5.out p hp))
                have hFA1 := own_below hBF HA1b.out
                have hFA2 := own_below hBF HA2.out
                obtain ⟨hcx, hfx⟩ := cells_of hxF
                obtain ⟨hcy, hfy⟩ := cells_of hyc
                have hltF : w4.heap.size < F.heap.size := by omega
                have hltY := lt_of_block hyc
                have HFZ := Lib.hid hFz
                have HFO := Lib.hid hFo
                have HFA1 := Lib.hid hFA1
                have HFA2 := Lib.hid hFA2
                have HXF := Lib.hid hxF
                have HYC := Lib.hid hyc
                clear hF hBF hyc hxF hFz hFo hFA1 hFA2 HX5 HT5 HA2 HB5 HA1b hA5 HOW5 hB5
                cases o with
                | none =>
                  go_wp2_with fail
                  go_roundw
                  case rel => exact ⟨m + 1, by go_num, by omega, s4, r4, L3, hal2, hd3, HMO.out, by have h9 := HNX.out.2; omega, HFZ.out, HFO.out, hFL, Lib.hid HNX.out.1, hFb, by omega⟩
                  case measure => simp [intOf]; omega
                | some t =>
                  dsimp only [Option.getD, Option.isSome] at hcx hcy
                  have hW1 : Below F.heap.size F (F.alloc (.cells #[.int .i64 t.kind, .string ⟨t.name.toArray⟩, .slice ao4 Lc4 cap4, .bool t.closed, .string ⟨t.text.toArray⟩] 30)) := (Below.refl _ _).alloc (Nat.le_refl _) _
                  have hone1 := toks_one (t := t) HFA1.out (by simp; omega)
                  have hone2 := toks_one (t := t) (own_below hW1 HFA2.out) (by simp; omega)
                  have hW2 : Below F.heap.size F ((F.alloc (.cells #[.int .i64 t.kind, .string ⟨t.name.toArray⟩, .slice ao4 Lc4 cap4, .bool t.closed, .string ⟨t.text.toArray⟩] 30)).alloc (.cells #[.int .i64 t.kind, .string ⟨t.name.toArray⟩, .slice ao5 Lc5 cap5, .bool t.closed, .string ⟨t.text.toArray⟩] 30)) := hW1.alloc (by simp) _
                  have hone1b := hone1.below ((Below.refl _ _).alloc (Nat.le_refl _) (.cells #[.int .i64 t.kind, .string ⟨t.name.toArray⟩, .slice ao5 Lc5 cap5, .bool t.closed, .string ⟨t.text.toArray⟩] 30))
                  have qe := equal _ _ _ _ [t] _ hone1b hone2 (by simp)
                  rw [show (F.alloc (.cells #[.int .i64 t.kind, .string ⟨t.name.toArray⟩, .slice ao4 Lc4 cap4, .bool t.closed, .string ⟨t.text.toArray⟩] 30)).heap.size = F.heap.size + 1 by simp] at qe
                  have QE := Lib.hid qe
                  have HW2 := Lib.hid hW2
                  have hno := HFO.out.lt
                  clear hone1 hone2 hone1b qe hW1 hW2
                  go_wp2_with fail
                  refine QE.out.mono ?_
                  rintro e w6 ⟨rfl, b6⟩
                  have hz6 : F.heap.size ≤ w6.heap.size := by have := b6.size; simp at this; omega
                  have hB6 : Below F.heap.size F w6 := HW2.out.trans (b6.mono (by simp; omega))
                  clear hcx hfx hcy hfy b6
                  have hx6 := (hB6.block w4.heap.size hltF).trans HXF.out
                  dsimp only [Option.getD] at hx6
                  obtain ⟨hcx, hfx⟩ := cells_of hx6
                  have HFO6 := Lib.hid (own_below hB6 HFO.out)
                  have HFL6 : Hid (∀ p ∈ L3, HasAttrs (w1.heap.size + 1) p.2 p.1.attrs w6) := Lib.hid (fun p hp => own_below hB6 (hFL.out p hp))
                  have HFA6 := Lib.hid (own_below hB6 HFA1.out)
                  have HFZ6 := Lib.hid (HFZ.out.below hB6)
                  have hFb6 : Below w1.heap.size w1 w6 := hFb.trans (hB6.mono (by omega))
                  clear hx6
                  have hlt6 : w4.heap.size < w6.heap.size := by omega
                  go_wp2_with (at_builtin; refine wpList_append_own _ rfl _ _ 23 rfl (w1.heap.size + 1) 30 i0 _ 5 72 Tryz.underlying23 hi0 hq0 hq1 hq2 rfl (by decide) _ _ _ rfl (HFO6.out.alloc _) ⟨w6.heap.size, 0, none⟩ 1 1 [.int .i64 t.kind, .string ⟨t.name.toArray⟩, .slice ao4 Lc4 cap4, .bool t.closed, .string ⟨t.text.toArray⟩] rfl rfl ?c1 ?c2 ?c3 ?c4 ?c5 ?_)
                  case c1 => exact World.news_of_block (heap_alloc_new _ _)
                  case c2 => intro u hu; simp at hu; rcases hu with rfl | rfl | rfl | rfl | rfl <;> rfl
                  case c3 => unfold maxLen; omega
                  case c4 => omega
                  case c5 => simp; omega
                  intro v' w7 hown' hgrow _
                  have hBa : Below w6.heap.size w6 (w6.alloc (.cells #[.int .i64 t.kind, .string ⟨t.name.toArray⟩, .slice ao4 Lc4 cap4, .bool t.closed, .string ⟨t.text.toArray⟩] 30)) := (Below.refl _ _).alloc (Nat.le_refl _) _
                  have hb7 : Below w1.heap.size w1 w7 := (hFb6.trans (hBa.mono (by omega))).grown hgrow (by simp; omega) (fun q hq => by have := (hno q hq).1; omega)
                  have hz7 : IsTz w1.heap.size d2 s4 r4 ret2 w7 := (hgrow.block _ (by simp; omega) (fun h => by have := (hno _ h.symm).1; omega)).trans (HFZ6.out.below hBa)
                  have hts := toks_snoc (HFO6.out.alloc _) (fun p hp => own_below hBa (HFL6.out p hp)) (own_mono (own_below hBa HFA6.out) (by simp; omega)) hown' hgrow
                  have hzw7 := hgrow.size
                  clear hcx hfx
                  have HZ7 := Lib.hid hz7
                  have HTS7 := Lib.hid hts
                  clear hz7 hts hown'
                  go_wp2_with fail
                  go_roundw
                  case rel =>
                    obtain ⟨L5, e5, ho5, ha5⟩ := HTS7.out
                    have h9 := HNX.out
                    refine ⟨m + 1, by go_num, by omega, s4, r4, L5, hal2, hd3, HMO.out, ?_, HZ7.out, ho5, Lib.hid ha5, Lib.hid (by rw [e5]; exact h9.1), hb7, by simp at hzw7; omega⟩
                    have := congrArg List.length e5
                    simp at this
                    omega
                  case measure => simp [intOf]; omega
              · have fin : PcRel len w1.heap.size (k + 1) all2 w1 u6 wr d2 ret2 := ⟨rest3, raw3, L3, hal2, hd3, hrw3, hsum3, HTZ3.out, HOW3.out, HA3, HP3, hB3, hge3⟩
                have FIN := Lib.hid fin
                clear fin HTZ3 HOW3 HA3 HP3
                by_cases hkb : k < bn
                · obtain ⟨tb, toff, rfl, htw, hct⟩ := HBY.out (by omega)
                  obtain ⟨hcx, htv⟩ := hct k hkb
                  have hcT : wr.cell? ⟨tb, toff + k, none⟩ = some (.int .u8 (BV k)) := by
                    rw [hB3.cell (p := ⟨tb, toff + k, none⟩) (by show tb < _; omega), b1.cell (p := ⟨tb, toff + k, none⟩) htw]; exact hcx
                  have hmt : ¬ m < BV k % 4 := fun h => hgo ⟨hkb, h⟩
                  clear hcx hct hgo
                  generalize BV k = tv at *
                  have hkb1 : (k : Int) < (bn : Int) := by omega
                  have hmt1 : (tv : Int) % 4 ≤ (m : Int) := by omega
                  go_wp2_with fail
                  go_roundw
                  case rel => exact ⟨k + 1, all2, d2, ret2, rfl, by go_num, by omega, FIN.out⟩
                  case measure => simp [intOf]; omega
                · have hkb1 : (bn : Int) ≤ (k : Int) := by omega
                  clear hgo
                  go_wp2_with fail
                  go_roundw
                  case rel => exact ⟨k + 1, all2, d2, ret2, rfl, by go_num, by omega, FIN.out⟩
                  case measure => simp [intOf]; omega
        · have hge1 : (len : Int) ≤ (k : Int) := by omega
          have hnow := HP.out.now
          have QF := Lib.hid (Finish w1.heap.size d rest raw ret wo (by omega) (by omega) hrw HEo.out (by omega) HTZ.out)
          have hfl := M.run_len raw (rest ++ U.nlr ret (U.rep d))
          have hfl2 := U.nlr_length (U.rep d) ret
          have hfl3 := U.rep_le d
          rw [List.length_append] at hfl
          have hfl4 : (M.run raw (rest ++ U.nlr ret (U.rep d))).length ≤ 10000 := by omega
          have htl : (toks all).length ≤ 20000 := by
            rw [← hnow, List.length_append, List.length_map]; omega
          have HNOW := Lib.hid hnow
          clear hfl hfl2 hfl3 hnow HP
          generalize M.run raw (rest ++ U.nlr ret (U.rep d)) = fin at *
          have QT := Lib.hid (fun W h => Tokens all W (by omega) h)
          go_wp2_with fail
          refine QF.out.mono ?_
          rintro e w2 ⟨v2, rfl, ⟨L2, hL2, ho2, hA2⟩, ht2, b2⟩
          have hz2 := b2.size
          have ho1 := But.own b2 (by omega) HOW.out
          have hA1 := fun p hp => But.own b2 (by omega) (HA.out p hp)
          have hl2 : L2.length ≤ 10000 := by have := congrArg List.length hL2; rw [List.length_map] at this; omega
          have hno := ho1.lt
          have HT2 := Lib.hid ht2
          have HO1 := Lib.hid ho1
          have HO2 := Lib.hid ho2
          have HA1 := Lib.hid hA1
          have HA2 := Lib.hid hA2
          clear ht2 ho1 ho2 hA1 hA2
          go_wp2_with (at_builtin; refine wpList_append_two _ rfl _ _ 23 rfl (w1.heap.size + 1) wo.heap.size 30 i0 _ 5 72 Tryz.underlying23 hi0 hq0 hq1 hq2 rfl (by decide) _ _ _ _ _ _ rfl rfl HO1.out HO2.out (tcells_one HA2.out) ?d3 ?d4 ?d5 ?_)
          case d3 => unfold maxLen; omega
          case d4 => omega
          case d5 => omega
          intro v5 w5 hown5 hgrow
          have hts := toks_two HO1.out HA1.out HA2.out (by omega) hown5 hgrow
          rw [hL2, HNOW.out] at hts
          have hz5 := hgrow.size
          have ht5 : IsTz w1.heap.size [] [] [] false w5 := (hgrow.block _ (by omega) (fun h => by have := (hno _ h.symm).1; omega)).trans HT2.out
          have hB5 : Below w1.heap.size w1 w5 := (hB.trans (b2.below (by omega))).grown hgrow (by omega) (fun q hq => by have := (hno q hq).1; omega)
          have HE5 := Lib.hid (HE1.out.below hB5 (by omega))
          have HTS := Lib.hid hts
          clear hts ht5 hown5 hgrow HT2 HO1 HO2 HA1 HA2 HTZ HOW HA QF HEo HNOW hL2
          go_wp2_with fail
          refine (QT.out _ HE5.out).mono ?_
          rintro e w8 ⟨v8, rfl, hts8, b8⟩
          have QE := Lib.hid (equal _ _ v5 v8 (toks all) w8 (HTS.out.below b8) hts8 (by omega))
          have hBw : Below w.heap.size w w8 := (b1.trans (hB5.mono z1)).trans (b8.mono (by omega))
          clear hts8 HTS
          go_wp2_with fail
          refine QE.out.mono ?_
          rintro e w9 ⟨rfl, b9⟩
          go_wp2_with fail
          go_ret
          exact ⟨rfl, hBw.trans (b9.mono (by have := hBw.size; omega))⟩
    · have hb6' : 60 < (bn : Int) := by omega
      clear hb6
      go_enter Tryz.func8, Tryz.ntmps8
      go_wp2_with fail
      refine (awake _ HE.out).mono ?_
      rintro e w1 ⟨rfl, b1⟩
      have HE1 := Lib.hid (HE.out.same b1)
      go_wp2_with fail
      refine (awake _ HE1.out).mono ?_
      rintro e w2 ⟨rfl, b2⟩
      go_wp2_with fail
      go_ret
      exact ⟨rfl, b1.trans (b2.mono b1.size)⟩
  · have h6' : 60 < (len : Int) := by omega
    clear h6
    go_enter Tryz.func8, Tryz.ntmps8
    go_wp2_with fail
    refine (awake _ HE.out).mono ?_
    rintro e w1 ⟨rfl, b1⟩
    have HE1 := Lib.hid (HE.out.same b1)
    go_wp2_with fail
    refine (awake _ HE1.out).mono ?_
    rintro e w2 ⟨rfl, b2⟩
    go_wp2_with fail
    go_ret
    exact ⟨rfl, b1.trans (b2.mono b1.size)⟩

end K
end Go.Proofs.YtlnginciehjlnaaGreatDoor
