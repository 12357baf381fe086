/- What the reference's Sheet comes to, for a text without at-rules whose rules' heads are all read. Valid texts, joined and cut. No program in sight. The text of selectors, and their specificity, as the chapter has them; over lists of bytes. No program in sight. The text of selectors: values, steps. The text of a test, given that of the part within. -/
import Derived.Test.YtafkeolpadfjfaaGreatDoorSh2
import Derived.Test.YtafkeolpadfjfaaGreatDoorSel19
import Derived.Test.YtafkeolpadfjfaaGreatDoorRsl13
import Derived.Test.YtafkeolpadfjfaaGreatDoorCases
import Derived.Test.YtafkeolpadfjfaaGreatDoorSel3
import Derived.Lib.ItoaMem
import Derived.Lib.IndexLaws
import Derived.Lib.ItoaLen
set_option linter.unusedVariables false
set_option linter.unusedSimpArgs false
namespace Go.Proofs.YtafkeolpadfjfaaGreatDoor
open Go.RowKit Go.Sort
namespace V
open H Y
def ROwn (B : Nat → Prop) (w : World) (v : Value) (l : List S.Decl) : Prop := ∃ b, RowR b w v l ∧ ∀ g, v.ownBlock = some g → B g
theorem keeps_rown : Keeps ROwn := by
 rintro B B' w w' v l ⟨b, h, hS⟩ k
 obtain ⟨h1, h2⟩ := own_keepK h hS k
 exact ⟨b, h1, h2⟩
theorem ROwn.of {b : Nat} {w : World} {v : Value} {l : List S.Decl} (h : RowR b w v l) : ROwn (b ≤ ·) w v l := ⟨b, h, fun g hg => (h.lt g hg).1⟩
def cRR (x : S.Rule) (v : Value) : List Value := [fstV v, sndV v]
def IRR (B : Nat → Prop) (w : World) (v : Value) (x : S.Rule) : Prop := K.SelsAt B w (fstV v) x.sels ∧ ROwn B w (sndV v) x.decls
theorem keeps_rr : Keeps IRR := fun h k => ⟨K.keeps_sels h.1 k, keeps_rown h.2 k⟩
theorem cRR_len (x : S.Rule) (v : Value) : (cRR x v).length = 2 := rfl
def RRulesAt (B : Nat → Prop) (w : World) (v : Value) (l : List S.Rule) : Prop := ListAt cRR IRR B w v l
theorem keeps_rrules : Keeps RRulesAt := fun h k => ListAt.keep keeps_rr h k
theorem infoRR : (Tryz.prog.info? 62).map (fun i => (i.zero, i.size, i.bytes)) = some (some (.agg #[.slice none 0 0, .slice none 0 0]), 2, 48) := by kernel_rfl
def ROut (b : Nat) (w : World) (v : Value) (l : List S.Rule) : Prop := OwnIn cRR IRR (b ≤ ·) b 62 2 w v l
def SheetR (q : List S.Rule) (w : World) (e : Ending) (w' : World) : Prop := ∃ v, e = .returned v ∧ Below w.heap.size w w' ∧ RRulesAt (w.heap.size ≤ ·) w' v q
theorem nlong {l : List (List L.Part)} (h : S.long l = false) {m : Nat} (hm : m < l.length) : l[m].length ≤ 128 := by
 unfold S.long at h
 rw [List.any_eq_false] at h
 have := h l[m] (List.getElem_mem hm)
 simpa using this
/-- One more rule. -/
theorem ROut.app {b : Nat} {w w5 : World} {v nv : Value} {l : List S.Rule} {x : S.Rule} {ob : Obj} {g cap : Nat} {ps : List (S.Rule × Value)} (h : ROut b w v l) (hb : b ≤ w.heap.size)
  (hps : ps.map (·.1) = l) (hI : ∀ q ∈ ps, IRR (fun k => b ≤ k ∧ v.ownBlock ≠ some k) w q.2 q.1)
  (hown : w5.ownsRow b 62 2 (.slice (some ⟨g, 0, none⟩) (l.length + 1) cap) (l.length + 1) ((ps.flatMap fun p => cRR p.1 p.2) ++ cRR x nv))
  (hgrow : (w.alloc ob).grownBy w5 v.ownBlock) (hat : v.ownBlock = some g ∨ g = w.heap.size + 1) (hx : IRR (fun k => b ≤ k ∧ v.ownBlock ≠ some k) w nv x) :
  ROut b w5 (.slice (some ⟨g, 0, none⟩) (l.length + 1) cap) (l ++ [x]) ∧ Below b w w5 := by
 have ka : ∀ {S : Nat → Prop}, Kept S S w (w.alloc ob) := fun {S} => (Kept.refl w).alloc ob
 have hv : ∀ k, v.ownBlock = some k → b ≤ k := fun k hk => (OwnIn.lt h hk).1
 have hsz : (w.alloc ob).heap.size = w.heap.size + 1 := by simp
 refine ⟨OwnIn.append (I := IRR) (c := cRR) (x := x) (vx := nv) keeps_rr (w := w.alloc ob) (v := v) hps hown (fun p hp => keeps_rr (x := p.1) (hI p hp) ka) hgrow ?_ (keeps_rr hx ka), ?_⟩
 ·rcases hat with h1 | h1
  ·exact Or.inl ⟨h1, hv g h1⟩
  ·exact Or.inr ⟨by omega, by omega⟩
 ·exact (((Below.refl w.heap.size w).alloc (Nat.le_refl _) ob).mono hb).grown hgrow (by rw [hsz]; omega) (fun k hk => hv k hk)
set_option maxHeartbeats 16000000 in
set_option maxRecDepth 100000 in
theorem sheet (s0 s : List UInt8) (w : World) (hs : s.length ≤ 80000)
  (hR : Calls Tryz.prog 35 #[.string ⟨s0.toArray⟩] w fun e w' => e = .returned (.string ⟨s.toArray⟩) ∧ Below w.heap.size w w')
  (hat : ∀ c ∈ s, c ≠ 64) (hgood : ∀ p ∈ S.raw s, ∃ l, L.read p.1 = some l ∧ S.long l = false ∧ l.length ≤ 100000) (hn : (S.raw s).length ≤ 3900) :
  Calls Tryz.prog 24 #[.string ⟨s0.toArray⟩] w (SheetR (S.rules s) w) := by
 have HR := Lib.hid hR
 have HAt := Lib.hid hat
 have HGd := Lib.hid hgood
 have HQ0 : Hid (S.rules s = [] ++ S.rules (s.drop 0)) := Lib.hid (by rw [List.drop_zero]; rfl)
 have HM0 : Hid (∀ p ∈ S.raw (s.drop 0), p ∈ S.raw s) := Lib.hid (by rw [List.drop_zero]; exact fun p hp => hp)
 have HL0 : ([] : List S.Rule).length + (S.raw (s.drop 0)).length ≤ 3900 := by rw [List.drop_zero, List.length_nil]; omega
 have zs := bytes_size s
 obtain ⟨i0, hi0, hz0, hz1, hz2⟩ := info_parts infoRR
 clear hR hat hgood
 generalize S.rules s = q at *
 go_enter Tryz.func24, Tryz.ntmps24
 go_wp2_with fail
 refine HR.out.mono ?_
 rintro e w1 ⟨rfl, hb1⟩
 have HU0 := Lib.hid hb1
 have HO0 : Hid (ROut w.heap.size w1 (.slice none 0 0) []) := Lib.hid OwnIn.nil
 clear hb1 HR
 go_wp2_with fail
 go_loopw [4, 5] (fun v4 v5 wr => ∃ (j : Nat) (acc : List S.Rule), v5 = .int .i64 j ∧ j ≤ s.length ∧ Hid (q = acc ++ S.rules (s.drop j)) ∧ Hid (∀ p ∈ S.raw (s.drop j), p ∈ S.raw s) ∧ acc.length + (S.raw (s.drop j)).length ≤ 3900 ∧ Hid (ROut w.heap.size wr v4 acc) ∧ Hid (Below w.heap.size w wr)) (fun _ v5 _ => s.length - (intOf v5).toNat)
 case atStart => exact ⟨0, [], rfl, Nat.zero_le _, HQ0, HM0, HL0, HO0, HU0⟩
 case round =>
  obtain ⟨j, acc, rfl, hj, HQ, HM, hl, HO, HU⟩ := hrel
  clear HQ0 HM0 HL0 HO0 HU0
  by_cases hlt : j < s.length
  ·have hltI : (j : Int) < (s.length : Int) := by omega
   obtain ⟨x, t, hd⟩ := drop_cons hlt
   have hix := at_drop hd (by rw [bytes_size]; exact hlt)
   have hmore := drop_more hd
   have QSp := Lib.hid (fun W => T.refSpace x W)
   have wj : IntKind.i64.wrap ((j : Int) + 1) = (j : Int) + 1 := IntWalk.i64_in _ (by omega)
   have hxm : x ≠ 64 := HAt.out x (List.mem_of_mem_drop (show x ∈ s.drop j by rw [hd]; exact List.mem_cons_self ..))
   have HD := Lib.hid hd
   have HMo := Lib.hid hmore
   clear hd hmore
   go_wp2_with fail
   refine (QSp.out _).mono ?_
   rintro e w' ⟨rfl, rfl⟩
   by_cases hidl : S.idle x = true
   ·have HN := Lib.hid (same_raw (j2 := j + 1) (by rw [HD.out, HMo.out]; exact S.raw_idle hidl) HQ.out HM.out hl)
    have hcase : T.sp x = true ∨ (T.sp x = false ∧ ((x.toNat : Int) == 125) = true ∧ (x.toNat : Int) = 125) ∨ (T.sp x = false ∧ (((x.toNat : Int) == 125) = false ∧ ¬ (x.toNat : Int) = 125) ∧ ((x.toNat : Int) == 59) = true ∧ (x.toNat : Int) = 59) := by
     unfold S.idle at hidl
     cases hsp : T.sp x with
     | true => exact Or.inl rfl
     | false =>
      rw [hsp] at hidl
      by_cases h1 : x = 125
      ·have q := isB (n := 125) h1 (by decide)
       exact Or.inr (Or.inl ⟨rfl, q.1, q.2.2⟩)
      ·have p := noB (n := 125) h1 (by decide)
       have q := isB (n := 59) (c := x) (by simpa [h1] using hidl) (by decide)
       exact Or.inr (Or.inr ⟨rfl, ⟨p.1, p.2.2⟩, q.1, q.2.2⟩)
    rcases hcase with h1 | ⟨h1, h2, h3⟩ | ⟨h1, ⟨h2, h3⟩, h4, h5⟩
    all_goals
     rw [h1]
     go_wp2_with fail
     go_roundw
     case rel => exact ⟨j + 1, acc, by go_num, by omega, Lib.hid HN.out.1, Lib.hid HN.out.2.1, HN.out.2.2, HO, HU⟩
     case measure => simp [intOf]; omega
   ·have hidl : S.idle x = false := by simpa using hidl
    have hsp : T.sp x = false := by
     unfold S.idle at hidl
     cases hsp : T.sp x with
     | true => rw [hsp] at hidl; exact absurd hidl (by simp)
     | false => rfl
    have h125 : x ≠ 125 := by rintro rfl; revert hidl; decide
    have h59 : x ≠ 59 := by rintro rfl; revert hidl; decide
    obtain ⟨a125, b125, m125⟩ : ((x.toNat : Int) == 125) = false ∧ ((x.toNat : Int) != 125) = true ∧ ¬ (x.toNat : Int) = 125 := noB (n := 125) h125 (by decide)
    obtain ⟨a59, b59, m59⟩ : ((x.toNat : Int) == 59) = false ∧ ((x.toNat : Int) != 59) = true ∧ ¬ (x.toNat : Int) = 59 := noB (n := 59) h59 (by decide)
    obtain ⟨a64, b64, m64⟩ : ((x.toNat : Int) == 64) = false ∧ ((x.toNat : Int) != 64) = true ∧ ¬ (x.toNat : Int) = 64 := noB (n := 64) hxm (by decide)
    rw [hsp]
    have HRaw0 : Hid (S.raw (s.drop j) = match s.drop (j + S.scan [123] 0 0 (s.drop j)) with | [] => [] | _ :: r => ((s.drop j).take (S.scan [123] 0 0 (s.drop j)), S.inside r) :: S.raw (S.behind r)) := Lib.hid (by
     have h := HD.out
     rw [h, S.raw_rule hidl hxm, ← h, List.drop_drop]
     cases s.drop (j + S.scan [123] 0 0 (s.drop j)) <;> rfl)
    have hEl : j + S.scan [123] 0 0 (s.drop j) ≤ s.length := by have := S.scan_le [123] (s.drop j) 0 0; rw [List.length_drop] at this; omega
    have hEj : j ≤ j + S.scan [123] 0 0 (s.drop j) := Nat.le_add_right _ _
    have hsub : j + S.scan [123] 0 0 (s.drop j) - j = S.scan [123] 0 0 (s.drop j) := Nat.add_sub_cancel_left _ _
    have HZ : Hid (∀ d r, s.drop (j + S.scan [123] 0 0 (s.drop j)) = d :: r → d = 123) := Lib.hid (fun d r h => by
     rw [← List.drop_drop] at h
     simpa using scan_meets [123] (s.drop j) 0 0 h)
    rw [← hsub] at HRaw0
    generalize hEE : j + S.scan [123] 0 0 (s.drop j) = E at HRaw0 hEl hEj HZ
    have HK0 : Hid (j + S.scan [123] 0 0 (s.drop j) = E) := Lib.hid hEE
    clear hsub hEE
    have hEE : j + (E - j) = E := by omega
    rw [hEE] at HRaw0
    clear hEE hidl hsp h125 h59 hxm QSp wj
    go_wp2_with fail
    go_loop [5] (fun v5 => ∃ k : Nat, v5 = .int .i64 k ∧ j ≤ k ∧ k ≤ s.length ∧ Hid (k + S.scan [123] 0 0 (s.drop k) = E)) (fun v5 => s.length - (intOf v5).toNat)
    case atStart => exact ⟨j, rfl, Nat.le_refl _, hj, HK0⟩
    case round =>
     obtain ⟨k, rfl, hjk, hk, HK⟩ := hrel
     clear HK0 hix
     by_cases hkl : k < s.length
     ·have hkI : (k : Int) < (s.length : Int) := by omega
      obtain ⟨c, r, hcr⟩ := drop_cons hkl
      have hkx := at_drop hcr (by rw [bytes_size]; exact hkl)
      by_cases hc : c = 123
      ·have hEk : E = k := by
        have h := HK.out
        rw [hcr, S.scan_stop (by simp [hc])] at h
        omega
       obtain rfl : E = k := hEk
       obtain ⟨a123, b123, m123⟩ : ((c.toNat : Int) == 123) = true ∧ ((c.toNat : Int) != 123) = false ∧ (c.toNat : Int) = 123 := isB (n := 123) hc (by decide)
       obtain ⟨c59, d59, n59⟩ : ((c.toNat : Int) == 59) = false ∧ ((c.toNat : Int) != 59) = true ∧ ¬ (c.toNat : Int) = 59 := noB (n := 59) (by rw [hc]; decide) (by decide)
       have hge : ¬ (s.length : Int) ≤ (E : Int) := by omega
       have HRaw : Hid (S.raw (s.drop j) = ((s.drop j).take (E - j), S.inside r) :: S.raw (S.behind r)) := Lib.hid (by rw [HRaw0.out, hcr])
       have hpl : ((s.drop j).take (E - j)).length ≤ 80000 := by rw [List.length_take, List.length_drop]; omega
       have hsl := slice_str s j E hjk hEl
       obtain ⟨sl, hsl1, hsl2, hsl3⟩ := HGd.out _ (HM.out _ (by rw [HRaw.out]; exact List.mem_cons_self ..))
       have QN := Lib.hid (fun W => next s.length s r c E W (by omega) (by omega) hcr)
       have hnx : S.nx (c :: r) = 1 + min (S.scan S.closers 0 0 r + 1) r.length := by rw [hc]; exact S.nx_brace r
       have hrl := drop_len hcr
       have hrd := drop_more hcr
       have QCl := Lib.hid (fun en W (h : en ≤ s.length) => closed s r c E en W (by omega) hcr h)
       have HQ2 : Hid (q = (acc ++ [⟨sl, S.decls (S.inside r)⟩]) ++ S.rules (S.behind r)) := Lib.hid (by
        have h := HQ.out
        unfold S.rules at h
        rw [HRaw.out, List.filterMap_cons] at h
        have hr : S.ruleOf ((s.drop j).take (E - j), S.inside r) = some ⟨sl, S.decls (S.inside r)⟩ := by
         unfold S.ruleOf
         dsimp only
         rw [hsl1]
         dsimp only
         rw [hsl2]
         rfl
        rw [hr] at h
        rw [h, List.append_assoc]
        rfl)
       have HM2 : Hid (∀ p ∈ S.raw (S.behind r), p ∈ S.raw s) := Lib.hid (fun p hp => HM.out p (by rw [HRaw.out]; exact List.mem_cons_of_mem _ hp))
       have hl2 : acc.length + 1 + (S.raw (S.behind r)).length ≤ 3900 := by
        have h := congrArg List.length HRaw.out
        rw [List.length_cons] at h
        omega
       have HB2 : Hid (S.behind r = s.drop (E + S.nx (c :: r))) := Lib.hid (by rw [← List.drop_drop, hcr, hc]; exact (S.behind_nx r).symm)
       rw [HB2.out] at HQ2 HM2 hl2
       have hinl : (S.inside r).length ≤ 80000 := by unfold S.inside; rw [List.length_take]; omega
       have hNX : E + S.nx (c :: r) ≤ s.length ∧ E + 1 ≤ E + S.nx (c :: r) := by rw [hnx]; omega
       have hcase : (E + S.nx (c :: r) = E + 1 ∧ (⟨s.toArray⟩ : ByteArray).extract (E + 1) (E + 1) = ⟨(S.inside r).toArray⟩) ∨ (E + 1 < E + S.nx (c :: r) ∧ decide (E + 1 + S.scan S.closers 0 0 r < E + S.nx (c :: r)) = true ∧ (⟨s.toArray⟩ : ByteArray).extract (E + 1) (E + S.nx (c :: r) - 1) = ⟨(S.inside r).toArray⟩) ∨ (E + 1 < E + S.nx (c :: r) ∧ decide (E + 1 + S.scan S.closers 0 0 r < E + S.nx (c :: r)) = false ∧ (⟨s.toArray⟩ : ByteArray).extract (E + 1) (E + S.nx (c :: r)) = ⟨(S.inside r).toArray⟩) := by
        have hscl := S.scan_le S.closers r 0 0
        rw [hnx]
        by_cases h0 : r.length = 0
        ·refine Or.inl ⟨by omega, ?_⟩
         rw [slice_str s _ _ (by omega) (by omega), hrd]
         have : r = [] := List.eq_nil_of_length_eq_zero h0
         subst this
         unfold S.inside
         simp
        ·by_cases h1 : S.scan S.closers 0 0 r < r.length
         ·refine Or.inr (Or.inl ⟨by omega, decide_eq_true (by omega), ?_⟩)
          rw [slice_str s _ _ (by omega) (by omega), hrd]
          unfold S.inside
          congr 3
          omega
         ·refine Or.inr (Or.inr ⟨by omega, decide_eq_false (by omega), ?_⟩)
          rw [slice_str s _ _ (by omega) (by omega), hrd, S.inside_open (by omega)]
          congr 2
          exact List.take_of_length_le (by omega)
       have QP := Lib.hid (fun W => F.parse ((s.drop j).take (E - j)) W (by omega))
       have QD := Lib.hid (fun W => decls (S.inside r) W hinl)
       generalize E + S.nx (c :: r) = en at *
       generalize S.decls (S.inside r) = dl at *
       generalize S.inside r = ins at *
       generalize (s.drop j).take (E - j) = pre at *
       obtain ⟨hen1, hen2⟩ := hNX
       have HS1 := Lib.hid hsl1
       have hjE : (j : Int) ≤ (E : Int) := by omega
       have wE : IntKind.i64.wrap ((E : Int) + 1) = (E : Int) + 1 := IntWalk.i64_in _ (by omega)
       have we : IntKind.i64.wrap ((en : Int) - 1) = ((en - 1 : Nat) : Int) := by rw [show ((en - 1 : Nat) : Int) = (en : Int) - 1 by omega]; exact IntWalk.i64_in _ (by omega)
       clear hcr hrd hrl hnx hsl1 HRaw HRaw0 HB2 HZ HK HD HMo hc
       go_wp2_with fail
       refine (QN.out _).mono ?_
       rintro e w' ⟨rfl, rfl⟩
       go_wp2_with fail
       refine (QP.out _).mono ?_
       rintro e w2 ⟨hb2, hh⟩
       rcases hh with ⟨hno, _⟩ | ⟨l, v, hr, rfl, hS⟩
       ·rw [HS1.out] at hno
        cases hno
       ·obtain rfl : sl = l := by rw [HS1.out] at hr; injection hr
        have HU2 := Lib.hid (HU.out.trans (hb2.mono HU.out.size))
        have HO2 : Hid (ROut w.heap.size w2 u4 acc) := Lib.hid (OwnIn.keep keeps_rr HO.out (Kept.below hb2))
        have HS2 : Hid (K.SelsAt (fun k => w.heap.size ≤ k ∧ u4.ownBlock ≠ some k) w2 v sl) := Lib.hid (K.keeps_sels hS (Kept.wide (fun g hg => ⟨Nat.le_trans HU.out.size hg, fun he => by
         have := (OwnIn.lt HO.out he).2.2
         omega⟩)))
        obtain ⟨av, cv, hv⟩ := hS.form
        clear hb2 hS hr QP QN HU HO HS1
        have hNN : ∃ N, N = sl.length := ⟨_, rfl⟩
        obtain ⟨N, hN⟩ := hNN
        have hNb : N ≤ 100000 := by omega
        rw [← hN] at hv
        have HN := Lib.hid hN
        have HLg := Lib.hid hsl2
        subst hv
        clear hN hsl2 hsl3
        go_wp2_with fail
        go_loop [10, 11] (fun v10 v11 => v10 = .bool true ∧ ∃ m : Nat, v11 = .int .i64 m ∧ m ≤ N) (fun _ v11 => N - (intOf v11).toNat)
        case atStart => exact ⟨rfl, 0, rfl, Nat.zero_le _⟩
        case round =>
         obtain ⟨rfl, m, rfl, hm⟩ := hrel
         by_cases hmN : m < N
         ·have hmI : (m : Int) < (N : Int) := by omega
          have hml : m < sl.length := by rw [← HN.out]; exact hmN
          obtain ⟨g, hg⟩ := lsl HS2.out (by omega)
          subst hg
          obtain ⟨hglt, hgn, hgS, vk, hcell, hpk⟩ := ListAt.at_ K.cSel_len HS2.out hml
          have c0 := hcell 0 (by omega)
          simp only [Nat.mul_one, Nat.add_zero] at c0
          have k0 : w2.cell? ⟨g, m, none⟩ = some vk := c0
          obtain ⟨ap, cp, hvk⟩ := hpk.form
          have h128 : ((sl[m].length : Nat) : Int) ≤ 128 := by have := nlong HLg.out hml; omega
          generalize sl[m].length = np at hvk h128
          subst hvk
          clear hcell hpk c0 hgS hgn hml
          go_wp2_with fail
          go_round
          case rel => exact ⟨rfl, m + 1, by go_num, by omega⟩
          case measure => simp [intOf]; omega
         ·have hmI : ¬ (m : Int) < (N : Int) := by omega
          obtain ⟨ao, cap, hv⟩ := OwnIn.form HO2.out
          have hLL : ∃ LL, LL = acc.length := ⟨_, rfl⟩
          obtain ⟨LL, hLL⟩ := hLL
          rw [← hLL] at hv hl2
          have HLL := Lib.hid hLL
          clear hLL
          subst hv
          have hd4 : (LL : Int) < 4000 := by omega
          have hd5 : decide ((LL : Int) < 4000) = true := decide_eq_true hd4
          have heE : (E : Int) + 1 ≤ (en : Int) := by omega
          have hel : (en : Int) ≤ (s.length : Int) := by omega
          have h0E : (0 : Int) ≤ (E : Int) + 1 := by omega
          rcases hcase with ⟨h1, h2⟩ | ⟨h1, h2, h3⟩ | ⟨h1, h2, h3⟩
          ·have hx : (⟨s.toArray⟩ : ByteArray).extract (E + 1) en = ⟨ins.toArray⟩ := by rw [h1]; exact h2
           have hgt : ¬ (E : Int) + 1 < (en : Int) := by omega
           clear h1 h2
           go_wp2_with fail
           refine (QD.out _).mono ?_
           rintro e w3 ⟨vd, rfl, hb3, hod⟩
           have HU3 := Lib.hid (HU2.out.trans (hb3.mono HU2.out.size))
           have HO3 : Hid (ROut w.heap.size w3 (.slice ao LL cap) acc) := Lib.hid (OwnIn.keep keeps_rr HO2.out (Kept.below hb3))
           have HX3 : Hid (IRR (fun k => w.heap.size ≤ k ∧ (Value.slice ao LL cap).ownBlock ≠ some k) w3 (.tuple #[.slice av N cv, vd]) ⟨sl, dl⟩) := Lib.hid ⟨K.keeps_sels HS2.out (Kept.below hb3), keeps_rown (ROwn.of hod) (Kept.wide (fun g hg => ⟨Nat.le_trans HU2.out.size hg, fun he => by
            have := (OwnIn.lt HO2.out he).2.2
            omega⟩))⟩
           obtain ⟨ad, cd, hvd⟩ := hod.form
           generalize dl.length = nd at hvd
           subst hvd
           obtain ⟨ps, hps, hown0, hI, hnil, _⟩ := HO3.out
           rw [← HLL.out] at hown0
           have HOwn := Lib.hid hown0
           have HPs := Lib.hid hps
           have HIq := Lib.hid hI
           have hz3 := HU3.out.size
           clear hb3 hod QD hown0 hps hI hnil HU2 HO2 HS2 HM HQ hl
           generalize hxx : (⟨sl, dl⟩ : S.Rule) = rl at *
           go_wp2_with (at_builtin; refine wpList_append_lies _ rfl _ _ 53 rfl w.heap.size 62 i0 _ 2 48 Tryz.underlying53 hi0 hz0 hz1 hz2 rfl (by decide) (.slice ao LL cap) LL (ps.flatMap fun p => cRR p.1 p.2) rfl (HOwn.out.alloc _) ⟨w3.heap.size, 0, none⟩ 1 1 [.slice av N cv, .slice ad nd cd] rfl rfl ?a1 ?a2 ?a3 ?a4 ?a5 ?a6 (w3.heap.size + 1) ?a7 ?_)
           case a1 => exact World.news_of_block (heap_alloc_new w3 (.cells #[.slice av N cv, .slice ad nd cd] 62))
           case a2 => simp [Value.oneCell']
           case a3 => omega
           case a4 => unfold maxLen; omega
           case a5 => omega
           case a6 => simp; omega
           case a7 => simp
           intro gg cap2 w5 hown5 hgrow hat5 hlt5
           obtain ⟨hro, hrb⟩ := ROut.app (x := rl) (nv := .tuple #[.slice av N cv, .slice ad nd cd]) HO3.out hz3 HPs.out HIq.out (by rw [← HLL.out]; exact hown5) hgrow hat5 HX3.out
           rw [← HLL.out] at hro
           have HO5 := Lib.hid hro
           have HU5 := Lib.hid (HU3.out.trans hrb)
           have hl5 : (acc ++ [rl]).length + (S.raw (s.drop en)).length ≤ 3900 := by rw [List.length_append, ← HLL.out]; exact hl2
           clear hro hrb hown5 hgrow hat5 HX3 HO3 HU3 HOwn HPs HIq
           go_wp2_with fail
           go_roundw
           case rel => exact ⟨en, acc ++ [rl], rfl, hen1, HQ2, HM2, hl5, HO5, HU5⟩
           case measure => simp [intOf]; omega
          ·have hgt : (E : Int) + 1 < (en : Int) := by omega
           have hel2 : ((en - 1 : Nat) : Int) ≤ (s.length : Int) := by omega
           have heE2 : (E : Int) + 1 ≤ ((en - 1 : Nat) : Int) := by omega
           have Q6 := Lib.hid (fun W => QCl.out en W hen1)
           rw [h2] at Q6
           clear h1 h2
           go_wp2_with fail
           refine (Q6.out _).mono ?_
           rintro e w' ⟨rfl, rfl⟩
           go_wp2_with fail
           refine (QD.out _).mono ?_
           rintro e w3 ⟨vd, rfl, hb3, hod⟩
           have HU3 := Lib.hid (HU2.out.trans (hb3.mono HU2.out.size))
           have HO3 : Hid (ROut w.heap.size w3 (.slice ao LL cap) acc) := Lib.hid (OwnIn.keep keeps_rr HO2.out (Kept.below hb3))
           have HX3 : Hid (IRR (fun k => w.heap.size ≤ k ∧ (Value.slice ao LL cap).ownBlock ≠ some k) w3 (.tuple #[.slice av N cv, vd]) ⟨sl, dl⟩) := Lib.hid ⟨K.keeps_sels HS2.out (Kept.below hb3), keeps_rown (ROwn.of hod) (Kept.wide (fun g hg => ⟨Nat.le_trans HU2.out.size hg, fun he => by
            have := (OwnIn.lt HO2.out he).2.2
            omega⟩))⟩
           obtain ⟨ad, cd, hvd⟩ := hod.form
           generalize dl.length = nd at hvd
           subst hvd
           obtain ⟨ps, hps, hown0, hI, hnil, _⟩ := HO3.out
           rw [← HLL.out] at hown0
           have HOwn := Lib.hid hown0
           have HPs := Lib.hid hps
           have HIq := Lib.hid hI
           have hz3 := HU3.out.size
           clear hb3 hod QD hown0 hps hI hnil HU2 HO2 HS2 HM HQ hl
           generalize hxx : (⟨sl, dl⟩ : S.Rule) = rl at *
           go_wp2_with (at_builtin; refine wpList_append_lies _ rfl _ _ 53 rfl w.heap.size 62 i0 _ 2 48 Tryz.underlying53 hi0 hz0 hz1 hz2 rfl (by decide) (.slice ao LL cap) LL (ps.flatMap fun p => cRR p.1 p.2) rfl (HOwn.out.alloc _) ⟨w3.heap.size, 0, none⟩ 1 1 [.slice av N cv, .slice ad nd cd] rfl rfl ?b1 ?b2 ?b3 ?b4 ?b5 ?b6 (w3.heap.size + 1) ?b7 ?_)
           case b1 => exact World.news_of_block (heap_alloc_new w3 (.cells #[.slice av N cv, .slice ad nd cd] 62))
           case b2 => simp [Value.oneCell']
           case b3 => omega
           case b4 => unfold maxLen; omega
           case b5 => omega
           case b6 => simp; omega
           case b7 => simp
           intro gg cap2 w5 hown5 hgrow hat5 hlt5
           obtain ⟨hro, hrb⟩ := ROut.app (x := rl) (nv := .tuple #[.slice av N cv, .slice ad nd cd]) HO3.out hz3 HPs.out HIq.out (by rw [← HLL.out]; exact hown5) hgrow hat5 HX3.out
           rw [← HLL.out] at hro
           have HO5 := Lib.hid hro
           have HU5 := Lib.hid (HU3.out.trans hrb)
           have hl5 : (acc ++ [rl]).length + (S.raw (s.drop en)).length ≤ 3900 := by rw [List.length_append, ← HLL.out]; exact hl2
           clear hro hrb hown5 hgrow hat5 HX3 HO3 HU3 HOwn HPs HIq
           go_wp2_with fail
           go_roundw
           case rel => exact ⟨en, acc ++ [rl], rfl, hen1, HQ2, HM2, hl5, HO5, HU5⟩
           case measure => simp [intOf]; omega
          ·have hgt : (E : Int) + 1 < (en : Int) := by omega
           have Q6 := Lib.hid (fun W => QCl.out en W hen1)
           rw [h2] at Q6
           clear h1 h2
           go_wp2_with fail
           refine (Q6.out _).mono ?_
           rintro e w' ⟨rfl, rfl⟩
           go_wp2_with fail
           refine (QD.out _).mono ?_
           rintro e w3 ⟨vd, rfl, hb3, hod⟩
           have HU3 := Lib.hid (HU2.out.trans (hb3.mono HU2.out.size))
           have HO3 : Hid (ROut w.heap.size w3 (.slice ao LL cap) acc) := Lib.hid (OwnIn.keep keeps_rr HO2.out (Kept.below hb3))
           have HX3 : Hid (IRR (fun k => w.heap.size ≤ k ∧ (Value.slice ao LL cap).ownBlock ≠ some k) w3 (.tuple #[.slice av N cv, vd]) ⟨sl, dl⟩) := Lib.hid ⟨K.keeps_sels HS2.out (Kept.below hb3), keeps_rown (ROwn.of hod) (Kept.wide (fun g hg => ⟨Nat.le_trans HU2.out.size hg, fun he => by
            have := (OwnIn.lt HO2.out he).2.2
            omega⟩))⟩
           obtain ⟨ad, cd, hvd⟩ := hod.form
           generalize dl.length = nd at hvd
           subst hvd
           obtain ⟨ps, hps, hown0, hI, hnil, _⟩ := HO3.out
           rw [← HLL.out] at hown0
           have HOwn := Lib.hid hown0
           have HPs := Lib.hid hps
           have HIq := Lib.hid hI
           have hz3 := HU3.out.size
           clear hb3 hod QD hown0 hps hI hnil HU2 HO2 HS2 HM HQ hl
           generalize hxx : (⟨sl, dl⟩ : S.Rule) = rl at *
           go_wp2_with (at_builtin; refine wpList_append_lies _ rfl _ _ 53 rfl w.heap.size 62 i0 _ 2 48 Tryz.underlying53 hi0 hz0 hz1 hz2 rfl (by decide) (.slice ao LL cap) LL (ps.flatMap fun p => cRR p.1 p.2) rfl (HOwn.out.alloc _) ⟨w3.heap.size, 0, none⟩ 1 1 [.slice av N cv, .slice ad nd cd] rfl rfl ?c1 ?c2 ?c3 ?c4 ?c5 ?c6 (w3.heap.size + 1) ?c7 ?_)
           case c1 => exact World.news_of_block (heap_alloc_new w3 (.cells #[.slice av N cv, .slice ad nd cd] 62))
           case c2 => simp [Value.oneCell']
           case c3 => omega
           case c4 => unfold maxLen; omega
           case c5 => omega
           case c6 => simp; omega
           case c7 => simp
           intro gg cap2 w5 hown5 hgrow hat5 hlt5
           obtain ⟨hro, hrb⟩ := ROut.app (x := rl) (nv := .tuple #[.slice av N cv, .slice ad nd cd]) HO3.out hz3 HPs.out HIq.out (by rw [← HLL.out]; exact hown5) hgrow hat5 HX3.out
           rw [← HLL.out] at hro
           have HO5 := Lib.hid hro
           have HU5 := Lib.hid (HU3.out.trans hrb)
           have hl5 : (acc ++ [rl]).length + (S.raw (s.drop en)).length ≤ 3900 := by rw [List.length_append, ← HLL.out]; exact hl2
           clear hro hrb hown5 hgrow hat5 HX3 HO3 HU3 HOwn HPs HIq
           go_wp2_with fail
           go_roundw
           case rel => exact ⟨en, acc ++ [rl], rfl, hen1, HQ2, HM2, hl5, HO5, HU5⟩
           case measure => simp [intOf]; omega
      ·obtain ⟨a123, b123, m123⟩ : ((c.toNat : Int) == 123) = false ∧ ((c.toNat : Int) != 123) = true ∧ ¬ (c.toNat : Int) = 123 := noB (n := 123) hc (by decide)
       have QN := Lib.hid (fun W => next s.length s r c k W (by omega) (by omega) hcr)
       have hnp := S.nx_pos (c := c) (t := r)
       have hnl := S.nx_le (c :: r)
       have hdlA := drop_len hcr
       rw [List.length_cons] at hnl
       have HK2 : Hid (k + S.nx (c :: r) + S.scan [123] 0 0 (s.drop (k + S.nx (c :: r))) = E) := Lib.hid (by
        have h := HK.out
        rw [hcr, S.scan_next (by simpa using hc)] at h
        rw [← List.drop_drop, hcr]
        omega)
       have hb2 : k + S.nx (c :: r) ≤ s.length := by omega
       generalize S.nx (c :: r) = NX at *
       clear hcr hc HK hnl hdlA
       go_wp2_with fail
       refine (QN.out _).mono ?_
       rintro e w' ⟨rfl, rfl⟩
       go_wp2_with fail
       go_round
       case rel => exact ⟨k + NX, by go_num, by omega, by omega, HK2⟩
       case measure => simp [intOf]; omega
     ·have hkI : ¬ (k : Int) < (s.length : Int) := by omega
      have hge : (s.length : Int) ≤ (k : Int) := by omega
      have hEk : E = k := by
       have h := HK.out
       rw [List.drop_eq_nil_of_le (by omega)] at h
       simpa [S.scan] using h.symm
      have HA : Hid (acc = q) := Lib.hid (by
       have h := HQ.out
       unfold S.rules at h
       rw [HRaw0.out, hEk, List.drop_eq_nil_of_le (by omega)] at h
       rw [h]
       show acc = acc ++ []
       rw [List.append_nil])
      have HF : Hid (RRulesAt (w.heap.size ≤ ·) wr u4 q) := Lib.hid (by rw [← HA.out]; exact OwnIn.list keeps_rr HO.out)
      obtain ⟨ao, cap, hv⟩ := OwnIn.form HO.out
      generalize acc.length = n at hv
      subst hv
      clear HK HQ HM HO HA HRaw0
      go_wp2_with fail
      go_ret
      exact ⟨_, rfl, HU.out, HF.out⟩
  ·have hltI : ¬ (j : Int) < (s.length : Int) := by omega
   have HA : Hid (acc = q) := Lib.hid (by
    have h := HQ.out
    rw [List.drop_eq_nil_of_le (by omega)] at h
    rw [h]
    show acc = acc ++ []
    rw [List.append_nil])
   have HF : Hid (RRulesAt (w.heap.size ≤ ·) wr u4 q) := Lib.hid (by rw [← HA.out]; exact OwnIn.list keeps_rr HO.out)
   obtain ⟨ao, cap, hv⟩ := OwnIn.form HO.out
   generalize acc.length = n at hv
   subst hv
   clear HQ HM HO HA
   go_wp2_with fail
   go_ret
   exact ⟨_, rfl, HU.out, HF.out⟩
end V
end Go.Proofs.YtafkeolpadfjfaaGreatDoor
namespace Go.Proofs.YtafkeolpadfjfaaGreatDoor
namespace U
def V (l : List UInt8) : Prop := rep l = l
theorem V_nil : V [] := rfl
theorem V_split {l : List UInt8} (h0 : sz l ≠ 0) : V l ↔ V (l.drop (sz l)) := by
 have hl : l ≠ [] := fun h => h0 (by rw [h]; exact sz_nil)
 have h1 := rep_cons l hl
 unfold chunk adv at h1
 rw [if_neg h0, if_neg h0] at h1
 unfold V
 rw [h1]
 constructor
 ·intro h
  have h2 : l.take (sz l) ++ rep (l.drop (sz l)) = l.take (sz l) ++ l.drop (sz l) := by rw [List.take_append_drop]; exact h
  exact List.append_cancel_left h2
 ·intro h
  rw [h, List.take_append_drop]
theorem V_cons {c : UInt8} {r : List UInt8} (hc : c.toNat < 128) : V (c :: r) ↔ V r := by
 have h0 : sz (c :: r) = 1 := by
  unfold sz
  have : rng (c :: r) 0 0 127 = true := by rw [rng_iff]; refine ⟨by simp, Nat.zero_le _, ?_⟩; show c.toNat ≤ 127; omega
  rw [if_pos this]
 have := V_split (l := c :: r) (by omega)
 rw [h0] at this
 exact this
end U
end Go.Proofs.YtafkeolpadfjfaaGreatDoor
namespace Go.Proofs.YtafkeolpadfjfaaGreatDoor
namespace L
def quoted (v : List UInt8) : List UInt8 := if (34 : UInt8) ∈ v then 39 :: (v ++ [39]) else 34 :: (v ++ [34])
/-- The number ahead of the letter. -/
def ahead (a : Int) : List UInt8 := if a = 1 then [] else if a = -1 then [45] else Lib.itoa a
/-- What follows the letter. -/
def behind (b : Int) : List UInt8 := (if 0 < b then [43] else []) ++ (if b = 0 then [] else Lib.itoa b)
def stepOf (a b : Int) : List UInt8 := if a = 0 then Lib.itoa b else ahead a ++ (110 :: behind b)
def ofKind (k : Nat) : List UInt8 := match pseudos.find? (fun p => p.2 == k) with | some p => 58 :: p.1 | none => []
/-- A part, given the texts of its tests. -/
def fpart (ty : List UInt8) (fs : List (List UInt8)) : List UInt8 := if ty = [] ∧ fs = [] then [42] else ty ++ fs.flatten
def nthHead : List UInt8 := [58, 110, 116, 104, 45, 99, 104, 105, 108, 100, 40]
def notHead : List UInt8 := [58, 110, 111, 116, 40]
/-- A test, given the texts of the tests within. -/
def ftest (t : Tst) (fs : List (List UInt8)) : List UInt8 :=
 if t.kind = 1 then 35 :: t.name
 else if t.kind = 2 then 46 :: t.name
 else if t.kind = 3 then 91 :: (t.name ++ [93])
 else if t.kind = 4 then 91 :: (t.name ++ (61 :: (quoted t.value ++ [93])))
 else if t.kind = 5 then 91 :: (t.name ++ (126 :: 61 :: (quoted t.value ++ [93])))
 else if t.kind = 6 then 91 :: (t.name ++ (94 :: 61 :: (quoted t.value ++ [93])))
 else if t.kind = 9 then nthHead ++ (stepOf t.a t.b ++ [41])
 else if t.kind = 14 then notHead ++ (fpart t.name fs ++ [41])
 else ofKind t.kind
def ftst (t : Tst) : List UInt8 := ftest t []
def fTest (t : Test) : List UInt8 := ftest t.t (t.nots.map ftst)
def fTests (ty : List UInt8) (l : List Test) : List UInt8 := fpart ty (l.map fTest)
def fPart (p : Part) : List UInt8 := fTests p.type p.tests
def fjoin (j : Nat) : List UInt8 := if j = 1 then [32] else if j = 2 then [32, 62, 32] else if j = 3 then [32, 43, 32] else if j = 4 then [32, 126, 32] else []
def fSel (ps : List Part) : List UInt8 := ps.flatMap fun p => fjoin p.join ++ fPart p
def fList : List (List Part) → List UInt8
 | [] => []
 | [x] => fSel x
 | x :: y :: r => fSel x ++ (44 :: 32 :: fList (y :: r))
end L
end Go.Proofs.YtafkeolpadfjfaaGreatDoor
namespace Go.Proofs.YtafkeolpadfjfaaGreatDoor
open Go.RowKit Go.Sort
namespace K
open H
theorem ret_str {a b : ByteArray} (h : a = b) : Ending.returned (.string a) = .returned (.string b) := by rw [h]
end K
end Go.Proofs.YtafkeolpadfjfaaGreatDoor
namespace Go.Proofs.YtafkeolpadfjfaaGreatDoor
open Go.RowKit Go.Sort
namespace K
open H
def TstOk (t : L.Tst) : Prop := t.kind = 9 → (-1000000 ≤ t.a ∧ t.a ≤ 1000000) ∧ (-1000000 ≤ t.b ∧ t.b ≤ 1000000)
def TextPost (l : List UInt8) (w : World) (e : Ending) (w' : World) : Prop := e = .returned (.string ⟨l.toArray⟩) ∧ Below w.heap.size w w'
theorem le_quoted (v : List UInt8) : (L.quoted v).length = v.length + 2 := by
 unfold L.quoted; split <;> simp
end K
end Go.Proofs.YtafkeolpadfjfaaGreatDoor
