/- What style.Parse comes to. -/
import Derived.Test.YtafkeolpadfjfaaGreatDoorSh1
import Derived.Test.YtafkeolpadfjfaaGreatDoorSel19
import Derived.Deep.RegionHeld3
import Derived.Deep.RegionLaw
set_option linter.unusedVariables false
set_option linter.unusedSimpArgs false
namespace Go.Proofs.YtafkeolpadfjfaaGreatDoor
open Go.RowKit Go.Sort
namespace Y
open H K
def PRel (r b c : Nat) (s : List UInt8) (o : Int) (q : List S.Rule) (w wr : World) : Prop :=
 ∃ (j : Nat) (v : Value) (acc : List S.Rule), j ≤ s.length + 1 ∧ Hid (PSt r b c j s o v acc w wr) ∧ Hid (q = acc ++ S.rules (s.drop j)) ∧ Hid (∀ p ∈ S.raw (s.drop j), p ∈ S.raw s) ∧ acc.length + (S.raw (s.drop j)).length ≤ 3900
theorem pmeas {c j j2 : Nat} {s : List UInt8} {W wr : World} (h : W.cell? ⟨c, 1, none⟩ = some (.int .i64 (j2 : Nat))) (h1 : wr.cell? ⟨c, 1, none⟩ = some (.int .i64 (j : Nat))) (hj : j ≤ s.length + 1) (hjj : j < j2) :
  s.length + 2 - (match W.cell? ⟨c, 1, none⟩ with | some (.int _ q) => q.toNat | _ => 0) < s.length + 2 - (match wr.cell? ⟨c, 1, none⟩ with | some (.int _ q) => q.toNat | _ => 0) := by
 rw [h, h1]
 show s.length + 2 - ((((j2 : Nat) : Int)).toNat) < s.length + 2 - (((j : Nat) : Int)).toNat
 omega
theorem beqT {x : UInt8} (k : UInt8) (h : x = k) : ((x.toNat : Int) == (k.toNat : Int)) = true := by rw [h]; simp
theorem beqF {x : UInt8} (k : UInt8) (h : ¬ x = k) : ((x.toNat : Int) == (k.toNat : Int)) = false := by
 rw [beq_eq_false_iff_ne]
 intro hh
 exact h (UInt8.toNat_inj.1 (by omega))
theorem parse_cases {pre : List UInt8} {W w' : World} {e : Ending} (h : K.ParsePost pre W e w') : ∃ (vl : Value) (code : Int), e = .returned (.tuple #[vl, .int .i64 code]) ∧ Below W.heap.size W w' ∧
  Hid ((code = 0 ∧ ∃ l, L.read pre = some l ∧ S.long l = false ∧ SelsAt (W.heap.size ≤ ·) w' vl l) ∨ ((code = 4 ∨ code = 5) ∧ vl = .slice none 0 0 ∧ ∀ ins, S.ruleOf (pre, ins) = none)) := by
 obtain ⟨hb, h | ⟨l, h1, h2, h3⟩ | ⟨l, v, h1, h2, h3, h4⟩⟩ := h
 ·exact ⟨_, _, h.2, hb, Lib.hid (Or.inr ⟨Or.inl rfl, rfl, fun ins => by unfold S.ruleOf; rw [h.1]⟩)⟩
 ·exact ⟨_, _, h3, hb, Lib.hid (Or.inr ⟨Or.inr rfl, rfl, fun ins => by unfold S.ruleOf; dsimp only; rw [h1]; dsimp only; rw [if_pos (show S.long l = true from h2)]⟩)⟩
 ·exact ⟨_, _, h3, hb, Lib.hid (Or.inl ⟨rfl, l, h1, h2, h4⟩)⟩
theorem PSt.ends {r b c j : Nat} {s : List UInt8} {o : Int} {v : Value} {l : List S.Rule} {w W : World} (h : PSt r b c j s o v l w W) :
  Below r w ((W.setCell ⟨r, 0, none⟩ (.int .i64 o)).setCell ⟨r, 1, none⟩ v) ∧ RulesAt (r ≤ ·) ((W.setCell ⟨r, 0, none⟩ (.int .i64 o)).setCell ⟨r, 1, none⟩ v) v l := by
 have hrb := h.rb
 refine ⟨(h.below.setCell (p := ⟨r, 0, none⟩) (Nat.le_refl _) _).setCell (p := ⟨r, 1, none⟩) (Nat.le_refl _) _, ?_⟩
 have hk : Kept (c + 1 ≤ ·) (r ≤ ·) W ((W.setCell ⟨r, 0, none⟩ (.int .i64 o)).setCell ⟨r, 1, none⟩ v) :=
  (((Kept.refl W).set (by show ¬ (c + 1 ≤ r); omega) 0 _).set (by show ¬ (c + 1 ≤ r); omega) 1 _).trans (Kept.wide (fun g hg => by show r ≤ g; omega))
 exact keeps_rules (OwnIn.list keeps_rule h.row) hk
def SheetPost (o : Int) (q : List S.Rule) (w : World) (e : Ending) (w' : World) : Prop := ∃ v, e = .returned (.agg #[.int .i64 o, v]) ∧ Below w.heap.size w w' ∧ RulesAt (w.heap.size ≤ ·) w' v q
set_option maxHeartbeats 16000000 in
set_option maxRecDepth 100000 in
theorem parse (s0 s : List UInt8) (o : Int) (w : World) (hl0 : s0.length ≤ 90000) (hs : s.length ≤ 90000) (hE : YEnv w)
  (hR : ∀ W, Below w.heap.size w W → Calls Tryz.prog 33 #[.string ⟨s0.toArray⟩] W fun e w' => e = .returned (.string ⟨s.toArray⟩) ∧ Below W.heap.size W w')
  (hS : ∀ p, p ∈ S.raw s → ∀ W, Below w.heap.size w W → Calls Tryz.prog 52 #[.string ⟨p.1.toArray⟩] W (K.ParsePost p.1 W)) (hn : (S.raw s).length ≤ 3900) :
  Calls Tryz.prog 23 #[.string ⟨s0.toArray⟩, .int .i64 o] w (SheetPost o (S.rules s) w) := by
 have HE := Lib.hid hE
 have hg1 := hE.big
 have hg2 := hE.big2
 have QC := Lib.hid hR
 have QS := Lib.hid hS
 have HQ0 : Hid (S.rules s = [] ++ S.rules (s.drop 0)) := Lib.hid (by rw [List.drop_zero]; rfl)
 have HM0 : Hid (∀ p ∈ S.raw (s.drop 0), p ∈ S.raw s) := Lib.hid (by rw [List.drop_zero]; exact fun p hp => hp)
 have HL0 : ([] : List S.Rule).length + (S.raw (s.drop 0)).length ≤ 3900 := by rw [List.drop_zero, List.length_nil]; omega
 generalize S.rules s = q at *
 have zs := bytes_size s
 have zs0 := bytes_size s0
 have hmin : min (s0.length : Int) 1048576 = (s0.length : Int) := by omega
 have hx0 : (⟨s0.toArray⟩ : ByteArray).extract 0 s0.length = ⟨s0.toArray⟩ := by
  rw [slice_str s0 0 _ (by omega) (by omega)]; simp
 clear hE hR hS
 go_enter Tryz.func23, Tryz.ntmps23
 go_wp2_with fail
 have HBa : Below w.heap.size w ((w.alloc (.cells #[.int .i64 0, .slice none 0 0] 51)).alloc (.cells #[.int .i64 o, .slice none 0 0] 51)) := ((Below.refl _ w).alloc (Nat.le_refl _) _).alloc (by simp) _
 have Hres : Blk w.heap.size #[.int .i64 0, .slice none 0 0] 51 ((w.alloc (.cells #[.int .i64 0, .slice none 0 0] 51)).alloc (.cells #[.int .i64 o, .slice none 0 0] 51)) := (Blk.new _ _ _).alloc _
 have Hout : Blk (w.heap.size + 1) #[.int .i64 o, .slice none 0 0] 51 ((w.alloc (.cells #[.int .i64 0, .slice none 0 0] 51)).alloc (.cells #[.int .i64 o, .slice none 0 0] 51)) := by
  have h := Blk.new (w.alloc (.cells #[.int .i64 0, .slice none 0 0] 51)) #[.int .i64 o, .slice none 0 0] 51
  have hz : (w.alloc (.cells #[.int .i64 0, .slice none 0 0] 51)).heap.size = w.heap.size + 1 := by simp
  rwa [hz] at h
 have QC2 := Lib.hid (QC.out _ HBa)
 clear QC
 generalize ((w.alloc (.cells #[.int .i64 0, .slice none 0 0] 51)).alloc (.cells #[.int .i64 o, .slice none 0 0] 51)) = W0 at *
 refine QC2.out.mono ?_
 rintro e w2 ⟨rfl, hb2⟩
 have HS0 : Hid (PSt w.heap.size (w.heap.size + 1) w2.heap.size 0 s o (.slice none 0 0) [] w (w2.alloc (.cells #[.string ⟨s.toArray⟩, .int .i64 (0 : Nat)] 85))) := Lib.hid
  ⟨(Hres.below hb2).alloc _, (Hout.below hb2).alloc _, Blk.new _ _ _, ⟨Nat.lt_succ_self _, Blk.lt (Hout.below hb2)⟩, (HBa.trans (hb2.mono HBa.size)).alloc (Nat.le_trans HBa.size hb2.size) _, OwnIn.nil⟩
 have HW := Lib.hid HBa
 clear QC2 Hres Hout HBa hb2
 go_wp2_with fail
 generalize w2.heap.size = c at *
 go_loopw [] (fun wr => PRel w.heap.size (w.heap.size + 1) c s o q w wr) (fun wr => s.length + 2 - (match wr.cell? ⟨c, 1, none⟩ with | some (.int _ q) => q.toNat | _ => 0))
 case atStart => exact ⟨0, _, [], Nat.zero_le _, HS0, HQ0, HM0, HL0⟩
 case round =>
  obtain ⟨j, v, acc, hj, HP, HQ, HM, hl⟩ := hrel
  have HPj := HP
  clear HS0 HQ0 HM0 HL0
  have hlc := HP.out.lt
  obtain ⟨hrb, hbc⟩ := HP.out.rb
  obtain ⟨hc, hf⟩ := cells_of HP.out.sc
  have c0 : wr.cell? ⟨c, 0, none⟩ = some (.string ⟨s.toArray⟩) := hc 0
  have c1 : wr.cell? ⟨c, 1, none⟩ = some (.int .i64 j) := hc 1
  have f1 : wr.frozen? ⟨c, 1, none⟩ = false := hf 1 (by show 1 < 2; omega)
  obtain ⟨hc2, hf2⟩ := cells_of HP.out.out
  have o0 : wr.cell? ⟨w.heap.size + 1, 0, none⟩ = some (.int .i64 o) := hc2 0
  have o1 : wr.cell? ⟨w.heap.size + 1, 1, none⟩ = some v := hc2 1
  obtain ⟨hc3, hf3⟩ := cells_of HP.out.res
  have r0 : wr.frozen? ⟨w.heap.size, 0, none⟩ = false := hf3 0 (by show 0 < 2; omega)
  have r1 : wr.frozen? ⟨w.heap.size, 1, none⟩ = false := hf3 1 (by show 1 < 2; omega)
  have x0 : wr.cell? ⟨w.heap.size, 0, none⟩ = some (.int .i64 0) := hc3 0
  have x1 : wr.cell? ⟨w.heap.size, 1, none⟩ = some (.slice none 0 0) := hc3 1
  clear hc hf hc2 hf2 hc3 hf3
  by_cases hlt : j < s.length
  ·have hltI : (j : Int) < (s.length : Int) := by omega
   obtain ⟨x, t, hd⟩ := drop_cons hlt
   have hix := at_drop hd (by rw [bytes_size]; exact hlt)
   have hmore := drop_more hd
   have QSp := Lib.hid (fun W => T.IsSpace x W)
   have hj0 : (0 : Int) ≤ (j : Int) := by omega
   have wj : IntKind.i64.wrap ((j : Int) + 1) = (j : Int) + 1 := IntWalk.i64_in _ (by omega)
   have HPs : Hid (PSt w.heap.size (w.heap.size + 1) c (j + 1) s o v acc w (wr.setCell ⟨c, 1, none⟩ (.int .i64 ((j : Int) + 1)))) := Lib.hid (HP.out.pass (by omega))
   have HD := Lib.hid hd
   have HMo := Lib.hid hmore
   clear hd hmore
   have HPw : Hid (∀ k, PSt w.heap.size (w.heap.size + 1) c j s o v acc w (wr.drewN k)) := Lib.hid (fun k => HP.out.step (drewN_below (Below.refl _ wr) k))
   go_wp2_with fail
   go_quiet (fail)
   go_wp2_with fail
   go_quiet (fail)
   go_wp2_with fail
   refine (QSp.out _).mono ?_
   rintro e w' ⟨rfl, rfl⟩
   cases hsp : T.sp x with
   | true =>
    have HN := Lib.hid (same_raw (j2 := j + 1) (by rw [HD.out, HMo.out]; exact S.raw_idle (by unfold S.idle; rw [hsp]; rfl)) HQ.out HM.out hl)
    go_wp2_with fail
    go_roundw
    case rel => exact ⟨j + 1, v, acc, by omega, Lib.hid ((HPw.out _).pass (by omega)), Lib.hid HN.out.1, Lib.hid HN.out.2.1, HN.out.2.2⟩
    case measure => exact pmeas ((HPw.out _).pass (z := (j : Int) + 1) (by omega)).meas c1 (by omega) (by omega)
   | false =>
    by_cases h125 : x = 125
    ·have e1 : ((x.toNat : Int) == 125) = true := beqT 125 h125
     have HN := Lib.hid (same_raw (j2 := j + 1) (by rw [HD.out, HMo.out]; exact S.raw_idle (by unfold S.idle; rw [hsp, h125]; rfl)) HQ.out HM.out hl)
     go_wp2_with fail
     go_roundw
     case rel => exact ⟨j + 1, v, acc, by omega, Lib.hid ((HPw.out _).pass (by omega)), Lib.hid HN.out.1, Lib.hid HN.out.2.1, HN.out.2.2⟩
     case measure => exact pmeas ((HPw.out _).pass (z := (j : Int) + 1) (by omega)).meas c1 (by omega) (by omega)
    ·have e1 : ((x.toNat : Int) == 125) = false := beqF 125 h125
     by_cases h59 : x = 59
     ·have e2 : ((x.toNat : Int) == 59) = true := beqT 59 h59
      have HN := Lib.hid (same_raw (j2 := j + 1) (by rw [HD.out, HMo.out]; exact S.raw_idle (by unfold S.idle; rw [hsp, h59]; rfl)) HQ.out HM.out hl)
      go_wp2_with fail
      go_roundw
      case rel => exact ⟨j + 1, v, acc, by omega, Lib.hid ((HPw.out _).pass (by omega)), Lib.hid HN.out.1, Lib.hid HN.out.2.1, HN.out.2.2⟩
      case measure => exact pmeas ((HPw.out _).pass (z := (j : Int) + 1) (by omega)).meas c1 (by omega) (by omega)
     ·have e2 : ((x.toNat : Int) == 59) = false := beqF 59 h59
      have hid : S.idle x = false := by unfold S.idle; rw [hsp, beq_eq_false_iff_ne.2 h125, beq_eq_false_iff_ne.2 h59]; rfl
      by_cases h64 : x = 64
      ·have e3 : ((x.toNat : Int) == 64) = true := beqT 64 h64
       have HRaw0 : Hid (S.raw (s.drop j) = match s.drop (j + S.scan [59, 123] 0 0 (s.drop j)) with | [] => [] | d :: r => if d = 123 then S.raw (S.behind r) else S.raw r) := Lib.hid (by
        have h : s.drop j = 64 :: t := by rw [HD.out, h64]
        rw [h, S.raw_at, ← h, List.drop_drop]
        cases s.drop (j + S.scan [59, 123] 0 0 (s.drop j)) <;> rfl)
       have hEl : j + S.scan [59, 123] 0 0 (s.drop j) ≤ s.length := by have := S.scan_le [59, 123] (s.drop j) 0 0; rw [List.length_drop] at this; omega
       have hEj : j ≤ j + S.scan [59, 123] 0 0 (s.drop j) := Nat.le_add_right _ _
       have QU := Lib.hid (fun W (h : IsSc c s j W) => untilC c s [59, 123] j W (by omega) (by omega) h)
       generalize j + S.scan [59, 123] 0 0 (s.drop j) = E at *
       go_wp2_with fail
       refine (QU.out _ (HPw.out _).sc).mono ?_
       rintro e w4 ⟨rfl, hsc, hbt⟩
       have HP4 := Lib.hid ((HPw.out _).scan hsc hbt)
       obtain ⟨hc, hf⟩ := cells_of hsc
       have d1 : w4.cell? ⟨c, 1, none⟩ = some (.int .i64 (E : Nat)) := hc 1
       have g1 : w4.frozen? ⟨c, 1, none⟩ = false := hf 1 (by show 1 < 2; omega)
       have wE : IntKind.i64.wrap ((E : Int) + 1) = (E : Int) + 1 := IntWalk.i64_in _ (by omega)
       clear hc hf hsc hbt QU
       by_cases hE : E < s.length
       ·obtain ⟨d, r, hdr⟩ := drop_cons hE
        have hat : atC s E = d.toNat := by unfold atC; rw [hdr]
        rw [hat]
        by_cases hd123 : d = 123
        ·have e4 : ((d.toNat : Int) == 123) = true := beqT 123 hd123
         have HRaw : Hid (S.raw (s.drop j) = S.raw (S.behind r)) := Lib.hid (by rw [HRaw0.out, hdr]; dsimp only; rw [if_pos hd123])
         have QB := Lib.hid (block c s r d E w4 (by omega) hdr HP4.out.sc)
         clear HRaw0 hdr
         go_wp2_with fail
         refine QB.out.mono ?_
         rintro e w5 ⟨k, rfl, hsc5, hbt5, hk1, hk2, hk3⟩
         have HP5 := Lib.hid (HP4.out.scan hsc5 hbt5)
         have HN := Lib.hid (same_raw (j2 := k) (by rw [HRaw.out, hk3.out]) HQ.out HM.out hl)
         clear hsc5 hbt5 d1 g1
         go_wp2_with fail
         go_roundw
         case rel => exact ⟨k, v, acc, by omega, HP5, Lib.hid HN.out.1, Lib.hid HN.out.2.1, HN.out.2.2⟩
         case measure => exact pmeas HP5.out.meas c1 (by omega) (by omega)
        ·have e4 : ((d.toNat : Int) == 123) = false := beqF 123 hd123
         have HN := Lib.hid (same_raw (j2 := E + 1) (by rw [HRaw0.out, hdr]; dsimp only; rw [if_neg hd123, drop_more hdr]) HQ.out HM.out hl)
         clear HRaw0 hdr
         go_wp2_with fail
         go_roundw
         case rel => exact ⟨E + 1, v, acc, by omega, Lib.hid (HP4.out.pass (by omega)), Lib.hid HN.out.1, Lib.hid HN.out.2.1, HN.out.2.2⟩
         case measure => exact pmeas (HP4.out.pass (z := (E : Int) + 1) (by omega)).meas c1 (by omega) (by omega)
       ·have hnil : s.drop E = [] := List.drop_eq_nil_of_le (by omega)
        have hnil1 : s.drop (E + 1) = [] := List.drop_eq_nil_of_le (by omega)
        have hat : atC s E = 0 := by unfold atC; rw [hnil]
        rw [hat]
        have HN := Lib.hid (same_raw (j2 := E + 1) (by rw [HRaw0.out, hnil, hnil1]; rfl) HQ.out HM.out hl)
        clear HRaw0 hnil hnil1
        go_wp2_with fail
        go_roundw
        case rel => exact ⟨E + 1, v, acc, by omega, Lib.hid (HP4.out.pass (by omega)), Lib.hid HN.out.1, Lib.hid HN.out.2.1, HN.out.2.2⟩
        case measure => exact pmeas (HP4.out.pass (z := (E : Int) + 1) (by omega)).meas c1 (by omega) (by omega)
      ·have e3 : ((x.toNat : Int) == 64) = false := beqF 64 h64
       have HRaw0 : Hid (S.raw (s.drop j) = match s.drop (j + S.scan [123] 0 0 (s.drop j)) with | [] => [] | _ :: r => ((s.drop j).take (S.scan [123] 0 0 (s.drop j)), S.inside r) :: S.raw (S.behind r)) := Lib.hid (by
        have h := HD.out
        rw [h, S.raw_rule hid h64, ← h, List.drop_drop]
        cases s.drop (j + S.scan [123] 0 0 (s.drop j)) <;> rfl)
       have hEl : j + S.scan [123] 0 0 (s.drop j) ≤ s.length := by have := S.scan_le [123] (s.drop j) 0 0; rw [List.length_drop] at this; omega
       have hEj : j ≤ j + S.scan [123] 0 0 (s.drop j) := Nat.le_add_right _ _
       have hsub : j + S.scan [123] 0 0 (s.drop j) - j = S.scan [123] 0 0 (s.drop j) := Nat.add_sub_cancel_left _ _
       have QU := Lib.hid (fun W (h : IsSc c s j W) => untilC c s [123] j W (by omega) (by omega) h)
       have HZ : Hid (∀ d r, s.drop (j + S.scan [123] 0 0 (s.drop j)) = d :: r → d = 123) := Lib.hid (fun d r h => by
        rw [← List.drop_drop] at h
        simpa using scan_meets [123] (s.drop j) 0 0 h)
       rw [← hsub] at HRaw0
       generalize j + S.scan [123] 0 0 (s.drop j) = E at *
       clear hsub
       have hEE : j + (E - j) = E := by omega
       rw [hEE] at HRaw0
       go_wp2_with fail
       refine (QU.out _ (HPw.out _).sc).mono ?_
       rintro e w4 ⟨rfl, hsc, hbt⟩
       have HP4 := Lib.hid ((HPw.out _).scan hsc hbt)
       clear hsc hbt QU
       by_cases hE : E < s.length
       ·obtain ⟨d, r, hdr⟩ := drop_cons hE
        have hat : atC s E = 123 := by unfold atC; rw [hdr, HZ.out d r hdr]; rfl
        rw [hat]
        have HRaw : Hid (S.raw (s.drop j) = ((s.drop j).take (E - j), S.inside r) :: S.raw (S.behind r)) := Lib.hid (by rw [HRaw0.out, hdr])
        have hsl : (⟨s.toArray⟩ : ByteArray).extract j E = ⟨((s.drop j).take (E - j)).toArray⟩ := slice_str s j E (by omega) (by omega)
        have QP := Lib.hid (QS.out ((s.drop j).take (E - j), S.inside r) (HM.out _ (by rw [HRaw.out]; exact List.mem_cons_self ..)))
        dsimp only at QP
        have hins : (S.inside r).length ≤ 90000 := by
         unfold S.inside
         rw [List.length_take]
         have := congrArg List.length hdr
         rw [List.length_drop, List.length_cons] at this
         omega
        generalize (s.drop j).take (E - j) = pre at *
        obtain ⟨hc, hf⟩ := cells_of HP4.out.sc
        have b0 : w4.cell? ⟨c, 0, none⟩ = some (.string ⟨s.toArray⟩) := hc 0
        have b1 : w4.cell? ⟨c, 1, none⟩ = some (.int .i64 E) := hc 1
        have HB4 : Hid (∀ k, Below w.heap.size w (w4.drewN k)) := Lib.hid (fun k => belowN HP4.out.below k)
        have HP4d : Hid (∀ k, PSt w.heap.size (w.heap.size + 1) c E s o v acc w (w4.drewN k)) := Lib.hid (fun k => HP4.out.step (drewN_below (Below.refl _ w4) k))
        have gE : (0 : Int) ≤ (E : Int) := by omega
        have lE : (E : Int) ≤ (s.length : Int) := by omega
        have lI : (j : Int) ≤ (E : Int) := by omega
        clear hc hf HRaw0 HPw HPs
        go_wp2_with fail
        have hlc4 := HP4.out.lt
        go_region_held3 (fun w' => w'.cell? ⟨c, 0, none⟩ = some (.string ⟨s.toArray⟩) ∧ w'.cell? ⟨c, 1, none⟩ = some (.int .i64 (E : Int)))
         (go_keep)
         (first | (go_at_call 52; refine (QP.out _ HP4.out.below.drew).mono ?_; rintro e w5 hPP; obtain ⟨vl, code, rfl, hb5, HC5⟩ := parse_cases hPP; have HP5 := Lib.hid ((HP4.out.step ((Below.refl _ w4).drew)).step hb5); have hk0 : w5.cell? ⟨c, 0, none⟩ = some (.string ⟨s.toArray⟩) := (cells_of HP5.out.sc).1 0; have hk1 : w5.cell? ⟨c, 1, none⟩ = some (.int .i64 (E : Int)) := (cells_of HP5.out.sc).1 1))
        have hdr5 := HRaw.out
        have QB := Lib.hid (block c s r d E w5 (by omega) hdr HP5.out.sc)
        clear QP b0 b1
        go_wp2_with (go_at_call 51; refine QB.out.mono ?_)
        rintro e w6 ⟨k, rfl, hsc6, hbt6, hk1, hk2, hk3⟩
        have HP6 := Lib.hid (HP5.out.scan hsc6 hbt6)
        have HN5 := Lib.hid hbt6
        have QD := Lib.hid (decls (S.inside r) w6 hins (HE.out.below HP6.out.below hg1 hg2) (fun i v W2 hi hv hW => expand _ v W2 (by
         have h1 := (colonP_len (pieceAt (S.inside r) i)).1
         unfold nameAt
         have h2 := S.trim_len (S.lower (S.colonP (pieceAt (S.inside r) i)).1)
         rw [lower_len] at h2
         have h3 : (pieceAt (S.inside r) i).length ≤ (S.inside r).length := by unfold pieceAt; rw [List.length_take, List.length_drop]; omega
         omega) hv hW))
        clear hsc6 hbt6 QB
        go_wp2_with (go_at_call 32; refine QD.out.mono ?_)
        rintro e w7 ⟨vd, rfl, hb7, hod⟩
        have HP7 := Lib.hid (HP6.out.step hb7)
        have HB7 := Lib.hid hb7
        have HOD := Lib.hid hod
        clear hb7 hod QD
        rcases HC5.out with ⟨hcode, l, hl1, hl2, hl3⟩ | ⟨hcode, hvl, hno⟩
        ·have HQ7 : Hid (q = (acc ++ [⟨l, S.decls (S.inside r)⟩]) ++ S.rules (s.drop k)) := Lib.hid (by
          have h := HQ.out
          unfold S.rules at h
          rw [HRaw.out, List.filterMap_cons] at h
          have hr : S.ruleOf (pre, S.inside r) = some ⟨l, S.decls (S.inside r)⟩ := by
           unfold S.ruleOf
           dsimp only
           rw [hl1]
           dsimp only
           rw [hl2]
           rfl
          rw [hr] at h
          rw [h, hk3.out, List.append_assoc]
          rfl)
         have HM7 : Hid (∀ p ∈ S.raw (s.drop k), p ∈ S.raw s) := Lib.hid (fun p hp => HM.out p (by rw [HRaw.out]; rw [hk3.out] at hp; exact List.mem_cons_of_mem _ hp))
         have hl7 : acc.length + 1 + (S.raw (s.drop k)).length ≤ 3900 := by
          have h := congrArg List.length HRaw.out
          rw [List.length_cons] at h
          rw [hk3.out]
          omega
         have HX7 : Hid (SelsAt (fun g => c + 1 ≤ g ∧ v.ownBlock ≠ some g) w7 vl l) := Lib.hid (by
          have k5 : Kept (w4.heap.size ≤ ·) (w4.heap.size ≤ ·) w5 w7 := (Kept.but HN5.out hlc4).trans (Kept.below HB7.out)
          exact keeps_sels (keeps_sels hl3 k5) (Kept.wide (fun g hg => HP4.out.fresh hg)))
         have HD7 : Hid (DOwn (fun g => c + 1 ≤ g ∧ v.ownBlock ≠ some g) w7 vd (S.decls (S.inside r))) := Lib.hid (keeps_down (DOwn.of HOD.out) (Kept.wide (fun g hg => HP6.out.fresh hg)))
         obtain ⟨al, cl, hvl⟩ := hl3.form
         obtain ⟨ad, cd, hvd⟩ := HOD.out.form
         obtain ⟨av, cv, hv⟩ := HP7.out.form
         clear HC5 HB7 HOD HN5 hl1 hl2 hl3 HRaw HQ HM HP4 HP5 HP6 HP4d HB4
         generalize hdl : S.decls (S.inside r) = dl at *
         generalize hrl : (⟨l, dl⟩ : S.Rule) = rl at *
         have HXR : Hid (IRule (fun g => c + 1 ≤ g ∧ v.ownBlock ≠ some g) w7 (.tuple #[vl, vd]) (rl, acc.length)) := Lib.hid (by rw [← hrl]; exact ⟨HX7.out, HD7.out⟩)
         clear HX7 HD7 hrl hdl
         generalize l.length = nl at hvl
         generalize dl.length = nd at hvd
         have hLL : ∃ LL, LL = acc.length := ⟨_, rfl⟩
         obtain ⟨LL, hLL⟩ := hLL
         rw [← hLL] at hv hl7
         have HLL := Lib.hid hLL
         subst hvl hvd hv
         clear hLL
         obtain ⟨ps, hps, hown0, hI, hnil, _⟩ := HP7.out.row
         have hnl : (S.numbered acc).length = LL := by unfold S.numbered; rw [List.length_zipIdx, HLL.out]
         rw [hnl] at hown0
         have HOwn := Lib.hid hown0
         have HPs := Lib.hid hps
         have HIq := Lib.hid hI
         have hlc7 := HP7.out.lt
         obtain ⟨hc2, hf2⟩ := cells_of HP7.out.out
         have p1 : w7.cell? ⟨w.heap.size + 1, 1, none⟩ = some (.slice av LL cv) := hc2 1
         have hd4 : decide ((LL : Int) < 4000) = true := decide_eq_true (by omega)
         have hd5 : (LL : Int) < 4000 := by omega
         clear hc2 hf2 hown0 hps hI hnil hnl o0 o1 r0 r1 x0 x1 c0 c1 f1
         obtain ⟨i0, hi0, hz0, hz1, hz2⟩ := info_parts infoRule
         subst hcode
         go_wp2_with (at_builtin; refine wpList_append_lies _ rfl _ _ 49 rfl (c + 1) 57 i0 _ 3 56 Tryz.underlying49 hi0 hz0 hz1 hz2 rfl (by decide) (.slice av LL cv) LL (ps.flatMap fun p => cRule p.1 p.2) rfl (HOwn.out.alloc _) ⟨w7.heap.size, 0, none⟩ 1 1 [.slice al nl cl, .slice ad nd cd, .int .i64 LL] rfl rfl ?c1 ?c2 ?c3 ?c4 ?c5 ?c6 (w7.heap.size + 1) ?c7 ?_)
         case c1 => exact World.news_of_block (heap_alloc_new w7 (.cells #[.slice al nl cl, .slice ad nd cd, .int .i64 LL] 57))
         case c2 => simp [Value.oneCell']
         case c3 => omega
         case c4 => unfold maxLen; omega
         case c5 => omega
         case c6 => simp; omega
         case c7 => simp
         intro gg cap2 w8 hown8 hgrow hat8 hlt8
         have hb8 : Blk (w.heap.size + 1) #[.int .i64 o, .slice av LL cv] 51 w8 := by
          have h1 := HP7.out.out
          have hsz : (w7.alloc (.cells #[.slice al nl cl, .slice ad nd cd, .int .i64 LL] 57)).heap.size = w7.heap.size + 1 := by simp
          exact ((hgrow.block _ (by rw [hsz]; omega) (fun he => by have := (HP7.out.row.lt he.symm).2.1; omega)).trans (Below.heap_alloc w7 _ _ (by omega))).trans h1
         obtain ⟨hc8, hf8⟩ := cells_of hb8
         have q1 : w8.cell? ⟨w.heap.size + 1, 1, none⟩ = some (.slice av LL cv) := hc8 1
         have g1 : w8.frozen? ⟨w.heap.size + 1, 1, none⟩ = false := hf8 1 (by show 1 < 2; omega)
         have hx := PSt.app (x := rl) (nv := .tuple #[.slice al nl cl, .slice ad nd cd]) HP7.out HPs.out HIq.out (by rw [← HLL.out]; exact hown8) hgrow hat8 HXR.out
         rw [← HLL.out] at hx
         have HP8 := Lib.hid hx
         clear hx hb8 hc8 hf8 hown8 hgrow hat8 HOwn HPs HIq HXR HP7 p1
         go_wp2_with fail
         go_roundw
         case rel => exact ⟨k, _, acc ++ [rl], by omega, HP8, HQ7, HM7, by rw [List.length_append, ← HLL.out]; exact hl7⟩
         case measure => exact pmeas HP8.out.meas (HPj.out.meas) (by omega) (by omega)
        ·have HQ7 : Hid (q = acc ++ S.rules (s.drop k)) := Lib.hid (by
          have h := HQ.out
          unfold S.rules at h
          rw [HRaw.out, List.filterMap_cons, hno] at h
          rw [h, hk3.out]
          rfl)
         have HM7 : Hid (∀ p ∈ S.raw (s.drop k), p ∈ S.raw s) := Lib.hid (fun p hp => HM.out p (by rw [HRaw.out]; rw [hk3.out] at hp; exact List.mem_cons_of_mem _ hp))
         have hl7 : acc.length + (S.raw (s.drop k)).length ≤ 3900 := by
          have h := congrArg List.length HRaw.out
          rw [List.length_cons] at h
          rw [hk3.out]
          omega
         clear HC5 HB7 HOD HN5 HRaw HQ HM HP4 HP5 HP6 HP4d HB4 hno
         rcases hcode with rfl | rfl
         all_goals
          go_wp2_with fail
          go_roundw
          case rel => exact ⟨k, v, acc, by omega, HP7, HQ7, HM7, hl7⟩
          case measure => exact pmeas HP7.out.meas (HPj.out.meas) (by omega) (by omega)
       ·have hnil : s.drop E = [] := List.drop_eq_nil_of_le (by omega)
        have hat : atC s E = 0 := by unfold atC; rw [hnil]
        rw [hat]
        obtain ⟨ao, cap, hv⟩ := HP4.out.form
        have HA : Hid (acc = q) := Lib.hid (by
         have h := HQ.out
         unfold S.rules at h
         rw [HRaw0.out, hnil] at h
         rw [h]
         show acc = acc ++ []
         rw [List.append_nil])
        obtain ⟨hc2, hf2⟩ := cells_of HP4.out.out
        have o0 : w4.cell? ⟨w.heap.size + 1, 0, none⟩ = some (.int .i64 o) := hc2 0
        have o1 : w4.cell? ⟨w.heap.size + 1, 1, none⟩ = some v := hc2 1
        obtain ⟨hc3, hf3⟩ := cells_of HP4.out.res
        have r0 : w4.frozen? ⟨w.heap.size, 0, none⟩ = false := hf3 0 (by show 0 < 2; omega)
        have r1 : w4.frozen? ⟨w.heap.size, 1, none⟩ = false := hf3 1 (by show 1 < 2; omega)
        have x0 : w4.cell? ⟨w.heap.size, 0, none⟩ = some (.int .i64 0) := hc3 0
        have x1 : w4.cell? ⟨w.heap.size, 1, none⟩ = some (.slice none 0 0) := hc3 1
        have HEn := Lib.hid HP4.out.ends
        clear hc2 hf2 hc3 hf3 HP4
        generalize acc.length = n at hv
        subst hv
        go_wp2_with fail
        refine bodyPost_ret (v := .agg #[.int .i64 o, .slice ao n cap]) (by simp [results, Tryz.results23, go_sem, x0, x1]) rfl ⟨_, rfl, HEn.out.1, by rw [← HA.out]; exact HEn.out.2⟩
  ·have hltI : ¬ (j : Int) < (s.length : Int) := by omega
   obtain ⟨ao, cap, hv⟩ := HP.out.form
   have HA : Hid (acc = q) := Lib.hid (by
    have h := HQ.out
    rw [List.drop_eq_nil_of_le (by omega)] at h
    rw [h]
    show acc = acc ++ []
    rw [List.append_nil])
   generalize acc.length = n at hv
   subst hv
   go_wp2_with fail
   go_quiet (fail)
   go_wp2_with fail
   have HEn := Lib.hid (fun k => (HP.out.step (drewN_below (Below.refl _ wr) k)).ends)
   refine bodyPost_ret (v := .agg #[.int .i64 o, .slice ao n cap]) (by simp [results, Tryz.results23, go_sem, x0, x1]) rfl ⟨_, rfl, (HEn.out _).1, by rw [← HA.out]; exact (HEn.out _).2⟩
end Y
end Go.Proofs.YtafkeolpadfjfaaGreatDoor
