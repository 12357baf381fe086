/- What the functions of the reference come to: Parse. -/
import Derived.Test.YtafkeolpadfjfaaGreatDoorRsl12
set_option linter.unusedVariables false
set_option linter.unusedSimpArgs false
namespace Go.Proofs.YtafkeolpadfjfaaGreatDoor
open Go.RowKit
namespace F
open H K
theorem repairF (l : List UInt8) (w : World) (h : l.length ≤ 1000000) :
  Calls Tryz.prog 69 #[.string ⟨l.toArray⟩] w fun e w' => e = .returned (.string ⟨(U.rep l).toArray⟩) ∧ Below w.heap.size w w' := by
 have := T.refRepair ⟨l.toArray⟩ w (by rw [bytes_size]; omega)
 rw [bytes_toList] at this
 exact this
section
variable {b : Nat} {s : List UInt8} {j : Nat} {bad : Bool} {v : Value} {l : List (List L.Part)} {w1 w : World}
theorem FParSt.drewN (h : FParSt b s j bad v l w1 w) (n : Nat) : FParSt b s j bad v l w1 (w.drewN n) :=
 ⟨h.rdr.drewN n, h.but.drewN n, h.row.keep keeps_parts ⟨Nat.le_refl _, fun g hg _ => ⟨hg, rfl⟩⟩⟩
theorem FParSt.fail_ (h : FParSt b s j bad v l w1 w) : FParSt b s j true v l w1 (w.setCell ⟨b, 2, none⟩ (.bool true)) :=
 ⟨h.rdr.fail, h.but.trans (But.set _ _ _), h.row.keep keeps_parts ((Kept.refl w).set (by omega) 2 _)⟩
end
set_option maxHeartbeats 8000000 in
set_option maxRecDepth 100000 in
theorem parse (s : List UInt8) (w : World) (hs : s.length ≤ 1000000) :
  Calls Tryz.prog 54 #[.string ⟨s.toArray⟩] w (FParsePost s w) := by
 have zs := bytes_size s
 have HI0 := Lib.hid (FLInv.start (s := s))
 go_enter Tryz.func54, Tryz.ntmps54
 go_wp2_with fail
 refine (repairF s _ hs).mono ?_
 rintro e w1 ⟨rfl, hb1⟩
 have HB1 := Lib.hid hb1
 have hww := hb1.size
 have hVV : decide (U.rep s = s) = (U.rep s == s) := by
  rw [Bool.eq_iff_iff]; simp
 rw [hVV] at HI0
 clear hb1 hVV
 generalize hU : U.rep s = us at *
 clear hU
 obtain ⟨V, hV⟩ : ∃ V : Bool, (us == s) = V := ⟨_, rfl⟩
 rw [hV] at HI0
 have hV2 : (us != s) = !V := by rw [bne, hV]
 go_wp2_with fail
 have HS0 : Hid (FParSt w1.heap.size s 0 (!V) (.slice none 0 0) [] w1 (w1.alloc (.cells #[.string ⟨s.toArray⟩, .int .i64 0, .bool (!V)] 143))) :=
  Lib.hid ⟨heap_alloc_new w1 _, (But.refl _ _).alloc _, OwnIn.nil⟩
 clear hV hV2
 generalize hfull : L.read s = full at HI0
 have HFull := Lib.hid hfull
 clear hfull
 generalize hBB : w1.heap.size = b at *
 go_loopw [5] (fun v5 wr => ∃ (j : Nat) (bad : Bool) (l : List (List L.Part)), Hid (FParSt b s j bad v5 l w1 wr) ∧ j ≤ s.length ∧ l.length ≤ j + 1 ∧ Hid (bad = false → l.length ≤ j) ∧ Hid (FLInv s j bad l full)) (fun _ wr => 2 * (s.length - (match wr.cell? ⟨b, 1, none⟩ with | some (.int _ q) => q.toNat | _ => 0)) + (match wr.cell? ⟨b, 2, none⟩ with | some (.bool false) => 1 | _ => 0))
 case atStart => exact ⟨0, !V, [], HS0, by omega, Nat.zero_le _, Lib.hid (fun _ => Nat.le_refl _), HI0⟩
 case round =>
  obtain ⟨j, bad, l, HS, hjl, hll, HLm, HI⟩ := hrel
  clear HS0 HI0
  obtain ⟨av, cv, hv⟩ := HS.out.row.form
  have hlb := lt_of_block HS.out.rdr
  obtain ⟨hcb, hfb⟩ := cells_of HS.out.rdr
  have c1 : wr.cell? ⟨b, 1, none⟩ = some (.int .i64 j) := hcb 1
  generalize hLL : l.length = LL at hv hll HLm
  have HLL := Lib.hid hLL
  clear hLL
  subst hv
  cases bad with
  | true =>
   have c2 : wr.cell? ⟨b, 2, none⟩ = some (.bool true) := hcb 2
   clear hcb hfb
   have HN : Hid (L.read s = none) := Lib.hid (by rw [HFull.out]; exact HI.out.bad)
   go_wp2_with fail
   go_quiet (fail)
   go_wp2_with fail
   refine bodyPost_ret (v := .tuple #[.slice av LL cv, .bool false]) (by simp [results, Tryz.results54, go_sem]) rfl ⟨belowN (HS.out.below hBB HB1.out) _, Or.inl ⟨HN.out, _, rfl⟩⟩
  | false =>
   have c2 : wr.cell? ⟨b, 2, none⟩ = some (.bool false) := hcb 2
   have HC1 := Lib.hid c1
   have HC2 := Lib.hid c2
   have hLj := HLm.out rfl
   clear hcb hfb c1 HLm hll
   go_wp2_with fail
   clear c2
   refine (space_any b s j false _ hs hjl HS.out.rdr).mono ?_
   rintro e w2 ⟨j1, rfl, hr2, hb2, hj1, hjl1, HJ1⟩
   have S2 := Lib.hid (HS.out.step hr2 hb2)
   clear hr2 hb2 HS
   go_wp2_with fail
   refine (selector b s hs j1 _ hjl1 S2.out.rdr).mono ?_
   rintro e w3 ⟨x, ps, j2, bad2, rfl, HX, hr3, hb3, hj2, hjl2, hps, HG⟩
   obtain ⟨ax, cx, hx⟩ := HX.out.form
   have HX3 : Hid (PartsAt (fun k => b + 1 ≤ k ∧ (Value.slice av LL cv).ownBlock ≠ some k) w3 x ps) := Lib.hid (keeps_parts HX.out (Kept.wide (fun g hg => S2.out.fresh hg)))
   have S3 := Lib.hid (S2.out.step hr3 hb3)
   clear hr3 hb3 S2 HX hps
   generalize ps.length = np at hx
   subst hx
   have hlb3 := lt_of_block S3.out.rdr
   obtain ⟨qs, hqs, hown0, hI, hnil, _⟩ := S3.out.row
   rw [HLL.out] at hown0
   have HOwn := Lib.hid hown0
   have HQ := Lib.hid hqs
   have HIq := Lib.hid hI
   clear hqs hown0 hI hnil
   obtain ⟨i0, hi0, hz0, hz1, hz2⟩ := info_parts infoSel
   go_wp2_with (at_builtin; refine wpList_append_lies _ rfl _ _ 60 rfl (b + 1) 94 i0 _ 1 24 Tryz.underlying60 hi0 hz0 hz1 hz2 rfl (by decide) (.slice av LL cv) LL (qs.flatMap fun p => cSel p.1 p.2) rfl (HOwn.out.alloc _) ⟨w3.heap.size, 0, none⟩ 1 1 [.slice ax np cx] rfl rfl ?c1 ?c2 ?c3 ?c4 ?c5 ?c6 (w3.heap.size + 1) ?c7 ?_)
   case c1 => exact World.news_of_block (heap_alloc_new w3 (.cells #[.slice ax np cx] 94))
   case c2 => simp [Value.oneCell']
   case c3 => omega
   case c4 => unfold maxLen; omega
   case c5 => omega
   case c6 => simp; omega
   case c7 => simp
   intro gg cap2 w5 hown5 hgrow hat hlt5
   have hx := FParSt.app S3.out (x := ps) (nv := .slice ax np cx) hBB HQ.out HIq.out (by rw [HLL.out]; exact hown5) hgrow hat HX3.out
   rw [HLL.out] at hx
   have S5 := Lib.hid hx
   clear hx hown5 hgrow hat HOwn HQ HIq HX3 S3
   go_wp2_with fail
   refine (space_any b s j2 bad2 _ hs hjl2 S5.out.rdr).mono ?_
   rintro e w6 ⟨j3, rfl, hr6, hb6, hj3, hjl3, HJ3⟩
   have S6 := Lib.hid (S5.out.step hr6 hb6)
   clear hr6 hb6 S5
   obtain ⟨hcb, hfb⟩ := cells_of S6.out.rdr
   have c0 : w6.cell? ⟨b, 0, none⟩ = some (.string ⟨s.toArray⟩) := hcb 0
   have c1 : w6.cell? ⟨b, 1, none⟩ = some (.int .i64 j3) := hcb 1
   have c2 : w6.cell? ⟨b, 2, none⟩ = some (.bool bad2) := hcb 2
   have hlb6 := lt_of_block S6.out.rdr
   clear hcb hfb
   by_cases hend : s.length ≤ j3
   ·have d1 : decide ((s.length : Int) ≤ (j3 : Int)) = true := decide_eq_true (by omega)
    have d2 : decide (s.length ≤ j3) = true := decide_eq_true hend
    have d3 : (s.length : Int) ≤ (j3 : Int) := by omega
    cases bad2 with
    | true =>
     have HN : Hid (L.read s = none) := Lib.hid (by rw [HFull.out]; exact HI.out.fall HJ1.out HG.out)
     clear HG HI HJ1 HJ3
     go_wp2_with fail
     go_quiet (fail)
     go_wp2_with fail
     go_quiet (fail)
     go_wp2_with fail
     refine bodyPost_ret (v := .tuple #[.slice (some ⟨gg, 0, none⟩) (LL + 1) cap2, .bool false]) (by simp [results, Tryz.results54, go_sem]) rfl ⟨belowN (belowN (S6.out.below hBB HB1.out) _) _, Or.inl ⟨HN.out, _, rfl⟩⟩
    | false =>
     have HN : Hid (L.read s = some (l ++ [ps])) := Lib.hid (by rw [HFull.out]; exact HI.out.last HJ1.out HG.out HJ3.out hend)
     clear HG HI HJ1 HJ3
     go_wp2_with fail
     go_quiet (fail)
     go_wp2_with fail
     go_quiet (fail)
     go_wp2_with fail
     refine bodyPost_ret (v := .tuple #[.slice (some ⟨gg, 0, none⟩) (LL + 1) cap2, .bool true]) (by simp [results, Tryz.results54, go_sem]) rfl ⟨belowN (belowN (S6.out.below hBB HB1.out) _) _, Or.inr ⟨l ++ [ps], _, HN.out, rfl, S6.out.sels (by omega) (belowN (belowN (Below.refl _ _) _) _)⟩⟩
   ·have d1 : decide ((s.length : Int) ≤ (j3 : Int)) = false := decide_eq_false (by omega)
    have d2 : decide (s.length ≤ j3) = false := decide_eq_false hend
    have d3 : ¬ (s.length : Int) ≤ (j3 : Int) := by omega
    cases bad2 with
    | true =>
     have HN : Hid (L.read s = none) := Lib.hid (by rw [HFull.out]; exact HI.out.fall HJ1.out HG.out)
     clear HG HI HJ1 HJ3
     go_wp2_with fail
     go_quiet (fail)
     go_wp2_with fail
     go_quiet (fail)
     go_wp2_with fail
     refine bodyPost_ret (v := .tuple #[.slice (some ⟨gg, 0, none⟩) (LL + 1) cap2, .bool false]) (by simp [results, Tryz.results54, go_sem]) rfl ⟨belowN (belowN (S6.out.below hBB HB1.out) _) _, Or.inl ⟨HN.out, _, rfl⟩⟩
    | false =>
     go_wp2_with fail
     go_quiet (fail)
     go_wp2_with fail
     clear c0 c1 c2 d1 d2 d3
     have hlt3 : j3 < s.length := by omega
     refine (take_b b s 44 j3 false _ hs hjl3 (S6.out.rdr.drewN _)).mono ?_
     rintro e w7 ⟨B, j4, rfl, hr7, hb7, hj4, hjl4, HT⟩
     have S7 := Lib.hid (FParSt.step (FParSt.drewN S6.out _) hr7 hb7)
     obtain ⟨hcb, hfb⟩ := cells_of hr7
     cases B with
     | true =>
      have hj43 : j4 = j3 + 1 ∧ s.drop j3 = 44 :: s.drop j4 := by
       rcases HT.out with ⟨_, h1, h2⟩ | ⟨h, _⟩
       ·exact ⟨h1, h2⟩
       ·cases h
      have hj4e := hj43.1
      have HI7 : Hid (FLInv s j4 false (l ++ [ps]) full) := Lib.hid (HI.out.more HJ1.out HG.out HJ3.out (by omega) hlt3 hj43.1 hj43.2)
      have HM : Hid (w7.cell? ⟨b, 1, none⟩ = some (.int .i64 (j4 : Int))) := Lib.hid (hcb 1)
      have HM2 : Hid (w7.cell? ⟨b, 2, none⟩ = some (.bool false)) := Lib.hid (hcb 2)
      clear hr7 hb7 hcb hfb HT hj43 HI HJ1 HJ3 HG
      go_wp2_with fail
      go_roundw
      case rel => exact ⟨j4, false, l ++ [ps], S7, hjl4, by rw [List.length_append, HLL.out]; show LL + 1 ≤ _; omega, Lib.hid (fun _ => by rw [List.length_append, HLL.out]; show LL + 1 ≤ _; omega), HI7⟩
      case measure =>
       rw [HM.out, HC1.out, HM2.out, HC2.out]
       show 2 * (s.length - ((j4 : Nat) : Int).toNat) + 1 < 2 * (s.length - ((j : Nat) : Int).toNat) + 1
       omega
     | false =>
      have hj43 : j4 = j3 ∧ ∀ r, s.drop j3 ≠ 44 :: r := by
       rcases HT.out with ⟨h, _⟩ | ⟨_, h1, h2⟩
       ·cases h
       ·exact ⟨h1, h2⟩
      have hj4e := hj43.1
      have HI7 : Hid (FLInv s j4 true (l ++ [ps]) full) := Lib.hid (Or.inl ⟨rfl, HI.out.stop HJ1.out HG.out HJ3.out hlt3 hj43.2⟩)
      have hlb7 := lt_of_block hr7
      have S8 := Lib.hid S7.out.fail_
      obtain ⟨hcb8, hfb8⟩ := cells_of S8.out.rdr
      have HM : Hid ((w7.setCell ⟨b, 2, none⟩ (.bool true)).cell? ⟨b, 1, none⟩ = some (.int .i64 (j4 : Int))) := Lib.hid (hcb8 1)
      have HM2 : Hid ((w7.setCell ⟨b, 2, none⟩ (.bool true)).cell? ⟨b, 2, none⟩ = some (.bool true)) := Lib.hid (hcb8 2)
      clear hr7 hb7 HT hj43 HI HJ1 HJ3 HG hcb8 hfb8
      go_wp2_with fail
      go_roundw
      case rel => exact ⟨j4, true, l ++ [ps], S8, hjl4, by rw [List.length_append, HLL.out]; show LL + 1 ≤ _; omega, Lib.hid (fun h => (by cases h)), HI7⟩
      case measure =>
       rw [HM.out, HC1.out, HM2.out, HC2.out]
       show 2 * (s.length - ((j4 : Nat) : Int).toNat) + 0 < 2 * (s.length - ((j : Nat) : Int).toNat) + 1
       omega
end F
end Go.Proofs.YtafkeolpadfjfaaGreatDoor
