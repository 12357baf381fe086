/- The reader of selectors: part, given what pseudo comes to. -/
import Derived.Test.YtafkeolpadfjfaaGreatDoorSel14
import Derived.Deep.RegionLaw
import Derived.Deep.AppendLies
import Derived.Deep.DeepCutAuto
import Derived.OwnWalk
set_option linter.unusedVariables false
set_option linter.unusedSimpArgs false
namespace Go.Proofs.YtafkeolpadfjfaaGreatDoor
open Go.RowKit
namespace K
open H
theorem infoTest : (Tryz.prog.info? 146).map (fun i => (i.zero, i.size, i.bytes)) = some (some (.agg tzero), 6, 80) := by kernel_rfl
theorem PartSt.start {b : Nat} {s : List UInt8} {i : Nat} {w : World} (hR : IsRdr b s i false w) :
  PartSt b s i false w.heap.size (w.heap.size + 1) [] (.slice none 0 0) [] w ((w.alloc (.cells pzero 101)).alloc (.cells pzero 101)) := by
 refine ⟨(RdSt.new hR pzero _).alloc _, ?_, OwnAt.nil, Nat.lt_succ_self _⟩
 have := Blk.new (w.alloc (.cells pzero 101)) pzero 101
 have e : (w.alloc (.cells pzero 101)).heap.size = w.heap.size + 1 := by simp
 rw [e] at this
 exact this
theorem begins_in {c : UInt8} {r : List UInt8} (h : L.begins (c :: r) = true) : L.inName c = true := by
 unfold L.begins at h
 unfold L.inName
 rw [Bool.or_eq_true] at h ⊢
 rcases h with h | h
 ·exact Or.inl h
 ·right
  rw [Bool.and_eq_true] at h
  rw [h.1]; simp
section
variable {b : Nat} {s : List UInt8} {j j' : Nat} {bad bad' : Bool} {R P : Nat} {ty : List UInt8} {v : Value} {ts : List L.Test} {w0 w w' : World}
theorem PartSt.drewN (h : PartSt b s j bad R P ty v ts w0 w) (n : Nat) : PartSt b s j bad R P ty v ts w0 (w.drewN n) :=
 ⟨h.st.drewN n, h.p, h.row.keep keeps_test ⟨Nat.le_refl _, fun g hg _ => ⟨hg, rfl⟩⟩, h.hP⟩
theorem PartSt.typed (h : PartSt b s j bad R P ty v ts w0 w) (t : List UInt8) : PartSt b s j bad R P t v ts w0 (w.setCell ⟨P, 1, none⟩ (.string ⟨t.toArray⟩)) :=
 have h1 := h.st.hb
 have h2 := h.st.hR
 have h3 := h.hP
 ⟨h.st.far (by omega) (by omega) 1 _, H.Blk.set h.p 1 _, h.row.keep keeps_test ((Kept.refl w).set (by omega) 1 _), h.hP⟩
theorem PartSt.below (h : PartSt b s j bad R P ty v ts w0 w) (hB : Below w.heap.size w w') : PartSt b s j bad R P ty v ts w0 w' := h.step (h.st.rdr.below hB) (But.of hB)
theorem PartSt.p5 (h : PartSt b s j bad R P ty v ts w0 w) {o : Obj} {w5 : World} (hgrow : (w.alloc o).grownBy w5 v.ownBlock) : Blk P #[.int .i64 0, .string ⟨ty.toArray⟩, v] 101 w5 := by
 refine (hgrow.block P (by have := h.p.lt; simp; omega) (fun he => ?_)).trans (h.p.alloc o)
 obtain ⟨ps, _, h2, _⟩ := h.row
 have := (h2.lt P he.symm).1
 omega
theorem PartSt.fail_ (h : PartSt b s j bad R P ty v ts w0 w) {B : Bool} : PartSt b s j B R P ty v ts w0 (w.setCell ⟨b, 2, none⟩ (.bool B)) :=
 have h1 := h.st.hb
 have h2 := h.st.hR
 have h3 := h.hP
 ⟨⟨block_set (o := 2) h.st.rdr, h.st.res.far (by omega) 2 _, h.st.but.trans (But.set _ _ _), h1, h2⟩, h.p.far (by omega) 2 _, h.row.keep keeps_test ((Kept.refl w).set (by omega) 2 _), h3⟩
/-- The fields of the part into the result. -/
theorem PartSt.three (h : PartSt b s j bad R P ty v ts w0 w) (v0 v1 v2 : Value) :
  IsRdr b s j bad (((w.setCell ⟨R, 0, none⟩ v0).setCell ⟨R, 1, none⟩ v1).setCell ⟨R, 2, none⟩ v2) ∧ But b w0 (((w.setCell ⟨R, 0, none⟩ v0).setCell ⟨R, 1, none⟩ v1).setCell ⟨R, 2, none⟩ v2) ∧
  TestsAt (w0.heap.size ≤ ·) (((w.setCell ⟨R, 0, none⟩ v0).setCell ⟨R, 1, none⟩ v1).setCell ⟨R, 2, none⟩ v2) v ts := by
 have h1 := ((h.st.set 0 v0).set 1 v1).set 2 v2
 have h2 := h.st.hR
 have h3 := h.hP
 refine ⟨h1.rdr, h1.but, ?_⟩
 exact keeps_tests (ListAt.keep keeps_test (OwnAt.list keeps_test h.row) ((((Kept.refl w).set (k := R) (by omega) 0 v0).set (by omega) 1 v1).set (by omega) 2 v2)) (Kept.late (by omega))
end
/-- The head of a part, read. -/
def HeadOk (s : List UInt8) (i : Nat) (ty : List UInt8) (j : Nat) (hb : Bool) : Prop := L.headOf (s.drop i) = (ty, s.drop j, hb) ∧ ((hb = true ∧ i < j) ∨ (hb = false ∧ j = i))
/-- What a part's reading comes to, behind its tests. -/
theorem part_got {np : Option (List UInt8 → Option ((List UInt8 × List L.Tst) × List UInt8))} {s : List UInt8} {i j0 j : Nat} {ty : List UInt8} {hb : Bool} {ts : List L.Test}
  (hh : HeadOk s i ty j0 hb) (hf : L.tests np ((s.drop j0).length + 1) (s.drop j0) = some (ts, s.drop j)) (hk : (ts = [] ∧ j = j0) ∨ (ts ≠ [] ∧ j0 < j)) (hij : i ≤ j0) :
  Got (decide (j = i)) (L.part np (s.drop i)) ((ty, ts), s.drop j) := by
 rw [L.part_eq, hh.1, hf]
 dsimp only
 rcases hh.2 with ⟨rfl, hlt⟩ | ⟨rfl, he⟩
 ·rw [decide_eq_false (by rcases hk with h | h <;> omega)]
  exact Got.yes rfl
 ·rcases hk with ⟨rfl, h⟩ | ⟨hne, h⟩
  ·rw [decide_eq_true (by omega)]
   exact Got.no rfl
  ·rw [decide_eq_false (by omega)]
   refine Got.yes ?_
   have : ts.isEmpty = false := by cases ts; exact absurd rfl hne; rfl
   rw [this]; rfl
theorem part_bad {np : Option (List UInt8 → Option ((List UInt8 × List L.Tst) × List UInt8))} {s : List UInt8} {i j0 : Nat} {ty : List UInt8} {hb : Bool}
  (hh : HeadOk s i ty j0 hb) (hf : L.tests np ((s.drop j0).length + 1) (s.drop j0) = none) : L.part np (s.drop i) = none := by
 rw [L.part_eq, hh.1, hf]
theorem got_name {bad : Bool} {o : Option (List UInt8 × List UInt8)} {t u : List UInt8} {k : Nat} (h : Got bad o (t, u)) :
  Got bad (match o with | none => none | some (n, u) => some ((⟨L.tst k n, []⟩ : L.Test), u)) ((⟨⟨k, t, [], 0, 0⟩, []⟩ : L.Test), u) := by
 rcases h with ⟨rfl, rfl⟩ | ⟨rfl, rfl⟩
 ·exact Got.no rfl
 ·exact Got.yes rfl
theorem got_attr {bad : Bool} {o : Option (L.Tst × List UInt8)} {t : L.Tst} {u : List UInt8} (h : Got bad o (t, u)) :
  Got bad (match o with | none => none | some (n, u) => some ((⟨n, []⟩ : L.Test), u)) ((⟨t, []⟩ : L.Test), u) := by
 rcases h with ⟨rfl, rfl⟩ | ⟨rfl, rfl⟩
 ·exact Got.no rfl
 ·exact Got.yes rfl
def CutA (b : Nat) (s : List UInt8) (i R P : Nat) (w : World) (B : Bool) (wx : World) : Prop :=
 ∃ j, PartSt b s j false R P [] (.slice none 0 0) [] w wx ∧ i ≤ j ∧ j ≤ s.length ∧ ((B = true ∧ j = i ∧ (∀ r, s.drop i ≠ 42 :: r) ∧ L.begins (s.drop i) = true) ∨ (B = false ∧ ∃ hb, HeadOk s i [] j hb))
def PartRel (b : Nat) (s : List UInt8) (i j0 : Nat) (inner : Bool) (R P : Nat) (ty : List UInt8) (full : Option (List L.Test × List UInt8)) (w wr : World) (j : Nat) (bad : Bool) : Prop :=
 ∃ v ts, PartSt b s j bad R P ty v ts w wr ∧ ts.length ≤ j - i ∧ L.PInv (npOf inner) s j bad ts full ∧ (inner = true → ∀ t ∈ ts, t.nots = []) ∧ ((ts = [] ∧ j = j0) ∨ (ts ≠ [] ∧ j0 < j))
set_option maxHeartbeats 4000000 in
set_option maxRecDepth 100000 in
theorem part_gen (E : World → Prop) (b : Nat) (hEb : ∀ {w w' : World}, E w → But b w w' → E w') (s : List UInt8) (i : Nat) (inner : Bool) (w : World) (hs : s.length ≤ 1000000) (hi : i ≤ s.length) (hR : IsRdr b s i false w) (hE : E w)
  (hPs : (58 : UInt8) ∈ s → ∀ i w, i ≤ s.length → IsRdr b s i false w → E w → Calls Tryz.prog 167 #[.pointer (some ⟨b, 0, none⟩), .bool inner] w (TestPost b s i inner (L.pseudo (npOf inner) (s.drop i)) w)) :
  Calls Tryz.prog 128 #[.pointer (some ⟨b, 0, none⟩), .bool inner] w (PartPost b s i inner (L.part (npOf inner) (s.drop i)) w) := by
 have HR := Lib.hid hR
 have HE := Lib.hid hE
 have HPs := Lib.hid hPs
 have hlb := lt_of_block hR
 have ST0 := Lib.hid (PartSt.start hR)
 obtain ⟨hc0, hf0⟩ := cells_of hR
 have c1 : w.cell? ⟨b, 1, none⟩ = some (.int .i64 i) := hc0 1
 clear hR hE hPs hc0 hf0
 go_enter Tryz.func128, Tryz.ntmps128
 go_upto_region 3 with fail
 clear c1
 go_cut [17] (fun s17 wx => ∃ B : Bool, s17 = .bool B ∧ CutA b s i w.heap.size (w.heap.size + 1) w B wx)
 case first =>
  go_wp2_with fail
  refine (take_any b s [42] i false _ hs (by decide) hi ST0.out.st.rdr).mono ?_
  rintro e w1 (⟨rfl, hr1, hb1, HT⟩ | ⟨rfl, hr1, hb1, HT⟩)
  ·have ST1 := Lib.hid (ST0.out.step hr1 hb1)
   have HJ : Hid (CutA b s i w.heap.size (w.heap.size + 1) w false w1) := Lib.hid (by
    obtain ⟨r, hr0⟩ := prefix_one HT.out.2
    refine ⟨i + 1, ST1.out, by omega, lt_drop hr0, Or.inr ⟨rfl, true, ?_, Or.inl ⟨rfl, by omega⟩⟩⟩
    rw [drop_more hr0, hr0]; rfl)
   clear hr1 hb1
   go_wp2_with fail
   go_meet
   exact ⟨false, rfl, HJ.out⟩
  ·have ST1 := Lib.hid (ST0.out.step hr1 hb1)
   have hn42 : ∀ r, s.drop i ≠ 42 :: r := by
    intro r hr
    rcases HT.out with h | h
    ·cases h
    ·rw [hr] at h; simp [List.isPrefixOf] at h
   have HN := Lib.hid hn42
   clear hr1 hb1 hn42
   go_wp2_with fail
   refine (named b s i false _ hs hi ST1.out.st.rdr).mono ?_
   rintro e w2 ⟨rfl, nn, rfl⟩
   have ST2 := Lib.hid (ST1.out.drewN nn)
   cases hbg : L.begins (s.drop i) with
   | true =>
    have HJ : Hid (CutA b s i w.heap.size (w.heap.size + 1) w true (w1.drewN nn)) := Lib.hid ⟨i, ST2.out, by omega, hi, Or.inl ⟨rfl, rfl, HN.out, hbg⟩⟩
    go_wp2_with fail
    go_meet
    exact ⟨true, rfl, HJ.out⟩
   | false =>
    have HJ : Hid (CutA b s i w.heap.size (w.heap.size + 1) w false (w1.drewN nn)) := Lib.hid ⟨i, ST2.out, by omega, hi, Or.inr ⟨rfl, false, L.headOf_none HN.out (by unfold L.ident; rw [hbg]; rfl), Or.inr ⟨rfl, rfl⟩⟩⟩
    go_wp2_with fail
    go_meet
    exact ⟨false, rfl, HJ.out⟩
 case rest =>
  obtain ⟨B, rfl, HA⟩ := hcut
  have HA := Lib.hid HA
  clear ST0
  generalize hRR : w.heap.size = R at *
  generalize hPP : R + 1 = P at *
  go_upto_if 17 with fail
  go_cut [] (fun wx => ∃ ty j hb, PartSt b s j false R P ty (.slice none 0 0) [] w wx ∧ i ≤ j ∧ j ≤ s.length ∧ ty.length ≤ s.length ∧ HeadOk s i ty j hb)
  case first =>
   cases B with
   | false =>
    go_wp2_with fail
    go_meet
    obtain ⟨j, hst, h1, h2, (⟨h3, _⟩ | ⟨_, hb, h3⟩)⟩ := HA.out
    ·cases h3
    ·exact ⟨[], j, hb, hst, h1, h2, Nat.zero_le _, h3⟩
   | true =>
    obtain ⟨ST3, HN, HBg⟩ : Hid (PartSt b s i false R P [] (.slice none 0 0) [] w wc) ∧ Hid (∀ r, s.drop i ≠ 42 :: r) ∧ Hid (L.begins (s.drop i) = true) := by
     obtain ⟨j, hst, h1, h2, (⟨_, rfl, h4, h5⟩ | ⟨h3, _⟩)⟩ := HA.out
     ·exact ⟨Lib.hid hst, Lib.hid h4, Lib.hid h5⟩
     ·cases h3
    clear HA
    go_wp2_with fail
    refine (name_any b s i _ hs hi ST3.out.st.rdr).mono ?_
    rintro e w1 ⟨t, j1, bad1, rfl, hr1, hb1, g1, g1', htl, HG⟩
    have ST4 := Lib.hid (ST3.out.step hr1 hb1)
    clear hr1 hb1
    go_wp2_with fail
    refine (LowerS t _ (by omega)).mono ?_
    rintro e w2 ⟨rfl, b2⟩
    have st5 := ST4.out.below b2
    obtain ⟨hcp, hfp⟩ := cells_of st5.p
    have hlp := st5.p.lt
    have ST5 := Lib.hid st5
    clear st5 b2
    go_wp2_with fail
    go_meet
    have hid0 : L.ident (s.drop i) = some ((s.drop i).takeWhile L.inName, (s.drop i).dropWhile L.inName) := by unfold L.ident; rw [HBg.out]; rfl
    rcases HG.out with ⟨_, h⟩ | ⟨rfl, h⟩
    ·rw [hid0] at h; cases h
    ·refine ⟨_, j1, true, ST5.out.typed _, g1, g1', by rw [lower_length]; exact htl, L.headOf_name HN.out h, Or.inl ⟨rfl, ?_⟩⟩
     have hlt : (s.drop j1).length < (s.drop i).length := by
      rw [hid0] at h
      obtain ⟨h1, h2⟩ := Prod.mk.inj (Option.some.inj h)
      rw [← h2, ← drop_tw, List.length_drop]
      cases hd : s.drop i with
      | nil => rw [hd] at hid0; have := HBg.out; rw [hd] at this; exact absurd this (by decide)
      | cons c r =>
       have hb0 := HBg.out
       rw [hd] at hb0
       have hin : L.inName c = true := begins_in hb0
       rw [List.takeWhile_cons_of_pos hin]; simp; omega
     rw [List.length_drop, List.length_drop] at hlt
     omega
  case rest =>
   obtain ⟨ty, j0, hb, HS0, hij, hjl0, hty, HH⟩ := hcut
   clear HA
   have HH := Lib.hid HH
   have HF : Hid (PartRel b s i j0 inner R P ty (L.tests (npOf inner) ((s.drop j0).length + 1) (s.drop j0)) w wc j0 false) := Lib.hid ⟨_, [], HS0, Nat.zero_le _, L.PInv.start, fun _ t h => (by cases h), Or.inl ⟨rfl, rfl⟩⟩
   obtain ⟨full, hfull⟩ : ∃ f, L.tests (npOf inner) ((s.drop j0).length + 1) (s.drop j0) = f := ⟨_, rfl⟩
   rw [hfull] at HF
   have HFull := Lib.hid hfull
   clear hfull HS0
   go_wp2_with fail
   go_loopw [] (fun wr => ∃ (j : Nat) (bad : Bool), Hid (PartRel b s i j0 inner R P ty full w wr j bad) ∧ j0 ≤ j ∧ j ≤ s.length) (fun wr => s.length - (match wr.cell? ⟨b, 1, none⟩ with | some (.int _ q) => q.toNat | _ => 0))
   case atStart => exact ⟨j0, false, HF, Nat.le_refl _, hjl0⟩
   case round =>
    obtain ⟨j, bad, HRel, hj0, hjl⟩ := hrel
    clear HF
    obtain ⟨v, ts, hst, htl, hinv, hno, hk⟩ := HRel.out
    obtain ⟨ao, cap0, hv⟩ := hst.row.form
    have hbR : b < R := by have := hst.st.hb; have := hst.st.hR; omega
    have hRP := hst.hP
    have hlbr := hst.st.lt
    have hlPr := hst.p.lt
    have hlRr := hst.st.res.lt
    obtain ⟨hcb, hfb⟩ := cells_of hst.st.rdr
    obtain ⟨hcp, hfp⟩ := cells_of hst.p
    obtain ⟨hcr, hfr⟩ := cells_of hst.st.res
    unfold pzero at hcr hfr
    have HK := Lib.hid hk
    have HNo := Lib.hid hno
    have HInv := Lib.hid hinv
    have ST := Lib.hid hst
    generalize hLL : ts.length = LL at hv
    subst hv
    have HLL := Lib.hid hLL
    rw [hLL] at htl
    clear hst hinv hno hk hLL HRel
    have n1 : b ≠ P := by omega
    have n2 : P ≠ b := by omega
    have n3 : R ≠ P := by omega
    have n4 : P ≠ R := by omega
    have n5 : b ≠ R := by omega
    have n6 : R ≠ b := by omega
    cases bad with
    | true =>
     clear HPs HE
     have c2 : wr.cell? ⟨b, 2, none⟩ = some (.bool true) := hcb 2
     clear hcb hfb
     have HG : Hid (Got true (L.part (npOf inner) (s.drop i)) ((ty, ts), s.drop j)) := Lib.hid (Got.no (part_bad HH.out (by
      rw [HFull.out]
      rcases HInv.out with ⟨_, h⟩ | ⟨h, _⟩
      ·exact h
      ·cases h)))
     go_wp2_with fail
     refine bodyPost_ret (v := .agg #[.int .i64 0, .string ⟨ty.toArray⟩, .slice ao LL cap0]) (by simp [results, Tryz.results128, go_sem, hcr, hcp, n3, n4]) rfl ⟨ty, _, ts, j, true, rfl, Lib.hid ?_, ?_, ?_, by omega, hjl, hty, Lib.hid (by rw [HLL.out]; exact htl), HNo, HG⟩
     ·exact (ST.out.three _ _ _).2.2
     ·exact (ST.out.three _ _ _).1
     ·exact (ST.out.three _ _ _).2.1
    | false =>
     have c2 : wr.cell? ⟨b, 2, none⟩ = some (.bool false) := hcb 2
     have c1 : wr.cell? ⟨b, 1, none⟩ = some (.int .i64 j) := hcb 1
     have HC1 := Lib.hid c1
     clear hcb hfb hcp hfp hcr hfr c1
     go_wp2_with fail
     clear c2
     refine (take_any b s [35] j false _ hs (by decide) hjl ST.out.st.rdr).mono ?_
     rintro e w35 (⟨rfl, hr1, hb1, HT⟩ | ⟨rfl, hr1, hb1, HT⟩)
     case inl =>
      have X := Lib.hid (ST.out.step hr1 hb1)
      obtain ⟨rest, hrest⟩ := prefix_one HT.out.2
      have hj1 : j + 1 ≤ s.length := lt_drop hrest
      have ho := L.one_35 (np := npOf inner) (r := rest)
      rw [← hrest] at ho
      have HO := Lib.hid ho
      have HDr := Lib.hid (drop_more hrest)
      clear hr1 hb1 hrest HT ho
      obtain ⟨i0, hi0, hz0, hz1, hz2⟩ := info_parts infoTest
      obtain ⟨hcp, hfp⟩ := cells_of X.out.p
      have hlP := X.out.p.lt
      go_wp2_with fail
      go_region_law (first
       | (refine step_append_lies _ (by rfl) _ _ _ (by rfl) (P + 1) 146 i0 _ 6 80 Tryz.underlying99 hi0 hz0 hz1 hz2 rfl (by omega) (.slice ao LL cap0) LL (ps.flatMap fun p => cTest p.1 p.2) (by rfl) (hown.out.alloc _) ⟨w2.heap.size, 0, none⟩ 1 1 (#[.int .i64 1, .string ⟨t.toArray⟩, .string ⟨#[]⟩, .int .i64 0, .int .i64 0, .slice none 0 0] : Array Value).toList (by rfl) (by rfl) (World.news_of_block (cs := #[.int .i64 1, .string ⟨t.toArray⟩, .string ⟨#[]⟩, .int .i64 0, .int .i64 0, .slice none 0 0]) (t := 146) (fr := (0, 0)) (heap_alloc_new w2 _)) (by simp [Value.oneCell']) (by omega) (by unfold maxLen; omega) (by omega) (by simp; omega) (w2.heap.size + 1) (by simp) ?_; intro gg cap2 w5 hown5 hgrow hat hlt5; have hbP := ST2.out.p5 hgrow; obtain ⟨hcp5, hfp5⟩ := cells_of hbP; have hlp5 := hbP.lt)
       | (go_simp; go_at_call 165; refine (name_any b s (j + 1) _ hs hj1 X.out.drew.st.rdr).mono ?_; rintro e w2 ⟨t, j2, bad2, rfl, hr2, hb2, g1, g2, htt, HG⟩; have ST2 := Lib.hid (X.out.drew.step hr2 hb2); obtain ⟨hcp2, hfp2⟩ := cells_of ST2.out.p; have hlp2 := ST2.out.p.lt; obtain ⟨ps, hps, hown0, hI, hnil⟩ := ST2.out.row; rw [HLL.out] at hown0; have hown := Lib.hid hown0; have HPS := Lib.hid hps; have HI := Lib.hid hI; clear hps hown0 hI hnil))
      all_goals
       have hx := PartSt.app ST2.out (t := ⟨⟨1, t, [], 0, 0⟩, []⟩) (nv := (.slice none 0 0)) HPS.out HI.out (by rw [HLL.out]; exact hown5) hgrow hat ListAt.nil
       rw [HLL.out] at hx
       have HX := Lib.hid hx
       clear hx
       have HN : Hid (PartRel b s i j0 inner R P ty full w (w5.setCell ⟨P, 2, none⟩ (.slice (some ⟨gg, 0, none⟩) (LL + 1) cap2)) j2 bad2) := Lib.hid ⟨_, ts ++ [⟨⟨1, t, [], 0, 0⟩, []⟩], HX.out, by rw [List.length_append, HLL.out]; show LL + 1 ≤ _; omega, HInv.out.more HO.out (by rw [HDr.out] at HG; exact (got_name HG.out)) (by omega) g2, fun hin x hx => (List.mem_append.1 hx).elim (HNo.out hin x) (fun h => (by have e := List.mem_singleton.1 h; subst e; exact (fun _ => rfl) hin)), Or.inr ⟨by simp, by omega⟩⟩
       have HM : Hid ((w5.setCell ⟨P, 2, none⟩ (.slice (some ⟨gg, 0, none⟩) (LL + 1) cap2)).cell? ⟨b, 1, none⟩ = some (.int .i64 j2)) := Lib.hid ((cells_of HX.out.st.rdr).1 1)
       go_wp2_with fail
       go_roundw
       case rel => exact ⟨j2, bad2, HN, by omega, g2⟩
       case measure =>
        rw [HM.out, HC1.out]
        show s.length - ((j2 : Nat) : Int).toNat < s.length - ((j : Nat) : Int).toNat
        omega
     case inr =>
      have X := Lib.hid (ST.out.step hr1 hb1)
      have HN35 : Hid (∀ r, s.drop j ≠ 35 :: r) := Lib.hid (by
       intro r hr
       rcases HT.out with h | h
       ·cases h
       ·rw [hr] at h; simp [List.isPrefixOf] at h)
      clear ST hr1 hb1 HT
      have ST := X
      clear X
      go_wp2_with fail
      refine (take_any b s [46] j false _ hs (by decide) hjl ST.out.st.rdr).mono ?_
      rintro e w46 (⟨rfl, hr1, hb1, HT⟩ | ⟨rfl, hr1, hb1, HT⟩)
      case inl =>
       have X := Lib.hid (ST.out.step hr1 hb1)
       obtain ⟨rest, hrest⟩ := prefix_one HT.out.2
       have hj1 : j + 1 ≤ s.length := lt_drop hrest
       have ho := L.one_46 (np := npOf inner) (r := rest)
       rw [← hrest] at ho
       have HO := Lib.hid ho
       have HDr := Lib.hid (drop_more hrest)
       clear hr1 hb1 hrest HT ho
       obtain ⟨i0, hi0, hz0, hz1, hz2⟩ := info_parts infoTest
       obtain ⟨hcp, hfp⟩ := cells_of X.out.p
       have hlP := X.out.p.lt
       go_wp2_with fail
       go_region_law (first
        | (refine step_append_lies _ (by rfl) _ _ _ (by rfl) (P + 1) 146 i0 _ 6 80 Tryz.underlying99 hi0 hz0 hz1 hz2 rfl (by omega) (.slice ao LL cap0) LL (ps.flatMap fun p => cTest p.1 p.2) (by rfl) (hown.out.alloc _) ⟨w2.heap.size, 0, none⟩ 1 1 (#[.int .i64 2, .string ⟨t.toArray⟩, .string ⟨#[]⟩, .int .i64 0, .int .i64 0, .slice none 0 0] : Array Value).toList (by rfl) (by rfl) (World.news_of_block (cs := #[.int .i64 2, .string ⟨t.toArray⟩, .string ⟨#[]⟩, .int .i64 0, .int .i64 0, .slice none 0 0]) (t := 146) (fr := (0, 0)) (heap_alloc_new w2 _)) (by simp [Value.oneCell']) (by omega) (by unfold maxLen; omega) (by omega) (by simp; omega) (w2.heap.size + 1) (by simp) ?_; intro gg cap2 w5 hown5 hgrow hat hlt5; have hbP := ST2.out.p5 hgrow; obtain ⟨hcp5, hfp5⟩ := cells_of hbP; have hlp5 := hbP.lt)
        | (go_simp; go_at_call 165; refine (name_any b s (j + 1) _ hs hj1 X.out.drew.st.rdr).mono ?_; rintro e w2 ⟨t, j2, bad2, rfl, hr2, hb2, g1, g2, htt, HG⟩; have ST2 := Lib.hid (X.out.drew.step hr2 hb2); obtain ⟨hcp2, hfp2⟩ := cells_of ST2.out.p; have hlp2 := ST2.out.p.lt; obtain ⟨ps, hps, hown0, hI, hnil⟩ := ST2.out.row; rw [HLL.out] at hown0; have hown := Lib.hid hown0; have HPS := Lib.hid hps; have HI := Lib.hid hI; clear hps hown0 hI hnil))
       all_goals
        have hx := PartSt.app ST2.out (t := ⟨⟨2, t, [], 0, 0⟩, []⟩) (nv := (.slice none 0 0)) HPS.out HI.out (by rw [HLL.out]; exact hown5) hgrow hat ListAt.nil
        rw [HLL.out] at hx
        have HX := Lib.hid hx
        clear hx
        have HN : Hid (PartRel b s i j0 inner R P ty full w (w5.setCell ⟨P, 2, none⟩ (.slice (some ⟨gg, 0, none⟩) (LL + 1) cap2)) j2 bad2) := Lib.hid ⟨_, ts ++ [⟨⟨2, t, [], 0, 0⟩, []⟩], HX.out, by rw [List.length_append, HLL.out]; show LL + 1 ≤ _; omega, HInv.out.more HO.out (by rw [HDr.out] at HG; exact (got_name HG.out)) (by omega) g2, fun hin x hx => (List.mem_append.1 hx).elim (HNo.out hin x) (fun h => (by have e := List.mem_singleton.1 h; subst e; exact (fun _ => rfl) hin)), Or.inr ⟨by simp, by omega⟩⟩
        have HM : Hid ((w5.setCell ⟨P, 2, none⟩ (.slice (some ⟨gg, 0, none⟩) (LL + 1) cap2)).cell? ⟨b, 1, none⟩ = some (.int .i64 j2)) := Lib.hid ((cells_of HX.out.st.rdr).1 1)
        go_wp2_with fail
        go_roundw
        case rel => exact ⟨j2, bad2, HN, by omega, g2⟩
        case measure =>
         rw [HM.out, HC1.out]
         show s.length - ((j2 : Nat) : Int).toNat < s.length - ((j : Nat) : Int).toNat
         omega
      case inr =>
       have X := Lib.hid (ST.out.step hr1 hb1)
       have HN46 : Hid (∀ r, s.drop j ≠ 46 :: r) := Lib.hid (by
        intro r hr
        rcases HT.out with h | h
        ·cases h
        ·rw [hr] at h; simp [List.isPrefixOf] at h)
       clear ST hr1 hb1 HT
       have ST := X
       clear X
       go_wp2_with fail
       refine (take_any b s [91] j false _ hs (by decide) hjl ST.out.st.rdr).mono ?_
       rintro e w91 (⟨rfl, hr1, hb1, HT⟩ | ⟨rfl, hr1, hb1, HT⟩)
       case inl =>
        have X := Lib.hid (ST.out.step hr1 hb1)
        obtain ⟨rest, hrest⟩ := prefix_one HT.out.2
        have hj1 : j + 1 ≤ s.length := lt_drop hrest
        have ho := L.one_91 (np := npOf inner) (r := rest)
        rw [← hrest] at ho
        have HO := Lib.hid ho
        have HDr := Lib.hid (drop_more hrest)
        clear hr1 hb1 hrest HT ho
        obtain ⟨i0, hi0, hz0, hz1, hz2⟩ := info_parts infoTest
        obtain ⟨hcp, hfp⟩ := cells_of X.out.p
        have hlP := X.out.p.lt
        go_wp2_with fail
        go_region_law (first
         | (refine step_append_lies _ (by rfl) _ _ _ (by rfl) (P + 1) 146 i0 _ 6 80 Tryz.underlying99 hi0 hz0 hz1 hz2 rfl (by omega) (.slice ao LL cap0) LL (ps.flatMap fun p => cTest p.1 p.2) (by rfl) (hown.out.alloc _) ⟨w2.heap.size, 0, none⟩ 1 1 (#[.int .i64 t.kind, .string ⟨t.name.toArray⟩, .string ⟨t.value.toArray⟩, .int .i64 t.a, .int .i64 t.b, .slice none 0 0] : Array Value).toList (by rfl) (by rfl) (World.news_of_block (cs := #[.int .i64 t.kind, .string ⟨t.name.toArray⟩, .string ⟨t.value.toArray⟩, .int .i64 t.a, .int .i64 t.b, .slice none 0 0]) (t := 146) (fr := (0, 0)) (heap_alloc_new w2 _)) (by simp [Value.oneCell']) (by omega) (by unfold maxLen; omega) (by omega) (by simp; omega) (w2.heap.size + 1) (by simp) ?_; intro gg cap2 w5 hown5 hgrow hat hlt5; have hbP := ST2.out.p5 hgrow; obtain ⟨hcp5, hfp5⟩ := cells_of hbP; have hlp5 := hbP.lt)
         | (go_simp; go_at_call 166; refine (attrib b s (j + 1) _ hs hj1 X.out.drew.st.rdr).mono ?_; rintro e w2 ⟨t, j2, bad2, rfl, hr2, hb2, g1, g2, HG⟩; unfold tval tcells; have ST2 := Lib.hid (X.out.drew.step hr2 hb2); obtain ⟨hcp2, hfp2⟩ := cells_of ST2.out.p; have hlp2 := ST2.out.p.lt; obtain ⟨ps, hps, hown0, hI, hnil⟩ := ST2.out.row; rw [HLL.out] at hown0; have hown := Lib.hid hown0; have HPS := Lib.hid hps; have HI := Lib.hid hI; clear hps hown0 hI hnil))
        all_goals
         have hx := PartSt.app ST2.out (t := ⟨t, []⟩) (nv := (.slice none 0 0)) HPS.out HI.out (by rw [HLL.out]; exact hown5) hgrow hat ListAt.nil
         rw [HLL.out] at hx
         have HX := Lib.hid hx
         clear hx
         have HN : Hid (PartRel b s i j0 inner R P ty full w (w5.setCell ⟨P, 2, none⟩ (.slice (some ⟨gg, 0, none⟩) (LL + 1) cap2)) j2 bad2) := Lib.hid ⟨_, ts ++ [⟨t, []⟩], HX.out, by rw [List.length_append, HLL.out]; show LL + 1 ≤ _; omega, HInv.out.more HO.out (by rw [HDr.out] at HG; exact (got_attr HG.out)) (by omega) g2, fun hin x hx => (List.mem_append.1 hx).elim (HNo.out hin x) (fun h => (by have e := List.mem_singleton.1 h; subst e; exact (fun _ => rfl) hin)), Or.inr ⟨by simp, by omega⟩⟩
         have HM : Hid ((w5.setCell ⟨P, 2, none⟩ (.slice (some ⟨gg, 0, none⟩) (LL + 1) cap2)).cell? ⟨b, 1, none⟩ = some (.int .i64 j2)) := Lib.hid ((cells_of HX.out.st.rdr).1 1)
         go_wp2_with fail
         go_roundw
         case rel => exact ⟨j2, bad2, HN, by omega, g2⟩
         case measure =>
          rw [HM.out, HC1.out]
          show s.length - ((j2 : Nat) : Int).toNat < s.length - ((j : Nat) : Int).toNat
          omega
       case inr =>
        have X := Lib.hid (ST.out.step hr1 hb1)
        have HN91 : Hid (∀ r, s.drop j ≠ 91 :: r) := Lib.hid (by
         intro r hr
         rcases HT.out with h | h
         ·cases h
         ·rw [hr] at h; simp [List.isPrefixOf] at h)
        clear ST hr1 hb1 HT
        have ST := X
        clear X
        go_wp2_with fail
        refine (take_any b s [58] j false _ hs (by decide) hjl ST.out.st.rdr).mono ?_
        rintro e w58 (⟨rfl, hr1, hb1, HT⟩ | ⟨rfl, hr1, hb1, HT⟩)
        case inl =>
         have X := Lib.hid (ST.out.step hr1 hb1)
         obtain ⟨rest, hrest⟩ := prefix_one HT.out.2
         have hj1 : j + 1 ≤ s.length := lt_drop hrest
         have ho := L.one_58 (npOf inner) rest
         rw [← hrest] at ho
         have HO := Lib.hid ho
         have HDr := Lib.hid (drop_more hrest)
         have H58 : Hid ((58 : UInt8) ∈ s) := Lib.hid (by have : (58 : UInt8) ∈ s.drop j := by rw [hrest]; exact List.mem_cons_self ..
                                                          exact List.mem_of_mem_drop this)
         clear hr1 hb1 hrest HT ho
         obtain ⟨i0, hi0, hz0, hz1, hz2⟩ := info_parts infoTest
         obtain ⟨hcp, hfp⟩ := cells_of X.out.p
         have hlP := X.out.p.lt
         go_wp2_with fail
         go_region_law (first
          | (refine step_append_lies _ (by rfl) _ _ _ (by rfl) (P + 1) 146 i0 _ 6 80 Tryz.underlying99 hi0 hz0 hz1 hz2 rfl (by omega) (.slice ao LL cap0) LL (ps.flatMap fun p => cTest p.1 p.2) (by rfl) (hown.out.alloc _) ⟨w2.heap.size, 0, none⟩ 1 1 (#[.int .i64 t.t.kind, .string ⟨t.t.name.toArray⟩, .string ⟨t.t.value.toArray⟩, .int .i64 t.t.a, .int .i64 t.t.b, .slice an ln cn] : Array Value).toList (by rfl) (by rfl) (World.news_of_block (cs := #[.int .i64 t.t.kind, .string ⟨t.t.name.toArray⟩, .string ⟨t.t.value.toArray⟩, .int .i64 t.t.a, .int .i64 t.t.b, .slice an ln cn]) (t := 146) (fr := (0, 0)) (heap_alloc_new w2 _)) (by simp [Value.oneCell']) (by omega) (by unfold maxLen; omega) (by omega) (by simp; omega) (w2.heap.size + 1) (by simp) ?_; intro gg cap2 w5 hown5 hgrow hat hlt5; have hbP := ST2.out.p5 hgrow; obtain ⟨hcp5, hfp5⟩ := cells_of hbP; have hlp5 := hbP.lt)
          | (go_simp; go_at_call 167; refine (HPs.out H58.out (j + 1) _ hj1 X.out.drew.st.rdr (hEb HE.out X.out.drew.st.but)).mono ?_; rintro e w2 ⟨t, nv, j2, bad2, rfl, HNv, hr2, hb2, g1, g2, HNt, HG⟩; obtain ⟨an, cn, hnv⟩ := HNv.out.form; generalize hln : t.nots.length = ln at hnv; subst hnv; clear hln; unfold tval tcells; have ST2 := Lib.hid (X.out.drew.step hr2 hb2); obtain ⟨hcp2, hfp2⟩ := cells_of ST2.out.p; have hlp2 := ST2.out.p.lt; obtain ⟨ps, hps, hown0, hI, hnil⟩ := ST2.out.row; rw [HLL.out] at hown0; have hown := Lib.hid hown0; have HPS := Lib.hid hps; have HI := Lib.hid hI; clear hps hown0 hI hnil))
         all_goals
          have hx := PartSt.app ST2.out (t := t) (nv := (.slice an ln cn)) HPS.out HI.out (by rw [HLL.out]; exact hown5) hgrow hat (keeps_nots HNv.out (Kept.wide (fun k hk => X.out.drew.fresh hk)))
          rw [HLL.out] at hx
          have HX := Lib.hid hx
          clear hx
          have HN : Hid (PartRel b s i j0 inner R P ty full w (w5.setCell ⟨P, 2, none⟩ (.slice (some ⟨gg, 0, none⟩) (LL + 1) cap2)) j2 bad2) := Lib.hid ⟨_, ts ++ [t], HX.out, by rw [List.length_append, HLL.out]; show LL + 1 ≤ _; omega, HInv.out.more HO.out (by rw [HDr.out] at HG; exact HG.out) (by omega) g2, fun hin x hx => (List.mem_append.1 hx).elim (HNo.out hin x) (fun h => (by have e := List.mem_singleton.1 h; subst e; exact HNt.out hin)), Or.inr ⟨by simp, by omega⟩⟩
          have HM : Hid ((w5.setCell ⟨P, 2, none⟩ (.slice (some ⟨gg, 0, none⟩) (LL + 1) cap2)).cell? ⟨b, 1, none⟩ = some (.int .i64 j2)) := Lib.hid ((cells_of HX.out.st.rdr).1 1)
          go_wp2_with fail
          go_roundw
          case rel => exact ⟨j2, bad2, HN, by omega, g2⟩
          case measure =>
           rw [HM.out, HC1.out]
           show s.length - ((j2 : Nat) : Int).toNat < s.length - ((j : Nat) : Int).toNat
           omega
        case inr =>
         have X := Lib.hid (ST.out.step hr1 hb1)
         have HN58 : Hid (∀ r, s.drop j ≠ 58 :: r) := Lib.hid (by
          intro r hr
          rcases HT.out with h | h
          ·cases h
          ·rw [hr] at h; simp [List.isPrefixOf] at h)
         clear ST hr1 hb1 HT
         have ST := X
         clear X
         have HOne : Hid (L.one (npOf inner) (s.drop j) = none) := Lib.hid (L.one_none HN35.out HN46.out HN91.out HN58.out)
         have st := ST.out
         obtain ⟨hcb, hfb⟩ := cells_of st.st.rdr
         obtain ⟨hcp, hfp⟩ := cells_of st.p
         obtain ⟨hcr, hfr⟩ := cells_of st.st.res
         unfold pzero at hcr hfr
         have hlb5 := st.st.lt
         have hlp5 := st.p.lt
         have hlr5 := st.st.res.lt
         have HG : Hid (Got (decide (j = i)) (L.part (npOf inner) (s.drop i)) ((ty, ts), s.drop j)) := Lib.hid (part_got HH.out (by rw [HFull.out]; exact HInv.out.last HOne.out) HK.out hij)
         clear st HOne HN35 HN46 HN91 HN58 HPs HE
         have ebi : ((j : Int) == (i : Int)) = decide (j = i) := by
          by_cases h : j = i
          ·subst h; simp
          ·rw [decide_eq_false h]; exact beq_eq_false_iff_ne.2 (fun e => h (by omega))
         cases hji : decide (j = i)
         all_goals
          rw [hji] at ebi HG
          have hji2 := hji
          simp only [decide_eq_true_eq, decide_eq_false_iff_not] at hji2
          clear hji
          go_wp2_with fail
          refine bodyPost_ret (v := .agg #[.int .i64 0, .string ⟨ty.toArray⟩, .slice ao LL cap0]) (by simp [results, Tryz.results128, go_sem, hcr, hcp, n1, n2, n3, n4, n5, n6]) rfl ⟨ty, _, ts, j, _, rfl, Lib.hid ?_, ?_, ?_, by omega, hjl, hty, Lib.hid (by rw [HLL.out]; exact htl), HNo, HG⟩
          ·exact (ST.out.fail_.three _ _ _).2.2
          ·exact (ST.out.fail_.three _ _ _).1
          ·exact (ST.out.fail_.three _ _ _).2.1
end K
end Go.Proofs.YtafkeolpadfjfaaGreatDoor
