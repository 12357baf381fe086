/- What startTag comes to. -/
import Derived.Test.YtlnginciehjlnaaGreatDoorAttr
import Derived.RegionTactic
import Derived.BigRegion
import Derived.ChangeAlike
set_option linter.unusedVariables false
set_option linter.unusedSimpArgs false
namespace Go.Proofs.YtlnginciehjlnaaGreatDoor
open Go.RowKit
namespace K

/-- The attributes that a value holds. -/
def HasAttrs (base : Nat) (a : Value) (l : List (List UInt8 × List UInt8)) (w : World) : Prop := w.ownsRow base 39 2 a l.length (acells l)

theorem no_attrs (base : Nat) (w : World) : HasAttrs base (.slice none 0 0) [] w := ⟨rfl, Or.inl ⟨rfl, rfl⟩⟩

def ResPost (r : M.Res) (w : World) (en : Ending) (w' : World) : Prop := ∃ a, en = .returned (resV r a) ∧ HasAttrs w.heap.size a r.tok.attrs w' ∧ Below w.heap.size w w'

def noneCells (s : List UInt8) (e : Bool) : Array Value := #[.int .i64 0, .string ⟨#[]⟩, .slice none 0 0, .bool false, .string ⟨#[]⟩, .int .i64 s.length, .bool e]
def zeroCells : Array Value := #[.int .i64 0, .string ⟨#[]⟩, .slice none 0 0, .bool false, .string ⟨#[]⟩, .int .i64 0, .bool false]

/-- At the head of startTag's loop. -/
def StRel (s : List UInt8) (e : Bool) (nm : List UInt8) (X : Option (List (List UInt8 × List UInt8) × Bool × List UInt8)) (w wr : World) : Prop :=
  ∃ (pos n : Nat) (l : List (List UInt8 × List UInt8)) (a : Value) (sl : Int),
    IsRd (w.heap.size + 1) s pos (.int .i64 1) (.string ⟨nm.toArray⟩) a (.bool false) (.string ⟨#[]⟩) sl wr ∧
    HasAttrs (w.heap.size + 3) a l wr ∧ wr.heap[w.heap.size]? = some (.cells zeroCells 84 (0, 0)) ∧ wr.heap[w.heap.size + 2]? = some (.cells (noneCells s e) 84 (0, 0)) ∧
    Below w.heap.size w wr ∧ pos ≤ s.length ∧ l.length ≤ 64 ∧ -1 ≤ sl ∧ sl + 1 < pos ∧
    Hid ((s.drop pos).length < n ∧ M.tagLoop n l (s.drop pos) = X)

def w0 (s : List UInt8) (e : Bool) (w : World) : World :=
  ((w.alloc (.cells zeroCells 84)).alloc (.cells #[.string ⟨s.toArray⟩, .int .i64 1, .int .i64 0, .string ⟨#[]⟩, .slice none 0 0, .bool false, .string ⟨#[]⟩, .int .i64 (-1)] 115)).alloc (.cells (noneCells s e) 84)

theorem w0_facts (s : List UInt8) (e : Bool) (w : World) : (w0 s e w).heap.size = w.heap.size + 3 ∧ (w0 s e w).heap[w.heap.size]? = some (.cells zeroCells 84 (0, 0)) ∧
    IsRd (w.heap.size + 1) s 1 (.int .i64 0) (.string ⟨#[]⟩) (.slice none 0 0) (.bool false) (.string ⟨#[]⟩) (-1) (w0 s e w) ∧ (w0 s e w).heap[w.heap.size + 2]? = some (.cells (noneCells s e) 84 (0, 0)) ∧ Below w.heap.size w (w0 s e w) := by
  have h1 := heap_alloc_new w (.cells zeroCells 84)
  have h2 := heap_alloc_new (w.alloc (.cells zeroCells 84)) (.cells #[.string ⟨s.toArray⟩, .int .i64 1, .int .i64 0, .string ⟨#[]⟩, .slice none 0 0, .bool false, .string ⟨#[]⟩, .int .i64 (-1)] 115)
  have h3 := heap_alloc_new ((w.alloc (.cells zeroCells 84)).alloc (.cells #[.string ⟨s.toArray⟩, .int .i64 1, .int .i64 0, .string ⟨#[]⟩, .slice none 0 0, .bool false, .string ⟨#[]⟩, .int .i64 (-1)] 115)) (.cells (noneCells s e) 84)
  refine ⟨by simp [w0], ?_, ?_, ?_, ?_⟩
  · unfold w0
    rw [Below.heap_alloc _ _ _ (by simp; omega), Below.heap_alloc _ _ _ (by simp)]; exact h1
  · unfold w0 IsRd
    rw [Below.heap_alloc _ _ _ (by simp)]
    simpa using h2
  · unfold w0
    simpa using h3
  · exact (((Below.refl w.heap.size w).alloc (Nat.le_refl _) _).alloc (by simp) _).alloc (by simp; omega) _

theorem lastSl_ne : ∀ (l : List UInt8) (i : Nat) (d : Int), l ≠ [] → -1 ≤ d → d < i → (lastSl i l d = (i : Int) + l.length - 1 ↔ l.getLast? = some 47) ∧ lastSl i l d < (i : Int) + l.length ∧ -1 ≤ lastSl i l d
  | [], _, _, h, _, _ => absurd rfl h
  | [c], i, d, _, h0, hd => by
    show ((if c == 47 then (i : Int) else d) = (i : Int) + 1 - 1 ↔ some c = some 47) ∧ (if c == 47 then (i : Int) else d) < (i : Int) + 1 ∧ -1 ≤ (if c == 47 then (i : Int) else d)
    by_cases hc : c = 47
    · subst hc; simp; omega
    · have e : (c == 47) = false := by simpa using hc
      simp only [e, Bool.false_eq_true, if_false]
      refine ⟨⟨fun h => by omega, fun h => absurd (Option.some.inj h) hc⟩, by omega, h0⟩
  | c :: c' :: r, i, d, _, h0, hd => by
    have ih := lastSl_ne (c' :: r) (i + 1) (if c == 47 then (i : Int) else d) (by simp) (by split <;> omega) (by split <;> omega)
    rw [List.getLast?_cons_cons]
    have e : lastSl i (c :: c' :: r) d = lastSl (i + 1) (c' :: r) (if c == 47 then (i : Int) else d) := rfl
    rw [e]
    simp only [List.length_cons] at ih ⊢
    refine ⟨?_, by omega, by omega⟩
    rw [← ih.1]
    constructor <;> intro h <;> omega

theorem lastSl_all (l : List UInt8) (i : Nat) (d : Int) (h0 : -1 ≤ d) (hd : d + 1 < i) : (lastSl i l d == (i : Int) + l.length - 1) = (l.getLast? == some 47) ∧ lastSl i l d < (i : Int) + l.length ∧ -1 ≤ lastSl i l d := by
  by_cases hl : l = []
  · subst hl
    refine ⟨?_, by show d < (i : Int) + 0; omega, h0⟩
    show (d == (i : Int) + 0 - 1) = false
    exact beq_eq_false_iff_ne.2 (by omega)
  · obtain ⟨h1, h2, h3⟩ := lastSl_ne l i d hl h0 (by omega)
    refine ⟨?_, h2, h3⟩
    rw [Bool.eq_iff_iff, beq_iff_eq, beq_iff_eq]
    exact h1

theorem tag_end {n : Nat} {l : List (List UInt8 × List UInt8)} {r : List UInt8} (h : r.dropWhile M.skips = []) : M.tagLoop (n + 1) l r = none := by
  unfold M.tagLoop; rw [h]
theorem tag_close {n : Nat} {l : List (List UInt8 × List UInt8)} {r t : List UInt8} (h : r.dropWhile M.skips = 62 :: t) : M.tagLoop (n + 1) l r = some (l, (r.takeWhile M.skips).getLast? == some 47, t) := by
  unfold M.tagLoop; rw [h]; rfl
theorem tag_attr {n : Nat} {l : List (List UInt8 × List UInt8)} {r t : List UInt8} {c : UInt8} (h : r.dropWhile M.skips = c :: t) (hc : c ≠ 62) : M.tagLoop (n + 1) l r = match M.attr c t with | none => none | some (a, u) => M.tagLoop n (M.add l a) u := by
  have e : (c == 62) = false := by simpa using hc
  conv => lhs; unfold M.tagLoop
  rw [h]
  simp only [e, Bool.false_eq_true, if_false]
  cases M.attr c t with
  | none => rfl
  | some q => rfl

theorem own_mono {w : World} {base base' : Nat} {e : TypeId} {size : Nat} {v : Value} {n : Nat} {xs : List Value} (h : w.ownsRow base e size v n xs) (hb : base' ≤ base) : w.ownsRow base' e size v n xs := by
  obtain ⟨h1, h2⟩ := h
  refine ⟨h1, ?_⟩
  rcases h2 with h2 | ⟨g, cap, cur, hv, hg, r⟩
  · exact Or.inl h2
  · exact Or.inr ⟨g, cap, cur, hv, Nat.le_trans hb hg, r⟩

theorem add_le {l : List (List UInt8 × List UInt8)} {p : List UInt8 × List UInt8} (h : l.length ≤ 64) : (M.add l p).length ≤ 64 := by
  unfold M.add
  split
  · exact h
  · split
    · rw [List.length_append]; simp; omega
    · exact h

set_option maxHeartbeats 4000000 in
set_option maxRecDepth 100000 in
theorem startTag (s : List UInt8) (e : Bool) (w : World) (hs : s.length ≤ 800000) (h2 : 2 ≤ s.length) (hE : Env w) :
    Calls Tryz.prog 83 #[.string ⟨s.toArray⟩, .bool e] w (ResPost (M.startTag s e) w) := by
  have HE := Lib.hid hE
  clear hE
  go_enter Tryz.func83, Tryz.ntmps83
  go_wp2_with fail
  obtain ⟨hz0, hb0, hr0, hn0, hB0⟩ := w0_facts s e w
  obtain ⟨W0, hW0⟩ : ∃ W, W = w0 s e w := ⟨_, rfl⟩
  rw [← hW0] at hz0 hb0 hr0 hn0 hB0
  unfold w0 zeroCells noneCells at hW0
  rw [← hW0]
  clear hW0
  refine (overTag (w.heap.size + 1) s 1 _ _ _ _ _ (-1) _ hs (by omega) (by omega) hr0).mono ?_
  rintro en w1 ⟨j, rfl, hj1, hj2, HJ, hr1, hbut1⟩
  have HB1 := Lib.hid ((hbut1.block w.heap.size (by omega) (by omega)).trans hb0)
  have HN1 := Lib.hid ((hbut1.block (w.heap.size + 2) (by omega) (by omega)).trans hn0)
  have hz1 := hbut1.size
  have hBel1 : Below w.heap.size w w1 := hB0.trans ((hbut1.below (by omega)).mono (by omega))
  have HR1 := Lib.hid hr1
  obtain ⟨hcl, hfr⟩ := cells_of hr1
  clear hr1 hbut1 hb0 hn0 hB0 hr0
  by_cases hlt : j < s.length
  · have hdt : decide (j < s.length) = true := decide_eq_true hlt
    rw [hdt]
    have hx := T.slice_str s 1 j hj1 hj2
    have hnm : (s.drop 1).take (j - 1) = (s.drop 1).takeWhile M.goesOn := by
      rw [HJ.out.2, Nat.add_sub_cancel_left, ← take_while_more]
    rw [hnm] at hx
    have hnl : ((s.drop 1).takeWhile M.goesOn).length ≤ 1000000 := by rw [← hnm, List.length_take, List.length_drop]; omega
    have QL := Lib.hid (fun W => LowerL ((s.drop 1).takeWhile M.goesOn) W hnl)
    clear hdt hnm hnl
    have HX : Hid ((s.drop j).length < (s.drop 1).length + 1 ∧ M.tagLoop ((s.drop 1).length + 1) [] (s.drop j) = M.tagLoop ((s.drop 1).length + 1) [] ((s.drop 1).dropWhile M.goesOn)) := Lib.hid ⟨by rw [List.length_drop, List.length_drop]; omega, by rw [HJ.out.1]⟩
    have HS : Hid (M.startTag s e = match M.tagLoop ((s.drop 1).length + 1) [] ((s.drop 1).dropWhile M.goesOn) with | none => ⟨.none, s.length, e⟩ | some (l, c, u) => ⟨⟨1, M.lower ((s.drop 1).takeWhile M.goesOn), l, c, []⟩, s.length - u.length, true⟩) := Lib.hid (by
      unfold M.startTag M.start
      cases M.tagLoop ((s.drop 1).length + 1) [] ((s.drop 1).dropWhile M.goesOn) with
      | none => rfl
      | some q => rfl)
    generalize M.tagLoop ((s.drop 1).length + 1) [] ((s.drop 1).dropWhile M.goesOn) = X at HX HS
    generalize (s.drop 1).takeWhile M.goesOn = nm0 at *
    clear HJ
    go_wp2_with fail
    refine (QL.out _).mono ?_
    rintro en w2 ⟨rfl, b2⟩
    clear hcl hfr
    have hr2 := IsRd.below HR1.out b2
    have hz2 := b2.size
    obtain ⟨hcl, hfr⟩ := cells_of hr2
    have HR2 := Lib.hid hr2
    clear hr2
    generalize M.lower nm0 = nm at *
    go_wp2_with fail
    go_loopw [] (fun wr => StRel s e nm X w wr) (fun wr => s.length - posOf (w.heap.size + 1) wr)
    case atStart =>
      have hbs := ((((But.set (b := w.heap.size + 1) w2 2 (.int .i64 1)).trans (But.set _ 3 (.string ⟨nm.toArray⟩))).trans (But.set _ 4 (.slice none 0 0))).trans (But.set _ 5 (.bool false))).trans (But.set _ 6 (.string ⟨#[]⟩))
      refine ⟨j, (s.drop 1).length + 1, [], .slice none 0 0, -1, block_set (block_set (block_set (block_set (block_set HR2.out)))), no_attrs _ _, ?_, ?_, ?_, hj2, by simp, by omega, by omega, HX⟩
      · exact (hbs.block w.heap.size (by omega) (by omega)).trans ((b2.block _ (by omega)).trans HB1.out)
      · exact (hbs.block (w.heap.size + 2) (by omega) (by omega)).trans ((b2.block _ (by omega)).trans HN1.out)
      · exact (hBel1.trans (b2.mono (by omega))).trans ((hbs.below (by omega)).mono (by omega))
    case round =>
      obtain ⟨pos, n, l, a, sl, hr, ha, hb, hn, hB, hpos, hl, hsl1, hsl2, HXr⟩ := hrel
      have hzr := lt_of_block hn
      obtain ⟨hla1, hla2, hla3⟩ := lastSl_all ((s.drop pos).takeWhile M.skips) pos sl hsl1 hsl2
      have hle := tw_le M.skips (s.drop pos)
      rw [List.length_drop] at hle
      have hdr : s.drop (pos + ((s.drop pos).takeWhile M.skips).length) = (s.drop pos).dropWhile M.skips := by rw [← List.drop_drop, drop_tw]
      obtain ⟨n, rfl⟩ : ∃ n', n = n' + 1 := ⟨n - 1, by have := HXr.out.1; omega⟩
      have hnl : (s.drop pos).length < n + 1 := HXr.out.1
      have HPO := Lib.hid (posOf_of hr)
      have HA := Lib.hid ha
      have HBR := Lib.hid hb
      have HNR := Lib.hid hn
      have HRr := Lib.hid hr
      clear hr ha hb hn hcl hfr
      go_wp2_with fail
      refine (overSkip (w.heap.size + 1) s pos _ _ a _ _ sl _ hs hpos (by omega) HRr.out).mono ?_
      rintro en w3 ⟨rfl, hr3, hbut3⟩
      have HA3 := Lib.hid (But.own hbut3 (by omega) HA.out)
      have HB3 := Lib.hid ((hbut3.block w.heap.size (by omega) (by omega)).trans HBR.out)
      have HN3 := Lib.hid ((hbut3.block (w.heap.size + 2) (by omega) (by omega)).trans HNR.out)
      have hBel3 : Below w.heap.size w w3 := hB.trans ((hbut3.below (by omega)).mono (by omega))
      have hz3 := hbut3.size
      obtain ⟨hcl, hfr⟩ := cells_of hr3
      have HR3 := Lib.hid hr3
      clear hr3 hbut3
      generalize hP : pos + ((s.drop pos).takeWhile M.skips).length = P at *
      generalize hSK : (s.drop pos).takeWhile M.skips = SK at *
      generalize lastSl pos SK sl = SL at *
      have hPl : P ≤ s.length := by omega
      have hposP : pos ≤ P := by omega
      have hSLP : SL < (P : Int) := by omega
      have hla1' : (SL == (P : Int) - 1) = (SK.getLast? == some 47) := by rw [← hla1]; congr 1; omega
      have HLA := Lib.hid hla1'
      have HSK := Lib.hid hSK
      clear hP hSK hla1 hla2 hle hla1'
      by_cases hPlt : P < s.length
      · obtain ⟨c, u, hcu⟩ := drop_cons hPlt
        have hix := at_drop hcu (by rw [T.bytes_size]; exact hPlt)
        have hdw : (s.drop pos).dropWhile M.skips = c :: u := by rw [← hdr, hcu]
        have hdt : decide (P < s.length) = true := decide_eq_true hPlt
        have hul : u.length + 1 = s.length - P := by have h9 := congrArg List.length hcu; rw [List.length_drop, List.length_cons] at h9; omega
        rw [hdt]
        clear hdt hdr
        by_cases h62 : c = 62
        · subst h62
          have HV : Hid (M.startTag s e = ⟨⟨1, nm, l, SL == (P : Int) - 1, []⟩, P + 1, true⟩) := Lib.hid (by
            rw [HS.out, ← HXr.out.2, tag_close hdw, HSK.out, HLA.out]
            simp only
            congr 1
            omega)
          obtain ⟨hcb, hfb⟩ := cells_of HB3.out
          unfold zeroCells at hcb hfb
          obtain ⟨ao, cap, rfl, hao⟩ := own_slice HA3.out
          clear hcu hdw HXr HX
          go_wp2_with fail
          go_region
          go_wp2_with fail
          generalize hCL : (SL == (P : Int) - 1) = CL at *
          have hr5 : ((w3.setCell ⟨w.heap.size + 1, 5, none⟩ (.bool CL)).drew).heap[w.heap.size + 1]? = some (.cells #[.string ⟨s.toArray⟩, .int .i64 P, .int .i64 1, .string ⟨nm.toArray⟩, .slice ao l.length cap, .bool CL, .string ⟨#[]⟩, .int .i64 SL] 115 (0, 0)) := block_set HR3.out
          have hb5 : ((w3.setCell ⟨w.heap.size + 1, 5, none⟩ (.bool CL)).drew).heap[w.heap.size]? = some (.cells zeroCells 84 (0, 0)) := (Below.heap_setCell w3 ⟨w.heap.size + 1, 5, none⟩ _ w.heap.size (by show w.heap.size ≠ w.heap.size + 1; omega)).trans HB3.out
          have HA5 : Hid (HasAttrs (w.heap.size + 3) (.slice ao l.length cap) l ((w3.setCell ⟨w.heap.size + 1, 5, none⟩ (.bool CL)).drew)) := Lib.hid (ownsRow_setCell_below HA3.out (by show w.heap.size + 1 < w.heap.size + 3; omega) _)
          have hBel5 : Below w.heap.size w ((w3.setCell ⟨w.heap.size + 1, 5, none⟩ (.bool CL)).drew) := (bset hBel3 (by omega)).drew
          generalize (w3.setCell ⟨w.heap.size + 1, 5, none⟩ (.bool CL)).drew = W5 at hr5 hb5 HA5 hBel5 ⊢
          clear hcl hfr hcb hfb
          obtain ⟨hcl, hfr⟩ := cells_of hr5
          obtain ⟨hcb, hfb⟩ := cells_of hb5
          unfold zeroCells at hcb hfb
          have hz5 := lt_of_block hr5
          clear hr5 hb5
          go_region
          go_wp2_with fail
          rw [HV.out]
          refine bodyPost_ret (v := resV _ (.slice ao l.length cap)) (by simp [results, Tryz.results83, go_sem, resV, hcb, hcl]) rfl ⟨_, rfl, ?_, ?_⟩
          · refine own_mono (base := w.heap.size + 3) ?_ (by omega)
            show World.ownsRow _ _ _ _ _ _ _
            refine World.ownsRow.drew ?_
            iterate 7 refine ownsRow_setCell_below ?_ (by show w.heap.size < w.heap.size + 3; omega) _
            exact HA5.out
          · refine Below.drew ?_
            iterate 7 refine bset ?_ (Nat.le_refl _)
            exact hBel5
        · have h62' : ((c.toNat : Int) == 62) = false := byte_ne (n := 62) h62 (by omega)
          have HTA := Lib.hid (tag_attr (n := n) (l := l) hdw h62)
          have hE3 := HE.out.below hBel3 HE.out.size
          have hsz := HE.out.size
          have QA := Lib.hid (attr (w.heap.size + 1) s P (.int .i64 1) (.string ⟨nm.toArray⟩) a (.bool false) (.string ⟨#[]⟩) SL l c u w3 hs hcu (by omega) hl hE3 (by omega) (by omega) HR3.out HA3.out)
          clear hcu hdw hE3 HX
          cases hat : M.attr c u with
          | none =>
            rw [hat] at QA HTA
            have HV : Hid (M.startTag s e = ⟨.none, s.length, e⟩) := Lib.hid (by
              rw [HS.out, ← HXr.out.2, HTA.out])
            clear hat
            go_wp2_with fail
            refine QA.out.mono ?_
            rintro en w4 ⟨hfr4, rfl⟩
            have HN4 := (hfr4.block (w.heap.size + 2) (by omega) (by omega)).trans HN3.out
            have HB4 := (hfr4.block w.heap.size (by omega) (by omega)).trans HB3.out
            obtain ⟨hcn, hfn⟩ := cells_of HN4
            obtain ⟨hcb, hfb⟩ := cells_of HB4
            unfold noneCells at hcn hfn
            unfold zeroCells at hcb hfb
            clear hcl hfr
            go_wp2_with fail
            rw [HV.out]
            refine bodyPost_ret (v := resV _ (.slice none 0 0)) (by simp [results, Tryz.results83, go_sem, resV, M.Tok.none, hcn, hcb]) rfl ⟨_, rfl, no_attrs _ _, ?_⟩
            iterate 7 refine bset ?_ (Nat.le_refl _)
            exact hBel3.trans ((hfr4.below (by omega)).mono (by omega))
          | some pu =>
            obtain ⟨p, u'⟩ := pu
            rw [hat] at QA HTA
            have hX2 : M.tagLoop n (M.add l p) u' = X := HTA.out.symm.trans HXr.out.2
            have HX2 := Lib.hid hX2
            clear hat hX2
            go_wp2_with fail
            refine QA.out.mono ?_
            rintro en w4 ⟨hfr4, rfl, j4, a4, hr4, ho4, hd4, hj4, hPj⟩
            have HN4 := (hfr4.block (w.heap.size + 2) (by omega) (by omega)).trans HN3.out
            have HB4 := (hfr4.block w.heap.size (by omega) (by omega)).trans HB3.out
            clear hcl hfr
            go_wp2_with fail
            go_roundw
            case rel =>
              refine ⟨j4, n, M.add l p, a4, SL, hr4, ho4, HB4, HN4, hBel3.trans ((hfr4.below (by omega)).mono (by omega)), hj4, add_le hl, by omega, by omega, Lib.hid ⟨?_, by rw [hd4]; exact HX2.out⟩⟩
              rw [List.length_drop]
              rw [List.length_drop] at hnl
              omega
            case measure =>
              rw [posOf_of hr4, HPO.out]
              omega
      · have HV : Hid (M.startTag s e = ⟨.none, s.length, e⟩) := Lib.hid (by
          have hnil : s.drop P = [] := List.drop_eq_nil_of_le (by omega)
          rw [HS.out, ← HXr.out.2, tag_end (by rw [← hdr, hnil])])
        have hdt : decide (P < s.length) = false := decide_eq_false hPlt
        rw [hdt]
        obtain ⟨hcn, hfn⟩ := cells_of HN3.out
        obtain ⟨hcb, hfb⟩ := cells_of HB3.out
        clear hdt hdr
        unfold noneCells at hcn hfn
        unfold zeroCells at hcb hfb
        go_wp2_with fail
        rw [HV.out]
        refine bodyPost_ret (v := resV _ (.slice none 0 0)) (by simp [results, Tryz.results83, go_sem, resV, M.Tok.none, hcn, hcb]) rfl ⟨_, rfl, no_attrs _ _, ?_⟩
        iterate 7 refine bset ?_ (Nat.le_refl _)
        exact hBel3
  · have HV : Hid (M.startTag s e = ⟨.none, s.length, e⟩) := Lib.hid (by
      have hnil : s.drop j = [] := List.drop_eq_nil_of_le (by omega)
      unfold M.startTag M.start
      rw [← HJ.out.1, hnil]
      rfl)
    have hdt : decide (j < s.length) = false := decide_eq_false hlt
    rw [hdt]
    obtain ⟨hcn, hfn⟩ := cells_of HN1.out
    obtain ⟨hcb, hfb⟩ := cells_of HB1.out
    clear hdt HJ
    unfold noneCells at hcn hfn
    unfold zeroCells at hcb hfb
    go_wp2_with fail
    rw [HV.out]
    refine bodyPost_ret (v := resV _ (.slice none 0 0)) (by simp [results, Tryz.results83, go_sem, resV, M.Tok.none, hcn, hcb]) rfl ⟨_, rfl, no_attrs _ _, ?_⟩
    iterate 7 refine bset ?_ (Nat.le_refl _)
    exact hBel1

end K
end Go.Proofs.YtlnginciehjlnaaGreatDoor
