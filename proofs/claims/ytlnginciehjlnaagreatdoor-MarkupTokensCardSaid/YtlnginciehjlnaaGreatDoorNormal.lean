/- What normal, a step in the normal mode, comes to. -/
import Derived.Test.YtlnginciehjlnaaGreatDoorStart
set_option linter.unusedVariables false
set_option linter.unusedSimpArgs false
namespace Go.Proofs.YtlnginciehjlnaaGreatDoor
open Go.RowKit
namespace K

theorem TrimL (l : List UInt8) (w : World) (h : l.length ≤ 1000000) :
    Calls Tryz.prog 79 #[.string ⟨l.toArray⟩] w fun e w' => e = .returned (.string ⟨(M.trim l).toArray⟩) ∧ Below w.heap.size w w' := by
  have := T.Trim ⟨l.toArray⟩ w (by rw [T.bytes_size]; omega)
  rw [T.bytes_toList] at this
  exact this

/-- Behind the first test of normal. -/
def normal2 (s : List UInt8) (e : Bool) : M.Res :=
  if M.opening.isPrefixOf s then M.upto s 4 M.closing 4 e
  else if M.has s M.doctype then (let r := M.upto s 9 [62] 5 e; ⟨.txt 5 (M.trim r.tok.text), r.n, r.ok⟩)
  else if !M.begins s then M.plain s e
  else if M.letter (s.getD 1 0) then M.startTag s e
  else if [60, 47, 62].isPrefixOf s then ⟨.none, 3, true⟩
  else if s.getD 1 0 == 47 && decide (2 < s.length) && M.letter (s.getD 2 0) then M.endTag s e
  else M.upto s 2 [62] 4 e

theorem normal_go (s : List UInt8) (e : Bool) (h : (!e && decide (s.length < 4) && s.isPrefixOf M.opening) = false) : M.normal s e = normal2 s e := by
  unfold M.normal normal2
  rw [h]
  simp only [Bool.false_eq_true, if_false]

theorem n2_open {s : List UInt8} {e : Bool} (c1 : M.opening.isPrefixOf s = true) : normal2 s e = M.upto s 4 M.closing 4 e := by
  unfold normal2; rw [c1]; rfl
theorem n2_doc {s : List UInt8} {e : Bool} (c1 : M.opening.isPrefixOf s = false) (c2 : M.has s M.doctype = true) : normal2 s e = ⟨.txt 5 (M.trim (M.upto s 9 [62] 5 e).tok.text), (M.upto s 9 [62] 5 e).n, (M.upto s 9 [62] 5 e).ok⟩ := by
  unfold normal2; rw [c1, c2]; rfl
theorem n2_plain {s : List UInt8} {e : Bool} (c1 : M.opening.isPrefixOf s = false) (c2 : M.has s M.doctype = false) (c3 : M.begins s = false) : normal2 s e = M.plain s e := by
  unfold normal2; rw [c1, c2, c3]; rfl
theorem n2_start {s : List UInt8} {e : Bool} (c1 : M.opening.isPrefixOf s = false) (c2 : M.has s M.doctype = false) (c3 : M.begins s = true) (c4 : M.letter (s.getD 1 0) = true) : normal2 s e = M.startTag s e := by
  unfold normal2; rw [c1, c2, c3, c4]; rfl
theorem n2_skip {s : List UInt8} {e : Bool} (c1 : M.opening.isPrefixOf s = false) (c2 : M.has s M.doctype = false) (c3 : M.begins s = true) (c4 : M.letter (s.getD 1 0) = false) (c5 : [60, 47, 62].isPrefixOf s = true) : normal2 s e = ⟨.none, 3, true⟩ := by
  unfold normal2; rw [c1, c2, c3, c4, c5]; rfl
theorem n2_end {s : List UInt8} {e : Bool} (c1 : M.opening.isPrefixOf s = false) (c2 : M.has s M.doctype = false) (c3 : M.begins s = true) (c4 : M.letter (s.getD 1 0) = false) (c5 : [60, 47, 62].isPrefixOf s = false) (c6 : (s.getD 1 0 == 47 && decide (2 < s.length) && M.letter (s.getD 2 0)) = true) : normal2 s e = M.endTag s e := by
  unfold normal2; rw [c1, c2, c3, c4, c5, c6]; rfl
theorem n2_rest {s : List UInt8} {e : Bool} (c1 : M.opening.isPrefixOf s = false) (c2 : M.has s M.doctype = false) (c3 : M.begins s = true) (c4 : M.letter (s.getD 1 0) = false) (c5 : [60, 47, 62].isPrefixOf s = false) (c6 : (s.getD 1 0 == 47 && decide (2 < s.length) && M.letter (s.getD 2 0)) = false) : normal2 s e = M.upto s 2 [62] 4 e := by
  unfold normal2; rw [c1, c2, c3, c4, c5, c6]; rfl

theorem upto_attrs (s mark : List UInt8) (skip kind : Nat) (e : Bool) : (M.upto s skip mark kind e).tok.attrs = [] := by
  unfold M.upto; split <;> rfl
theorem upto_shape (s mark : List UInt8) (skip kind : Nat) (e : Bool) : (M.upto s skip mark kind e).tok = .txt kind (M.upto s skip mark kind e).tok.text := by
  unfold M.upto; split <;> rfl
theorem plain_attrs (s : List UInt8) (e : Bool) : (M.plain s e).tok.attrs = [] := by
  unfold M.plain; split <;> rfl
theorem endTag_attrs (s : List UInt8) (e : Bool) : (M.endTag s e).tok.attrs = [] := by
  unfold M.endTag; split <;> rfl
theorem upto_text (s mark : List UInt8) (skip kind : Nat) (e : Bool) : (M.upto s skip mark kind e).tok.text.length ≤ s.length := by
  unfold M.upto; split
  · show (s.drop skip).length ≤ _; rw [List.length_drop]; omega
  · show ((s.drop skip).take _).length ≤ _; rw [List.length_take, List.length_drop]; omega

theorem upto_form (s mark : List UInt8) (skip kind : Nat) (e : Bool) : ∃ t n ok, M.upto s skip mark kind e = ⟨.txt kind t, n, ok⟩ ∧ t.length ≤ s.length := by
  have h := upto_text s mark skip kind e
  have h2 := upto_shape s mark skip kind e
  exact ⟨_, _, _, by rw [← h2], h⟩

theorem own_slice3 {w : World} {base : Nat} {e : TypeId} {size : Nat} {v : Value} {n : Nat} {xs : List Value} (h : w.ownsRow base e size v n xs) : ∃ ao L cap, v = .slice ao L cap := by
  obtain ⟨ao, cap, h1, _⟩ := own_slice h
  exact ⟨ao, n, cap, h1⟩

theorem begins_two {s : List UInt8} (h : M.begins s = true) : 2 ≤ s.length ∧ s.getD 0 0 = 60 := by
  unfold M.begins at h
  split at h
  · exact ⟨by simp, rfl⟩
  · cases h

theorem at_getD (s : List UInt8) (i : Nat) (h : i < s.length) (hi : i < (⟨s.toArray⟩ : ByteArray).size) : (⟨s.toArray⟩ : ByteArray)[i] = s.getD i 0 := by
  obtain ⟨c, r, hd⟩ := drop_cons h
  rw [at_drop hd hi]
  have h1 : (s.drop i)[0]? = some c := by rw [hd]; rfl
  rw [List.getElem?_drop, Nat.add_zero] at h1
  simp [List.getD, h1]

set_option maxHeartbeats 4000000 in
set_option maxRecDepth 100000 in
theorem normal (s : List UInt8) (e : Bool) (w : World) (hs : s.length ≤ 800000) (h1 : 1 ≤ s.length) (hE : Env w) :
    Calls Tryz.prog 64 #[.string ⟨s.toArray⟩, .bool e] w (ResPost (M.normal s e) w) := by
  have HE := Lib.hid hE
  have HE0 := Lib.hid (hE.same ((Below.refl _ w).alloc (Nat.le_refl _) z7))
  unfold z7 at HE0
  clear hE
  cases hfst : (!e && decide (s.length < 4) && s.isPrefixOf M.opening) with
  | true =>
    have HV : Hid (M.normal s e = ⟨.none, 0, false⟩) := Lib.hid (by unfold M.normal; rw [hfst]; rfl)
    simp only [Bool.and_eq_true, Bool.not_eq_true', decide_eq_true_eq] at hfst
    obtain ⟨⟨rfl, hl4⟩, hpre⟩ := hfst
    have hl4' : (s.length : Int) < 4 := by omega
    have QP := Lib.hid (fun W => HasPrefixL M.opening s true W hpre)
    unfold M.opening at QP
    clear hpre
    go_enter Tryz.func64, Tryz.ntmps64
    go_wp2_with fail
    refine (QP.out _).mono ?_
    rintro en w' ⟨rfl, rfl⟩
    go_wp2_with fail
    rw [HV.out]
    refine bodyPost_ret (v := resV _ (.slice none 0 0)) (by simp [results, Tryz.results64, go_sem, resV, M.Tok.none]) rfl ⟨_, rfl, no_attrs _ _, ?_⟩
    exact (Below.refl _ _).alloc (Nat.le_refl _) _
  | false =>
    have HV0 := Lib.hid (normal_go s e hfst)
    have hway : e = true ∨ (e = false ∧ 4 ≤ s.length) ∨ (e = false ∧ s.length < 4 ∧ s.isPrefixOf M.opening = false) := by
      cases e with
      | true => exact Or.inl rfl
      | false =>
        rcases Nat.lt_or_ge s.length 4 with h | h
        · refine Or.inr (Or.inr ⟨rfl, h, ?_⟩)
          rw [decide_eq_true h] at hfst
          simpa using hfst
        · exact Or.inr (Or.inl ⟨rfl, h⟩)
    clear hfst
    rcases hway with he | ⟨he, hl4⟩ | ⟨he, hl4, hpre⟩
    case' inl =>
      subst he
      go_enter Tryz.func64, Tryz.ntmps64
      go_wp2_with fail
    case' inr.inl =>
      subst he
      have hl4' : (4 : Int) ≤ (s.length : Int) := by omega
      go_enter Tryz.func64, Tryz.ntmps64
      go_wp2_with fail
      clear hl4 hl4'
    case' inr.inr =>
      subst he
      have hl4' : (s.length : Int) < 4 := by omega
      have QP := Lib.hid (fun W => HasPrefixL M.opening s false W hpre)
      unfold M.opening at QP
      clear hpre
      go_enter Tryz.func64, Tryz.ntmps64
      go_wp2_with fail
      refine (QP.out _).mono ?_
      rintro en w' ⟨rfl, rfl⟩
      go_wp2_with fail
      clear hl4 hl4'
    all_goals
      cases c1 : M.opening.isPrefixOf s with
      | true =>
        have QP := Lib.hid (fun W => HasPrefixL s M.opening true W c1)
        have hp4 := pre_len c1
        have HV := Lib.hid (HV0.out.trans (n2_open c1))
        unfold M.opening at QP
        refine (QP.out _).mono ?_
        rintro en w' ⟨rfl, rfl⟩
        clear c1 HV0
        go_wp2_with fail
        refine (upto s M.closing 4 4 _ _ (by omega) hp4 (by decide) HE0.out.mx).mono ?_
        rintro en w1 ⟨rfl, b1⟩
        have hblk := new_after b1
        obtain ⟨hcl, hfz⟩ := cells_of hblk
        clear hblk
        unfold resV
        go_wp2_with fail
        rw [HV.out]
        refine bodyPost_ret (v := resV _ (.slice none 0 0)) (by simp [results, Tryz.results64, go_sem, resV, hcl]) rfl ⟨_, rfl, ?_, ?_⟩
        · rw [upto_attrs]; exact no_attrs _ _
        · iterate 7 refine bset ?_ (Nat.le_refl _)
          exact ((Below.refl _ _).alloc (Nat.le_refl _) _).trans (b1.mono (by simp))
      | false =>
        have QP := Lib.hid (fun W => HasPrefixL s M.opening false W c1)
        unfold M.opening at QP
        refine (QP.out _).mono ?_
        rintro en w' ⟨rfl, rfl⟩
        clear QP
        go_wp2_with fail
        refine (has s M.doctype _ (by omega) (by decide)).mono ?_
        rintro en w1 ⟨rfl, b1⟩
        have hblk := new_after b1
        have hlt1 := lt_of_block hblk
        have HE1 := Lib.hid (HE0.out.same b1)
        cases c2 : M.has s M.doctype with
        | true =>
          have hd9 : 9 ≤ s.length := by
            have h9 := c2
            simp only [M.has, Bool.and_eq_true, decide_eq_true_eq] at h9
            exact h9.1
          have HV := Lib.hid (HV0.out.trans (n2_doc c1 c2))
          clear c1 c2 HV0
          obtain ⟨hcl, hfz⟩ := cells_of hblk
          go_wp2_with fail
          refine (upto s [62] 9 5 _ _ (by omega) hd9 (by decide) HE1.out.mx).mono ?_
          rintro en w2 ⟨rfl, b2⟩
          obtain ⟨t, n, ok, hU, htl⟩ := upto_form s [62] 9 5 _
          rw [hU] at HV ⊢
          clear hU
          have hbk2 := (b2.block _ hlt1).trans hblk
          have hlt2 := lt_of_block hbk2
          unfold resV M.Tok.txt
          clear hcl hfz
          go_wp2_with fail
          refine (TrimL t _ (by omega)).mono ?_
          rintro en w3 ⟨rfl, b3⟩
          have hv3 := new_after b3
          have hbk3 := (b3.block w.heap.size (by simp; omega)).trans ((Below.heap_alloc w2 _ w.heap.size hlt2).trans hbk2)
          obtain ⟨hcv, hfv⟩ := cells_of hv3
          obtain ⟨hcl, hfz⟩ := cells_of hbk3
          have hz3 := lt_of_block hv3
          have hne : w.heap.size ≠ w2.heap.size := by omega
          have hne' : w2.heap.size ≠ w.heap.size := by omega
          clear hv3 hbk3
          go_wp2_with fail
          rw [HV.out]
          refine bodyPost_ret (v := resV _ (.slice none 0 0)) (by simp [results, Tryz.results64, go_sem, resV, M.Tok.txt, hcl, hcv, hne, hne']) rfl ⟨_, rfl, no_attrs _ _, ?_⟩
          iterate 7 refine bset ?_ (Nat.le_refl _)
          refine bset ?_ (by omega)
          exact (((((Below.refl _ _).alloc (Nat.le_refl _) _).trans (b1.mono (by simp))).trans (b2.mono (by omega))).alloc (by omega) _).trans (b3.mono (by simp; omega))
        | false =>
          have hb0 := begins s 0
          rw [List.drop_zero] at hb0
          obtain ⟨hcl0, hfz0⟩ := cells_of hblk
          cases c3 : M.begins s with
          | false =>
            have QB := Lib.hid (fun W => hb0 W (by omega) (by omega))
            rw [c3] at QB
            have HV := Lib.hid (HV0.out.trans (n2_plain c1 c2 c3))
            clear c1 c2 c3 HV0 hb0
            go_wp2_with fail
            refine (QB.out _).mono ?_
            rintro en w' ⟨rfl, rfl⟩
            go_wp2_with fail
            clear hcl0 hfz0
            refine (plain s _ _ (by omega) (by omega) HE1.out).mono ?_
            rintro en w2 ⟨rfl, b2⟩
            have hblk2 := (b2.block _ hlt1).trans hblk
            obtain ⟨hcl, hfz⟩ := cells_of hblk2
            clear hblk2
            unfold resV
            go_wp2_with fail
            rw [HV.out]
            refine bodyPost_ret (v := resV _ (.slice none 0 0)) (by simp [results, Tryz.results64, go_sem, resV, hcl]) rfl ⟨_, rfl, ?_, ?_⟩
            · rw [plain_attrs]; exact no_attrs _ _
            · iterate 7 refine bset ?_ (Nat.le_refl _)
              exact (((Below.refl _ _).alloc (Nat.le_refl _) _).trans (b1.mono (by simp))).trans (b2.mono (by omega))
          | true =>
            have QB := Lib.hid (fun W => hb0 W (by omega) (by omega))
            rw [c3] at QB
            obtain ⟨hs2, hs60⟩ := begins_two c3
            have hx1 := at_getD s 1 (by omega) (by rw [T.bytes_size]; omega)
            have hs2' : (2 : Int) ≤ (s.length : Int) := by omega
            cases c4 : M.letter (s.getD 1 0) with
            | true =>
              have QL := Lib.hid (fun W => letter (s.getD 1 0) W)
              rw [c4] at QL
              have HV := Lib.hid (HV0.out.trans (n2_start c1 c2 c3 c4))
              clear c1 c2 c3 c4 HV0 hb0 hs60
              generalize s.getD 1 0 = d1 at *
              go_wp2_with fail
              refine (QB.out _).mono ?_
              rintro en w' ⟨rfl, rfl⟩
              go_wp2_with fail
              refine (QL.out _).mono ?_
              rintro en w' ⟨rfl, rfl⟩
              go_wp2_with fail
              clear hcl0 hfz0
              refine (startTag s _ _ (by omega) hs2 HE1.out).mono ?_
              rintro en w2 ⟨a, rfl, ha, b2⟩
              obtain ⟨ao, L, cap, rfl⟩ := own_slice3 ha
              have hblk2 := (b2.block _ hlt1).trans hblk
              obtain ⟨hcl, hfz⟩ := cells_of hblk2
              clear hblk2
              unfold resV
              go_wp2_with fail
              rw [HV.out]
              refine bodyPost_ret (v := resV _ (.slice ao L cap)) (by simp [results, Tryz.results64, go_sem, resV, hcl]) rfl ⟨_, rfl, ?_, ?_⟩
              · refine own_mono (base := w1.heap.size) ?_ (by omega)
                iterate 7 refine ownsRow_setCell_below ?_ hlt1 _
                exact ha
              · iterate 7 refine bset ?_ (Nat.le_refl _)
                exact (((Below.refl _ _).alloc (Nat.le_refl _) _).trans (b1.mono (by simp))).trans (b2.mono (by omega))
            | false =>
              have QL := Lib.hid (fun W => letter (s.getD 1 0) W)
              rw [c4] at QL
              cases c5 : [60, 47, 62].isPrefixOf s with
              | true =>
                have QP := Lib.hid (fun W => HasPrefixL s [60, 47, 62] true W c5)
                have HV := Lib.hid (HV0.out.trans (n2_skip c1 c2 c3 c4 c5))
                clear c1 c2 c3 c4 c5 HV0 hb0 hs60
                generalize s.getD 1 0 = d1 at *
                go_wp2_with fail
                refine (QB.out _).mono ?_
                rintro en w' ⟨rfl, rfl⟩
                go_wp2_with fail
                refine (QL.out _).mono ?_
                rintro en w' ⟨rfl, rfl⟩
                go_wp2_with fail
                refine (QP.out _).mono ?_
                rintro en w' ⟨rfl, rfl⟩
                go_wp2_with fail
                rw [HV.out]
                refine bodyPost_ret (v := resV _ (.slice none 0 0)) (by simp [results, Tryz.results64, go_sem, resV, M.Tok.none, hcl0]) rfl ⟨_, rfl, no_attrs _ _, ?_⟩
                iterate 7 refine bset ?_ (Nat.le_refl _)
                exact ((Below.refl _ _).alloc (Nat.le_refl _) _).trans (b1.mono (by simp))
              | false =>
                have QP := Lib.hid (fun W => HasPrefixL s [60, 47, 62] false W c5)
                have hE : (s.getD 1 0 = 47 ∧ 2 < s.length ∧ M.letter (s.getD 2 0) = true) ∨ ¬ (s.getD 1 0 = 47 ∧ 2 < s.length ∧ M.letter (s.getD 2 0) = true) := Decidable.em _
                rcases hE with ⟨k1, k2, k3⟩ | hno
                · have c6 : (s.getD 1 0 == 47 && decide (2 < s.length) && M.letter (s.getD 2 0)) = true := by rw [k1, k3, decide_eq_true k2]; rfl
                  have HV := Lib.hid (HV0.out.trans (n2_end c1 c2 c3 c4 c5 c6))
                  have hx2 := at_getD s 2 k2 (by rw [T.bytes_size]; omega)
                  have QL2 := Lib.hid (fun W => letter (s.getD 2 0) W)
                  rw [k3] at QL2
                  rw [k1] at hx1 QL
                  have k2' : (2 : Int) < (s.length : Int) := by omega
                  clear c1 c2 c3 c4 c5 c6 HV0 hb0 hs60 k1 k3
                  generalize s.getD 2 0 = d2 at *
                  go_wp2_with fail
                  refine (QB.out _).mono ?_
                  rintro en w' ⟨rfl, rfl⟩
                  go_wp2_with fail
                  refine (QL.out _).mono ?_
                  rintro en w' ⟨rfl, rfl⟩
                  go_wp2_with fail
                  refine (QP.out _).mono ?_
                  rintro en w' ⟨rfl, rfl⟩
                  go_wp2_with fail
                  refine (QL2.out _).mono ?_
                  rintro en w' ⟨rfl, rfl⟩
                  go_wp2_with fail
                  clear hcl0 hfz0
                  refine (endTag s _ _ (by omega) hs2).mono ?_
                  rintro en w2 ⟨rfl, b2⟩
                  have hblk2 := (b2.block _ hlt1).trans hblk
                  obtain ⟨hcl, hfz⟩ := cells_of hblk2
                  clear hblk2
                  unfold resV
                  go_wp2_with fail
                  rw [HV.out]
                  refine bodyPost_ret (v := resV _ (.slice none 0 0)) (by simp [results, Tryz.results64, go_sem, resV, hcl]) rfl ⟨_, rfl, ?_, ?_⟩
                  · rw [endTag_attrs]; exact no_attrs _ _
                  · iterate 7 refine bset ?_ (Nat.le_refl _)
                    exact (((Below.refl _ _).alloc (Nat.le_refl _) _).trans (b1.mono (by simp))).trans (b2.mono (by omega))
                · have c6 : (s.getD 1 0 == 47 && decide (2 < s.length) && M.letter (s.getD 2 0)) = false := by
                    cases hh : (s.getD 1 0 == 47 && decide (2 < s.length) && M.letter (s.getD 2 0)) with
                    | false => rfl
                    | true =>
                      simp only [Bool.and_eq_true, decide_eq_true_eq, beq_iff_eq] at hh
                      exact absurd ⟨hh.1.1, hh.1.2, hh.2⟩ hno
                  have HV := Lib.hid (HV0.out.trans (n2_rest c1 c2 c3 c4 c5 c6))
                  clear c1 c2 c3 c4 c5 c6 HV0 hb0 hs60
                  have hways : s.getD 1 0 ≠ 47 ∨ (s.getD 1 0 = 47 ∧ s.length ≤ 2) ∨ (s.getD 1 0 = 47 ∧ 2 < s.length ∧ M.letter (s.getD 2 0) = false) := by
                    by_cases k1 : s.getD 1 0 = 47
                    · rcases Nat.lt_or_ge 2 s.length with k2 | k2
                      · refine Or.inr (Or.inr ⟨k1, k2, ?_⟩)
                        cases hh : M.letter (s.getD 2 0) with
                        | false => rfl
                        | true => exact absurd ⟨k1, k2, hh⟩ hno
                      · exact Or.inr (Or.inl ⟨k1, k2⟩)
                    · exact Or.inl k1
                  clear hno
                  rcases hways with k1 | ⟨k1, k2⟩ | ⟨k1, k2, k3⟩
                  · have k1' : (((s.getD 1 0).toNat : Int) == 47) = false := byte_ne (n := 47) k1 (by omega)
                    clear k1
                    generalize s.getD 1 0 = d1 at *
                    go_wp2_with fail
                    refine (QB.out _).mono ?_
                    rintro en w' ⟨rfl, rfl⟩
                    go_wp2_with fail
                    refine (QL.out _).mono ?_
                    rintro en w' ⟨rfl, rfl⟩
                    go_wp2_with fail
                    refine (QP.out _).mono ?_
                    rintro en w' ⟨rfl, rfl⟩
                    go_wp2_with fail
                    clear hcl0 hfz0
                    refine (upto s [62] 2 4 _ _ (by omega) hs2 (by decide) HE1.out.mx).mono ?_
                    rintro en w2 ⟨rfl, b2⟩
                    have hblk2 := (b2.block _ hlt1).trans hblk
                    obtain ⟨hcl, hfz⟩ := cells_of hblk2
                    clear hblk2
                    unfold resV
                    go_wp2_with fail
                    rw [HV.out]
                    refine bodyPost_ret (v := resV _ (.slice none 0 0)) (by simp [results, Tryz.results64, go_sem, resV, hcl]) rfl ⟨_, rfl, ?_, ?_⟩
                    · rw [upto_attrs]; exact no_attrs _ _
                    · iterate 7 refine bset ?_ (Nat.le_refl _)
                      exact (((Below.refl _ _).alloc (Nat.le_refl _) _).trans (b1.mono (by simp))).trans (b2.mono (by omega))
                  · rw [k1] at hx1 QL
                    have k2' : (s.length : Int) ≤ 2 := by omega
                    clear k1
                    go_wp2_with fail
                    refine (QB.out _).mono ?_
                    rintro en w' ⟨rfl, rfl⟩
                    go_wp2_with fail
                    refine (QL.out _).mono ?_
                    rintro en w' ⟨rfl, rfl⟩
                    go_wp2_with fail
                    refine (QP.out _).mono ?_
                    rintro en w' ⟨rfl, rfl⟩
                    go_wp2_with fail
                    all_goals
                      clear hcl0 hfz0
                      refine (upto s [62] 2 4 _ _ (by omega) hs2 (by decide) HE1.out.mx).mono ?_
                      rintro en w2 ⟨rfl, b2⟩
                      have hblk2 := (b2.block _ hlt1).trans hblk
                      obtain ⟨hcl, hfz⟩ := cells_of hblk2
                      clear hblk2
                      unfold resV
                      go_wp2_with fail
                      rw [HV.out]
                      refine bodyPost_ret (v := resV _ (.slice none 0 0)) (by simp [results, Tryz.results64, go_sem, resV, hcl]) rfl ⟨_, rfl, ?_, ?_⟩
                      · rw [upto_attrs]; exact no_attrs _ _
                      · iterate 7 refine bset ?_ (Nat.le_refl _)
                        exact (((Below.refl _ _).alloc (Nat.le_refl _) _).trans (b1.mono (by simp))).trans (b2.mono (by omega))
                  · have hx2 := at_getD s 2 k2 (by rw [T.bytes_size]; omega)
                    have QL2 := Lib.hid (fun W => letter (s.getD 2 0) W)
                    rw [k3] at QL2
                    rw [k1] at hx1 QL
                    have k2' : (2 : Int) < (s.length : Int) := by omega
                    clear k1 k3
                    generalize s.getD 2 0 = d2 at *
                    go_wp2_with fail
                    refine (QB.out _).mono ?_
                    rintro en w' ⟨rfl, rfl⟩
                    go_wp2_with fail
                    refine (QL.out _).mono ?_
                    rintro en w' ⟨rfl, rfl⟩
                    go_wp2_with fail
                    refine (QP.out _).mono ?_
                    rintro en w' ⟨rfl, rfl⟩
                    go_wp2_with fail
                    refine (QL2.out _).mono ?_
                    rintro en w' ⟨rfl, rfl⟩
                    go_wp2_with fail
                    clear hcl0 hfz0
                    refine (upto s [62] 2 4 _ _ (by omega) hs2 (by decide) HE1.out.mx).mono ?_
                    rintro en w2 ⟨rfl, b2⟩
                    have hblk2 := (b2.block _ hlt1).trans hblk
                    obtain ⟨hcl, hfz⟩ := cells_of hblk2
                    clear hblk2
                    unfold resV
                    go_wp2_with fail
                    rw [HV.out]
                    refine bodyPost_ret (v := resV _ (.slice none 0 0)) (by simp [results, Tryz.results64, go_sem, resV, hcl]) rfl ⟨_, rfl, ?_, ?_⟩
                    · rw [upto_attrs]; exact no_attrs _ _
                    · iterate 7 refine bset ?_ (Nat.le_refl _)
                      exact (((Below.refl _ _).alloc (Nat.le_refl _) _).trans (b1.mono (by simp))).trans (b2.mono (by omega))

end K
end Go.Proofs.YtlnginciehjlnaaGreatDoor
