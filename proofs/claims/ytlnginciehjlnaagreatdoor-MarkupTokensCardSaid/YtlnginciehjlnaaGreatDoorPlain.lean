/- The tokens of a text: stability of the steps, good tokens, escaping, the documents of the statements, the reference's cases; plain. -/
import Derived.Test.YtlnginciehjlnaaGreatDoorNext
set_option linter.unusedVariables false
set_option linter.unusedSimpArgs false
namespace Go.Proofs.YtlnginciehjlnaaGreatDoor
namespace M

theorem prefix_more {p s : List UInt8} (x : List UInt8) (h : p.length ≤ s.length) : p.isPrefixOf (s ++ x) = p.isPrefixOf s := by
  rw [Bool.eq_iff_iff, List.isPrefixOf_iff_prefix, List.isPrefixOf_iff_prefix]
  constructor
  · rintro ⟨t, ht⟩
    have h1 := congrArg (List.take p.length) ht
    rw [List.take_left, List.take_append_of_le_length h] at h1
    exact List.prefix_iff_eq_take.2 h1
  · rintro ⟨t, ht⟩
    exact ⟨t ++ x, by rw [← List.append_assoc, ht]⟩

theorem idx_more (p x : List UInt8) : ∀ (s : List UInt8) (i : Nat), idx p s = some i → idx p (s ++ x) = some i
  | [], i, h => by
    unfold idx at h
    split at h
    · rename_i hp
      have hp0 : p = [] := by cases p with | nil => rfl | cons a b => simp [List.isPrefixOf] at hp
      subst hp0
      obtain rfl : 0 = i := by simpa using h
      cases x with
      | nil => rfl
      | cons a b => rfl
    · cases h
  | c :: r, i, h => by
    have hl := K.idx_le p _ i h
    have e1 : p.isPrefixOf (c :: r ++ x) = p.isPrefixOf (c :: r) := prefix_more x (by omega)
    unfold idx at h
    rw [List.cons_append] at e1 ⊢
    unfold idx
    rw [e1]
    split at h
    · rename_i hp; rw [if_pos hp]; exact h
    · rename_i hp
      rw [if_neg hp]
      cases hx : idx p r with
      | none => rw [hx] at h; cases h
      | some j => rw [idx_more p x r j hx]; rw [hx] at h; exact h

theorem begins_more (s x : List UInt8) (h : 2 ≤ s.length) : begins (s ++ x) = begins s := by
  match s, h with
  | c :: d :: t, _ =>
    by_cases hc : c = 60
    · subst hc; rfl
    · unfold begins
      split
      · rename_i heq; simp at heq; exact absurd heq.1 hc
      · split
        · rename_i heq; simp at heq; exact absurd heq.1 hc
        · rfl

theorem nextAt_more (x : List UInt8) : ∀ (s : List UInt8) (i : Nat), nextAt s = some i → nextAt (s ++ x) = some i
  | [], i, h => by cases h
  | c :: r, i, h => by
    unfold nextAt at h
    rw [List.cons_append]
    unfold nextAt
    split at h
    · rename_i hb
      have := begins_more (c :: r) x (K.begins_two hb).1
      rw [List.cons_append] at this
      rw [this, if_pos hb]; exact h
    · rename_i hb
      cases hx : nextAt r with
      | none => rw [hx] at h; cases h
      | some j =>
        have hl := nextAt_lt r j hx
        have := begins_more (c :: r) x (by rw [List.length_cons]; omega)
        rw [List.cons_append] at this
        rw [this, if_neg hb, nextAt_more x r j hx]; rw [hx] at h; exact h

theorem has_more (s x p : List UInt8) (h : p.length ≤ s.length) : has (s ++ x) p = has s p := by
  unfold has
  rw [List.take_append_of_le_length h, decide_eq_true h, decide_eq_true (by rw [List.length_append]; omega)]

theorem shut_len {mark s : List UInt8} (h : shut mark s = true) : mark.length < s.length := by
  unfold shut at h
  rw [Bool.and_eq_true] at h
  obtain ⟨h1, h2⟩ := h
  split at h2
  · cases h2
  · rename_i c t heq
    have := congrArg List.length heq
    rw [List.length_drop, List.length_cons] at this
    omega

theorem shut_more (mark s x : List UInt8) (h : mark.length < s.length) : shut mark (s ++ x) = shut mark s := by
  unfold shut
  rw [has_more s x mark (by omega), List.drop_append_of_le_length (by omega)]
  cases hd : s.drop mark.length with
  | nil => have := congrArg List.length hd; rw [List.length_drop] at this; simp at this; omega
  | cons c t => rfl

theorem shutAt_len (mark : List UInt8) : ∀ (s : List UInt8) (i : Nat), shutAt mark s = some i → i + mark.length < s.length
  | [], i, h => by cases h
  | c :: r, i, h => by
    unfold shutAt at h
    split at h
    · rename_i hs
      obtain rfl : 0 = i := by simpa using h
      rw [Bool.and_eq_true] at hs
      have := shut_len hs.2
      omega
    · cases hx : shutAt mark r with
      | none => rw [hx] at h; cases h
      | some j =>
        rw [hx] at h
        obtain rfl : j + 1 = i := by simpa using h
        have := shutAt_len mark r j hx
        simp only [List.length_cons]; omega

theorem shutAt_more (mark x : List UInt8) : ∀ (s : List UInt8) (i : Nat), shutAt mark s = some i → shutAt mark (s ++ x) = some i
  | [], i, h => by cases h
  | c :: r, i, h => by
    have hl := shutAt_len mark _ i h
    have e1 := shut_more mark (c :: r) x (by omega)
    rw [List.cons_append] at e1 ⊢
    unfold shutAt at h ⊢
    rw [e1]
    split at h
    · rename_i hs; rw [if_pos hs]; exact h
    · rename_i hs
      rw [if_neg hs]
      cases hx : shutAt mark r with
      | none => rw [hx] at h; cases h
      | some j => rw [shutAt_more mark x r j hx]; rw [hx] at h; exact h

theorem dw_more (p : UInt8 → Bool) (x : List UInt8) : ∀ (r : List UInt8), r.dropWhile p ≠ [] → (r ++ x).dropWhile p = r.dropWhile p ++ x ∧ (r ++ x).takeWhile p = r.takeWhile p
  | [], h => absurd rfl h
  | c :: r, h => by
    cases hc : p c with
    | true =>
      rw [List.dropWhile_cons_of_pos hc] at h
      have := dw_more p x r h
      rw [List.cons_append, List.dropWhile_cons_of_pos hc, List.dropWhile_cons_of_pos hc, List.takeWhile_cons_of_pos hc, List.takeWhile_cons_of_pos hc, this.1, this.2]
      exact ⟨rfl, rfl⟩
    | false =>
      have hc' : ¬ p c = true := by rw [hc]; simp
      rw [List.cons_append, List.dropWhile_cons_of_neg hc', List.dropWhile_cons_of_neg hc', List.takeWhile_cons_of_neg hc', List.takeWhile_cons_of_neg hc']
      exact ⟨rfl, rfl⟩

theorem dw_cons {p : UInt8 → Bool} {r t : List UInt8} {c : UInt8} (x : List UInt8) (h : r.dropWhile p = c :: t) : (r ++ x).dropWhile p = c :: (t ++ x) ∧ (r ++ x).takeWhile p = r.takeWhile p := by
  have := dw_more p x r (by rw [h]; simp)
  rw [h] at this
  exact this

theorem idx_one_lt {c : UInt8} {t : List UInt8} {i : Nat} (h : idx [c] t = some i) : i + 1 ≤ t.length := K.idx_le [c] t i h

theorem value_more {r v u : List UInt8} (x : List UInt8) (h : value r = some (v, u)) : value (r ++ x) = some (v, u ++ x) := by
  unfold value at h
  split at h
  · cases h
  · rename_i c t heq
    have e1 := (dw_cons x heq).1
    unfold value
    rw [e1]
    dsimp only
    split at h
    · rename_i hq
      rw [if_pos hq]
      split at h
      · cases h
      · rename_i i hi
        have hl := idx_one_lt hi
        rw [idx_more [c] x t i hi]
        dsimp only
        obtain ⟨rfl, rfl⟩ := Prod.mk.inj (Option.some.inj h)
        rw [List.take_append_of_le_length (by omega), List.drop_append_of_le_length (by omega)]
    · rename_i hq
      rw [if_neg hq]
      split at h
      · cases h
      · rename_i hne
        have h2 := dw_more inValue x (c :: t) (fun h0 => hne h0)
        rw [List.cons_append] at h2
        rw [h2.1, h2.2]
        obtain ⟨rfl, rfl⟩ := Prod.mk.inj (Option.some.inj h)
        split
        · rename_i h0
          exact absurd (List.append_eq_nil_iff.1 h0).1 (fun h0 => hne h0)
        · rfl

theorem attr_more {c : UInt8} {r u : List UInt8} {a : List UInt8 × List UInt8} (x : List UInt8) (h : attr c r = some (a, u)) : attr c (r ++ x) = some (a, u ++ x) := by
  unfold attr at h
  split at h
  · cases h
  · rename_i hne
    have h1 := dw_more inName x r (fun h0 => hne h0)
    unfold attr
    rw [h1.1, h1.2]
    split
    · rename_i h0
      exact absurd (List.append_eq_nil_iff.1 h0).1 (fun h0 => hne h0)
    · split at h
      · cases h
      · rename_i d t heq
        rw [(dw_cons x heq).1]
        dsimp only
        split at h
        · rename_i hd
          rw [if_pos hd]
          split at h
          · cases h
          · rename_i v u' hv
            rw [value_more x hv]
            obtain ⟨rfl, rfl⟩ := Prod.mk.inj (Option.some.inj h)
            rfl
        · rename_i hd
          rw [if_neg hd]
          obtain ⟨rfl, rfl⟩ := Prod.mk.inj (Option.some.inj h)
          rfl

theorem tagLoop_more (x : List UInt8) (m : Nat) : ∀ (n : Nat) (l : List (List UInt8 × List UInt8)) (r : List UInt8) {y : List (List UInt8 × List UInt8) × Bool × List UInt8}, tagLoop n l r = some y → tagLoop (n + m) l (r ++ x) = some (y.1, y.2.1, y.2.2 ++ x)
  | 0, l, r, _, h => by cases h
  | n + 1, l, r, y, h => by
    rw [show n + 1 + m = (n + m) + 1 by omega]
    unfold tagLoop at h
    split at h
    · cases h
    · rename_i d t heq
      have h1 := dw_cons x heq
      unfold tagLoop
      rw [h1.1, h1.2]
      dsimp only
      split at h
      · rename_i hd
        rw [if_pos hd]
        rw [← Option.some.inj h]
      · rename_i hd
        rw [if_neg hd]
        split at h
        · cases h
        · rename_i a u' hv
          rw [attr_more x hv]
          exact tagLoop_more x m n _ _ h

theorem start_more {r u : List UInt8} {t : Tok} (x : List UInt8) (h : start r = some (t, u)) : start (r ++ x) = some (t, u ++ x) := by
  unfold start at h
  split at h
  · cases h
  · rename_i l c u' hv
    have hne : r.dropWhile goesOn ≠ [] := by
      intro h0
      have := tagLoop_rest _ _ _ hv
      rw [h0] at this
      simp at this
    have h1 := dw_more goesOn x r hne
    have h2 := tagLoop_more x x.length _ _ _ hv
    unfold start
    rw [h1.1, h1.2, List.length_append, show r.length + x.length + 1 = r.length + 1 + x.length by omega, h2]
    obtain ⟨rfl, rfl⟩ := Prod.mk.inj (Option.some.inj h)
    rfl

theorem upto_more (s x mark : List UInt8) (skip kind : Nat) (e : Bool) (hk : skip ≤ s.length) (h : (upto s skip mark kind false).ok = true) : upto (s ++ x) skip mark kind e = upto s skip mark kind false := by
  unfold upto at h ⊢
  rw [List.drop_append_of_le_length hk]
  cases hi : idx mark (s.drop skip) with
  | none => rw [hi] at h; cases h
  | some i =>
    have := K.idx_le mark _ i hi
    rw [idx_more mark x _ i hi]
    dsimp only
    rw [List.take_append_of_le_length (by omega)]

theorem tw_take {p : UInt8 → Bool} {c : UInt8} (hc : p c = false) (x : List UInt8) : ∀ (s : List UInt8), c ∈ s → (s ++ x).takeWhile p = s.takeWhile p
  | [], h => by cases h
  | d :: r, h => by
    rw [List.cons_append, List.takeWhile_cons, List.takeWhile_cons]
    cases hd : p d with
    | false => rfl
    | true =>
      have : c ∈ r := by
        rcases List.mem_cons.1 h with rfl | h
        · rw [hc] at hd; cases hd
        · exact h
      rw [tw_take hc x r this]

theorem endTag_more (s x : List UInt8) (e : Bool) (h2 : 2 ≤ s.length) (hs : 62 ∉ s.take 2) (h : (endTag s false).ok = true) : endTag (s ++ x) e = endTag s false := by
  unfold endTag at h ⊢
  cases hi : idx [62] s with
  | none => rw [hi] at h; cases h
  | some i =>
    rw [idx_more [62] x _ i hi, List.drop_append_of_le_length h2]
    have hin : (62 : UInt8) ∈ s := by
      have h3 := K.idx_drop hi
      have : (62 : UInt8) ∈ s.drop i := by rw [h3]; simp
      exact List.mem_of_mem_drop this
    have hin2 : (62 : UInt8) ∈ s.drop 2 := by
      rw [← List.take_append_drop 2 s] at hin
      rcases List.mem_append.1 hin with h4 | h4
      · exact absurd h4 hs
      · exact h4
    rw [tw_take (p := goesOn) (c := 62) (by decide) x _ hin2]

theorem startTag_more (s x : List UInt8) (e : Bool) (h2 : 1 ≤ s.length) (h : (startTag s false).ok = true) : startTag (s ++ x) e = startTag s false := by
  unfold startTag at h ⊢
  rw [List.drop_append_of_le_length h2]
  cases hi : start (s.drop 1) with
  | none => rw [hi] at h; cases h
  | some y =>
    obtain ⟨t, u⟩ := y
    rw [start_more x hi]
    dsimp only
    rw [List.length_append, List.length_append, show s.length + x.length - (u.length + x.length) = s.length - u.length by omega]

theorem plain_more (s x : List UInt8) (e : Bool) (h2 : 1 ≤ s.length) (h : (plain s false).ok = true) : plain (s ++ x) e = plain s false := by
  unfold plain at h ⊢
  rw [List.drop_append_of_le_length h2]
  cases hi : nextAt (s.drop 1) with
  | none => rw [hi] at h; cases h
  | some i =>
    have := nextAt_lt _ i hi
    rw [List.length_drop] at this
    rw [nextAt_more x _ i hi]
    dsimp only
    rw [List.take_append_of_le_length (by omega)]

theorem getD_app {s : List UInt8} {i : Nat} (x : List UInt8) (d : UInt8) (h : i < s.length) : (s ++ x).getD i d = s.getD i d := by
  simp [List.getD, List.getElem?_append_left h]

theorem low_eq {c d : UInt8} (h : T.low c = d) (hd : ¬ (97 ≤ d.toNat ∧ d.toNat ≤ 122)) : c = d := by
  unfold T.low at h
  split at h
  · rename_i hc
    exfalso
    apply hd
    have := congrArg UInt8.toNat h
    rw [UInt8.toNat_ofNat_of_lt' (by simp [UInt8.size]; omega)] at this
    omega
  · exact h

theorem has_head {s : List UInt8} (h : lower (s.take doctype.length) = doctype) : ∃ t, s = 60 :: 33 :: t := by
  match s with
  | [] => cases h
  | [a] => simp [lower, doctype] at h
  | a :: b :: t =>
    have h1 : T.low a :: T.low b :: lower (t.take 7) = doctype := h
    have h2 : T.low a = 60 := by injection h1
    have h3 : T.low b = 33 := by injection h1 with _ h1; injection h1
    rw [low_eq h2 (by decide), low_eq h3 (by decide)]
    exact ⟨t, rfl⟩
theorem has_begins {s : List UInt8} (h : lower (s.take doctype.length) = doctype) : begins s = true := by
  obtain ⟨t, rfl⟩ := has_head h; rfl
theorem has_second {s : List UInt8} (h : lower (s.take doctype.length) = doctype) : s.getD 1 0 = 33 := by
  obtain ⟨t, rfl⟩ := has_head h; rfl

theorem low62 (c : UInt8) (h : c = 62) : T.low c = 62 := by subst h; rfl

theorem normal_more (s x : List UInt8) (e : Bool) (hs : 1 ≤ s.length) (h : (normal s false).ok = true) : normal (s ++ x) e = normal s false := by
  have hL : (s ++ x).length = s.length + x.length := List.length_append
  cases h0 : (!false && decide (s.length < 4) && s.isPrefixOf opening) with
  | true =>
    unfold normal at h
    rw [if_pos h0] at h
    cases h
  | false =>
    rw [K.normal_go s false h0] at h ⊢
    -- the longer text is no beginning of the opening mark either
    have h0' : (!e && decide ((s ++ x).length < 4) && (s ++ x).isPrefixOf opening) = false := by
      cases hp : (s ++ x).isPrefixOf opening with
      | false => simp
      | true =>
        obtain ⟨t, ht⟩ := List.isPrefixOf_iff_prefix.1 hp
        by_cases h4 : (s ++ x).length < 4
        · have : s.isPrefixOf opening = true := List.isPrefixOf_iff_prefix.2 ⟨x ++ t, by rw [← List.append_assoc]; exact ht⟩
          rw [this, Bool.not_false, Bool.true_and, Bool.and_true, decide_eq_false_iff_not] at h0
          omega
        · rw [decide_eq_false h4]; simp
    rw [K.normal_go (s ++ x) e h0']
    -- of a text that is no beginning of the mark, the longer one does not begin with the mark but if it does itself
    have hop : opening.isPrefixOf (s ++ x) = opening.isPrefixOf s := by
      by_cases h4 : 4 ≤ s.length
      · exact prefix_more x h4
      · have hf : opening.isPrefixOf s = false := by
          cases hp : opening.isPrefixOf s with
          | false => rfl
          | true => exact absurd (List.IsPrefix.length_le (List.isPrefixOf_iff_prefix.1 hp)) h4
        rw [hf]
        cases hp : opening.isPrefixOf (s ++ x) with
        | false => rfl
        | true =>
          exfalso
          obtain ⟨t, ht⟩ := List.isPrefixOf_iff_prefix.1 hp
          have h5 := congrArg (List.take s.length) ht
          rw [List.take_left, List.take_append_of_le_length (show s.length ≤ opening.length by show s.length ≤ 4; omega)] at h5
          have : s.isPrefixOf opening = true := List.isPrefixOf_iff_prefix.2 (List.prefix_iff_eq_take.2 h5.symm)
          rw [this, Bool.not_false, Bool.true_and, Bool.and_true, decide_eq_false_iff_not] at h0
          omega
    have hb2 : 2 ≤ s.length ∨ begins (s ++ x) = false := by
      by_cases h2 : 2 ≤ s.length
      · exact Or.inl h2
      · right
        match s, hs, h2 with
        | [c], _, _ =>
          by_cases hc : c = 60
          · subst hc; exact absurd h0 (by decide)
          · cases hb : begins ([c] ++ x) with
            | false => rfl
            | true => exact absurd (K.begins_two hb).2 hc
        | c :: d :: t, _, h2 => exact absurd (by simp) h2
    have hbb : begins (s ++ x) = begins s := by
      rcases hb2 with h2 | h2
      · exact begins_more s x h2
      · rw [h2]
        cases hb : begins s with
        | false => rfl
        | true => rw [begins_more s x (K.begins_two hb).1, hb] at h2; cases h2
    cases c1 : opening.isPrefixOf s with
    | true =>
      rw [K.n2_open c1] at h ⊢
      rw [K.n2_open (hop.trans c1)]
      exact upto_more s x closing 4 4 e (List.IsPrefix.length_le (List.isPrefixOf_iff_prefix.1 c1)) h
    | false =>
      have c1' := hop.trans c1
      cases c2 : has s doctype with
      | true =>
        have h9 := has_len c2
        have c2' := (has_more s x doctype h9).trans c2
        rw [K.n2_doc c1 c2] at h ⊢
        rw [K.n2_doc c1' c2']
        rw [upto_more s x [62] 9 5 e h9 h]
      | false =>
        cases c3 : begins s with
        | false =>
          have c2' : has (s ++ x) doctype = false := by
            cases hd : has (s ++ x) doctype with
            | false => rfl
            | true =>
              exfalso
              have hb : begins (s ++ x) = true := by
                simp only [has, Bool.and_eq_true, beq_iff_eq] at hd
                exact has_begins hd.2
              rw [hbb, c3] at hb
              cases hb
          rw [K.n2_plain c1 c2 c3] at h ⊢
          rw [K.n2_plain c1' c2' (hbb.trans c3)]
          exact plain_more s x e hs h
        | true =>
          have h2 := (K.begins_two c3).1
          have c3' := hbb.trans c3
          have g1 : (s ++ x).getD 1 0 = s.getD 1 0 := getD_app _ _ (by omega)
          cases c4 : letter (s.getD 1 0) with
          | true =>
            have c2' : has (s ++ x) doctype = false := by
              cases hd : has (s ++ x) doctype with
              | false => rfl
              | true =>
                exfalso
                simp only [has, Bool.and_eq_true, beq_iff_eq] at hd
                have := has_second hd.2
                rw [g1] at this
                rw [this] at c4
                exact absurd c4 (by decide)
            rw [K.n2_start c1 c2 c3 c4] at h ⊢
            rw [K.n2_start c1' c2' c3' (by rw [g1]; exact c4)]
            exact startTag_more s x e hs h
          | false =>
            have c4' : letter ((s ++ x).getD 1 0) = false := by rw [g1]; exact c4
            cases c5 : [60, 47, 62].isPrefixOf s with
            | true =>
              have h3 := List.IsPrefix.length_le (List.isPrefixOf_iff_prefix.1 c5)
              have c5' := (prefix_more x h3).trans c5
              have c2' : has (s ++ x) doctype = false := by
                cases hd : has (s ++ x) doctype with
                | false => rfl
                | true =>
                  exfalso
                  simp only [has, Bool.and_eq_true, beq_iff_eq] at hd
                  have h33 := has_second hd.2
                  obtain ⟨t, ht⟩ := List.isPrefixOf_iff_prefix.1 c5'
                  rw [← ht] at h33
                  have h33 : (47 : UInt8) = 33 := h33
                  exact absurd h33 (by decide)
              rw [K.n2_skip c1 c2 c3 c4 c5] at h ⊢
              rw [K.n2_skip c1' c2' c3' c4' c5']
            | false =>
              cases c6 : (s.getD 1 0 == 47 && decide (2 < s.length) && letter (s.getD 2 0)) with
              | true =>
                have c6q := c6
                simp only [Bool.and_eq_true, beq_iff_eq, decide_eq_true_eq] at c6q
                have g2 : (s ++ x).getD 2 0 = s.getD 2 0 := getD_app _ _ (by omega)
                have c5' := (prefix_more (p := [60, 47, 62]) x (s := s) (by simp; omega)).trans c5
                have c6' : ((s ++ x).getD 1 0 == 47 && decide (2 < (s ++ x).length) && letter ((s ++ x).getD 2 0)) = true := by
                  rw [g1, g2, c6q.1.1, c6q.2, decide_eq_true (by omega)]; rfl
                have c2' : has (s ++ x) doctype = false := by
                  cases hd : has (s ++ x) doctype with
                  | false => rfl
                  | true =>
                    exfalso
                    simp only [has, Bool.and_eq_true, beq_iff_eq] at hd
                    have := has_second hd.2
                    rw [g1, c6q.1.1] at this
                    cases this
                have ht2 : (62 : UInt8) ∉ s.take 2 := by
                  have hc0 := (K.begins_two c3).2
                  match s, h2, hc0, c6q.1.1 with
                  | a :: b :: t, _, ha, hb =>
                    have ha : a = 60 := ha
                    have hb : b = 47 := hb
                    subst ha hb
                    show (62 : UInt8) ∉ [60, 47]
                    decide
                rw [K.n2_end c1 c2 c3 c4 c5 c6] at h ⊢
                rw [K.n2_end c1' c2' c3' c4' c5' c6']
                exact endTag_more s x e h2 ht2 h
              | false =>
                rw [K.n2_rest c1 c2 c3 c4 c5 c6] at h ⊢
                -- a mark was found: so the text is long enough
                have hi : ∃ i, idx [62] (s.drop 2) = some i := by
                  unfold upto at h
                  cases hi : idx [62] (s.drop 2) with
                  | none => rw [hi] at h; cases h
                  | some i => exact ⟨i, rfl⟩
                obtain ⟨i, hi⟩ := hi
                have hil := K.idx_le [62] _ i hi
                simp only [List.length_drop, List.length_cons, List.length_nil] at hil
                have g2 : (s ++ x).getD 2 0 = s.getD 2 0 := getD_app _ _ (by omega)
                have c5' := (prefix_more (p := [60, 47, 62]) x (s := s) (by simp; omega)).trans c5
                have c6' : ((s ++ x).getD 1 0 == 47 && decide (2 < (s ++ x).length) && letter ((s ++ x).getD 2 0)) = false := by
                  rw [decide_eq_true (show 2 < s.length by omega)] at c6
                  rw [g1, g2, decide_eq_true (by omega)]; exact c6
                have c2' : has (s ++ x) doctype = false := by
                  by_cases h9 : 9 ≤ s.length
                  · exact (has_more s x doctype h9).trans c2
                  · cases hd : has (s ++ x) doctype with
                    | false => rfl
                    | true =>
                      exfalso
                      simp only [has, Bool.and_eq_true, beq_iff_eq] at hd
                      have hm : (62 : UInt8) ∈ (s ++ x).take 9 := by
                        have h5 : (62 : UInt8) ∈ s := by
                          have h3 := K.idx_drop hi
                          have : (62 : UInt8) ∈ (s.drop 2).drop i := by rw [h3]; simp
                          exact List.mem_of_mem_drop (List.mem_of_mem_drop this)
                        rw [List.take_append]
                        exact List.mem_append_left _ (by rw [List.take_of_length_le (by omega)]; exact h5)
                      have hm2 : (62 : UInt8) ∈ lower ((s ++ x).take 9) := List.mem_map.2 ⟨62, hm, by decide⟩
                      have hd2 : lower ((s ++ x).take 9) = doctype := hd.2
                      rw [hd2] at hm2
                      exact absurd hm2 (by decide)
                rw [K.n2_rest c1' c2' c3' c4' c5' c6']
                exact upto_more s x [62] 2 4 e h2 h

theorem shut_head {mark s : List UInt8} (h : shut mark s = true) : lower (s.take mark.length) = mark := by
  unfold shut has at h
  simp only [Bool.and_eq_true, beq_iff_eq] at h
  exact h.1.2

theorem rawStep_more (raw s x : List UInt8) (e : Bool) (hs : 1 ≤ s.length) (h : (rawStep raw s false).1.ok = true) : rawStep raw (s ++ x) e = rawStep raw s false := by
  unfold rawStep at h ⊢
  cases hi : shutAt ([60, 47] ++ raw) s with
  | none => rw [hi] at h; cases h
  | some i =>
    have hl := shutAt_len _ _ _ hi
    rw [shutAt_more _ x _ _ hi]
    cases i with
    | zero =>
      rw [hi] at h
      dsimp only at h ⊢
      have h2 : 2 ≤ s.length := by simp at hl; omega
      have ht2 : (62 : UInt8) ∉ s.take 2 := by
        have hsh : shut ([60, 47] ++ raw) s = true := by
          cases s with
          | nil => simp at hs
          | cons c r =>
            unfold shutAt at hi
            split at hi
            · rename_i hc; rw [Bool.and_eq_true] at hc; exact hc.2
            · cases hx : shutAt ([60, 47] ++ raw) r with
              | none => rw [hx] at hi; cases hi
              | some j => rw [hx] at hi; simp at hi
        have h3 := shut_head hsh
        have h4 := congrArg (List.take 2) h3
        intro hm
        have h5 : (62 : UInt8) ∈ lower (s.take 2) := List.mem_map.2 ⟨62, hm, by decide⟩
        unfold lower at h4 h5
        rw [← List.map_take, List.take_take, Nat.min_eq_left (by simp)] at h4
        rw [h4] at h5
        simp at h5
      rw [endTag_more s x e h2 ht2 h]
    | succ i =>
      dsimp only
      rw [List.take_append_of_le_length (by omega)]

/-- A step that is possible before the end is known is the step of every longer text. -/
theorem step_more (raw s x : List UInt8) (e : Bool) (hs : 1 ≤ s.length) (h : (step raw s false).1.ok = true) : step raw (s ++ x) e = step raw s false := by
  unfold step at h ⊢
  split
  · rename_i h0
    rw [if_pos h0] at h
    dsimp only at h ⊢
    rw [normal_more s x e hs h]
  · rename_i h0
    rw [if_neg h0] at h
    exact rawStep_more raw s x e hs h

end M
end Go.Proofs.YtlnginciehjlnaaGreatDoor

namespace Go.Proofs.YtlnginciehjlnaaGreatDoor
namespace M

/-- At the end of the document every step is possible. -/
theorem upto_true (s mark : List UInt8) (skip kind : Nat) : (upto s skip mark kind true).ok = true := by unfold upto; split <;> rfl
theorem endTag_true (s : List UInt8) : (endTag s true).ok = true := by unfold endTag; split <;> rfl
theorem startTag_true (s : List UInt8) : (startTag s true).ok = true := by unfold startTag; split <;> rfl
theorem plain_true (s : List UInt8) : (plain s true).ok = true := by unfold plain; split <;> rfl
theorem normal_true (s : List UInt8) : (normal s true).ok = true := by
  unfold normal
  rw [if_neg (by simp)]
  split
  · exact upto_true _ _ _ _
  · split
    · exact upto_true _ _ _ _
    · split
      · exact plain_true _
      · split
        · exact startTag_true _
        · split
          · rfl
          · split
            · exact endTag_true _
            · exact upto_true _ _ _ _
theorem rawStep_true (raw s : List UInt8) : (rawStep raw s true).1.ok = true := by
  unfold rawStep
  split
  · rfl
  · exact endTag_true _
  · rfl
theorem step_true (raw s : List UInt8) : (step raw s true).1.ok = true := by
  unfold step
  split
  · exact normal_true _
  · exact rawStep_true _ _

theorem ne_len {s : List UInt8} (h : s ≠ []) : 1 ≤ s.length := by
  cases s with
  | nil => exact absurd rfl h
  | cons c r => simp

theorem all_more : ∀ (n m : Nat) (raw s : List UInt8), s.length < n → s.length < m → all n raw s = all m raw s
  | 0, _, _, _, h, _ => by omega
  | _ + 1, 0, _, _, _, h => by omega
  | n + 1, m + 1, raw, s, h1, h2 => by
    unfold all
    split
    · rfl
    · rename_i hs
      have hf := step_fits raw s true (ne_len hs) (step_true raw s)
      rw [all_more n m _ _ (by rw [List.length_drop]; omega) (by rw [List.length_drop]; omega)]

/-- All tokens of a text that is read in a mode. -/
def run (raw s : List UInt8) : List Tok := all (s.length + 1) raw s

theorem run_nil (raw : List UInt8) : run raw [] = [] := by unfold run all; rfl

theorem run_ne (raw s : List UInt8) (h : s ≠ []) : run raw s =
    if (step raw s true).1.tok.kind = 0 then run (step raw s true).2 (s.drop (step raw s true).1.n) else (step raw s true).1.tok :: run (step raw s true).2 (s.drop (step raw s true).1.n) := by
  have hf := step_fits raw s true (ne_len h) (step_true raw s)
  have hl := ne_len h
  have e := all_more s.length ((s.drop (step raw s true).1.n).length + 1) (step raw s true).2 (s.drop (step raw s true).1.n) (by rw [List.length_drop]; omega) (by omega)
  unfold run
  conv => lhs; unfold all
  rw [if_neg h, e]

/-- What the steps at the end yield: the first token, and what follows; none: there is none. -/
def Last (raw s : List UInt8) (y : Option Tok × List UInt8 × List UInt8) : Prop :=
  match y.1 with
  | some t => run raw s = t :: run y.2.1 y.2.2 ∧ y.2.2.length < s.length ∧ t.kind ≠ 0
  | none => run raw s = [] ∧ y.2.2 = []

theorem steps_true : ∀ (n : Nat) (raw s : List UInt8), s.length < n → Last raw s (steps n true raw s)
  | 0, _, _, h => by omega
  | n + 1, raw, s, h => by
    by_cases hs : s = []
    · subst hs
      exact ⟨run_nil raw, rfl⟩
    · have hf := step_fits raw s true (ne_len hs) (step_true raw s)
      have hr := run_ne raw s hs
      rw [K.steps_ne n true raw s hs, if_pos (step_true raw s)]
      by_cases hk : (step raw s true).1.tok.kind = 0
      · rw [if_pos hk] at hr
        rw [if_pos hk]
        have ih := steps_true n (step raw s true).2 (s.drop (step raw s true).1.n) (by rw [List.length_drop]; omega)
        generalize steps n true (step raw s true).2 (s.drop (step raw s true).1.n) = y at ih ⊢
        obtain ⟨o, r1, s1⟩ := y
        unfold Last at ih ⊢
        rw [hr]
        cases o with
        | none => exact ih
        | some t =>
          dsimp only at ih ⊢
          rw [List.length_drop] at ih
          exact ⟨ih.1, by omega, ih.2.2⟩
      · rw [if_neg hk] at hr
        rw [if_neg hk]
        exact ⟨hr, by dsimp only; rw [List.length_drop]; omega, hk⟩

/-- A step that is not possible yet leaves the mode. -/
theorem step_wait (raw s : List UInt8) (h : (step raw s false).1.ok = false) : (step raw s false).2 = raw := by
  unfold step at h ⊢
  split
  · rename_i h0
    rw [if_pos h0] at h
    dsimp only at h ⊢
    rw [h, h0]
    rfl
  · rename_i h0
    rw [if_neg h0] at h
    unfold rawStep at h ⊢
    split
    · rfl
    · rename_i hi
      rw [hi] at h
      dsimp only at h ⊢
      rw [h]
      rfl
    · rfl

/-- What the steps yield before the end is known, they yield of every longer text. -/
def Took (x raw s : List UInt8) (y : Option Tok × List UInt8 × List UInt8) : Prop :=
  match y.1 with
  | some t => run raw (s ++ x) = t :: run y.2.1 (y.2.2 ++ x) ∧ y.2.2.length < s.length ∧ t.kind ≠ 0
  | none => run raw (s ++ x) = run y.2.1 (y.2.2 ++ x) ∧ y.2.2.length ≤ s.length

theorem steps_false (x : List UInt8) : ∀ (n : Nat) (raw s : List UInt8), s.length < n → Took x raw s (steps n false raw s)
  | 0, _, _, h => by omega
  | n + 1, raw, s, h => by
    by_cases hs : s = []
    · subst hs
      exact ⟨rfl, Nat.le_refl _⟩
    · have hl := ne_len hs
      rw [K.steps_ne n false raw s hs]
      by_cases hok : (step raw s false).1.ok = true
      · have hf := step_fits raw s false hl hok
        have hm := step_more raw s x true hl hok
        have hr := run_ne raw (s ++ x) (fun h0 => hs (List.append_eq_nil_iff.1 h0).1)
        rw [hm, List.drop_append_of_le_length hf.2] at hr
        rw [if_pos hok]
        by_cases hk : (step raw s false).1.tok.kind = 0
        · rw [if_pos hk] at hr
          rw [if_pos hk]
          have ih := steps_false x n (step raw s false).2 (s.drop (step raw s false).1.n) (by rw [List.length_drop]; omega)
          generalize steps n false (step raw s false).2 (s.drop (step raw s false).1.n) = y at ih ⊢
          obtain ⟨o, r1, s1⟩ := y
          unfold Took at ih ⊢
          rw [hr]
          cases o with
          | none =>
            dsimp only at ih ⊢
            rw [List.length_drop] at ih
            exact ⟨ih.1, by omega⟩
          | some t =>
            dsimp only at ih ⊢
            rw [List.length_drop] at ih
            exact ⟨ih.1, by omega, ih.2.2⟩
        · rw [if_neg hk] at hr
          rw [if_neg hk]
          exact ⟨hr, by dsimp only; rw [List.length_drop]; omega, hk⟩
      · have hm : (step raw s false).2 = raw := step_wait raw s (by simpa using hok)
        rw [if_neg hok, hm]
        exact ⟨rfl, Nat.le_refl _⟩

theorem steps_mode : ∀ (n : Nat) (e : Bool) (raw s : List UInt8), raw.length ≤ 8 → (steps n e raw s).2.1.length ≤ 8
  | 0, _, _, _, h => h
  | n + 1, e, raw, s, h => by
    have h1 := step_mode raw s e h
    unfold steps
    split
    · exact h
    · split
      · split
        · exact steps_mode n e _ _ h1
        · exact h1
      · exact h1

end M
end Go.Proofs.YtlnginciehjlnaaGreatDoor

namespace Go.Proofs.YtlnginciehjlnaaGreatDoor
namespace M

theorem low_low (c : UInt8) : T.low (T.low c) = T.low c := by
  by_cases h : 65 ≤ c.toNat ∧ c.toNat ≤ 90
  · have h1 : (T.low c).toNat = c.toNat + 32 := by
      unfold T.low; rw [if_pos h, UInt8.toNat_ofNat_of_lt' (by simp [UInt8.size]; omega)]
    generalize T.low c = d at h1 ⊢
    unfold T.low
    rw [if_neg (by omega)]
  · have h1 : T.low c = c := by unfold T.low; rw [if_neg h]
    rw [h1, h1]
theorem lower_lower (l : List UInt8) : lower (lower l) = lower l := by
  unfold lower
  rw [List.map_map]
  congr 1
  funext c
  exact low_low c

/-- Names of attributes: not empty, in lower case, different. -/
structure GoodAttrs (l : List (List UInt8 × List UInt8)) : Prop where
  len : l.length ≤ 64
  name : ∀ p ∈ l, p.1 ≠ [] ∧ lower p.1 = p.1
  apart : l.Pairwise fun p q => p.1 ≠ q.1

theorem GoodAttrs.nil : GoodAttrs [] := ⟨by simp, (fun p h => by cases h), List.Pairwise.nil⟩

theorem GoodAttrs.add {l : List (List UInt8 × List UInt8)} {a : List UInt8 × List UInt8} (h : GoodAttrs l) (h1 : a.1 ≠ []) (h2 : lower a.1 = a.1) : GoodAttrs (add l a) := by
  unfold M.add
  split
  · exact h
  · rename_i hany
    split
    · rename_i hlt
      refine ⟨by rw [List.length_append]; simp; omega, fun p hp => ?_, ?_⟩
      · rcases List.mem_append.1 hp with hp | hp
        · exact h.name p hp
        · obtain rfl : p = a := by simpa using hp
          exact ⟨h1, h2⟩
      · rw [List.pairwise_append]
        refine ⟨h.apart, List.pairwise_singleton _ _, fun p hp q hq => ?_⟩
        obtain rfl : q = a := by simpa using hq
        intro he
        apply hany
        rw [List.any_eq_true]
        exact ⟨p, hp, by rw [he]; simp⟩
    · exact h

theorem attr_name {c : UInt8} {r u : List UInt8} {a : List UInt8 × List UInt8} (h : attr c r = some (a, u)) : a.1 ≠ [] ∧ lower a.1 = a.1 := by
  have hn : a.1 = lower (c :: r.takeWhile inName) := by
    unfold attr at h
    split at h
    · cases h
    · split at h
      · cases h
      · split at h
        · split at h
          · cases h
          · rw [← (Prod.mk.inj (Option.some.inj h)).1]
        · rw [← (Prod.mk.inj (Option.some.inj h)).1]
  rw [hn]
  exact ⟨by simp [lower], lower_lower _⟩

theorem tagLoop_good : ∀ (n : Nat) (l : List (List UInt8 × List UInt8)) (r : List UInt8) {y : List (List UInt8 × List UInt8) × Bool × List UInt8}, GoodAttrs l → tagLoop n l r = some y → GoodAttrs y.1
  | 0, l, r, _, _, h => by cases h
  | n + 1, l, r, y, hg, h => by
    unfold tagLoop at h
    split at h
    · cases h
    · split at h
      · rw [← Option.some.inj h]; exact hg
      · split at h
        · cases h
        · rename_i a u hv
          have := attr_name hv
          exact tagLoop_good n _ _ (hg.add this.1 this.2) h

/-- A token has the fields of its kind. -/
structure Good (t : Tok) : Prop where
  kind : 1 ≤ t.kind ∧ t.kind ≤ 5
  tag : (t.kind = 1 ∨ t.kind = 2) → t.name ≠ [] ∧ t.text = []
  rest : ¬ (t.kind = 1 ∨ t.kind = 2) → t.name = []
  only : t.kind ≠ 1 → t.attrs = [] ∧ t.closed = false
  text : t.kind = 3 → t.text ≠ []
  lower : lower t.name = t.name
  attrs : GoodAttrs t.attrs

theorem good_txt (k : Nat) (t : List UInt8) (h1 : 3 ≤ k) (h2 : k ≤ 5) (h3 : k = 3 → t ≠ []) : Good (.txt k t) :=
  ⟨⟨by show 1 ≤ k; omega, h2⟩, fun h => by have h : k = 1 ∨ k = 2 := h; omega, fun _ => rfl, fun _ => ⟨rfl, rfl⟩, h3, rfl, .nil⟩

theorem upto_good (s mark : List UInt8) (skip kind : Nat) (e : Bool) (h1 : 4 ≤ kind) (h2 : kind ≤ 5) : Good (upto s skip mark kind e).tok := by
  rw [K.upto_shape]
  exact good_txt kind _ (by omega) h2 (by omega)

theorem letter_on {c : UInt8} (h : letter c = true) : goesOn c = true := by
  unfold goesOn stops
  have h1 : c ≠ 47 := by rintro rfl; exact absurd h (by decide)
  have h2 : c ≠ 62 := by rintro rfl; exact absurd h (by decide)
  have h3 : T.sp c = false := by
    cases hs : T.sp c with
    | false => rfl
    | true =>
      simp only [T.sp, Bool.or_eq_true, beq_iff_eq] at hs
      rcases hs with (((rfl | rfl) | rfl) | rfl) | rfl <;> exact absurd h (by decide)
  simp [h1, h2, h3]

theorem start_good {c : UInt8} {r u : List UInt8} {t : Tok} (hc : letter c = true) (h : start (c :: r) = some (t, u)) : Good t := by
  unfold start at h
  split at h
  · cases h
  · rename_i l cl u' hv
    have hg := tagLoop_good _ _ _ GoodAttrs.nil hv
    rw [← (Prod.mk.inj (Option.some.inj h)).1]
    refine ⟨⟨by simp, by simp⟩, fun _ => ⟨?_, rfl⟩, fun h => absurd (Or.inl rfl) h, fun h => absurd rfl h, (fun h => by cases h), lower_lower _, hg⟩
    show M.lower ((c :: r).takeWhile goesOn) ≠ []
    rw [List.takeWhile_cons_of_pos (letter_on hc)]
    simp [M.lower]

theorem endTag_good {s : List UInt8} {e : Bool} (hc : goesOn (s.getD 2 0) = true) (h2 : 2 < s.length) (hk : (endTag s e).tok.kind ≠ 0) : Good (endTag s e).tok := by
  unfold endTag at hk ⊢
  split
  · rename_i hi; rw [hi] at hk; exact absurd rfl hk
  · refine ⟨⟨by simp, by simp⟩, fun _ => ⟨?_, rfl⟩, fun h => absurd (Or.inr rfl) h, fun _ => ⟨rfl, rfl⟩, (fun h => by cases h), lower_lower _, GoodAttrs.nil⟩
    show M.lower ((s.drop 2).takeWhile goesOn) ≠ []
    match s, h2 with
    | a :: b :: c :: t, _ =>
      have hc : goesOn c = true := hc
      show M.lower ((c :: t).takeWhile goesOn) ≠ []
      rw [List.takeWhile_cons_of_pos hc]
      simp [M.lower]

/-- What is decoded is not empty where the text is not. -/
theorem number_ne (n : Nat) : E.number n ≠ [] := by
  unfold E.number
  repeat' split
  all_goals simp
theorem tab_ne : ∀ p ∈ E.tab, p.2 ≠ [] := by decide
theorem short_ne (s : List UInt8) : ∀ l : List (List UInt8 × List UInt8), (∀ p ∈ l, p.2 ≠ []) → (E.short s l).2 ≠ 0 → (E.short s l).1 ≠ []
  | [], _, h => absurd rfl h
  | p :: r, hl, h => by
    unfold E.short at h ⊢
    split
    · exact hl p (by simp)
    · rename_i hc
      rw [if_neg hc] at h
      exact short_ne s r (fun q hq => hl q (by simp [hq])) h
theorem numeric_ne (s : List UInt8) (a b : Nat) (h : (E.numeric s a b).2 ≠ 0) : (E.numeric s a b).1 ≠ [] := by
  unfold E.numeric at h ⊢
  dsimp only at h ⊢
  split
  · rename_i hd; rw [if_pos hd] at h; exact absurd rfl h
  · exact number_ne _
theorem next_ne (s : List UInt8) (h : (E.next s).2 ≠ 0) : (E.next s).1 ≠ [] := by
  unfold E.next at h ⊢
  split
  · rename_i h1; rw [if_pos h1] at h; exact numeric_ne _ _ _ h
  · rename_i h1
    rw [if_neg h1] at h
    split
    · rename_i h2; rw [if_pos h2] at h; exact numeric_ne _ _ _ h
    · rename_i h2
      rw [if_neg h2] at h
      split
      · rename_i h3
        rw [if_pos h3] at h
        cases hn : E.named s with
        | some p =>
          exact tab_ne p (List.mem_of_find?_eq_some hn)
        | none =>
          rw [hn] at h
          exact short_ne s E.shorts (by decide) h
      · rename_i h3
        rw [if_neg h3] at h
        exact absurd rfl h
theorem decode_ne {s : List UInt8} (h : s ≠ []) : E.decode s ≠ [] := by
  by_cases hn : (E.next s).2 = 0
  · cases s with
    | nil => exact absurd rfl h
    | cons c r => rw [E.decode_skip c r hn]; simp
  · rw [E.decode_ref s hn h]
    intro h0
    exact next_ne s hn (List.append_eq_nil_iff.1 h0).1

theorem plain_good (s : List UInt8) (e : Bool) (hs : s ≠ []) : Good (plain s e).tok := by
  unfold plain
  split
  · exact good_txt 3 _ (by omega) (by omega) (fun _ => decode_ne hs)
  · refine good_txt 3 _ (by omega) (by omega) (fun _ => decode_ne ?_)
    cases s with
    | nil => exact absurd rfl hs
    | cons c r => simp

/-- The modes: none, or the name of a raw or plain element. -/
def Mode (raw : List UInt8) : Prop := raw = [] ∨ isRaw raw = true ∨ isPlain raw = true

theorem normal_good (s : List UInt8) (e : Bool) (hs : s ≠ []) (hk : (normal s e).tok.kind ≠ 0) : Good (normal s e).tok := by
  unfold normal at hk ⊢
  split
  · rename_i h; rw [if_pos h] at hk; exact absurd rfl hk
  · rename_i h; rw [if_neg h] at hk
    split
    · exact upto_good _ _ _ _ _ (by omega) (by omega)
    · rename_i h; rw [if_neg h] at hk
      split
      · exact good_txt 5 _ (by omega) (by omega) (by omega)
      · rename_i h; rw [if_neg h] at hk
        split
        · exact plain_good s e hs
        · rename_i h; rw [if_neg h] at hk
          split
          · rename_i hl
            rw [if_pos hl] at hk
            unfold startTag at hk ⊢
            cases hst : start (s.drop 1) with
            | none => rw [hst] at hk; exact absurd rfl hk
            | some y =>
              obtain ⟨t, u⟩ := y
              match s, hs with
              | [c], _ => have hl : letter 0 = true := hl; exact absurd hl (by decide)
              | a :: b :: r, _ =>
                have hl : letter b = true := hl
                exact start_good hl hst
          · rename_i h; rw [if_neg h] at hk
            split
            · rename_i h; rw [if_pos h] at hk; exact absurd rfl hk
            · rename_i h; rw [if_neg h] at hk
              split
              · rename_i h; rw [if_pos h] at hk
                simp only [Bool.and_eq_true, decide_eq_true_eq] at h
                exact endTag_good (letter_on h.2) h.1.2 hk
              · exact upto_good _ _ _ _ _ (by omega) (by omega)

/-- A mode's name begins with a small letter. -/
theorem mode_head {raw : List UInt8} (h : Mode raw) (h0 : raw ≠ []) : ∃ c t, raw = c :: t ∧ 97 ≤ c.toNat ∧ c.toNat ≤ 122 := by
  rcases h with h | h | h
  · exact absurd h h0
  · simp only [isRaw, Bool.or_eq_true, beq_iff_eq] at h
    rcases h with rfl | rfl <;> exact ⟨_, _, rfl, by decide, by decide⟩
  · simp only [isPlain, Bool.or_eq_true, beq_iff_eq] at h
    rcases h with rfl | rfl <;> exact ⟨_, _, rfl, by decide, by decide⟩

theorem low_letter {c d : UInt8} (h : T.low c = d) (h1 : 97 ≤ d.toNat ∧ d.toNat ≤ 122) : letter c = true := by
  unfold T.low at h
  unfold letter
  split at h
  · rename_i hc; simp; omega
  · subst h; simp; omega

theorem shut_zero {mark s : List UInt8} (h : shutAt mark s = some 0) : shut mark s = true := by
  cases s with
  | nil => cases h
  | cons c r =>
    unfold shutAt at h
    split at h
    · rename_i hc; rw [Bool.and_eq_true] at hc; exact hc.2
    · cases hx : shutAt mark r with
      | none => rw [hx] at h; cases h
      | some j => rw [hx] at h; simp at h

/-- Where the end of a raw element stands, a letter follows the first two bytes. -/
theorem shut_form {raw s : List UInt8} (hm : Mode raw) (h0 : raw ≠ []) (h : shut ([60, 47] ++ raw) s = true) : ∃ c t, s = 60 :: 47 :: c :: t ∧ letter c = true := by
  obtain ⟨d, t, rfl, h1, h2⟩ := mode_head hm h0
  have hl := shut_len h
  have hh := shut_head h
  match s, hl with
  | a :: b :: c :: u, _ =>
    have hh : T.low a :: T.low b :: T.low c :: lower (u.take t.length) = 60 :: 47 :: d :: t := by
      simpa [lower] using hh
    injection hh with e1 hh
    injection hh with e2 hh
    injection hh with e3 hh
    rw [low_eq e1 (by decide), low_eq e2 (by decide)]
    exact ⟨c, u, rfl, low_letter e3 ⟨h1, h2⟩⟩

theorem rawStep_good (raw s : List UInt8) (e : Bool) (hs : s ≠ []) (hm : Mode raw) (h0 : raw ≠ []) (hk : (rawStep raw s e).1.tok.kind ≠ 0) : Good (rawStep raw s e).1.tok := by
  have hin : ∀ (u : List UInt8) (ok : Bool), u ≠ [] → Good (inner raw u ok).tok := by
    intro u ok hu
    refine good_txt 3 _ (by omega) (by omega) (fun _ => ?_)
    split
    · exact decode_ne hu
    · exact hu
  unfold rawStep at hk ⊢
  split
  · exact hin s e hs
  · rename_i hi
    rw [hi] at hk
    obtain ⟨c, t, rfl, hc⟩ := shut_form hm h0 (shut_zero hi)
    exact endTag_good (letter_on hc) (by simp) hk
  · refine hin _ true ?_
    cases s with
    | nil => exact absurd rfl hs
    | cons c r => simp

theorem step_keeps (raw s : List UInt8) (e : Bool) (hm : Mode raw) : Mode (step raw s e).2 := by
  unfold step
  split
  · dsimp only
    split
    · rename_i h
      simp only [Bool.and_eq_true, Bool.or_eq_true] at h
      exact Or.inr h.2
    · exact Or.inl rfl
  · unfold rawStep
    split
    · exact hm
    · dsimp only
      split
      · exact Or.inl rfl
      · exact hm
    · exact hm

theorem step_good (raw s : List UInt8) (e : Bool) (hs : s ≠ []) (hm : Mode raw) (hk : (step raw s e).1.tok.kind ≠ 0) : Good (step raw s e).1.tok := by
  unfold step at hk ⊢
  split
  · rename_i h; rw [if_pos h] at hk; exact normal_good s e hs hk
  · rename_i h; rw [if_neg h] at hk; exact rawStep_good raw s e hs hm h hk

theorem all_good : ∀ (n : Nat) (raw s : List UInt8), Mode raw → ∀ t ∈ all n raw s, Good t
  | 0, _, _, _, t, h => by cases h
  | n + 1, raw, s, hm, t, h => by
    unfold all at h
    split at h
    · cases h
    · rename_i hs
      have hm' := step_keeps raw s true hm
      split at h
      · exact all_good n _ _ hm' t h
      · rename_i hk
        rcases List.mem_cons.1 h with rfl | h
        · exact step_good raw s true hs hm hk
        · exact all_good n _ _ hm' t h

theorem run_good (s : List UInt8) : ∀ t ∈ run [] s, Good t := all_good _ [] s (Or.inl rfl)

end M
end Go.Proofs.YtlnginciehjlnaaGreatDoor

namespace Go.Proofs.YtlnginciehjlnaaGreatDoor
namespace E

/-- A byte, escaped. -/
def esc (attr : Bool) (c : UInt8) : List UInt8 :=
  if c = 38 then [38, 97, 109, 112, 59] else if c = 13 then [38, 35, 49, 51, 59]
  else if c = 60 ∧ attr = false then [38, 108, 116, 59] else if c = 62 ∧ attr = false then [38, 103, 116, 59]
  else if c = 34 ∧ attr = true then [38, 113, 117, 111, 116, 59] else [c]
def escape (attr : Bool) (s : List UInt8) : List UInt8 := s.flatMap (esc attr)

theorem next_amp (r : List UInt8) : next (38 :: 97 :: 109 :: 112 :: 59 :: r) = ([38], 5) := rfl
theorem next_lt (r : List UInt8) : next (38 :: 108 :: 116 :: 59 :: r) = ([60], 4) := rfl
theorem next_gt (r : List UInt8) : next (38 :: 103 :: 116 :: 59 :: r) = ([62], 4) := rfl
theorem next_quot (r : List UInt8) : next (38 :: 113 :: 117 :: 111 :: 116 :: 59 :: r) = ([34], 6) := rfl
theorem next_cr (r : List UInt8) : next (38 :: 35 :: 49 :: 51 :: 59 :: r) = ([13], 5) := rfl

theorem decode_step {s x r : List UInt8} {n : Nat} (h : next s = (x, n)) (hn : n ≠ 0) (hs : s ≠ []) (hd : s.drop n = r) : decode s = x ++ decode r := by
  rw [decode_ref s (by rw [h]; exact hn) hs, h, hd]

theorem decode_esc (attr : Bool) (r : List UInt8) : ∀ s : List UInt8, decode (escape attr s ++ r) = s ++ decode r
  | [] => rfl
  | c :: t => by
    have ih := decode_esc attr r t
    have e1 : escape attr (c :: t) ++ r = esc attr c ++ (escape attr t ++ r) := by simp [escape]
    rw [e1, List.cons_append, ← ih]
    generalize escape attr t ++ r = u
    unfold esc
    split
    · rename_i h; subst h; exact decode_step (next_amp u) (by decide) (by simp) rfl
    · split
      · rename_i h; subst h; exact decode_step (next_cr u) (by decide) (by simp) rfl
      · split
        · rename_i h; obtain ⟨rfl, _⟩ := h; exact decode_step (next_lt u) (by decide) (by simp) rfl
        · split
          · rename_i h; obtain ⟨rfl, _⟩ := h; exact decode_step (next_gt u) (by decide) (by simp) rfl
          · split
            · rename_i h; obtain ⟨rfl, _⟩ := h; exact decode_step (next_quot u) (by decide) (by simp) rfl
            · rename_i h _ _ _ _
              exact decode_no c u h

theorem decode_escape (attr : Bool) (s : List UInt8) : decode (escape attr s) = s := by
  have := decode_esc attr [] s
  rw [List.append_nil, decode_nil, List.append_nil] at this
  exact this

/-- Which bytes an escaped byte has. -/
theorem esc_no (attr : Bool) (c d : UInt8) (h : d ∈ esc attr c) : d ≠ 13 ∧ (attr = false → d ≠ 60 ∧ d ≠ 62) ∧ (attr = true → d ≠ 34) := by
  unfold esc at h
  split at h
  · simp at h; rcases h with rfl | rfl | rfl | rfl | rfl <;> simp
  · split at h
    · simp at h; rcases h with rfl | rfl | rfl | rfl | rfl <;> simp
    · split at h
      · simp at h; rcases h with rfl | rfl | rfl | rfl <;> simp
      · split at h
        · simp at h; rcases h with rfl | rfl | rfl | rfl <;> simp
        · split at h
          · simp at h; rcases h with rfl | rfl | rfl | rfl | rfl | rfl <;> simp
          · rename_i h1 h2 h3 h4 h5
            obtain rfl : d = c := by simpa using h
            exact ⟨h2, fun ha => ⟨fun e => h3 ⟨e, ha⟩, fun e => h4 ⟨e, ha⟩⟩, fun ha e => h5 ⟨e, ha⟩⟩

theorem escape_no (attr : Bool) (s : List UInt8) (d : UInt8) (h : d ∈ escape attr s) : d ≠ 13 ∧ (attr = false → d ≠ 60 ∧ d ≠ 62) ∧ (attr = true → d ≠ 34) := by
  obtain ⟨c, _, hc⟩ := List.mem_flatMap.1 h
  exact esc_no attr c d hc

theorem esc_ne (attr : Bool) (c : UInt8) : esc attr c ≠ [] := by
  unfold esc
  repeat' split
  all_goals simp
theorem esc_len (attr : Bool) (c : UInt8) : (esc attr c).length ≤ 6 := by
  unfold esc
  repeat' split
  all_goals simp
theorem escape_ne (attr : Bool) {s : List UInt8} (h : s ≠ []) : escape attr s ≠ [] := by
  cases s with
  | nil => exact absurd rfl h
  | cons c t =>
    intro h0
    have : esc attr c ++ escape attr t = [] := by simpa [escape] using h0
    exact esc_ne attr c (List.append_eq_nil_iff.1 this).1
theorem escape_len (attr : Bool) : ∀ s : List UInt8, (escape attr s).length ≤ 6 * s.length
  | [] => by simp [escape]
  | c :: t => by
    have h1 := escape_len attr t
    have h2 := esc_len attr c
    have e1 : escape attr (c :: t) = esc attr c ++ escape attr t := by simp [escape]
    rw [e1, List.length_append, List.length_cons]
    omega

end E

namespace U

/-- A byte of ASCII ahead. -/
theorem rep_ascii {c : UInt8} (h : c.toNat < 128) (r : List UInt8) : rep (c :: r) = c :: rep r := by
  have hs : sz (c :: r) = 1 := by
    have : rng (c :: r) 0 0 127 = true := by rw [rng_iff]; exact ⟨by simp, by simp, by show c.toNat ≤ 127; omega⟩
    unfold sz
    rw [if_pos this]
  rw [rep_cons _ (by simp)]
  unfold chunk adv
  rw [hs]
  rfl
theorem rep_asciis : ∀ (a r : List UInt8), (∀ c ∈ a, c.toNat < 128) → rep (a ++ r) = a ++ rep r
  | [], r, _ => rfl
  | c :: a, r, h => by
    rw [List.cons_append, rep_ascii (h c (by simp)), rep_asciis a r (fun d hd => h d (by simp [hd]))]; rfl
/-- A text that is its own repaired form ahead. -/
theorem rep_self {s : List UInt8} (h : rep s = s) (r : List UInt8) : rep (s ++ r) = s ++ rep r := by
  have h1 := pts_rep s.length s r (Nat.le_refl _)
  rw [h] at h1
  show (pts (s ++ r)).flatten = s ++ (pts r).flatten
  rw [h1, List.flatten_append]
  show rep s ++ _ = _
  rw [h]

/-- The bytes of a sequence of more than one are no bytes of ASCII. -/
theorem sz_high (u : List UInt8) (i : Nat) (hi : i < sz u) (h1 : sz u ≠ 1) : 128 ≤ (u.getD i 0).toNat := by
  rcases sz_cases u with ⟨e, hc⟩ | ⟨e, hc⟩ | ⟨e, hc⟩ | ⟨e, hc⟩ | ⟨e, _⟩
  · exact absurd e h1
  · unfold two at hc
    rcases (by omega : i = 0 ∨ i = 1) with rfl | rfl <;> omega
  · unfold three sec at hc
    rcases (by omega : i = 0 ∨ i = 1 ∨ i = 2) with rfl | rfl | rfl <;> omega
  · unfold four sec at hc
    rcases (by omega : i = 0 ∨ i = 1 ∨ i = 2 ∨ i = 3) with rfl | rfl | rfl | rfl <;> omega
  · omega

theorem esc_high (attr : Bool) : ∀ (l : List UInt8), (∀ c ∈ l, 128 ≤ c.toNat) → E.escape attr l = l
  | [], _ => rfl
  | c :: t, h => by
    have hc := h c (by simp)
    have ih := esc_high attr t (fun d hd => h d (by simp [hd]))
    have e1 : E.escape attr (c :: t) = E.esc attr c ++ E.escape attr t := by simp [E.escape]
    have ne : ∀ n : UInt8, n.toNat < 128 → c ≠ n := by rintro n hn rfl; omega
    rw [e1, ih]
    unfold E.esc
    rw [if_neg (ne 38 (by decide)), if_neg (ne 13 (by decide)), if_neg (fun h => ne 60 (by decide) h.1), if_neg (fun h => ne 62 (by decide) h.1), if_neg (fun h => ne 34 (by decide) h.1)]
    rfl

theorem esc_low (attr : Bool) (c : UInt8) (h : c.toNat < 128) : ∀ d ∈ E.esc attr c, d.toNat < 128 := by
  unfold E.esc
  split
  · decide
  · split
    · decide
    · split
      · decide
      · split
        · decide
        · split
          · decide
          · intro d hd
            obtain rfl : d = c := by simpa using hd
            exact h

theorem rep_head {s : List UInt8} (h : rep s = s) (hs : s ≠ []) : sz s ≠ 0 ∧ rep (s.drop (sz s)) = s.drop (sz s) := by
  have h1 := rep_cons s hs
  rw [h] at h1
  by_cases h0 : sz s = 0
  · exfalso
    unfold chunk at h1
    rw [if_pos h0] at h1
    have h2 := sz_fffd (rep (s.drop (adv s)))
    rw [h1] at h0
    have h3 : [239, 191, 189] ++ rep (s.drop (adv s)) = 239 :: 191 :: 189 :: rep (s.drop (adv s)) := rfl
    rw [h3] at h0
    omega
  · refine ⟨h0, ?_⟩
    unfold chunk adv at h1
    rw [if_neg h0, if_neg h0] at h1
    have h2 : s.take (sz s) ++ s.drop (sz s) = s.take (sz s) ++ rep (s.drop (sz s)) := by rw [← h1, List.take_append_drop]
    exact (List.append_cancel_left h2).symm

/-- An escaped text is its own repaired form, if the text is. -/
theorem rep_escape (attr : Bool) (r : List UInt8) : ∀ (n : Nat) (s : List UInt8), s.length ≤ n → rep s = s → rep (E.escape attr s ++ r) = E.escape attr s ++ rep r
  | 0, s, hn, _ => by
    have : s = [] := List.eq_nil_of_length_eq_zero (by omega)
    subst this; rfl
  | n + 1, s, hn, h => by
    by_cases hs : s = []
    · subst hs; rfl
    · obtain ⟨h0, hd⟩ := rep_head h hs
      have hz := sz_le s
      have ih := rep_escape attr r n (s.drop (sz s)) (by rw [List.length_drop]; omega) hd
      have e1 : E.escape attr s = E.escape attr (s.take (sz s)) ++ E.escape attr (s.drop (sz s)) := by
        have h5 := congrArg (E.escape attr) (List.take_append_drop (sz s) s)
        unfold E.escape at h5 ⊢
        rw [← h5, List.flatMap_append]
      rw [e1, List.append_assoc, List.append_assoc]
      by_cases h1 : sz s = 1
      · cases s with
        | nil => exact absurd rfl hs
        | cons c t =>
          have hc : c.toNat < 128 := by
            rcases sz_cases (c :: t) with ⟨e, hc⟩ | ⟨e, hc⟩ | ⟨e, hc⟩ | ⟨e, hc⟩ | ⟨e, _⟩
            · have : c.toNat ≤ 127 := hc.2
              omega
            all_goals omega
          have e2 : E.escape attr ((c :: t).take (sz (c :: t))) = E.esc attr c := by rw [h1]; simp [E.escape]
          rw [e2, rep_asciis _ _ (esc_low attr c hc), ih]
      · have hch : chunk s = s.take (sz s) := by unfold chunk; rw [if_neg h0]
        have e2 : E.escape attr (s.take (sz s)) = chunk s := by
          rw [hch]
          refine esc_high attr _ (fun c hc => ?_)
          obtain ⟨i, hi, rfl⟩ := List.mem_iff_getElem.1 hc
          rw [List.length_take] at hi
          have := sz_high s i (by omega) h1
          rw [List.getElem_take]
          simpa [List.getD, (by omega : i < s.length)] using this
        have e3 : ∀ y, rep (chunk s ++ y) = chunk s ++ rep y := by
          intro y
          rw [rep_cons _ (ne_nil_chunk s y hs), chunk_chunk s y hs, adv_chunk s y hs, List.drop_left]
        rw [e2, e3, ih]

end U
end Go.Proofs.YtlnginciehjlnaaGreatDoor

namespace Go.Proofs.YtlnginciehjlnaaGreatDoor
namespace M

theorem no_doctype {s : List UInt8} (h : s.getD 1 0 ≠ 33 ∨ s.getD 0 0 ≠ 60) : has s doctype = false := by
  cases hd : has s doctype with
  | false => rfl
  | true =>
    exfalso
    simp only [has, Bool.and_eq_true, beq_iff_eq] at hd
    obtain ⟨t, rfl⟩ := has_head hd.2
    rcases h with h | h
    · exact h rfl
    · exact h rfl

theorem letter_ne {c d : UInt8} (h : letter c = true) (hd : letter d = false) : c ≠ d := by rintro rfl; rw [h] at hd; cases hd

theorem opening_ne {b c : UInt8} {r : List UInt8} (h : c ≠ 33) : opening.isPrefixOf (b :: c :: r) = false := by
  cases hp : opening.isPrefixOf (b :: c :: r) with
  | false => rfl
  | true =>
    obtain ⟨t, ht⟩ := List.isPrefixOf_iff_prefix.1 hp
    have : 60 :: 33 :: 45 :: 45 :: t = b :: c :: r := ht
    injection this with _ this
    injection this with this _
    exact absurd this.symm h

/-- At a start tag. -/
theorem normal_start (c : UInt8) (r : List UInt8) (h : letter c = true) : normal (60 :: c :: r) true = startTag (60 :: c :: r) true := by
  have h33 : c ≠ 33 := letter_ne h (by decide)
  rw [K.normal_go _ true (by simp), K.n2_start (opening_ne h33) (no_doctype (Or.inl h33)) (by show (letter c || _) = true; rw [h]; rfl) h]

/-- At an end tag. -/
theorem normal_end (c : UInt8) (r : List UInt8) (h : letter c = true) : normal (60 :: 47 :: c :: r) true = endTag (60 :: 47 :: c :: r) true := by
  have h62 : c ≠ 62 := letter_ne h (by decide)
  have h5 : [60, 47, 62].isPrefixOf (60 :: 47 :: c :: r) = false := by
    cases hp : [60, 47, 62].isPrefixOf (60 :: 47 :: c :: r) with
    | false => rfl
    | true =>
      obtain ⟨t, ht⟩ := List.isPrefixOf_iff_prefix.1 hp
      have : 60 :: 47 :: 62 :: t = 60 :: 47 :: c :: r := ht
      injection this with _ this
      injection this with _ this
      injection this with this _
      exact absurd this.symm h62
  rw [K.normal_go _ true (by simp), K.n2_end (opening_ne (by decide)) (no_doctype (Or.inl (by show (47 : UInt8) ≠ 33; decide))) rfl (by show letter 47 = false; decide) h5 (by show (((47 : UInt8) == 47) && decide (2 < (60 :: 47 :: c :: r).length) && letter c) = true; rw [h, decide_eq_true (by simp)]; rfl)]

/-- Where no construct begins. -/
theorem begins_ne {c : UInt8} (h : c ≠ 60) (r : List UInt8) : begins (c :: r) = false := by
  cases hb : begins (c :: r) with
  | false => rfl
  | true => exact absurd (K.begins_two hb).2 h
theorem normal_plain (c : UInt8) (r : List UInt8) (h : c ≠ 60) : normal (c :: r) true = plain (c :: r) true := by
  have h1 : opening.isPrefixOf (c :: r) = false := by
    cases hp : opening.isPrefixOf (c :: r) with
    | false => rfl
    | true =>
      obtain ⟨t, ht⟩ := List.isPrefixOf_iff_prefix.1 hp
      have : 60 :: 33 :: 45 :: 45 :: t = c :: r := ht
      injection this with this _
      exact absurd this.symm h
  rw [K.normal_go _ true (by simp), K.n2_plain h1 (no_doctype (Or.inr h)) (begins_ne h r)]

theorem step_nil (s : List UInt8) : (step [] s true).1 = normal s true := rfl

theorem nextAt_skip {b : List UInt8} (hb : begins b = true) : ∀ (a : List UInt8), 60 ∉ a → nextAt (a ++ b) = some a.length
  | [], _ => by
    rw [List.nil_append]; exact K.nextAt_yes hb
  | c :: a, h => by
    have hc : c ≠ 60 := fun e => h (by simp [e])
    rw [List.cons_append, K.nextAt_no (begins_ne hc _), nextAt_skip hb a (fun e => h (by simp [e]))]
    rfl

/-- A text ahead of a construct. -/
theorem run_text (a b : List UInt8) (ha : a ≠ []) (h : 60 ∉ a) (hb : begins b = true) : run [] (a ++ b) = .txt 3 (E.decode a) :: run [] b := by
  cases a with
  | nil => exact absurd rfl ha
  | cons c t =>
    have hc : c ≠ 60 := fun e => h (by simp [e])
    have hn := nextAt_skip hb t (fun e => h (by simp [e]))
    have hp : plain (c :: t ++ b) true = ⟨.txt 3 (E.decode (c :: t)), t.length + 1, true⟩ := by
      unfold plain
      rw [show (c :: t ++ b).drop 1 = t ++ b from rfl, hn]
      dsimp only
      rw [show (c :: t ++ b).take (t.length + 1) = c :: t from by
        have := List.take_left (l₁ := c :: t) (l₂ := b); rwa [List.length_cons] at this]
    have hs : (step [] (c :: t ++ b) true) = (⟨.txt 3 (E.decode (c :: t)), t.length + 1, true⟩, []) := by
      have h1 : (step [] (c :: t ++ b) true).1 = _ := (step_nil _).trans ((normal_plain c (t ++ b) hc).trans hp)
      have h2 : (step [] (c :: t ++ b) true).2 = [] := by
        rw [K.mode_eq, h1]; rfl
      exact Prod.ext h1 h2
    rw [run_ne [] (c :: t ++ b) (by simp), hs]
    dsimp only
    rw [if_neg (by show ¬ (3 = 0); decide)]
    congr 2
    have := List.drop_left (l₁ := c :: t) (l₂ := b); rwa [List.length_cons] at this
theorem run_last (a : List UInt8) (ha : a ≠ []) (h : 60 ∉ a) : run [] a = [.txt 3 (E.decode a)] := by
  cases a with
  | nil => exact absurd rfl ha
  | cons c t =>
    have hc : c ≠ 60 := fun e => h (by simp [e])
    have hn : ∀ t : List UInt8, 60 ∉ t → nextAt t = none := by
      intro t ht
      induction t with
      | nil => rfl
      | cons d t ih =>
        have hd : d ≠ 60 := fun e => ht (by simp [e])
        rw [K.nextAt_no (begins_ne hd _), ih (fun e => ht (by simp [e]))]; rfl
    have hp : plain (c :: t) true = ⟨.txt 3 (E.decode (c :: t)), (c :: t).length, true⟩ := by
      unfold plain
      rw [show (c :: t).drop 1 = t from rfl, hn t (fun e => h (by simp [e]))]
    have hs : (step [] (c :: t) true) = (⟨.txt 3 (E.decode (c :: t)), (c :: t).length, true⟩, []) := by
      have h1 : (step [] (c :: t) true).1 = _ := (step_nil _).trans ((normal_plain c t hc).trans hp)
      have h2 : (step [] (c :: t) true).2 = [] := by
        rw [K.mode_eq, h1]; rfl
      exact Prod.ext h1 h2
    rw [run_ne [] (c :: t) (by simp), hs]
    dsimp only
    rw [if_neg (by show ¬ (3 = 0); decide), List.drop_length, run_nil]

/-- What is left is the end of the text. -/
theorem value_suffix {r v u : List UInt8} (h : value r = some (v, u)) : u <:+ r := by
  have h0 := List.dropWhile_suffix (l := r) T.sp
  unfold value at h
  split at h
  · cases h
  · rename_i c t heq
    rw [heq] at h0
    split at h
    · split at h
      · cases h
      · rw [← (Prod.mk.inj (Option.some.inj h)).2]
        exact ((List.drop_suffix _ t).trans (List.suffix_cons c t)).trans h0
    · split at h
      · cases h
      · rw [← (Prod.mk.inj (Option.some.inj h)).2]
        exact (List.dropWhile_suffix inValue).trans h0
theorem attr_suffix {c : UInt8} {r u : List UInt8} {a : List UInt8 × List UInt8} (h : attr c r = some (a, u)) : u <:+ r := by
  have h0 := List.dropWhile_suffix (l := r) inName
  unfold attr at h
  split at h
  · cases h
  · have h1 := (List.dropWhile_suffix (l := r.dropWhile inName) T.sp).trans h0
    split at h
    · cases h
    · rename_i d t heq
      rw [heq] at h1
      split at h
      · split at h
        · cases h
        · rename_i v u' hv
          rw [← (Prod.mk.inj (Option.some.inj h)).2]
          exact ((value_suffix hv).trans (List.suffix_cons d t)).trans h1
      · rw [← (Prod.mk.inj (Option.some.inj h)).2]
        exact h1
theorem tagLoop_suffix : ∀ (n : Nat) (l : List (List UInt8 × List UInt8)) (r : List UInt8) {y : List (List UInt8 × List UInt8) × Bool × List UInt8}, tagLoop n l r = some y → y.2.2 <:+ r
  | 0, l, r, _, h => by cases h
  | n + 1, l, r, y, h => by
    have h0 := List.dropWhile_suffix (l := r) skips
    unfold tagLoop at h
    split at h
    · cases h
    · rename_i d t heq
      rw [heq] at h0
      split at h
      · rw [← Option.some.inj h]
        exact (List.suffix_cons d t).trans h0
      · split at h
        · cases h
        · rename_i a u hv
          exact ((tagLoop_suffix n _ _ h).trans ((attr_suffix hv).trans (List.suffix_cons d t))).trans h0
theorem start_suffix {r u : List UInt8} {t : Tok} (h : start r = some (t, u)) : u <:+ r := by
  unfold start at h
  split at h
  · cases h
  · rename_i l c u' hv
    rw [← (Prod.mk.inj (Option.some.inj h)).2]
    exact (tagLoop_suffix _ _ _ hv).trans (List.dropWhile_suffix goesOn)

/-- A start tag that is read whole. -/
theorem run_tag (c : UInt8) (r u : List UInt8) (t : Tok) (h : letter c = true) (hst : start (c :: r) = some (t, u)) : run [] (60 :: c :: r) = t :: run (if isRaw t.name || isPlain t.name then t.name else []) u := by
  have hk : t.kind = 1 := by
    unfold start at hst
    split at hst
    · cases hst
    · rw [← (Prod.mk.inj (Option.some.inj hst)).1]
  have hl := start_rest hst
  have hp : startTag (60 :: c :: r) true = ⟨t, (60 :: c :: r).length - u.length, true⟩ := by
    unfold startTag
    rw [show (60 :: c :: r).drop 1 = c :: r from rfl, hst]
  have h1 : (step [] (60 :: c :: r) true).1 = _ := (step_nil _).trans ((normal_start c r h).trans hp)
  have h2 : (step [] (60 :: c :: r) true).2 = if isRaw t.name || isPlain t.name then t.name else [] := by
    rw [K.mode_eq, h1]
    dsimp only
    rw [hk]
    simp
  rw [run_ne [] _ (by simp), h1, h2]
  dsimp only
  rw [if_neg (by rw [hk]; decide)]
  congr 2
  exact (List.suffix_iff_eq_drop.1 ((start_suffix hst).trans (List.suffix_cons 60 (c :: r)))).symm

theorem endTag_read (n r : List UInt8) (hn : ∀ c ∈ n, goesOn c = true) (d : UInt8) (hd : goesOn d = false) (i : Nat) (hi : idx [62] (60 :: 47 :: (n ++ d :: r)) = some i) : endTag (60 :: 47 :: (n ++ d :: r)) true = ⟨⟨2, lower n, [], false, []⟩, i + 1, true⟩ := by
  unfold endTag
  rw [hi]
  dsimp only
  have : (n ++ d :: r).takeWhile goesOn = n := by
    rw [List.takeWhile_append_of_pos hn, List.takeWhile_cons_of_neg (by rw [hd]; simp), List.append_nil]
  rw [show (60 :: 47 :: (n ++ d :: r)).drop 2 = n ++ d :: r from rfl, this]

/-- A start tag without attributes. -/
theorem start_bare (n x : List UInt8) (hn : ∀ c ∈ n, goesOn c = true) : start (n ++ 62 :: x) = some (⟨1, lower n, [], false, []⟩, x) := by
  have h1 : (n ++ 62 :: x).takeWhile goesOn = n := by
    rw [List.takeWhile_append_of_pos hn, List.takeWhile_cons_of_neg (by decide), List.append_nil]
  have h2 : (n ++ 62 :: x).dropWhile goesOn = 62 :: x := by
    rw [List.dropWhile_append_of_pos hn, List.dropWhile_cons_of_neg (by decide)]
  have h3 : (62 :: x).dropWhile skips = 62 :: x := List.dropWhile_cons_of_neg (by decide)
  have h4 : (62 :: x).takeWhile skips = [] := List.takeWhile_cons_of_neg (by decide)
  unfold start
  rw [h1, h2, K.tag_close h3, h4]
  rfl

def P : Tok := ⟨1, [112], [], false, []⟩
def Q : Tok := ⟨2, [112], [], false, []⟩

theorem run_end_p : run [] [60, 47, 112, 62] = [Q] := by
  have h1 : (step [] [60, 47, 112, 62] true).1 = ⟨Q, 4, true⟩ := (step_nil _).trans ((normal_end 112 [62] (by decide)).trans rfl)
  have h2 : (step [] [60, 47, 112, 62] true).2 = [] := by rw [K.mode_eq, h1]; rfl
  rw [run_ne [] _ (by simp), h1, h2]
  dsimp only
  rw [if_neg (by decide)]
  show Q :: run [] [] = [Q]
  rw [run_nil]

/-- An escaped text between two tags. -/
theorem run_texts (s : List UInt8) : run [] ([60, 112, 62] ++ (E.escape false s ++ [60, 47, 112, 62])) = if s = [] then [P, Q] else [P, .txt 3 s, Q] := by
  have h1 := run_tag 112 (62 :: (E.escape false s ++ [60, 47, 112, 62])) _ P (by decide) (start_bare [112] _ (by decide))
  have h1' : run [] ([60, 112, 62] ++ (E.escape false s ++ [60, 47, 112, 62])) = P :: run [] (E.escape false s ++ [60, 47, 112, 62]) := h1
  rw [h1']
  split
  · rename_i h; subst h
    show P :: run [] [60, 47, 112, 62] = _
    rw [run_end_p]
  · rename_i h
    rw [run_text _ _ (E.escape_ne false h) (fun hm => (E.escape_no false s 60 hm).2.1 rfl |>.1 rfl) (by decide), run_end_p, E.decode_escape]

/-- The end of a raw element is not found before it stands. -/
theorem shutAt_skip (raw tail : List UInt8) (ht : shut ([60, 47] ++ raw) (60 :: tail) = true) : ∀ (s : List UInt8), idx [60, 47] s = none → s.getLast? ≠ some 60 → shutAt ([60, 47] ++ raw) (s ++ 60 :: tail) = some s.length
  | [], _, _ => by
    rw [List.nil_append]
    exact K.shutAt_yes (by rw [ht]; rfl)
  | c :: r, hi, hl => by
    have hp : [60, 47].isPrefixOf (c :: r) = false := by
      cases hp : [60, 47].isPrefixOf (c :: r) with
      | false => rfl
      | true => unfold idx at hi; rw [if_pos hp] at hi; cases hi
    have hi2 : idx [60, 47] r = none := by
      unfold idx at hi
      rw [hp] at hi
      simpa using hi
    have hl2 : r.getLast? ≠ some 60 := by
      cases r with
      | nil => simp
      | cons d t => rwa [List.getLast?_cons_cons] at hl
    have hno : (c == 60 && shut ([60, 47] ++ raw) (c :: (r ++ 60 :: tail))) = false := by
      cases hc : (c == 60) with
      | false => rfl
      | true =>
        have hc : c = 60 := by simpa using hc
        subst hc
        cases hs : shut ([60, 47] ++ raw) (60 :: (r ++ 60 :: tail)) with
        | false => rfl
        | true =>
          exfalso
          have hh := shut_head hs
          cases r with
          | nil => exact hl rfl
          | cons d t =>
            have hh : T.low 60 :: T.low d :: lower ((t ++ 60 :: tail).take raw.length) = 60 :: 47 :: raw := by simpa [lower] using hh
            injection hh with _ hh
            injection hh with hh _
            have := low_eq hh (by decide)
            subst this
            simp [List.isPrefixOf] at hp
    show shutAt ([60, 47] ++ raw) (c :: (r ++ 60 :: tail)) = some (c :: r).length
    rw [K.shutAt_no hno, shutAt_skip raw tail ht r hi2 hl2]
    rfl

/-- The text of a raw element. -/
theorem run_inner (raw s tail : List UInt8) (h0 : raw ≠ []) (ht : shut ([60, 47] ++ raw) (60 :: tail) = true) (hs : s ≠ []) (hi : idx [60, 47] s = none) (hl : s.getLast? ≠ some 60) :
    run raw (s ++ 60 :: tail) = .txt 3 (if isPlain raw then E.decode s else s) :: run raw (60 :: tail) := by
  have hat := shutAt_skip raw tail ht s hi hl
  obtain ⟨i, hi⟩ : ∃ i, s.length = i + 1 := ⟨s.length - 1, by have := ne_len hs; omega⟩
  have hst : step raw (s ++ 60 :: tail) true = (inner raw s true, raw) := by
    unfold step
    rw [if_neg h0]
    unfold rawStep
    rw [hat, hi]
    dsimp only
    rw [← hi, List.take_left]
  rw [run_ne raw _ (by simp [hs]), hst]
  dsimp only
  rw [if_neg (by show ¬ (3 = 0); decide)]
  show Tok.txt 3 _ :: run raw ((s ++ 60 :: tail).drop s.length) = _
  rw [List.drop_left]

/-- The end of a raw element, and what follows it. -/
theorem run_shut (raw n r : List UInt8) (h0 : raw ≠ []) (hn : ∀ c ∈ n, goesOn c = true) (hsh : shut ([60, 47] ++ raw) (60 :: 47 :: (n ++ 32 :: 62 :: r)) = true) (hi : idx [62] (60 :: 47 :: (n ++ 32 :: 62 :: r)) = some (n.length + 3)) :
    run raw (60 :: 47 :: (n ++ 32 :: 62 :: r)) = ⟨2, lower n, [], false, []⟩ :: run [] r := by
  have hat : shutAt ([60, 47] ++ raw) (60 :: 47 :: (n ++ 32 :: 62 :: r)) = some 0 := K.shutAt_yes (by rw [hsh]; rfl)
  have he := endTag_read n (62 :: r) hn 32 (by decide) (n.length + 3) hi
  have hst : step raw (60 :: 47 :: (n ++ 32 :: 62 :: r)) true = (⟨⟨2, lower n, [], false, []⟩, n.length + 4, true⟩, []) := by
    unfold step
    rw [if_neg h0]
    unfold rawStep
    rw [hat]
    dsimp only
    rw [he]
    rfl
  rw [run_ne raw _ (by simp), hst]
  dsimp only
  rw [if_neg (by decide)]
  congr 2
  have : (60 :: 47 :: (n ++ 32 :: 62 :: r)) = (60 :: 47 :: (n ++ [32, 62])) ++ r := by simp
  rw [this]
  exact List.drop_left' (by simp)

end M
end Go.Proofs.YtlnginciehjlnaaGreatDoor

namespace Go.Proofs.YtlnginciehjlnaaGreatDoor
namespace E

/-- The names in the order of the chapter. -/
def rtab : List (List UInt8 × List UInt8) :=
  [([97, 109, 112], [38]), ([108, 116], [60]), ([103, 116], [62]), ([113, 117, 111, 116], [34]), ([97, 112, 111, 115], [39]), ([110, 98, 115, 112], [194, 160]), ([99, 111, 112, 121], [194, 169]), ([114, 101, 103], [194, 174]),
   ([116, 114, 97, 100, 101], [226, 132, 162]), ([104, 101, 108, 108, 105, 112], [226, 128, 166]), ([109, 100, 97, 115, 104], [226, 128, 148]), ([110, 100, 97, 115, 104], [226, 128, 147]), ([108, 115, 113, 117, 111], [226, 128, 152]), ([114, 115, 113, 117, 111], [226, 128, 153]),
   ([108, 100, 113, 117, 111], [226, 128, 156]), ([114, 100, 113, 117, 111], [226, 128, 157]), ([98, 117, 108, 108], [226, 128, 162]), ([109, 105, 100, 100, 111, 116], [194, 183]), ([116, 105, 109, 101, 115], [195, 151]), ([100, 105, 118, 105, 100, 101], [195, 183]),
   ([100, 101, 103], [194, 176]), ([112, 108, 117, 115, 109, 110], [194, 177]), ([101, 117, 114, 111], [226, 130, 172]), ([112, 111, 117, 110, 100], [194, 163]), ([121, 101, 110], [194, 165]), ([99, 101, 110, 116], [194, 162]), ([115, 101, 99, 116], [194, 167]), ([112, 97, 114, 97], [194, 182]),
   ([108, 97, 114, 114], [226, 134, 144]), ([114, 97, 114, 114], [226, 134, 146])]

theorem rtab_in : ∀ p ∈ rtab, p ∈ tab := by decide +kernel
theorem tab_in : ∀ p ∈ tab, p ∈ rtab := by decide +kernel
theorem tab_one : ∀ p ∈ tab, ∀ q ∈ tab, (p.1 ++ [59]).isPrefixOf (q.1 ++ [59]) = true → p = q := by decide +kernel

theorem tab_unique {t : List UInt8} {p q : List UInt8 × List UInt8} (hp : p ∈ tab) (hq : q ∈ tab) (h1 : (p.1 ++ [59]).isPrefixOf t = true) (h2 : (q.1 ++ [59]).isPrefixOf t = true) : p = q := by
  rw [List.isPrefixOf_iff_prefix] at h1 h2
  rcases Nat.le_total (p.1 ++ [59]).length (q.1 ++ [59]).length with h | h
  · exact tab_one p hp q hq (List.isPrefixOf_iff_prefix.2 (List.prefix_of_prefix_length_le h1 h2 h))
  · exact (tab_one q hq p hp (List.isPrefixOf_iff_prefix.2 (List.prefix_of_prefix_length_le h2 h1 h))).symm

theorem named_r (s : List UInt8) : named s = rtab.find? fun p => (p.1 ++ [59]).isPrefixOf (s.drop 1) := by
  unfold named
  cases h1 : tab.find? (fun p => (p.1 ++ [59]).isPrefixOf (s.drop 1)) with
  | none =>
    cases h2 : rtab.find? (fun p => (p.1 ++ [59]).isPrefixOf (s.drop 1)) with
    | none => rfl
    | some q =>
      exfalso
      have hq := List.find?_some h2
      have := (List.find?_eq_none.1 h1) q (rtab_in q (List.mem_of_find?_eq_some h2))
      exact this hq
  | some p =>
    have hp := List.find?_some h1
    have hpm := List.mem_of_find?_eq_some h1
    cases h2 : rtab.find? (fun p => (p.1 ++ [59]).isPrefixOf (s.drop 1)) with
    | none =>
      exfalso
      exact (List.find?_eq_none.1 h2) p (tab_in p hpm) hp
    | some q =>
      have hq := List.find?_some h2
      rw [tab_unique hpm (rtab_in q (List.mem_of_find?_eq_some h2)) hp hq]

/-- The reference behind the tests for numbers: the names, then the short ones; a text that begins with no ampersand has none. -/
def rnext (s : List UInt8) : List UInt8 × Nat :=
  match rtab.find? (fun p => (38 :: (p.1 ++ [59])).isPrefixOf s) with
  | some p => (p.2, p.1.length + 2)
  | none => short s shorts

theorem find_amp (s : List UInt8) (h : [38].isPrefixOf s = true) : (rtab.find? fun p => (38 :: (p.1 ++ [59])).isPrefixOf s) = rtab.find? fun p => (p.1 ++ [59]).isPrefixOf (s.drop 1) := by
  cases s with
  | nil => cases h
  | cons c t =>
    have hc : c = 38 := by
      have h' : ((38 : UInt8) == c && true) = true := h
      rw [Bool.and_true, beq_iff_eq] at h'
      exact h'.symm
    subst hc
    simp [List.isPrefixOf]

theorem rnext_eq (s : List UInt8) : (if [38].isPrefixOf s then (match named s with | some p => (p.2, p.1.length + 2) | none => short s shorts) else ([], 0)) = rnext s := by
  unfold rnext
  split
  · rename_i h
    rw [find_amp s h, named_r]
  · rename_i h
    have hn : ∀ (p : List UInt8), (38 :: p).isPrefixOf s = false := by
      intro p
      cases s with
      | nil => rfl
      | cons c t =>
        have hc : (38 == c) = false := by
          cases hh : (38 == c) with
          | false => rfl
          | true => exact absurd (by simp [List.isPrefixOf, hh]) h
        simp [List.isPrefixOf, hc]
    have h1 : (rtab.find? fun p => (38 :: (p.1 ++ [59])).isPrefixOf s) = none := List.find?_eq_none.2 (fun p _ => by rw [hn]; simp)
    rw [h1]
    simp [short, shorts, hn]

end E
namespace M

/-- What stands ahead of a mark, and what stands behind it. -/
def cutT (p r : List UInt8) : List UInt8 × List UInt8 := match idx p r with | none => (r, []) | some i => (r.take i, r.drop (i + p.length))

theorem upto_cut (s mark : List UInt8) (skip kind : Nat) : (upto s skip mark kind true).tok = .txt kind (cutT mark (s.drop skip)).1 ∧ s.drop (upto s skip mark kind true).n = (cutT mark (s.drop skip)).2 := by
  unfold upto cutT
  cases idx mark (s.drop skip) with
  | none => exact ⟨rfl, List.drop_length⟩
  | some i =>
    refine ⟨rfl, ?_⟩
    show s.drop (skip + i + mark.length) = (s.drop skip).drop (i + mark.length)
    rw [List.drop_drop, Nat.add_assoc]

theorem run_norm {s : List UInt8} (hs : s ≠ []) {r : Res} (h : normal s true = r) (hk : r.tok.kind ≠ 1) : run [] s = if r.tok.kind = 0 then run [] (s.drop r.n) else r.tok :: run [] (s.drop r.n) := by
  have h1 : (step [] s true).1 = r := (step_nil s).trans h
  have h2 : (step [] s true).2 = [] := by
    rw [K.mode_eq, h1]
    have : (r.tok.kind == 1) = false := by simpa using hk
    rw [this]
    simp
  rw [run_ne [] s hs, h1, h2]

/-- A comment. -/
theorem run_open (s : List UInt8) (h : opening.isPrefixOf s = true) : run [] s = .txt 4 (cutT closing (s.drop 4)).1 :: run [] (cutT closing (s.drop 4)).2 := by
  have hs : s ≠ [] := by rintro rfl; cases h
  have hu := upto_cut s closing 4 4
  have hn : normal s true = upto s 4 closing 4 true := by rw [K.normal_go s true (by simp), K.n2_open h]
  rw [run_norm hs hn (by rw [hu.1]; show (4 : Nat) ≠ 1; decide), hu.1, hu.2]
  rfl

/-- An end tag. -/
theorem run_end (c : UInt8) (r : List UInt8) (h : letter c = true) : run [] (60 :: 47 :: c :: r) = match idx [62] (60 :: 47 :: c :: r) with
    | none => []
    | some n => ⟨2, lower ((c :: r).takeWhile goesOn), [], false, []⟩ :: run [] ((60 :: 47 :: c :: r).drop (n + 1)) := by
  have hn := normal_end c r h
  unfold endTag at hn
  cases hi : idx [62] (60 :: 47 :: c :: r) with
  | none =>
    rw [hi] at hn
    rw [run_norm (by simp) hn (by show (0 : Nat) ≠ 1; decide)]
    dsimp only
    rw [if_pos (show Tok.none.kind = 0 from rfl), List.drop_length, run_nil]
  | some n =>
    rw [hi] at hn
    rw [run_norm (by simp) hn (by show (2 : Nat) ≠ 1; decide)]
    rfl

/-- An empty end tag. -/
theorem run_skip (r : List UInt8) : run [] (60 :: 47 :: 62 :: r) = run [] r := by
  have hn : normal (60 :: 47 :: 62 :: r) true = ⟨.none, 3, true⟩ := by
    rw [K.normal_go _ true (by simp), K.n2_skip (opening_ne (by decide)) (no_doctype (Or.inl (by show (47 : UInt8) ≠ 33; decide))) rfl (by show letter 47 = false; decide) rfl]
  rw [run_norm (by simp) hn (by show (0 : Nat) ≠ 1; decide)]
  rfl

/-- A start tag that does not end. -/
theorem run_tag_none (c : UInt8) (r : List UInt8) (h : letter c = true) (hst : start (c :: r) = none) : run [] (60 :: c :: r) = [] := by
  have hp : normal (60 :: c :: r) true = ⟨.none, (60 :: c :: r).length, true⟩ := by
    rw [normal_start c r h]
    unfold startTag
    rw [show (60 :: c :: r).drop 1 = c :: r from rfl, hst]
  rw [run_norm (by simp) hp (by show (0 : Nat) ≠ 1; decide)]
  dsimp only
  rw [if_pos (show Tok.none.kind = 0 from rfl), List.drop_length, run_nil]

/-- Text up to the next construct. -/
def textEnd (s : List UInt8) : Nat := match nextAt (s.drop 1) with | none => s.length | some i => i + 1
theorem run_plain (s : List UInt8) (hs : s ≠ []) (h : begins s = false) : run [] s = .txt 3 (E.decode (s.take (textEnd s))) :: run [] (s.drop (textEnd s)) := by
  have h1 : opening.isPrefixOf s = false := by
    cases hp : opening.isPrefixOf s with
    | false => rfl
    | true =>
      obtain ⟨t, rfl⟩ := List.isPrefixOf_iff_prefix.1 hp
      exact absurd h (by show ¬ (begins (60 :: 33 :: 45 :: 45 :: t) = false); simp [begins])
  have h2 : has s doctype = false := by
    cases hd : has s doctype with
    | false => rfl
    | true =>
      simp only [has, Bool.and_eq_true, beq_iff_eq] at hd
      rw [has_begins hd.2] at h; cases h
  have hn : normal s true = ⟨.txt 3 (E.decode (s.take (textEnd s))), textEnd s, true⟩ := by
    rw [K.normal_go s true (by simp), K.n2_plain h1 h2 h]
    unfold plain textEnd
    cases nextAt (s.drop 1) with
    | none => dsimp only; rw [List.take_length]
    | some i => rfl
  rw [run_norm hs hn (by show (3 : Nat) ≠ 1; decide)]
  rfl

/-- The marks ahead of which nothing is read but a type or a comment. -/
def isDoc (s t : List UInt8) : Bool := [60, 33].isPrefixOf s && decide (7 ≤ t.length) && (lower (t.take 7) == [100, 111, 99, 116, 121, 112, 101])

theorem idx_no {c : UInt8} : ∀ (a b : List UInt8), c ∉ a → idx [c] (a ++ b) = (idx [c] b).map (· + a.length)
  | [], b, _ => by simp
  | d :: a, b, h => by
    have hd : d ≠ c := fun e => h (by simp [e])
    have hp : [c].isPrefixOf (d :: (a ++ b)) = false := by simp [List.isPrefixOf, Ne.symm hd]
    have e1 : idx [c] (d :: (a ++ b)) = (idx [c] (a ++ b)).map (· + 1) := by
      conv => lhs; unfold idx
      rw [hp]; rfl
    rw [List.cons_append, e1, idx_no a b (fun e => h (by simp [e]))]
    generalize idx [c] b = o
    cases o with
    | none => rfl
    | some i => simp; omega

theorem cut_no {c : UInt8} (a b : List UInt8) (h : c ∉ a) : cutT [c] (a ++ b) = (a ++ (cutT [c] b).1, (cutT [c] b).2) := by
  unfold cutT
  rw [idx_no a b h]
  cases hi : idx [c] b with
  | none => rfl
  | some i =>
    simp only [Option.map_some]
    rw [show i + a.length = a.length + i by omega, List.take_length_add_append, show a.length + i + [c].length = a.length + (i + [c].length) by omega, List.drop_length_add_append]

theorem run_mark (s : List UInt8) (h1 : opening.isPrefixOf s = false) (h2 : begins s = true) (h3 : letter (s.getD 1 0) = false) (h4 : [60, 47, 62].isPrefixOf s = false) (h5 : (s.getD 1 0 == 47 && letter (s.getD 2 0)) = false) :
    run [] s = (if isDoc s (cutT [62] (s.drop 2)).1 then .txt 5 (trim ((cutT [62] (s.drop 2)).1.drop 7)) else .txt 4 (cutT [62] (s.drop 2)).1) :: run [] (cutT [62] (s.drop 2)).2 := by
  have hs : s ≠ [] := by rintro rfl; cases h2
  have h5' : (s.getD 1 0 == 47 && decide (2 < s.length) && letter (s.getD 2 0)) = false := by
    cases ha : (s.getD 1 0 == 47) with
    | false => rfl
    | true => rw [ha] at h5; simp at h5 ⊢; intro _; exact h5
  cases hd : has s doctype with
  | true =>
    have hd' := hd
    simp only [has, Bool.and_eq_true, beq_iff_eq, decide_eq_true_eq] at hd'
    obtain ⟨hl9, hlow⟩ := hd'
    have hl9 : 9 ≤ s.length := hl9
    obtain ⟨t, rfl⟩ := has_head hlow
    have hu := upto_cut (60 :: 33 :: t) [62] 9 5
    have hn : normal (60 :: 33 :: t) true = ⟨.txt 5 (trim (cutT [62] ((60 :: 33 :: t).drop 9)).1), (upto (60 :: 33 :: t) 9 [62] 5 true).n, true⟩ := by
      rw [K.normal_go _ true (by simp), K.n2_doc h1 hd, hu.1, upto_true]
      rfl
    have h7 : lower (t.take 7) = [100, 111, 99, 116, 121, 112, 101] := by
      have : (60 : UInt8) :: 33 :: lower (t.take 7) = doctype := hlow
      injection this with _ this
      injection this
    have h62 : (62 : UInt8) ∉ t.take 7 := by
      intro hm
      have : (62 : UInt8) ∈ lower (t.take 7) := List.mem_map.2 ⟨62, hm, by decide⟩
      rw [h7] at this
      exact absurd this (by decide)
    have hc := cut_no (t.take 7) (t.drop 7) h62
    rw [List.take_append_drop] at hc
    have hl7 : (t.take 7).length = 7 := by rw [List.length_take]; simp at hl9; omega
    have e9 : (60 :: 33 :: t).drop 9 = t.drop 7 := rfl
    have e2 : (60 :: 33 :: t).drop 2 = t := rfl
    rw [run_norm hs hn (by show (5 : Nat) ≠ 1; decide)]
    rw [e9] at hu
    rw [e2, hc]
    have hdoc : isDoc (60 :: 33 :: t) (t.take 7 ++ (cutT [62] (t.drop 7)).1) = true := by
      unfold isDoc
      rw [List.length_append, hl7, decide_eq_true (by omega), List.take_left' hl7, h7]
      rfl
    dsimp only
    rw [hdoc, if_pos rfl, if_neg (by show ¬ (5 = 0); decide), hu.2, List.drop_left' hl7]
    rfl
  | false =>
    have hu := upto_cut s [62] 2 4
    have hn : normal s true = upto s 2 [62] 4 true := by
      rw [K.normal_go _ true (by simp), K.n2_rest h1 hd h2 h3 h4 h5']
    rw [run_norm hs hn (by rw [hu.1]; show (4 : Nat) ≠ 1; decide), hu.1, hu.2]
    have hdoc : isDoc s (cutT [62] (s.drop 2)).1 = false := by
      cases hh : isDoc s (cutT [62] (s.drop 2)).1 with
      | false => rfl
      | true =>
        exfalso
        unfold isDoc at hh
        simp only [Bool.and_eq_true, beq_iff_eq, decide_eq_true_eq] at hh
        obtain ⟨⟨hp, hl⟩, hlow⟩ := hh
        obtain ⟨t, rfl⟩ := List.isPrefixOf_iff_prefix.1 hp
        have e2 : ([60, 33] ++ t).drop 2 = t := rfl
        rw [e2] at hl hlow
        have hpre : (cutT [62] t).1 <+: t := by
          unfold cutT
          cases idx [62] t with
          | none => exact List.prefix_refl _
          | some i => exact List.take_prefix _ _
        have ht7 : (cutT [62] t).1.take 7 = t.take 7 := by
          obtain ⟨u, hu⟩ := hpre
          conv => rhs; rw [← hu]
          rw [List.take_append_of_le_length hl]
        have hlt : 7 ≤ t.length := Nat.le_trans hl hpre.length_le
        have : has ([60, 33] ++ t) doctype = true := by
          unfold has
          rw [decide_eq_true (by simp [doctype]; omega)]
          rw [ht7] at hlow
          have h9 : lower (([60, 33] ++ t).take doctype.length) = 60 :: 33 :: lower (t.take 7) := rfl
          rw [h9, hlow]
          rfl
        rw [this] at hd
        cases hd
    rw [hdoc]
    rfl

/-- Where the end of a raw element stands, it is read as in the normal mode. -/
theorem run_shut_normal {raw s : List UInt8} (hm : Mode raw) (h0 : raw ≠ []) (h : shutAt ([60, 47] ++ raw) s = some 0) : run raw s = run [] s := by
  obtain ⟨c, t, rfl, hc⟩ := shut_form hm h0 (shut_zero h)
  have he := normal_end c t hc
  have hk : (endTag (60 :: 47 :: c :: t) true).tok.kind ≠ 1 := by
    unfold endTag
    split
    · show (0 : Nat) ≠ 1; decide
    · show (2 : Nat) ≠ 1; decide
  have hst : step raw (60 :: 47 :: c :: t) true = (endTag (60 :: 47 :: c :: t) true, []) := by
    unfold step
    rw [if_neg h0]
    unfold rawStep
    rw [h]
    dsimp only
    rw [endTag_true]
    rfl
  rw [run_norm (by simp) he hk, run_ne raw _ (by simp), hst]

/-- The place where a raw element ends. -/
def shutEnd (raw s : List UInt8) : Nat := match shutAt ([60, 47] ++ raw) s with | none => s.length | some i => i

theorem shutAt_drop (mark : List UInt8) : ∀ (s : List UInt8) (i : Nat), shutAt mark s = some i → shutAt mark (s.drop i) = some 0
  | [], i, h => by cases h
  | c :: r, i, h => by
    have h' := h
    unfold shutAt at h
    split at h
    · obtain rfl : 0 = i := by simpa using h
      exact h'
    · cases hx : shutAt mark r with
      | none => rw [hx] at h; cases h
      | some j =>
        rw [hx] at h
        obtain rfl : j + 1 = i := by simpa using h
        exact shutAt_drop mark r j hx

theorem run_raw {raw : List UInt8} (s : List UInt8) (hm : Mode raw) (h0 : raw ≠ []) :
    run raw s = (if s.take (shutEnd raw s) = [] then [] else [.txt 3 (if isPlain raw then E.decode (s.take (shutEnd raw s)) else s.take (shutEnd raw s))]) ++ run [] (s.drop (shutEnd raw s)) := by
  by_cases hs : s = []
  · subst hs; simp [run_nil, shutEnd, shutAt]
  · unfold shutEnd
    cases hi : shutAt ([60, 47] ++ raw) s with
    | none =>
      have hst : step raw s true = (inner raw s true, raw) := by
        unfold step
        rw [if_neg h0]
        unfold rawStep
        rw [hi]
      dsimp only
      rw [List.take_length, List.drop_length, if_neg hs, run_nil, run_ne raw s hs, hst]
      dsimp only
      rw [if_neg (by show ¬ (3 = 0); decide)]
      show Tok.txt 3 _ :: run raw (s.drop s.length) = _
      rw [List.drop_length, run_nil]
      rfl
    | some i =>
      have hd := run_shut_normal hm h0 (shutAt_drop _ s i hi)
      cases i with
      | zero =>
        dsimp only
        rw [List.take_zero, if_pos rfl, List.nil_append]
        exact hd
      | succ i =>
        have hst : step raw s true = (inner raw (s.take (i + 1)) true, raw) := by
          unfold step
          rw [if_neg h0]
          unfold rawStep
          rw [hi]
        have hl := shutAt_lt _ _ _ hi
        have hne : s.take (i + 1) ≠ [] := by
          intro h
          have := congrArg List.length h
          rw [List.length_take, Nat.min_eq_left (by omega)] at this
          simp at this
        dsimp only
        rw [if_neg hne, run_ne raw s hs, hst]
        dsimp only
        rw [if_neg (by show ¬ (3 = 0); decide)]
        show Tok.txt 3 _ :: run raw (s.drop (s.take (i + 1)).length) = _
        rw [List.length_take, Nat.min_eq_left (by omega), hd]
        rfl

end M
end Go.Proofs.YtlnginciehjlnaaGreatDoor

namespace Go.Proofs.YtlnginciehjlnaaGreatDoor
namespace M

/-- A name of small letters. -/
def Small (n : List UInt8) : Prop := n ≠ [] ∧ ∀ c ∈ n, 97 ≤ c.toNat ∧ c.toNat ≤ 122

theorem small_facts {c : UInt8} (h : 97 ≤ c.toNat ∧ c.toNat ≤ 122) : inName c = true ∧ skips c = false ∧ c ≠ 62 ∧ T.low c = c ∧ c.toNat < 128 ∧ c ≠ 13 := by
  have ne : ∀ n : UInt8, n.toNat < 97 → c ≠ n := by rintro n hn rfl; omega
  have b : ∀ n : UInt8, n.toNat < 97 → (c == n) = false := fun n hn => by simpa using ne n hn
  refine ⟨?_, ?_, ne 62 (by decide), ?_, by omega, ne 13 (by decide)⟩
  · unfold inName stops T.sp bne
    rw [b 61 (by decide), b 47 (by decide), b 62 (by decide), b 9 (by decide), b 10 (by decide), b 12 (by decide), b 13 (by decide), b 32 (by decide)]
    rfl
  · unfold skips T.sp
    rw [b 47 (by decide), b 9 (by decide), b 10 (by decide), b 12 (by decide), b 13 (by decide), b 32 (by decide)]
    rfl
  · unfold T.low; rw [if_neg (by omega)]

theorem small_lower {n : List UInt8} (h : Small n) : lower n = n := by
  have : ∀ l : List UInt8, (∀ c ∈ l, 97 ≤ c.toNat ∧ c.toNat ≤ 122) → lower l = l := by
    intro l
    induction l with
    | nil => intro _; rfl
    | cons c t ih =>
      intro h
      show T.low c :: lower t = c :: t
      rw [(small_facts (h c (by simp))).2.2.2.1, ih (fun d hd => h d (by simp [hd]))]
  exact this n h.2

def one (p : List UInt8 × List UInt8) : List UInt8 := 32 :: (p.1 ++ 61 :: 34 :: (E.escape true p.2 ++ [34]))
def attrsText (l : List (List UInt8 × List UInt8)) : List UInt8 := l.flatMap one

theorem attr_quoted (c : UInt8) (n v rest : List UInt8) (h : Small (c :: n)) : attr c (n ++ 61 :: 34 :: (E.escape true v ++ 34 :: rest)) = some ((c :: n, v), rest) := by
  have hn : ∀ d ∈ n, inName d = true := fun d hd => (small_facts (h.2 d (by simp [hd]))).1
  have h1 : (n ++ 61 :: 34 :: (E.escape true v ++ 34 :: rest)).dropWhile inName = 61 :: 34 :: (E.escape true v ++ 34 :: rest) := by
    rw [List.dropWhile_append_of_pos hn, List.dropWhile_cons_of_neg (by decide)]
  have h2 : (n ++ 61 :: 34 :: (E.escape true v ++ 34 :: rest)).takeWhile inName = n := by
    rw [List.takeWhile_append_of_pos hn, List.takeWhile_cons_of_neg (by decide), List.append_nil]
  have h3 : (61 :: 34 :: (E.escape true v ++ 34 :: rest)).dropWhile T.sp = 61 :: 34 :: (E.escape true v ++ 34 :: rest) := List.dropWhile_cons_of_neg (by decide)
  have h4 : (34 :: (E.escape true v ++ 34 :: rest)).dropWhile T.sp = 34 :: (E.escape true v ++ 34 :: rest) := List.dropWhile_cons_of_neg (by decide)
  have hi : idx [34] (E.escape true v ++ 34 :: rest) = some (E.escape true v).length := by
    have hno : ∀ (a b : List UInt8), (34 : UInt8) ∉ a → idx [34] (a ++ 34 :: b) = some a.length := by
      intro a b
      induction a with
      | nil => intro _; rfl
      | cons d a ih =>
        intro h
        have hd : d ≠ 34 := fun e => h (by simp [e])
        have hp : [34].isPrefixOf (d :: (a ++ 34 :: b)) = false := by simp [List.isPrefixOf, Ne.symm hd]
        rw [List.cons_append]
        unfold idx
        rw [hp, ih (fun e => h (by simp [e]))]
        rfl
    exact hno _ _ (fun hm => (E.escape_no true v 34 hm).2.2 rfl rfl)
  have hv : value (34 :: (E.escape true v ++ 34 :: rest)) = some (E.escape true v, rest) := by
    unfold value
    rw [h4]
    dsimp only
    rw [if_pos (by rfl), hi]
    dsimp only
    rw [List.take_left, show E.escape true v ++ 34 :: rest = (E.escape true v ++ [34]) ++ rest by simp, List.drop_left' (by simp)]
  have := K.attr_eq (c := c) (r := n ++ 61 :: 34 :: (E.escape true v ++ 34 :: rest)) (d := 61) (t := 34 :: (E.escape true v ++ 34 :: rest)) (by rw [h1]; simp) (by rw [h1]; exact h3)
  rw [this, if_pos (by rfl), hv, h2]
  dsimp only
  rw [E.decode_escape, small_lower h]

theorem tagLoop_attrs (tail : List UInt8) : ∀ (l acc : List (List UInt8 × List UInt8)) (n : Nat), (∀ p ∈ l, Small p.1) → l.Pairwise (fun p q => p.1 ≠ q.1) → (∀ p ∈ l, ∀ q ∈ acc, p.1 ≠ q.1) → acc.length + l.length ≤ 64 →
    tagLoop (n + l.length) acc (attrsText l ++ tail) = tagLoop n (acc ++ l) tail
  | [], acc, n, _, _, _, _ => by simp [attrsText]
  | (nm, v) :: l, acc, n, hs, hp, ha, hl => by
    have hsm : Small nm := hs (nm, v) (by simp)
    cases nm with
    | nil => exact absurd rfl hsm.1
    | cons c m =>
      have hc := small_facts (hsm.2 c (by simp))
      rw [List.length_cons] at hl ⊢
      have e1 : attrsText ((c :: m, v) :: l) ++ tail = 32 :: c :: (m ++ 61 :: 34 :: (E.escape true v ++ 34 :: (attrsText l ++ tail))) := by
        simp [attrsText, one]
      have hd : (32 :: c :: (m ++ 61 :: 34 :: (E.escape true v ++ 34 :: (attrsText l ++ tail)))).dropWhile skips = c :: (m ++ 61 :: 34 :: (E.escape true v ++ 34 :: (attrsText l ++ tail))) := by
        rw [List.dropWhile_cons_of_pos (by decide), List.dropWhile_cons_of_neg (by rw [hc.2.1]; simp)]
      rw [e1, show n + (l.length + 1) = (n + l.length) + 1 by omega, K.tag_attr hd hc.2.2.1, attr_quoted c m v _ hsm]
      dsimp only
      have hadd : add acc (c :: m, v) = acc ++ [(c :: m, v)] := by
        unfold add
        rw [if_neg, if_pos (by omega)]
        rw [List.any_eq_true]
        rintro ⟨q, hq, he⟩
        exact ha (c :: m, v) (by simp) q hq (by simpa using he)
      rw [List.pairwise_cons] at hp
      rw [hadd, tagLoop_attrs tail l _ n (fun p h => hs p (by simp [h])) hp.2 (fun p h q hq => by
        rcases List.mem_append.1 hq with hq | hq
        · exact ha p (by simp [h]) q hq
        · obtain rfl : q = (c :: m, v) := by simpa using hq
          exact (hp.1 p h).symm) (by simp; omega)]
      simp

/-- The document: a start tag with attributes, and a text. -/
def tagDoc (l : List (List UInt8 × List UInt8)) (closed : Bool) : List UInt8 := [60, 120] ++ (attrsText l ++ ((if closed then [47] else []) ++ [62, 121]))

theorem tail_end (l : List (List UInt8 × List UInt8)) (closed : Bool) (n : Nat) : tagLoop (n + 1) l ((if closed then [47] else []) ++ [62, 121]) = some (l, closed, [121]) := by
  cases closed with
  | true => exact (K.tag_close (n := n) (l := l) (r := [47, 62, 121]) (t := [121]) rfl).trans rfl
  | false => exact (K.tag_close (n := n) (l := l) (r := [62, 121]) (t := [121]) rfl).trans rfl

theorem run_tags (l : List (List UInt8 × List UInt8)) (closed : Bool) (hs : ∀ p ∈ l, Small p.1) (hp : l.Pairwise fun p q => p.1 ≠ q.1) (hl : l.length ≤ 64) :
    run [] (tagDoc l closed) = [⟨1, [120], l, closed, []⟩, .txt 3 [121]] := by
  have h1 : ∀ u : List UInt8, (attrsText l ++ ((if closed then [47] else []) ++ [62, 121])) = u → u.dropWhile goesOn = u ∧ u.takeWhile goesOn = [] := by
    intro u hu
    cases l with
    | nil =>
      cases closed with
      | true => subst hu; exact ⟨rfl, rfl⟩
      | false => subst hu; exact ⟨rfl, rfl⟩
    | cons p l =>
      have : u = 32 :: u.drop 1 := by rw [← hu]; simp [attrsText, one]
      rw [this]
      exact ⟨List.dropWhile_cons_of_neg (by decide), List.takeWhile_cons_of_neg (by decide)⟩
  have h2 := h1 _ rfl
  have hlen : l.length ≤ (attrsText l).length := by
    have : ∀ l : List (List UInt8 × List UInt8), l.length ≤ (attrsText l).length := by
      intro l
      induction l with
      | nil => simp
      | cons p l ih =>
        have : attrsText (p :: l) = one p ++ attrsText l := by simp [attrsText]
        rw [this, List.length_append, List.length_cons]
        have : 1 ≤ (one p).length := by simp [one]
        omega
    exact this l
  have hst : start (120 :: (attrsText l ++ ((if closed then [47] else []) ++ [62, 121]))) = some (⟨1, [120], l, closed, []⟩, [121]) := by
    obtain ⟨k, hk⟩ : ∃ k, (120 :: (attrsText l ++ ((if closed then [47] else []) ++ [62, 121]))).length + 1 = (k + 1) + l.length := ⟨(attrsText l ++ ((if closed then [47] else []) ++ [62, 121])).length + 1 - l.length, by simp only [List.length_cons, List.length_append]; omega⟩
    unfold start
    rw [hk, List.dropWhile_cons_of_pos (by decide), List.takeWhile_cons_of_pos (by decide), h2.1, h2.2, tagLoop_attrs _ l [] (k + 1) hs hp (fun p _ q hq => by cases hq) (by simpa using hl), List.nil_append, tail_end]
    rfl
  have h3 := run_tag 120 _ _ _ (by decide) hst
  have h4 : run [] (tagDoc l closed) = _ := h3
  rw [h4]
  dsimp only
  rw [if_neg (by decide), run_last [121] (by simp) (by decide)]
  rfl

theorem one_no13 (p : List UInt8 × List UInt8) (h : Small p.1) : (13 : UInt8) ∉ one p := by
  intro hm
  unfold one at hm
  simp only [List.mem_cons, List.mem_append, List.not_mem_nil, or_false] at hm
  rcases hm with hm | hm | hm | hm | hm | hm
  · cases hm
  · exact (small_facts (h.2 13 hm)).2.2.2.2.2 rfl
  · cases hm
  · cases hm
  · exact (E.escape_no true _ 13 hm).1 rfl
  · cases hm

theorem tagDoc_no13 (l : List (List UInt8 × List UInt8)) (closed : Bool) (hs : ∀ p ∈ l, Small p.1) : (13 : UInt8) ∉ tagDoc l closed := by
  intro hm
  unfold tagDoc at hm
  rcases List.mem_append.1 hm with hm | hm
  · revert hm; decide
  · rcases List.mem_append.1 hm with hm | hm
    · obtain ⟨p, hp, hm⟩ := List.mem_flatMap.1 hm
      exact one_no13 p (hs p hp) hm
    · revert hm; cases closed <;> decide

theorem attrsText_rep (x : List UInt8) : ∀ (l : List (List UInt8 × List UInt8)), (∀ p ∈ l, Small p.1 ∧ U.rep p.2 = p.2) → U.rep (attrsText l ++ x) = attrsText l ++ U.rep x
  | [], _ => rfl
  | p :: l, h => by
    have hp := h p (by simp)
    have e1 : attrsText (p :: l) ++ x = (32 :: (p.1 ++ [61, 34])) ++ (E.escape true p.2 ++ (34 :: (attrsText l ++ x))) := by simp [attrsText, one]
    have e2 : attrsText (p :: l) ++ U.rep x = (32 :: (p.1 ++ [61, 34])) ++ (E.escape true p.2 ++ (34 :: (attrsText l ++ U.rep x))) := by simp [attrsText, one]
    rw [e1, e2, U.rep_asciis _ _ (fun c hc => by
      simp only [List.mem_cons, List.mem_append, List.not_mem_nil, or_false] at hc
      rcases hc with rfl | hc | rfl | rfl
      · decide
      · exact (small_facts (hp.1.2 c hc)).2.2.2.2.1
      · decide
      · decide), U.rep_escape true _ p.2.length p.2 (Nat.le_refl _) hp.2, U.rep_ascii (by decide), attrsText_rep x l (fun q hq => h q (by simp [hq]))]

theorem tagDoc_rep (l : List (List UInt8 × List UInt8)) (closed : Bool) (h : ∀ p ∈ l, Small p.1 ∧ U.rep p.2 = p.2) : U.rep (tagDoc l closed) = tagDoc l closed := by
  unfold tagDoc
  rw [U.rep_asciis _ _ (by decide), attrsText_rep _ l h]
  have : U.rep ((if closed then [47] else []) ++ [62, 121]) = (if closed then [47] else []) ++ [62, 121] := by cases closed <;> decide
  rw [this]

/-- The document of MarkupTexts. -/
def textDoc (s : List UInt8) : List UInt8 := [60, 112, 62] ++ (E.escape false s ++ [60, 47, 112, 62])
theorem textDoc_rep (s : List UInt8) (h : U.rep s = s) : U.rep (textDoc s) = textDoc s := by
  unfold textDoc
  rw [U.rep_asciis _ _ (by decide), U.rep_escape false _ s.length s (Nat.le_refl _) h]
  have : U.rep [60, 47, 112, 62] = [60, 47, 112, 62] := by decide
  rw [this]
theorem textDoc_no13 (s : List UInt8) : (13 : UInt8) ∉ textDoc s := by
  intro hm
  unfold textDoc at hm
  rcases List.mem_append.1 hm with hm | hm
  · revert hm; decide
  · rcases List.mem_append.1 hm with hm | hm
    · exact (E.escape_no false s 13 hm).1 rfl
    · revert hm; decide

/-- The document of MarkupRaw: n the name, m the name in capital letters. -/
def rawDoc (n m s : List UInt8) : List UInt8 := (60 :: n ++ [62]) ++ (s ++ (60 :: 47 :: (m ++ 32 :: 62 :: [122])))
theorem rawDoc_rep (n m s : List UInt8) (hn : ∀ c ∈ n, c.toNat < 128) (hm : ∀ c ∈ m, c.toNat < 128) (h : U.rep s = s) : U.rep (rawDoc n m s) = rawDoc n m s := by
  unfold rawDoc
  rw [U.rep_asciis _ _ (fun c hc => by
    rcases List.mem_append.1 hc with hc | hc
    · rcases List.mem_cons.1 hc with rfl | hc
      · decide
      · exact hn c hc
    · obtain rfl : c = 62 := by simpa using hc
      decide), U.rep_self h]
  have := U.rep_asciis (60 :: 47 :: (m ++ 32 :: 62 :: [122])) [] (fun c hc => by
    rcases List.mem_cons.1 hc with rfl | hc
    · decide
    · rcases List.mem_cons.1 hc with rfl | hc
      · decide
      · rcases List.mem_append.1 hc with hc | hc
        · exact hm c hc
        · have : ∀ c ∈ [(32 : UInt8), 62, 122], c.toNat < 128 := by decide
          exact this c hc)
  rw [List.append_nil, U.rep_nil, List.append_nil] at this
  rw [this]
theorem rawDoc_no13 (n m s : List UInt8) (hn : (13 : UInt8) ∉ n) (hm : (13 : UInt8) ∉ m) (h : (13 : UInt8) ∉ s) : (13 : UInt8) ∉ rawDoc n m s := by
  unfold rawDoc
  simp [hn, hm, h]

theorem run_rawDoc (n m s : List UInt8) (hmode : isRaw n = true ∨ isPlain n = true) (hcap : (n, m) ∈ [([115, 99, 114, 105, 112, 116], [83, 67, 82, 73, 80, 84]), ([115, 116, 121, 108, 101], [83, 84, 89, 76, 69]), ([116, 105, 116, 108, 101], [84, 73, 84, 76, 69]), (([116, 101, 120, 116, 97, 114, 101, 97] : List UInt8), ([84, 69, 88, 84, 65, 82, 69, 65] : List UInt8))])
    (hi : idx [60, 47] s = none) (hl : s.getLast? ≠ some 60) :
    run [] (rawDoc n m s) = ⟨1, n, [], false, []⟩ :: ((if s = [] then [] else [.txt 3 (if isPlain n then E.decode s else s)]) ++ [⟨2, n, [], false, []⟩, .txt 3 [122]]) := by
  have fin : ∀ (n m : List UInt8), Mode n → n ≠ [] → (∃ c r, n = c :: r ∧ letter c = true) → (∀ c ∈ n, goesOn c = true) → (∀ c ∈ m, goesOn c = true) → lower n = n → lower m = n → shut ([60, 47] ++ n) (60 :: 47 :: (m ++ 32 :: 62 :: [122])) = true →
      idx [62] (60 :: 47 :: (m ++ 32 :: 62 :: [122])) = some (m.length + 3) → (isRaw n || isPlain n) = true →
      run [] (rawDoc n m s) = ⟨1, n, [], false, []⟩ :: ((if s = [] then [] else [.txt 3 (if isPlain n then E.decode s else s)]) ++ [⟨2, n, [], false, []⟩, .txt 3 [122]]) := by
    intro n m hmd h0 hlet hn hm hln hlm hsh hix hrp
    obtain ⟨c, r, rfl, hc⟩ := hlet
    have hst := start_bare (c :: r) (s ++ (60 :: 47 :: (m ++ 32 :: 62 :: [122]))) hn
    rw [hln] at hst
    have h1 := run_tag c _ _ _ hc hst
    have h2 : rawDoc (c :: r) m s = 60 :: c :: r.append (62 :: (s ++ 60 :: 47 :: (m ++ [32, 62, 122]))) := by
      unfold rawDoc
      simp
    rw [h2, h1]
    dsimp only
    rw [if_pos hrp]
    congr 1
    have h3 := run_shut (c :: r) m [122] h0 hm hsh hix
    rw [hlm, run_last [122] (by simp) (by decide)] at h3
    by_cases hs : s = []
    · subst hs
      rw [if_pos rfl, List.nil_append, List.nil_append]
      exact h3
    · rw [if_neg hs, run_inner (c :: r) s _ h0 hsh hs hi hl]
      rw [h3]
      rfl
  simp only [List.mem_cons, Prod.mk.injEq, List.not_mem_nil, or_false] at hcap
  rcases hcap with ⟨rfl, rfl⟩ | ⟨rfl, rfl⟩ | ⟨rfl, rfl⟩ | ⟨rfl, rfl⟩
  all_goals exact fin _ _ (Or.inr (by decide)) (by simp) ⟨_, _, rfl, by decide⟩ (by decide) (by decide) (by decide) (by decide) (by decide) (by decide) (by decide)

end M
end Go.Proofs.YtlnginciehjlnaaGreatDoor
