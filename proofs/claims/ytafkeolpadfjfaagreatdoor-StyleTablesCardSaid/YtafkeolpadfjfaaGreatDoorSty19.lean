/- A written number is read as what it was. No program in sight. The reference's way to the longhands comes to the same as the program's. No program in sight. Declarations and comments, as the reference reads them. No program in sight. Values, as the reference reads them. No program in sight. Shorthands with one to four values. No program in sight. -/
import Derived.Test.YtafkeolpadfjfaaGreatDoorSty14
set_option linter.unusedVariables false
set_option linter.unusedSimpArgs false
namespace Go.Proofs.YtafkeolpadfjfaaGreatDoor
namespace S
theorem lt_plain {l : List UInt8} (h : ∀ c ∈ l, T.sp c = false) : T.lt l = l := by
 cases l with
 | nil => rfl
 | cons c t => rw [T.lt, h c (List.mem_cons_self ..)]; rfl
theorem rt_plain : ∀ {l : List UInt8}, (∀ c ∈ l, T.sp c = false) → T.rt l = l
 | [], _ => rfl
 | c :: t, h => by
  rw [T.rt, if_neg (by rw [h c (List.mem_cons_self ..)]; simp), rt_plain fun x hx => h x (List.mem_cons_of_mem _ hx)]
theorem trim_plain {l : List UInt8} (h : ∀ c ∈ l, T.sp c = false) : trim l = l := by
 unfold trim
 rw [lt_plain h, rt_plain h]
end S
end Go.Proofs.YtafkeolpadfjfaaGreatDoor
namespace Go.Proofs.YtafkeolpadfjfaaGreatDoor
namespace S
/-- The value, where it is valid. -/
def good (p w : List UInt8) : Option Val := (value p w).join
/-- The same, for a word that is none for all properties. -/
def goodP (p w : List UInt8) : Option Val := if globals.contains w then none else good p w
/-- All, where all are valid. -/
def allG : List (List UInt8 × Option Val) → Option (List (List UInt8 × Val))
 | [] => some []
 | p :: r => match p.2 with
  | none => none
  | some v => (match allG r with | some l => some ((p.1, v) :: l) | none => none)
theorem each_allG : ∀ l : List (List UInt8 × List UInt8), each l = allG (l.map fun p => (p.1, good p.1 p.2))
 | [] => rfl
 | p :: r => by
  rw [List.map_cons, allG, each, each_allG r]
  unfold good
  cases value p.1 p.2 with
  | none => rfl
  | some x => cases x with
   | none => rfl
   | some v => rfl
def flexGrow : List UInt8 := [102, 108, 101, 120, 45, 103, 114, 111, 119]
def flexShrink : List UInt8 := [102, 108, 101, 120, 45, 115, 104, 114, 105, 110, 107]
def flexBasis : List UInt8 := [102, 108, 101, 120, 45, 98, 97, 115, 105, 115]
def wNone : List UInt8 := [110, 111, 110, 101]
def wAuto : List UInt8 := [97, 117, 116, 111]
def wFlex : List UInt8 := [102, 108, 101, 120]
def wPx : List UInt8 := [48, 112, 120]
/-- The words of the shorthand flex, as the reference has them. -/
def rflex (ws : List (List UInt8)) : List (List UInt8) :=
 if ws = [wNone] then [[48], [48], wAuto] else if ws = [wAuto] then [[49], [49], wAuto]
 else match ws with
  | [a] => [a, [49], wPx]
  | [a, b] => if (good flexShrink b).isSome then [a, b, wPx] else [a, [49], b]
  | [a, b, c] => [a, b, c]
  | _ => []
def rsides (name : List UInt8) : List (List UInt8) := match sidesOf name with | some ns => ns | none => if name = wFlex then flexNames else []
def rfour (ws : List (List UInt8)) : List (List UInt8) := match fill ws with | some vs => vs | none => []
def rvalues (name : List UInt8) (ws : List (List UInt8)) : List (List UInt8) := if name = wFlex then rflex ws else rfour ws
/-- One longhand of a shorthand. -/
def pick (v n : List UInt8) (w : Option (List UInt8)) : Option Val := if globals.contains v then good n v else w.bind (goodP n)
theorem pick_glob {v : List UInt8} (hv : globals.contains v = true) (n : List UInt8) (w : Option (List UInt8)) : pick v n w = good n v := if_pos hv
theorem pick_not {v : List UInt8} (hv : globals.contains v = false) (n : List UInt8) (w : Option (List UInt8)) : pick v n w = w.bind (goodP n) := if_neg (by rw [hv]; exact Bool.false_ne_true)
def longs (v : List UInt8) : List (List UInt8) → List (List UInt8) → List (List UInt8 × Option Val)
 | [], _ => []
 | n :: ns, vs => (n, pick v n vs.head?) :: longs v ns vs.tail
def longhands (name v : List UInt8) : List (List UInt8 × Option Val) :=
 if rsides name = [] then [(name, good name v)] else longs v (rsides name) (rvalues name (words v))
theorem longs_glob {v : List UInt8} (hv : globals.contains v = true) : ∀ ns vs, longs v ns vs = (ns.map fun n => (n, v)).map fun p => (p.1, good p.1 p.2)
 | [], _ => rfl
 | n :: ns, vs => by rw [longs, longs_glob hv ns, pick_glob hv]; rfl
theorem longs_plain {v : List UInt8} (hv : globals.contains v = false) : ∀ ns vs, (∀ w ∈ vs, globals.contains w = false) → ns.length = vs.length →
  longs v ns vs = (ns.zip vs).map fun p => (p.1, good p.1 p.2)
 | [], [], _, _ => rfl
 | [], _ :: _, _, h => by cases h
 | _ :: _, [], _, h => by cases h
 | n :: ns, w :: vs, hg, h => by
  rw [longs, List.tail_cons, longs_plain hv ns vs (fun x hx => hg x (List.mem_cons_of_mem _ hx)) (by simpa using h), pick_not hv]
  show (n, goodP n w) :: _ = _
  rw [goodP, if_neg (by rw [hg w (List.mem_cons_self ..)]; exact Bool.false_ne_true)]
  rfl
theorem allG_none : ∀ {l : List (List UInt8 × Option Val)} (p : List UInt8 × Option Val), p ∈ l → p.2 = none → allG l = none
 | [], _, h, _ => by cases h
 | a :: r, p, h, h0 => by
  rw [allG]
  rcases List.mem_cons.1 h with rfl | h
  ·rw [h0]
  ·cases a.2 with
   | none => rfl
   | some v => simp only []; rw [allG_none p h h0]
theorem longs_bad {v : List UInt8} (hv : globals.contains v = false) : ∀ ns vs, (∃ w ∈ vs, globals.contains w = true) → ns.length = vs.length → allG (longs v ns vs) = none
 | [], [], h, _ => by obtain ⟨w, hw, _⟩ := h; cases hw
 | [], _ :: _, _, h => by cases h
 | _ :: _, [], _, h => by cases h
 | n :: ns, w :: vs, hg, h => by
  rw [longs, List.tail_cons, allG]
  show (match pick v n (some w) with | none => none | some x => _) = _
  rw [pick_not hv, Option.bind_some]
  obtain ⟨x, hx, hx2⟩ := hg
  rcases List.mem_cons.1 hx with rfl | hx
  ·rw [goodP, if_pos hx2]
  ·cases goodP n w with
   | none => rfl
   | some y => simp only []; rw [longs_bad hv ns vs ⟨x, hx, hx2⟩ (by simpa using h)]
theorem longs_nil {v : List UInt8} (hv : globals.contains v = false) {n : List UInt8} {ns : List (List UInt8)} : allG (longs v (n :: ns) []) = none := by
 rw [longs, allG]
 show (match pick v n none with | none => none | some x => _) = _
 rw [pick_not hv, Option.bind_none]
theorem sides_len {name : List UInt8} {ns : List (List UInt8)} (h : sidesOf name = some ns) : ns.length = 4 := by
 unfold sidesOf at h
 split at h
 ·cases h; rfl
 ·split at h
  ·cases h; rfl
  ·cases h
theorem fill_ok : ∀ {ws vs : List (List UInt8)}, fill ws = some vs → vs.length = 4 ∧ (∀ x ∈ vs, x ∈ ws) ∧ (∀ x ∈ ws, x ∈ vs)
 | [a], vs, h => by cases h; simp
 | [a, b], vs, h => by cases h; simp
 | [a, b, c], vs, h => by cases h; simp
 | [a, b, c, d], vs, h => by cases h; simp
 | [], vs, h => by cases h
 | _ :: _ :: _ :: _ :: _ :: _, vs, h => by cases h
theorem sides_notflex {name : List UInt8} {ns : List (List UInt8)} (h : sidesOf name = some ns) : name ≠ wFlex := by
 rintro rfl
 have : sidesOf wFlex = none := by decide +kernel
 rw [this] at h; cases h
theorem sides_law {name v : List UInt8} {ns : List (List UInt8)} (h : sidesOf name = some ns) : allG (longhands name v) = expand name v := by
 have hl := sides_len h
 have hne : ns ≠ [] := by intro hh; rw [hh] at hl; cases hl
 have hr : rsides name = ns := by unfold rsides; rw [h]
 have hf := sides_notflex h
 unfold longhands expand
 rw [hr, if_neg hne, rvalues, if_neg hf, if_neg (show ¬ name = [102, 108, 101, 120] from hf), h]
 simp only []
 cases hg : globals.contains v with
 | true =>
  rw [if_pos rfl, each_allG, longs_glob hg]
 | false =>
  rw [if_neg Bool.false_ne_true]
  unfold rfour
  cases hfl : fill (words v) with
  | none =>
   simp only []
   obtain ⟨n, r, rfl⟩ := List.exists_cons_of_ne_nil hne
   rw [longs_nil hg]
   split <;> rfl
  | some vs =>
   simp only []
   obtain ⟨h4, hm, hm2⟩ := fill_ok hfl
   cases ha : (words v).any globals.contains with
   | true =>
    rw [if_pos rfl]
    obtain ⟨w, hw, hw2⟩ := List.any_eq_true.1 ha
    exact longs_bad hg ns vs ⟨w, hm2 w hw, hw2⟩ (by rw [hl, h4])
   | false =>
    rw [if_neg Bool.false_ne_true, each_allG]
    rw [longs_plain hg ns vs (fun w hw => ?_) (by rw [hl, h4])]
    cases hh : globals.contains w with
    | false => rfl
    | true =>
     have : (words v).any globals.contains = true := List.any_eq_true.2 ⟨w, hm w hw, hh⟩
     rw [ha] at this; cases this
theorem part_eq (n w : List UInt8) : part n w = (goodP n w).isSome := by
 unfold part goodP good
 cases value n w with
 | none => cases globals.contains w <;> rfl
 | some x => cases x with
  | none => cases globals.contains w <;> rfl
  | some v => cases globals.contains w <;> rfl
theorem goodP_of {n w : List UInt8} (h : part n w = true) : good n w = goodP n w := by
 unfold goodP
 cases hh : globals.contains w with
 | false => rfl
 | true =>
  rw [part_eq, goodP, hh] at h; cases h
theorem goodP_lit : good flexShrink [49] = goodP flexShrink [49] ∧ good flexBasis wPx = goodP flexBasis wPx ∧ (goodP flexShrink [49]).isSome = true ∧ (goodP flexBasis wPx).isSome = true := by
 have h1 : globals.contains ([49] : List UInt8) = false := by decide +kernel
 have h2 : globals.contains wPx = false := by decide +kernel
 refine ⟨by rw [goodP, h1, if_neg Bool.false_ne_true], by rw [goodP, h2, if_neg Bool.false_ne_true], by decide +kernel, by decide +kernel⟩
theorem each3 (a b c : List UInt8) : each (flexNames.zip [a, b, c]) = allG [(flexGrow, good flexGrow a), (flexShrink, good flexShrink b), (flexBasis, good flexBasis c)] := by rw [each_allG]; rfl
theorem longs3 {v : List UInt8} (hv : globals.contains v = false) (a b c : List UInt8) : longs v flexNames [a, b, c] = [(flexGrow, goodP flexGrow a), (flexShrink, goodP flexShrink b), (flexBasis, goodP flexBasis c)] := by
 show [(_, pick v _ (some a)), (_, pick v _ (some b)), (_, pick v _ (some c))] = _
 rw [pick_not hv, pick_not hv, pick_not hv]
 rfl
theorem allG3 (a b c : List UInt8) {x y z : Option Val} (h : x = none ∨ y = none ∨ z = none) : allG [(a, x), (b, y), (c, z)] = none := by
 rcases h with rfl | rfl | rfl
 ·exact allG_none (a, none) (by simp) rfl
 ·exact allG_none (b, none) (by simp) rfl
 ·exact allG_none (c, none) (by simp) rfl
theorem no_part {n w : List UInt8} (h : part n w = false) : goodP n w = none := by
 rw [part_eq] at h
 cases hh : goodP n w with
 | none => rfl
 | some v => rw [hh] at h; cases h
theorem flexOne_no {n o w : List UInt8} {r : List (List UInt8)} (h : part n w = false) : flexOne n o (w :: r) = (o, w :: r) := by rw [flexOne, if_neg (by rw [h]; exact Bool.false_ne_true)]
theorem flexOne_yes {n o w : List UInt8} {r : List (List UInt8)} (h : part n w = true) : flexOne n o (w :: r) = (w, r) := by rw [flexOne, if_pos h]
theorem flexOne_nil {n o : List UInt8} : flexOne n o [] = (o, []) := rfl
theorem flexOne_len (n o : List UInt8) (l : List (List UInt8)) : l.length ≤ (flexOne n o l).2.length + 1 := by
 cases l with
 | nil => exact Nat.zero_le _
 | cons a r => rw [flexOne]; split <;> simp
theorem flexVals_cons {v w : List UInt8} {r : List (List UInt8)} (h1 : v ≠ wNone) (h2 : v ≠ wAuto) (hv : globals.contains v = false) : flexVals v (w :: r) =
  if part flexGrow w then (if (flexOne flexBasis wPx (flexOne flexShrink [49] r).2).2 = [] then some [w, (flexOne flexShrink [49] r).1, (flexOne flexBasis wPx (flexOne flexShrink [49] r).2).1] else none) else none := by
 unfold flexVals
 rw [if_neg (show ¬ v = [110, 111, 110, 101] from h1), if_neg (show ¬ v = [97, 117, 116, 111] from h2), if_neg (by rw [hv]; exact Bool.false_ne_true)]
 rfl
theorem flex_rest {v : List UInt8} (h1 : v ≠ wNone) (h2 : v ≠ wAuto) (hv : globals.contains v = false) {ws : List (List UInt8)} (w1 : ws ≠ [wNone]) (w2 : ws ≠ [wAuto]) :
  allG (longs v flexNames (rflex ws)) = match flexVals v ws with | some vs => each (flexNames.zip vs) | none => none := by
 unfold rflex
 rw [if_neg w1, if_neg w2]
 obtain ⟨g1, g2, g3, g4⟩ := goodP_lit
 match ws with
 | [] =>
  simp only []
  rw [show flexNames = flexGrow :: [flexShrink, flexBasis] from rfl, longs_nil hv]
  unfold flexVals
  rw [if_neg (show ¬ v = [110, 111, 110, 101] from h1), if_neg (show ¬ v = [97, 117, 116, 111] from h2), if_neg (by rw [hv]; exact Bool.false_ne_true)]
 | [a] =>
  simp only []
  rw [longs3 hv, flexVals_cons h1 h2 hv, flexOne_nil]
  simp only [flexOne_nil, if_true]
  cases ha : part flexGrow a with
  | true => simp only [if_true]; rw [each3, goodP_of ha, g1, g2]
  | false => simp only [Bool.false_eq_true, if_false]; rw [allG3 _ _ _ (Or.inl (no_part ha))]
 | [a, b] =>
  simp only []
  rw [flexVals_cons h1 h2 hv]
  cases ha : part flexGrow a with
  | false =>
   simp only [Bool.false_eq_true, if_false]
   split <;> (rw [longs3 hv, allG3 _ _ _ (Or.inl (no_part ha))])
  | true =>
   simp only [if_true]
   cases hb : part flexShrink b with
   | true =>
    rw [flexOne_yes hb, flexOne_nil, if_pos rfl]
    simp only []
    rw [if_pos (by rw [goodP_of hb, ← part_eq]; exact hb), longs3 hv, each3, goodP_of ha, goodP_of hb, g2]
   | false =>
    rw [flexOne_no hb]
    simp only []
    cases hc : part flexBasis b with
    | true =>
     rw [flexOne_yes hc, if_pos rfl]
     simp only []
     have hng : globals.contains b = false := by
      cases hh : globals.contains b with
      | false => rfl
      | true => rw [part_eq, goodP, hh] at hc; cases hc
     have hbn : good flexShrink b = none := by
      have := no_part hb
      rw [goodP, hng] at this; exact this
     rw [if_neg (by rw [hbn]; exact Bool.false_ne_true), longs3 hv, each3, goodP_of ha, goodP_of hc, g1]
    | false =>
     rw [flexOne_no hc, if_neg (List.cons_ne_nil _ _)]
     simp only []
     split
     ·rw [longs3 hv, allG3 _ _ _ (Or.inr (Or.inl (no_part hb)))]
     ·rw [longs3 hv, allG3 _ _ _ (Or.inr (Or.inr (no_part hc)))]
 | [a, b, c] =>
  simp only []
  rw [flexVals_cons h1 h2 hv, longs3 hv]
  cases ha : part flexGrow a with
  | false => simp only [Bool.false_eq_true, if_false]; rw [allG3 _ _ _ (Or.inl (no_part ha))]
  | true =>
   simp only [if_true]
   cases hb : part flexShrink b with
   | true =>
    rw [flexOne_yes hb]
    simp only []
    cases hc : part flexBasis c with
    | true =>
     rw [flexOne_yes hc, if_pos rfl]
     simp only []
     rw [each3, goodP_of ha, goodP_of hb, goodP_of hc]
    | false =>
     rw [flexOne_no hc, if_neg (List.cons_ne_nil _ _)]
     simp only []
     rw [allG3 _ _ _ (Or.inr (Or.inr (no_part hc)))]
   | false =>
    rw [flexOne_no hb]
    simp only []
    rw [allG3 _ _ _ (Or.inr (Or.inl (no_part hb)))]
    have := flexOne_len flexBasis wPx [b, c]
    rw [if_neg (by intro hh; rw [hh] at this; simp at this)]
 | a :: b :: c :: d :: r =>
  simp only []
  rw [show flexNames = flexGrow :: [flexShrink, flexBasis] from rfl, longs_nil hv, flexVals_cons h1 h2 hv]
  cases ha : part flexGrow a with
  | false => simp only [Bool.false_eq_true, if_false]
  | true =>
   simp only [if_true]
   have l1 := flexOne_len flexShrink [49] (b :: c :: d :: r)
   have l2 := flexOne_len flexBasis wPx (flexOne flexShrink [49] (b :: c :: d :: r)).2
   rw [if_neg (by intro hh; rw [hh] at l2; simp at l1 l2; omega)]
end S
end Go.Proofs.YtafkeolpadfjfaaGreatDoor
namespace Go.Proofs.YtafkeolpadfjfaaGreatDoor
namespace S
open T (sp low)
theorem lt_len : ∀ l : List UInt8, (T.lt l).length ≤ l.length
 | [] => Nat.le_refl _
 | b :: r => by rw [T.lt]; split; exact Nat.le_succ_of_le (lt_len r); exact Nat.le_refl _
theorem rt_len : ∀ l : List UInt8, (T.rt l).length ≤ l.length
 | [] => Nat.le_refl _
 | b :: r => by rw [T.rt]; split; exact Nat.zero_le _; exact Nat.succ_le_succ (rt_len r)
theorem trim_len (l : List UInt8) : (trim l).length ≤ l.length := Nat.le_trans (rt_len _) (lt_len _)
theorem lt_split : ∀ l : List UInt8, ∃ p, l = p ++ T.lt l ∧ p.all sp = true
 | [] => ⟨[], rfl, rfl⟩
 | b :: r => by
  rw [T.lt]
  cases h : sp b with
  | true =>
   obtain ⟨p, h1, h2⟩ := lt_split r
   refine ⟨b :: p, by rw [if_pos rfl, List.cons_append, ← h1], by rw [List.all_cons, h, h2]; rfl⟩
  | false => exact ⟨[], by rw [if_neg Bool.false_ne_true]; rfl, rfl⟩
theorem rt_split : ∀ l : List UInt8, ∃ q, l = T.rt l ++ q ∧ q.all sp = true
 | [] => ⟨[], rfl, rfl⟩
 | b :: r => by
  obtain ⟨q, h1, h2⟩ := rt_split r
  rw [T.rt]
  split
  ·rename_i h
   refine ⟨b :: r, rfl, ?_⟩
   rw [h.1, List.nil_append] at h1
   rw [List.all_cons, h.2, h1, h2]; rfl
  ·exact ⟨q, by rw [List.cons_append, ← h1], h2⟩
theorem trim_split (l : List UInt8) : ∃ p q, l = p ++ (trim l ++ q) ∧ p.all sp = true ∧ q.all sp = true := by
 obtain ⟨p, h1, h2⟩ := lt_split l
 obtain ⟨q, h3, h4⟩ := rt_split (T.lt l)
 refine ⟨p, q, ?_, h2, h4⟩
 unfold trim
 rw [← h3, ← h1]
theorem rt_all {r : List UInt8} (h : r.all sp = true) : ∀ c : List UInt8, T.rt (c ++ r) = T.rt c
 | [] => by rw [List.nil_append, (T.rt_nil r).2 h]; rfl
 | a :: c => by rw [List.cons_append, T.rt, T.rt, rt_all h c]
theorem lt_all2 : ∀ {p : List UInt8} (y : List UInt8), p.all sp = true → T.lt (p ++ y) = T.lt y
 | [], y, _ => rfl
 | a :: p, y, h => by
  rw [List.all_cons, Bool.and_eq_true] at h
  rw [List.cons_append, T.lt, if_pos h.1, lt_all2 y h.2]
theorem lt_head {c : UInt8} (h : sp c = false) (t : List UInt8) : T.lt (c :: t) = c :: t := by rw [T.lt, if_neg (by rw [h]; exact Bool.false_ne_true)]
theorem trimmed {v : List UInt8} (h : trim v = v) : T.lt v = v ∧ T.rt v = v := by
 obtain ⟨p, h1, _⟩ := lt_split v
 have e : p = [] := by
  have l1 := congrArg List.length h1
  have l2 := congrArg List.length h
  have l3 := rt_len (T.lt v)
  unfold trim at l2
  rw [List.length_append] at l1
  exact List.eq_nil_of_length_eq_zero (by omega)
 rw [e, List.nil_append] at h1
 have h2 : T.rt (T.lt v) = v := h
 rw [← h1] at h2
 exact ⟨h1.symm, h2⟩
theorem lt_prefix : ∀ {x y : List UInt8}, x ≠ [] → T.lt (x ++ y) = x ++ y → T.lt x = x
 | [], _, h, _ => absurd rfl h
 | a :: x, y, _, h => by
  cases ha : sp a with
  | false => exact lt_head ha x
  | true =>
   rw [List.cons_append, T.lt, if_pos ha] at h
   have l1 := congrArg List.length h
   have l2 := lt_len (x ++ y)
   rw [List.length_cons] at l1
   omega
/-- A text of one word, and one word alone. -/
theorem flds_one {w : List UInt8} : ∀ (l cur : List UInt8), (∀ b ∈ cur, sp b = false) → T.flds cur l = [w] → trim (cur ++ l) = w
 | [], cur, hc, h => by
  unfold T.flds at h
  rw [List.append_nil]
  split at h
  ·cases h
  ·injection h with h1 h2
   rw [← h1, trim_plain hc]
 | b :: r, cur, hc, h => by
  unfold T.flds at h
  cases hb : sp b with
  | true =>
   rw [if_pos hb] at h
   by_cases hcur : cur = []
   ·rw [if_pos hcur] at h
    have := flds_one r [] (fun x hx => by cases hx) h
    rw [hcur]
    unfold trim at this ⊢
    rw [List.nil_append, T.lt, if_pos hb]
    exact this
   ·rw [if_neg hcur] at h
    injection h with h1 h2
    have hr := ((T.flds_nil r []).1 h2).2
    have e1 : (b :: r).all sp = true := by rw [List.all_cons, hb, hr]; rfl
    obtain ⟨c, t, rfl⟩ := List.exists_cons_of_ne_nil hcur
    unfold trim
    rw [List.cons_append, lt_head (hc c (List.mem_cons_self ..)), ← List.cons_append, rt_all e1, rt_plain hc, h1]
  | false =>
   rw [if_neg (by rw [hb]; exact Bool.false_ne_true)] at h
   have := flds_one r (cur ++ [b]) (fun x hx => by
    rcases List.mem_append.1 hx with hx | hx
    ·exact hc x hx
    ·rw [List.mem_singleton.1 hx]; exact hb) h
   rw [List.append_assoc] at this
   exact this
theorem words_one {v w : List UInt8} (hv : trim v = v) (h : words v = [w]) : v = w := by
 have := flds_one v [] (fun x hx => by cases hx) h
 rw [List.nil_append, hv] at this
 exact this
theorem flexVals_glob {v : List UInt8} (hv : globals.contains v = true) (ws : List (List UInt8)) : flexVals v ws = some [v, v, v] := by
 have n1 : v ≠ wNone := by rintro rfl; revert hv; decide +kernel
 have n2 : v ≠ wAuto := by rintro rfl; revert hv; decide +kernel
 unfold flexVals
 rw [if_neg (show ¬ v = [110, 111, 110, 101] from n1), if_neg (show ¬ v = [97, 117, 116, 111] from n2), if_pos hv]
/-- THE REFERENCE'S LONGHANDS are the program's. -/
theorem expand_law {name v : List UInt8} (hv : trim v = v) : allG (longhands name v) = expand name v := by
 cases hs : sidesOf name with
 | some ns => exact sides_law hs
 | none =>
  by_cases hf : name = wFlex
  ·have hr : rsides name = flexNames := by unfold rsides; rw [hs]; simp only []; rw [if_pos hf]
   unfold longhands expand
   rw [hr, if_neg (by unfold flexNames; exact List.cons_ne_nil _ _), rvalues, if_pos hf, if_pos (show name = [102, 108, 101, 120] from hf)]
   cases hg : globals.contains v with
   | true =>
    rw [flexVals_glob hg, longs_glob hg]
    simp only []
    rw [each_allG]; rfl
   | false =>
    by_cases h1 : v = wNone
    ·have hw : words v = [wNone] := by rw [h1]; decide +kernel
     have e1 : flexVals v (words v) = some [[48], [48], wAuto] := by unfold flexVals; rw [if_pos (show v = [110, 111, 110, 101] from h1)]; rfl
     rw [e1, hw]
     unfold rflex
     rw [if_pos rfl]
     simp only []
     rw [each_allG, longs_plain hg flexNames [[48], [48], wAuto] (by decide +kernel) rfl]
    ·by_cases h2 : v = wAuto
     ·have hw : words v = [wAuto] := by rw [h2]; decide +kernel
      have e1 : flexVals v (words v) = some [[49], [49], wAuto] := by unfold flexVals; rw [if_neg (show ¬ v = [110, 111, 110, 101] from h1), if_pos (show v = [97, 117, 116, 111] from h2)]; rfl
      rw [e1, hw]
      unfold rflex
      rw [if_neg (by decide +kernel), if_pos rfl]
      simp only []
      rw [each_allG, longs_plain hg flexNames [[49], [49], wAuto] (by decide +kernel) rfl]
     ·exact flex_rest h1 h2 hg (fun h => h1 (words_one hv h)) (fun h => h2 (words_one hv h))
  ·unfold longhands expand
   have hr : rsides name = [] := by unfold rsides; rw [hs]; simp only []; rw [if_neg hf]
   rw [hr, if_pos rfl, if_neg (show ¬ name = [102, 108, 101, 120] from hf), hs]
   simp only []
   rw [each_allG]; rfl
theorem value_nil (p : List UInt8) : good p [] = none := by
 unfold good value
 cases h : tab.find? (fun r => r.1 == p) with
 | none => rfl
 | some r =>
  have hm := List.mem_of_find?_eq_some h
  have key : (tab.all fun r => (valueT r.2.1 r.2.2 []).isNone) = true := by decide +kernel
  have := List.all_eq_true.1 key r hm
  simp only []
  show valueT r.2.1 r.2.2 [] = none
  cases hh : valueT r.2.1 r.2.2 [] with
  | none => rfl
  | some x => rw [hh] at this; cases this
theorem expand_nil (name : List UInt8) : expand name [] = none := by
 rw [← expand_law (by rfl)]
 unfold longhands
 split
 ·rw [value_nil]; rfl
 ·rename_i h
  obtain ⟨n, r, e⟩ := List.exists_cons_of_ne_nil h
  rw [e]
  have : rvalues name (words []) = [] := by
   unfold rvalues
   split
   ·rfl
   ·rfl
  rw [this, longs_nil (by decide)]
/- The mark. -/
def wImp : List UInt8 := [105, 109, 112, 111, 114, 116, 97, 110, 116]
theorem cutEnd_app (u e : List UInt8) : cutEnd (u ++ e) e = some u := by
 unfold cutEnd
 rw [if_pos (List.isSuffixOf_iff_suffix.2 (List.suffix_append u e))]
 rw [List.length_append, Nat.add_sub_cancel, List.take_left]
theorem cutEnd_some {s e u : List UInt8} (h : cutEnd s e = some u) : s = u ++ e := by
 unfold cutEnd at h
 split at h
 ·rename_i hs
  obtain ⟨a, rfl⟩ := List.isSuffixOf_iff_suffix.1 hs
  rw [List.length_append, Nat.add_sub_cancel, List.take_left] at h
  injection h with h; rw [h]
 ·cases h
/-- Where the reference finds the mark. -/
def Imp (v : List UInt8) (i : Nat) : Prop := i < v.length ∧ v.getD i 0 = 33 ∧ trim (v.drop (i + 1)) = wImp
theorem imp_yes {v : List UInt8} (hv : trim v = v) {i : Nat} (h : Imp v i) : important v = (trim (v.take i), true) := by
 obtain ⟨h1, h2, h3⟩ := h
 obtain ⟨hl, hr⟩ := trimmed hv
 obtain ⟨p, q, e, hp, hq⟩ := trim_split (v.drop (i + 1))
 have hd : v.drop i = 33 :: v.drop (i + 1) := by
  rw [List.drop_eq_getElem_cons h1]
  congr 1
  rw [← h2, List.getD_eq_getElem?_getD, List.getElem?_eq_getElem h1]; rfl
 have hve : v = v.take i ++ 33 :: v.drop (i + 1) := by rw [← hd, List.take_append_drop]
 generalize v.take i = a at *
 rw [h3] at e
 rw [e] at hve
 have hve2 : v = (a ++ (33 :: p) ++ wImp) ++ q := by rw [hve]; simp
 have hq0 : q = [] := by
  rw [hve2, rt_all hq] at hr
  have l1 := congrArg List.length hr
  have l2 := rt_len (a ++ (33 :: p) ++ wImp)
  rw [List.length_append (bs := q)] at l1
  exact List.eq_nil_of_length_eq_zero (by omega)
 rw [hq0, List.append_nil] at hve2
 have h4 : T.lt (a ++ 33 :: p) = a ++ 33 :: p := by
  refine lt_prefix (y := wImp) (by simp) ?_
  rw [← hve2]; exact hl
 have h5 : trim (a ++ 33 :: p) = a ++ [33] := by
  unfold trim
  rw [h4, show a ++ 33 :: p = (a ++ [33]) ++ p by simp, rt_all hp, T.rt_snoc, if_neg (by decide)]
 unfold important
 rw [hve2, show ([105, 109, 112, 111, 114, 116, 97, 110, 116] : List UInt8) = wImp from rfl, cutEnd_app]
 simp only []
 rw [h5, cutEnd_app]
theorem imp_no {v : List UInt8} (h : ∀ i, ¬ Imp v i) : important v = (v, false) := by
 unfold important
 cases h1 : cutEnd v [105, 109, 112, 111, 114, 116, 97, 110, 116] with
 | none => rfl
 | some u =>
  simp only []
  cases h2 : cutEnd (trim u) [33] with
  | none => rfl
  | some x =>
   exfalso
   have e1 := cutEnd_some h1
   have e2 := cutEnd_some h2
   obtain ⟨p, q, e, hp, hq⟩ := trim_split u
   rw [e2] at e
   have e3 : v = (p ++ x) ++ 33 :: (q ++ wImp) := by rw [e1, e]; unfold wImp; simp
   refine h (p ++ x).length ⟨?_, ?_, ?_⟩
   ·rw [e3]; simp
   ·rw [e3, List.getD_eq_getElem?_getD, List.getElem?_append_right (Nat.le_refl _), Nat.sub_self]; rfl
   ·rw [e3, ← List.drop_drop, List.drop_left]
    show trim (q ++ wImp) = wImp
    unfold trim
    rw [lt_all2 _ hq]
    decide +kernel
/- Lower case and white space. -/
theorem sp_low : ∀ c : Fin 256, sp (low (UInt8.ofNat c.1)) = sp (UInt8.ofNat c.1) := by decide +kernel
theorem sp_low' (c : UInt8) : sp (low c) = sp c := by
 have := sp_low ⟨c.toNat, c.toNat_lt⟩
 rw [show UInt8.ofNat c.toNat = c by simp] at this
 exact this
theorem lt_lower : ∀ l : List UInt8, T.lt (lower l) = lower (T.lt l)
 | [] => rfl
 | b :: r => by
  have ih := lt_lower r
  unfold lower at ih ⊢
  rw [List.map_cons, T.lt, T.lt, sp_low']
  split
  ·exact ih
  ·rfl
theorem rt_lower : ∀ l : List UInt8, T.rt (lower l) = lower (T.rt l)
 | [] => rfl
 | b :: r => by
  have ih := rt_lower r
  unfold lower at ih ⊢
  rw [List.map_cons, T.rt, T.rt, sp_low', ih]
  by_cases h : T.rt r = [] ∧ sp b = true
  ·rw [if_pos h, if_pos ⟨by rw [h.1]; rfl, h.2⟩]; rfl
  ·rw [if_neg h, if_neg (by rintro ⟨h1, h2⟩; exact h ⟨List.map_eq_nil_iff.1 h1, h2⟩)]; rfl
theorem trim_lower (l : List UInt8) : trim (lower l) = lower (trim l) := by
 unfold trim
 rw [lt_lower, rt_lower]
theorem trim_trim (l : List UInt8) : trim (trim l) = trim l := by
 obtain ⟨p, q, e, hp, hq⟩ := trim_split l
 have h1 : T.lt (trim l) = trim l := by
  unfold trim
  rw [T.lt_rt]
  have : T.lt (T.lt l) = T.lt l := by
   have hl : ∀ l : List UInt8, T.lt (T.lt l) = T.lt l := by
    intro l
    induction l with
    | nil => rfl
    | cons b r ih =>
     rw [T.lt]
     split
     ·exact ih
     ·rename_i h; rw [T.lt, if_neg h]
   exact hl l
  rw [this]
 have h2 : ∀ l : List UInt8, T.rt (T.rt l) = T.rt l := by
  intro l
  induction l with
  | nil => rfl
  | cons b r ih =>
   rw [T.rt]
   split
   ·rfl
   ·rename_i h; rw [T.rt, ih, if_neg h]
 show T.rt (T.lt (trim l)) = _
 rw [h1]
 exact h2 _
/- Declarations. -/
theorem declsN_enough : ∀ (n m : Nat) (s : List UInt8), s.length < n → s.length < m → declsN n s = declsN m s
 | 0, _, _, h, _ => absurd h (Nat.not_lt_zero _)
 | _, 0, _, _, h => absurd h (Nat.not_lt_zero _)
 | n + 1, m + 1, s, h1, h2 => by
  rw [declsN, declsN]
  by_cases hs : s = []
  ·rw [if_pos hs, if_pos hs]
  ·rw [if_neg hs, if_neg hs]
   have hl : 0 < s.length := List.length_pos_iff.2 hs
   rw [declsN_enough n m _ (by rw [List.length_drop]; omega) (by rw [List.length_drop]; omega)]
theorem colonP_no {s : List UInt8} (h : (58 : UInt8) ∉ s) : colonP s = (s, []) := by
 have : s.dropWhile (· ≠ 58) = [] := by
  induction s with
  | nil => rfl
  | cons c t ih =>
   have hc : c ≠ 58 := by rintro rfl; exact h (List.mem_cons_self ..)
   rw [List.dropWhile_cons_of_pos (by simp [hc]), ih fun h1 => h (List.mem_cons_of_mem _ h1)]
 unfold colonP colon
 rw [this]
theorem declOf_no {s : List UInt8} (h : (58 : UInt8) ∉ s) : declOf s = [] := by
 unfold declOf
 rw [colonP_no h]
 simp only []
 have : (important (trim (lower []))).1 = [] := by decide +kernel
 rw [this, expand_nil]
theorem decls_nil : decls [] = [] := rfl
theorem decls_step (s : List UInt8) : decls s = declOf (s.take (scan [59] 0 0 s)) ++ decls (s.drop (scan [59] 0 0 s + 1)) := by
 cases s with
 | nil => rw [List.take_nil, List.drop_nil, declOf_no (by simp), decls_nil]; rfl
 | cons c t =>
  unfold decls
  rw [declsN, if_neg (List.cons_ne_nil _ _)]
  rw [declsN_enough _ (((c :: t).drop (scan [59] 0 0 (c :: t) + 1)).length + 1) _ (by rw [List.length_drop]; simp; omega) (Nat.lt_succ_self _)]
/- Comments. -/
/-- How many bytes stand ahead of the comment's end. -/
def cm : List UInt8 → Nat
 | 42 :: 47 :: _ => 0
 | _ :: t => cm t + 1
 | [] => 0
theorem clean_nil (m : UInt8) : clean m [] = [] := by unfold clean; rfl
theorem clean_open (t : List UInt8) : clean 0 (47 :: 42 :: t) = 32 :: clean 1 t := by rw [clean]
theorem clean_in : ∀ t : List UInt8, clean 1 t = clean 0 (t.drop (cm t + 2))
 | [] => by rw [List.drop_nil, clean_nil, clean_nil]
 | c :: t => by
  by_cases h : ∃ r, c = 42 ∧ t = 47 :: r
  ·obtain ⟨r, rfl, rfl⟩ := h
   rw [clean, cm]; rfl
  ·have e1 : clean 1 (c :: t) = clean 1 t := by
    rw [clean]
    ·rw [if_pos rfl]
    ·intro x; intro h1; exact absurd h1 (by decide)
    ·intro t' h1 h2 h3; exact h ⟨t', h2, h3⟩
   have e2 : cm (c :: t) = cm t + 1 := by
    rw [cm]
    intro x h2 h3; exact h ⟨x, h2, h3⟩
   rw [e1, e2, clean_in t, show cm t + 1 + 2 = (cm t + 2) + 1 by omega, List.drop_succ_cons]
theorem clean_quote {q : UInt8} (hq : q = 34 ∨ q = 39) : ∀ t : List UInt8, clean q t = t.take (strLen q t) ++ clean 0 (t.drop (strLen q t))
 | [] => by rw [List.drop_nil, List.take_nil, clean_nil, clean_nil]; rfl
 | c :: t => by
  have q0 : q ≠ 0 := by rcases hq with rfl | rfl <;> decide
  have q1 : q ≠ 1 := by rcases hq with rfl | rfl <;> decide
  have e1 : clean q (c :: t) = c :: clean (if c = q then 0 else q) t := by
   rw [clean]
   ·rw [if_neg q1, if_neg q0]
   ·intro x h; exact absurd h q0
   ·intro x h; exact absurd h q1
  rw [e1]
  by_cases h : c = q
  ·have e : strLen q (c :: t) = 1 := by
    unfold strLen
    rw [List.takeWhile_cons_of_neg (by simp [h])]
    simp
   rw [if_pos h, e]; rfl
  ·have e : strLen q (c :: t) = strLen q t + 1 := by
    unfold strLen
    rw [List.takeWhile_cons_of_pos (by simp [h]), List.length_cons, List.length_cons]
    omega
   rw [if_neg h, e, List.take_succ_cons, List.drop_succ_cons, clean_quote hq t]; rfl
theorem clean_start {q : UInt8} (hq : q = 34 ∨ q = 39) (t : List UInt8) : clean 0 (q :: t) = q :: clean q t := by
 rw [clean]
 ·rw [if_neg (by decide), if_pos rfl, if_pos hq]
 ·intro x _ h; rcases hq with rfl | rfl <;> exact absurd h (by decide)
 ·intro x h; exact absurd h (by decide)
theorem clean_else {c : UInt8} {t : List UInt8} (h1 : ¬ (c = 34 ∨ c = 39)) (h2 : ∀ r, ¬ (c = 47 ∧ t = 42 :: r)) : clean 0 (c :: t) = c :: clean 0 t := by
 rw [clean]
 ·rw [if_neg (by decide), if_pos rfl, if_neg h1]
 ·intro x _ h3 h4; exact h2 x ⟨h3, h4⟩
 ·intro x h; exact absurd h (by decide)
theorem cm_le : ∀ t : List UInt8, cm t ≤ t.length
 | [] => Nat.le_refl _
 | c :: t => by
  unfold cm
  split
  ·exact Nat.zero_le _
  ·rename_i h; injection h with _ h; subst h; exact Nat.succ_le_succ (cm_le _)
  ·exact Nat.zero_le _
theorem clean_le : ∀ (n : Nat) (m : UInt8) (s : List UInt8), s.length ≤ n → (clean m s).length ≤ s.length
 | 0, m, s, h => by
  rw [List.eq_nil_of_length_eq_zero (Nat.le_zero.1 h), clean_nil]; exact Nat.le_refl _
 | n + 1, m, [], h => by rw [clean_nil]; exact Nat.le_refl _
 | n + 1, m, c :: t, h => by
  have ih := clean_le n
  rw [List.length_cons] at h
  rw [clean.eq_def]
  split
  ·exact Nat.zero_le _
  ·rename_i t' heq; injection heq with a b; subst b
   have := ih 1 t' (by rw [List.length_cons] at h; omega)
   rw [List.length_cons, List.length_cons, List.length_cons]; omega
  ·rename_i t' heq; injection heq with a b; subst b
   have := ih 0 t' (by rw [List.length_cons] at h; omega)
   rw [List.length_cons, List.length_cons]; omega
  ·rename_i heq; injection heq with a b; subst b
   split
   ·have := ih 1 _ (show t.length ≤ n by omega)
    rw [List.length_cons]; omega
   ·rw [List.length_cons, List.length_cons]
    exact Nat.succ_le_succ (ih _ _ (by omega))
end S
end Go.Proofs.YtafkeolpadfjfaaGreatDoor
namespace Go.Proofs.YtafkeolpadfjfaaGreatDoor
namespace S
/-- A length, and a percentage, as the reference has them. -/
def rsize (t : List UInt8) (pc po : Bool) : Option Val :=
 match decimal t with
 | none => none
 | some (n, r) =>
  if po && decide (n < 0) then none
  else if r = [112, 120] ∨ (r = [] ∧ n = 0) then some ⟨3, n, []⟩
  else if r = [101, 109] then some ⟨4, n, []⟩
  else if r = [37] ∧ pc = true then some ⟨5, n, []⟩
  else none
def rcount (t : List UInt8) (po wh : Bool) : Option Val :=
 match decimal t with
 | none => none
 | some (n, r) =>
  if r ≠ [] then none
  else if po && decide (n < 0) then none
  else if wh && decide (n % 1000 ≠ 0) then none
  else some ⟨2, n, []⟩
/-- Digits, each twice where there are three. -/
def twice (d : List UInt8) : List UInt8 := if d.length = 3 then d.flatMap (fun c => [c, c]) else d
def rhash (t : List UInt8) : Option Val :=
 match t with
 | 35 :: d => if d.length = 3 ∨ d.length = 6 then (if d.all isHex then some ⟨6, 0, 35 :: twice d⟩ else none) else none
 | _ => none
def rcolor (t : List UInt8) : Option Val := match named t with | some v => some v | none => rhash t
def kColor : List UInt8 := [99, 111, 108, 111, 114]
def kLength : List UInt8 := [108, 101, 110, 103, 116, 104]
def kPositive : List UInt8 := [112, 111, 115, 105, 116, 105, 118, 101]
def kAny : List UInt8 := [97, 110, 121]
def kNumber : List UInt8 := [110, 117, 109, 98, 101, 114]
def kInteger : List UInt8 := [105, 110, 116, 101, 103, 101, 114]
def kLine : List UInt8 := [108, 105, 110, 101]
def kWords : List UInt8 := [119, 111, 114, 100, 115]
/-- What stands besides keywords. -/
def rkind (k t : List UInt8) : Option Val :=
 if k = kColor then rcolor t
 else if k = kLength then rsize t false true
 else if k = kPositive then rsize t true true
 else if k = kAny then rsize t true false
 else if k = kNumber then rcount t true false
 else if k = kInteger then rcount t false true
 else if k = kLine then (match rcount t true false with | some v => some v | none => rsize t true true)
 else none
theorem named_hash (d : List UInt8) : named (35 :: d) = none := by
 unfold named
 have : colors.find? (fun p => p.1 == 35 :: d) = none := by
  rw [List.find?_eq_none]
  intro x hx h
  rw [beq_iff_eq] at h
  have key : (colors.all fun p => p.1.head? != some 35) = true := by decide +kernel
  have := List.all_eq_true.1 key x hx
  rw [h, List.head?_cons] at this
  exact absurd this (by decide)
 rw [this]
theorem flat_len : ∀ d : List UInt8, (d.flatMap (fun c => [c, c])).length = 2 * d.length
 | [] => rfl
 | c :: t => by rw [List.flatMap_cons, List.length_append, flat_len t, List.length_cons]; simp; omega
theorem rcolor_law (t : List UInt8) : rcolor t = paint t := by
 unfold rcolor
 by_cases h : ∃ d, t = 35 :: d
 ·obtain ⟨d, rfl⟩ := h
  rw [named_hash]
  show rhash (35 :: d) = _
  unfold rhash paint
  simp only []
  by_cases ha : d.all isHex = true
  ·rw [if_pos ha, if_pos ha]
   by_cases h3 : d.length = 3
   ·have : (if d.length = 3 then d.flatMap (fun c => [c, c]) else d).length = 6 := by rw [if_pos h3, flat_len, h3]
    rw [if_pos (Or.inl h3), if_pos this]; rfl
   ·by_cases h6 : d.length = 6
    ·have : (if d.length = 3 then d.flatMap (fun c => [c, c]) else d).length = 6 := by rw [if_neg h3, h6]
     rw [if_pos (Or.inr h6), if_pos this]; rfl
    ·have : ¬ (if d.length = 3 then d.flatMap (fun c => [c, c]) else d).length = 6 := by rw [if_neg h3]; exact h6
     rw [if_neg (by rintro (h | h); exact h3 h; exact h6 h), if_neg this]
  ·rw [if_neg ha, if_neg ha, named_hash]
   split <;> rfl
 ·have e1 : rhash t = none := by
   unfold rhash
   split
   ·rename_i d; exact absurd ⟨d, rfl⟩ h
   ·rfl
  have e2 : paint t = named t := by
   unfold paint
   split
   ·rename_i d; exact absurd ⟨d, rfl⟩ h
   ·rfl
  rw [e1, e2]
  cases named t <;> rfl
theorem measure_one (t : List UInt8) : measure 1 t = none := by
 unfold measure
 cases decimal t with
 | none => rfl
 | some p =>
  obtain ⟨n, r⟩ := p
  simp only [show Nat.testBit 1 5 = false by decide, show Nat.testBit 1 3 = false by decide, show Nat.testBit 1 1 = false by decide, show Nat.testBit 1 2 = false by decide, Bool.and_false, Bool.false_eq_true, if_false]
  repeat' split
  all_goals rfl
theorem measure_zero (t : List UInt8) : measure 0 t = none := by
 unfold measure
 cases decimal t with
 | none => rfl
 | some p =>
  obtain ⟨n, r⟩ := p
  simp only [show Nat.testBit 0 5 = false by decide, show Nat.testBit 0 3 = false by decide, show Nat.testBit 0 1 = false by decide, show Nat.testBit 0 2 = false by decide, Bool.and_false, Bool.false_eq_true, if_false]
  repeat' split
  all_goals rfl
theorem empty_iff (r : List UInt8) : (r.isEmpty = true) ↔ r = [] := List.isEmpty_iff
theorem px_iff (r : List UInt8) (n : Int) : (r == [112, 120] || (r.isEmpty && n == 0)) = true ↔ (r = [112, 120] ∨ (r = [] ∧ n = 0)) := by simp
theorem rsize_law (t : List UInt8) (pc po : Bool) (k : Nat) (h1 : k.testBit 1 = true) (h2 : k.testBit 2 = pc) (h3 : k.testBit 3 = false) (h5 : k.testBit 5 = po) : rsize t pc po = measure k t := by
 unfold rsize measure
 cases decimal t with
 | none => rfl
 | some p =>
  obtain ⟨n, r⟩ := p
  simp only [h1, h2, h3, h5, Bool.and_false, Bool.false_eq_true, if_false, if_true]
  rw [Bool.and_comm]
  by_cases c1 : (decide (n < 0) && po) = true
  ·rw [if_pos c1, if_pos c1]
  ·rw [if_neg c1, if_neg c1]
   by_cases c2 : r = [112, 120] ∨ (r = [] ∧ n = 0)
   ·rw [if_pos c2, if_pos ((px_iff r n).2 c2)]
   ·rw [if_neg c2, if_neg (fun h => c2 ((px_iff r n).1 h))]
    by_cases c3 : r = [101, 109]
    ·rw [if_pos c3, if_pos (show (r == [101, 109]) = true by rw [c3]; rfl)]
    ·rw [if_neg c3, if_neg (show ¬ (r == [101, 109]) = true from fun h => c3 (eq_of_beq h))]
     by_cases c4 : r = [37]
     ·cases pc with
      | true => rw [if_pos ⟨c4, rfl⟩, if_pos (show (r == [37]) = true by rw [c4]; rfl), if_pos rfl]
      | false => rw [if_neg (by rintro ⟨_, h⟩; cases h), if_pos (show (r == [37]) = true by rw [c4]; rfl), if_neg Bool.false_ne_true]
     ·rw [if_neg (fun h => c4 h.1), if_neg (show ¬ (r == [37]) = true from fun h => c4 (eq_of_beq h))]
theorem rcount_law (t : List UInt8) (po wh : Bool) (k : Nat) (h1 : k.testBit 1 = false) (h2 : k.testBit 2 = false) (h3 : k.testBit 3 = true) (h4 : k.testBit 4 = wh) (h5 : k.testBit 5 = po) : rcount t po wh = measure k t := by
 unfold rcount measure
 cases decimal t with
 | none => rfl
 | some p =>
  obtain ⟨n, r⟩ := p
  simp only [h1, h2, h3, h4, h5, Bool.and_true, Bool.false_eq_true, if_false, if_true]
  rw [Bool.and_comm]
  by_cases c1 : (decide (n < 0) && po) = true
  ·rw [if_pos c1, if_pos c1]
   split <;> rfl
  ·rw [if_neg c1, if_neg c1]
   by_cases c2 : r = []
   ·rw [if_neg (fun h => h c2), if_pos ((empty_iff r).2 c2)]
    cases wh with
    | false => simp
    | true =>
     by_cases c3 : n % 1000 = 0
     ·rw [if_neg (by simp [c3]), if_pos (by simp [c3])]
     ·rw [if_pos (by simp [c3]), if_neg (by simp [c3])]
   ·rw [if_pos c2, if_neg (fun h => c2 ((empty_iff r).1 h))]
    repeat' split
    all_goals rfl
theorem line_law (t : List UInt8) : (match rcount t true false with | some v => some v | none => rsize t true true) = measure 46 t := by
 unfold rcount rsize measure
 cases decimal t with
 | none => rfl
 | some p =>
  obtain ⟨n, r⟩ := p
  simp only [show Nat.testBit 46 1 = true by decide, show Nat.testBit 46 2 = true by decide, show Nat.testBit 46 3 = true by decide, show Nat.testBit 46 4 = false by decide, show Nat.testBit 46 5 = true by decide, Bool.and_true, Bool.true_and, Bool.false_and, Bool.not_false, Bool.true_or, Bool.false_eq_true, if_false, if_true, and_true]
  by_cases c2 : r = []
  ·rw [if_neg (fun h => h c2), if_pos ((empty_iff r).2 c2)]
   by_cases c1 : decide (n < 0) = true
   ·rw [if_pos c1]; simp only []; rw [if_pos c1]
   ·rw [if_neg c1, if_neg c1]
  ·rw [if_pos c2, if_neg (fun h => c2 ((empty_iff r).1 h))]
   simp only []
   by_cases c1 : decide (n < 0) = true
   ·rw [if_pos c1, if_pos c1]
   ·rw [if_neg c1, if_neg c1]
    by_cases c3 : r = [112, 120] ∨ (r = [] ∧ n = 0)
    ·rw [if_pos c3, if_pos ((px_iff r n).2 c3)]
    ·rw [if_neg c3, if_neg (fun h => c3 ((px_iff r n).1 h))]
     by_cases c4 : r = [101, 109]
     ·rw [if_pos c4, if_pos (by rw [c4]; rfl)]
     ·rw [if_neg c4, if_neg (show ¬ (r == [101, 109]) = true from fun h => c4 (eq_of_beq h))]
      by_cases c5 : r = [37]
      ·rw [if_pos c5, if_pos (show (r == [37]) = true by rw [c5]; rfl)]
      ·rw [if_neg c5, if_neg (show ¬ (r == [37]) = true from fun h => c5 (eq_of_beq h))]
/-- The table of the reference: keywords, and what else is taken; nothing: there is no such longhand. -/
def jn : List (List UInt8) → List UInt8
 | [] => []
 | [a] => a
 | a :: r => a ++ 32 :: jn r
def kindOf (k : Nat) : List UInt8 :=
 if k = 1 then kColor else if k = 34 then kLength else if k = 38 then kPositive else if k = 6 then kAny else if k = 40 then kNumber else if k = 24 then kInteger else if k = 46 then kLine else kWords
def rtab (name : List UInt8) : List UInt8 × List UInt8 := match tab.find? (fun r => r.1 == name) with | some r => (jn r.2.2, kindOf r.2.1) | none => ([], [])
def wGlob : List UInt8 := [32, 105, 110, 104, 101, 114, 105, 116, 32, 105, 110, 105, 116, 105, 97, 108]
/-- The value as the reference reads it. -/
def rparse (name s : List UInt8) : Option Val :=
 if (rtab name).2 = [] then none
 else if (words ((rtab name).1 ++ wGlob)).contains (trim (lower s)) then some ⟨1, 0, trim (lower s)⟩
 else rkind (rtab name).2 (trim (lower s))
theorem rparse_law (name s : List UInt8) : rparse name s = good name s := by
 unfold rparse good value rtab
 cases h : tab.find? (fun r => r.1 == name) with
 | none => rfl
 | some r =>
  have hm := List.mem_of_find?_eq_some h
  have key : (tab.all fun r => (words (jn r.2.2 ++ wGlob)) == r.2.2 ++ globals) = true := by decide +kernel
  have hw := List.all_eq_true.1 key r hm
  rw [beq_iff_eq] at hw
  have key2 : (tab.all fun r => r.2.1 == 1 || r.2.1 == 34 || r.2.1 == 38 || r.2.1 == 6 || r.2.1 == 40 || r.2.1 == 24 || r.2.1 == 46 || r.2.1 == 0) = true := by decide +kernel
  have hk := List.all_eq_true.1 key2 r hm
  obtain ⟨nm, k, ws⟩ := r
  simp only [] at hw hk ⊢
  show _ = (some (valueT k ws (trim (lower s)))).join
  generalize trim (lower s) = t
  rw [hw]
  show _ = valueT k ws t
  unfold valueT
  rw [show (ws ++ globals).contains t = (ws.contains t || globals.contains t) by
   rw [Bool.eq_iff_iff]; simp]
  simp only [Bool.or_eq_true, beq_iff_eq] at hk
  have hne : kindOf k ≠ [] := by
   rcases hk with ((((((h | h) | h) | h) | h) | h) | h) | h <;> (subst h; decide)
  rw [if_neg hne]
  split
  ·rfl
  ·rcases hk with ((((((h | h) | h) | h) | h) | h) | h) | h <;> subst h
   ·show rcolor t = _
    rw [rcolor_law, if_pos (by decide)]
    cases paint t with
    | none => rw [measure_one]
    | some v => rfl
   ·rw [if_neg (by decide)]
    exact rsize_law t false true 34 (by decide) (by decide) (by decide) (by decide)
   ·rw [if_neg (by decide)]
    exact rsize_law t true true 38 (by decide) (by decide) (by decide) (by decide)
   ·rw [if_neg (by decide)]
    exact rsize_law t true false 6 (by decide) (by decide) (by decide) (by decide)
   ·rw [if_neg (by decide)]
    exact rcount_law t true false 40 (by decide) (by decide) (by decide) (by decide) (by decide)
   ·rw [if_neg (by decide)]
    exact rcount_law t false true 24 (by decide) (by decide) (by decide) (by decide) (by decide)
   ·rw [if_neg (by decide)]
    exact line_law t
   ·rw [if_neg (by decide), measure_zero]
    rfl
end S
end Go.Proofs.YtafkeolpadfjfaaGreatDoor
namespace Go.Proofs.YtafkeolpadfjfaaGreatDoor
namespace S
open T (sp low)
end S
end Go.Proofs.YtafkeolpadfjfaaGreatDoor
