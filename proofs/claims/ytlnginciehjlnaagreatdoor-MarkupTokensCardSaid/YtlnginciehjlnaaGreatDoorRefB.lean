/- What the reference for markup comes to: its small functions, and start. -/
import Derived.Test.YtlnginciehjlnaaGreatDoorRaw
import Derived.Test.YtlnginciehjlnaaGreatDoorRefA
import Derived.Test.YtlnginciehjlnaaGreatDoorStart
import Derived.WalkLawsBesides
import Derived.Deep.RegionLaw
import Derived.Deep.AppendLies
import Derived.Deep.CutBlock
import Derived.Deep.DeepCutAuto
set_option linter.unusedVariables false
set_option linter.unusedSimpArgs false
namespace Go.Proofs.YtlnginciehjlnaaGreatDoor
open Go.RowKit
namespace K

/-- The names of elements without content. -/
def voids : List (List UInt8) := [[97, 114, 101, 97], [98, 97, 115, 101], [98, 114], [99, 111, 108], [104, 114], [105, 109, 103], [105, 110, 112, 117, 116], [108, 105, 110, 107], [109, 101, 116, 97]]
def isVoid (n : List UInt8) : Bool := voids.any (fun x => x == n)

set_option maxHeartbeats 400000 in
theorem IsVoid (n : List UInt8) (w : World) (hE : Env w) :
    Calls Tryz.prog 26 #[.string ⟨n.toArray⟩] w fun e w' => e = .returned (.bool (isVoid n)) ∧ Below w.heap.size w w' := by
  have q := among n [97, 114, 101, 97, 32, 98, 97, 115, 101, 32, 98, 114, 32, 99, 111, 108, 32, 104, 114, 32, 105, 109, 103, 32, 105, 110, 112, 117, 116, 32, 108, 105, 110, 107, 32, 109, 101, 116, 97] voids w (by decide) (by decide) (by decide) (by decide) hE
  have Q := Lib.hid (show Calls Tryz.prog 46 _ w fun e w' => e = .returned (.bool (isVoid n)) ∧ Below w.heap.size w w' from q)
  clear q
  generalize isVoid n = R at *
  go_enter Tryz.func26, Tryz.ntmps26
  go_wp2_with fail
  refine Q.out.mono ?_
  rintro e w1 ⟨rfl, b⟩
  go_wp2_with fail
  go_ret
  exact ⟨rfl, b⟩

/-- A row of strings in one block. -/
def StrRowAt (w : World) (g : Nat) (L : List (List UInt8)) : Prop := ∀ k (h : k < L.length), w.cell? ⟨g, k, none⟩ = some (.string ⟨L[k].toArray⟩)

set_option maxHeartbeats 1000000 in
theorem rone (n : List UInt8) (g : Nat) (L : List (List UInt8)) (w : World) (hl : L.length ≤ 1000) (hL : StrRowAt w g L) :
    Calls Tryz.prog 47 #[.string ⟨n.toArray⟩, .slice (some ⟨g, 0, none⟩) L.length L.length] w fun e w' => e = .returned (.bool (L.any (fun x => x == n))) ∧ w = w' := by
  have HC := Lib.hid hL
  obtain ⟨R, hR⟩ : ∃ R, L.any (fun x => x == n) = R := ⟨_, rfl⟩
  have HR := Lib.hid hR
  rw [hR]
  clear hR hL
  go_enter Tryz.func47, Tryz.ntmps47
  go_wp2_with fail
  go_loopw [5] (fun u wr => ∃ k : Nat, u = .int .i64 k ∧ k ≤ L.length ∧ w = wr ∧ Hid (L.any (fun x => x == n) = (L.drop k).any (fun x => x == n))) (fun u _ => L.length - (intOf u).toNat)
  case atStart => exact ⟨0, rfl, Nat.zero_le _, rfl, Lib.hid rfl⟩
  case round =>
    obtain ⟨k, rfl, hk, rfl, HK⟩ := hrel
    by_cases hlt : k < L.length
    · have hlt1 : (k : Int) < (L.length : Int) := by omega
      have hc := HC.out k hlt
      have hdr : L.drop k = L[k] :: L.drop (k + 1) := List.drop_eq_getElem_cons hlt
      cases hx : (L[k] == n) with
      | true =>
        have HV : Hid (R = true) := Lib.hid (by rw [← HR.out, HK.out, hdr, List.any_cons, hx, Bool.true_or])
        clear hdr HK
        generalize L[k] = x at *
        go_wp2_with fail
        go_ret
        rw [HV.out]
        exact ⟨rfl, rfl⟩
      | false =>
        have HK' : Hid (L.any (fun x => x == n) = (L.drop (k + 1)).any (fun x => x == n)) := Lib.hid (by rw [HK.out, hdr, List.any_cons, hx, Bool.false_or])
        clear hdr HK
        generalize L[k] = x at *
        go_wp2_with fail
        go_roundw
        case rel => exact ⟨k + 1, by go_num, by omega, trivial, HK'⟩
        case measure => simp [intOf]; omega
    · have HV : Hid (R = false) := Lib.hid (by rw [← HR.out, HK.out, List.drop_eq_nil_of_le (by omega)]; rfl)
      have hge : (L.length : Int) ≤ (k : Int) := by omega
      go_wp2_with fail
      go_ret
      rw [HV.out]
      exact ⟨rfl, rfl⟩

set_option maxHeartbeats 1000000 in
theorem rVoid (n : List UInt8) (w : World) :
    Calls Tryz.prog 27 #[.string ⟨n.toArray⟩] w fun e w' => e = .returned (.bool (isVoid n)) ∧ Below w.heap.size w w' := by
  have q : ∀ W, StrRowAt W w.heap.size voids → Calls Tryz.prog 47 #[.string ⟨n.toArray⟩, .slice (some ⟨w.heap.size, 0, none⟩) 9 9] W fun e w' => e = .returned (.bool (isVoid n)) ∧ W = w' := fun W h => rone n w.heap.size voids W (by decide) h
  have Q := Lib.hid q
  clear q
  generalize isVoid n = R at *
  go_enter Tryz.func27, Tryz.ntmps27
  go_wp2_with fail
  refine (Q.out _ ?_).mono ?_
  · intro k hk
    rw [World.cell?_alloc_at _ _ _ _ rfl]
    have hk : k < 9 := hk
    rcases (by omega : k = 0 ∨ k = 1 ∨ k = 2 ∨ k = 3 ∨ k = 4 ∨ k = 5 ∨ k = 6 ∨ k = 7 ∨ k = 8) with rfl | rfl | rfl | rfl | rfl | rfl | rfl | rfl | rfl <;> rfl
  · rintro e w1 ⟨rfl, rfl⟩
    have hb : ∀ o, Below w.heap.size w (w.alloc o) := fun o => (Below.refl _ _).alloc (Nat.le_refl _) _
    go_wp2_with fail
    go_ret
    exact ⟨rfl, hb _⟩

set_option maxHeartbeats 400000 in
theorem rRaw (n : List UInt8) (w : World) :
    Calls Tryz.prog 29 #[.string ⟨n.toArray⟩] w fun e w' => e = .returned (.bool (M.isRaw n)) ∧ w = w' := by
  have hv : M.isRaw n = (n == [115, 99, 114, 105, 112, 116] || n == [115, 116, 121, 108, 101]) := rfl
  rw [hv]
  clear hv
  cases h1 : (n == [115, 99, 114, 105, 112, 116]) with
  | true =>
    go_enter Tryz.func29, Tryz.ntmps29
    go_wp2_with fail
    go_ret
    exact ⟨rfl, rfl⟩
  | false =>
    go_enter Tryz.func29, Tryz.ntmps29
    go_wp2_with fail
    go_ret
    exact ⟨rfl, rfl⟩

set_option maxHeartbeats 400000 in
theorem rPlain (n : List UInt8) (w : World) :
    Calls Tryz.prog 31 #[.string ⟨n.toArray⟩] w fun e w' => e = .returned (.bool (M.isPlain n)) ∧ w = w' := by
  have hv : M.isPlain n = (n == [116, 105, 116, 108, 101] || n == [116, 101, 120, 116, 97, 114, 101, 97]) := rfl
  rw [hv]
  clear hv
  cases h1 : (n == [116, 105, 116, 108, 101]) with
  | true =>
    go_enter Tryz.func31, Tryz.ntmps31
    go_wp2_with fail
    go_ret
    exact ⟨rfl, rfl⟩
  | false =>
    go_enter Tryz.func31, Tryz.ntmps31
    go_wp2_with fail
    go_ret
    exact ⟨rfl, rfl⟩

end K
end Go.Proofs.YtlnginciehjlnaaGreatDoor

namespace Go.Proofs.YtlnginciehjlnaaGreatDoor
namespace K

theorem getD_drop {s r : List UInt8} {i : Nat} {c : UInt8} (h : s.drop i = c :: r) : s.getD i 0 = c := by
  have h1 : (s.drop i)[0]? = some c := by rw [h]; rfl
  rw [List.getElem?_drop, Nat.add_zero] at h1
  rw [List.getD_eq_getElem?_getD, h1]; rfl
theorem getD_past {s : List UInt8} {i : Nat} (h : s.length ≤ i) : s.getD i 0 = 0 := by
  rw [List.getD_eq_getElem?_getD, List.getElem?_eq_none h]; rfl

/-- The end of the run of bytes with p from a place on. -/
def twEnd (p : UInt8 → Bool) (s : List UInt8) (i : Nat) : Nat := i + ((s.drop i).takeWhile p).length

theorem twEnd_step {p : UInt8 → Bool} {s r : List UInt8} {i : Nat} {c : UInt8} (h : s.drop i = c :: r) (hc : p c = true) : twEnd p s (i + 1) = twEnd p s i := by
  unfold twEnd
  rw [drop_more h, h, List.takeWhile_cons_of_pos hc, List.length_cons]; omega
theorem twEnd_stop {p : UInt8 → Bool} {s r : List UInt8} {i : Nat} {c : UInt8} (h : s.drop i = c :: r) (hc : p c = false) : twEnd p s i = i := by
  unfold twEnd
  rw [h, List.takeWhile_cons_of_neg (by rw [hc]; simp)]; rfl
theorem twEnd_past {p : UInt8 → Bool} {s : List UInt8} {i : Nat} (h : s.length ≤ i) : twEnd p s i = i := by
  unfold twEnd
  rw [List.drop_eq_nil_of_le h]; rfl
theorem twEnd_ge (p : UInt8 → Bool) (s : List UInt8) (i : Nat) : i ≤ twEnd p s i := Nat.le_add_right _ _
theorem twEnd_le {p : UInt8 → Bool} {s : List UInt8} {i : Nat} (h : i ≤ s.length) : twEnd p s i ≤ s.length := by
  have := tw_le p (s.drop i)
  rw [List.length_drop] at this
  unfold twEnd; omega
theorem twEnd_take (p : UInt8 → Bool) (s : List UInt8) (i : Nat) : (s.drop i).take (twEnd p s i - i) = (s.drop i).takeWhile p := by
  unfold twEnd
  rw [Nat.add_sub_cancel_left, ← take_while_more]
theorem twEnd_drop (p : UInt8 → Bool) (s : List UInt8) (i : Nat) : s.drop (twEnd p s i) = (s.drop i).dropWhile p := by
  unfold twEnd
  rw [← List.drop_drop, drop_tw]

/-- A name ends at a place. -/
def stopAt (s : List UInt8) (i : Nat) : Bool := match s.drop i with | [] => true | c :: _ => M.stops c

theorem stop_past {s : List UInt8} {i : Nat} (h : s.length ≤ i) : stopAt s i = true := by
  unfold stopAt; rw [List.drop_eq_nil_of_le h]
theorem stop_at {s r : List UInt8} {i : Nat} {c : UInt8} (h : s.drop i = c :: r) : stopAt s i = M.stops c := by
  unfold stopAt; rw [h]
theorem stop_false {s : List UInt8} {i : Nat} (h : stopAt s i = false) : ∃ c r, s.drop i = c :: r ∧ M.goesOn c = true ∧ M.stops c = false := by
  unfold stopAt at h
  cases hd : s.drop i with
  | nil => rw [hd] at h; cases h
  | cons c r =>
    rw [hd] at h
    have h : M.stops c = false := h
    exact ⟨c, r, rfl, by unfold M.goesOn; rw [h]; rfl, h⟩
theorem stop_true {s : List UInt8} {i : Nat} (h : stopAt s i = true) : twEnd M.goesOn s i = i := by
  unfold stopAt at h
  cases hd : s.drop i with
  | nil => unfold twEnd; rw [hd]; rfl
  | cons c r =>
    rw [hd] at h
    have h : M.stops c = true := h
    exact twEnd_stop hd (by unfold M.goesOn; rw [h]; rfl)

theorem pre_one (c : UInt8) (l : List UInt8) : [c].isPrefixOf l = match l with | [] => false | d :: _ => c == d := by
  cases l with
  | nil => rfl
  | cons d t => simp [List.isPrefixOf]

theorem begins_eq (s : List UInt8) (i : Nat) : M.begins (s.drop i) = ([60].isPrefixOf (s.drop i) && (M.letter (s.getD (i + 1) 0) || ([47].isPrefixOf (s.drop (i + 1)) || ([33].isPrefixOf (s.drop (i + 1)) || [63].isPrefixOf (s.drop (i + 1)))))) := by
  cases hd : s.drop i with
  | nil => rfl
  | cons c r =>
    have h1 := drop_more hd
    rw [h1, pre_one]
    by_cases hc : c = 60
    · subst hc
      cases r with
      | nil =>
        have hl : s.length ≤ i + 1 := by have := congrArg List.length h1; rw [List.length_drop] at this; simp at this; omega
        rw [getD_past hl]
        rfl
      | cons d t =>
        rw [getD_drop h1, pre_one, pre_one, pre_one]
        show (M.letter d || (d == 47 || d == 33 || d == 63)) = _
        rw [show (d == 47) = (47 == d) from BEq.comm, show (d == 33) = (33 == d) from BEq.comm, show (d == 63) = (63 == d) from BEq.comm]
        simp [Bool.or_assoc]
    · have e : ((60 : UInt8) == c) = false := by simpa using fun h => hc h.symm
      dsimp only
      rw [e, Bool.false_and]
      unfold M.begins
      split
      · rename_i heq; simp at heq; exact absurd heq.1 hc
      · rfl

/-- The reading of a value at a place; none: its quote is missing. -/
def vspec (s : List UInt8) (i : Nat) : Option (List UInt8 × Nat) :=
  match s.drop i with
  | [] => some ([], i)
  | c :: t => if c == 34 || c == 39 then (match M.idx [c] t with | none => none | some k => some (t.take k, i + 1 + k + 1))
    else some ((c :: t).takeWhile M.inValue, twEnd M.inValue s i)

theorem value_spec {s : List UInt8} {i i0 : Nat} (hi : i ≤ s.length) (h : s.drop i = (s.drop i0).dropWhile T.sp) :
    match vspec s i with
    | none => M.value (s.drop i0) = none
    | some (v, j) => i ≤ j ∧ j ≤ s.length ∧ v.length ≤ s.length ∧ (M.value (s.drop i0) = some (v, s.drop j) ∨ (M.value (s.drop i0) = none ∧ j = s.length)) := by
  unfold vspec M.value
  rw [← h]
  cases hd : s.drop i with
  | nil =>
    have hl : s.length = i := by have := congrArg List.length hd; rw [List.length_drop] at this; simp at this; omega
    exact ⟨Nat.le_refl _, hi, Nat.zero_le _, Or.inr ⟨rfl, hl.symm⟩⟩
  | cons c t =>
    have hlt := lt_drop hd
    have htl : t.length + 1 = s.length - i := by have := congrArg List.length hd; rw [List.length_drop, List.length_cons] at this; omega
    have hd1 := drop_more hd
    dsimp only
    cases hq : (c == 34 || c == 39) with
    | true =>
      simp only [if_true]
      cases hx : M.idx [c] t with
      | none => rfl
      | some k =>
        have hk := idx_le [c] t k hx
        simp only [List.length_cons, List.length_nil] at hk
        refine ⟨by omega, by omega, by rw [List.length_take]; omega, Or.inl ?_⟩
        rw [show i + 1 + k + 1 = (i + 1) + (k + 1) by omega, ← List.drop_drop, hd1]
    | false =>
      simp only [Bool.false_eq_true, if_false]
      have hw := twEnd_drop M.inValue s i
      rw [hd] at hw
      have hle := twEnd_le (p := M.inValue) hi
      have hge := twEnd_ge M.inValue s i
      have htw := tw_le M.inValue (c :: t)
      rw [List.length_cons] at htw
      refine ⟨hge, hle, by omega, ?_⟩
      cases hdw : (c :: t).dropWhile M.inValue with
      | nil =>
        rw [hdw] at hw
        refine Or.inr ⟨rfl, ?_⟩
        have := congrArg List.length hw; rw [List.length_drop] at this; simp at this; omega
      | cons d u =>
        rw [hdw] at hw
        refine Or.inl ?_
        rw [hw]

/-- Does the end of a raw element stand at a place? -/
theorem shut_split (tag s : List UInt8) (k : Nat) (h : k + 2 + tag.length < s.length) :
    M.shut ([60, 47] ++ tag) (s.drop k) = ([60, 47].isPrefixOf (s.drop k) && ((M.lower ((s.drop (k + 2)).take tag.length) == tag) && stopAt s (k + 2 + tag.length))) := by
  have hl : ([60, 47] ++ tag).length = 2 + tag.length := by simp; omega
  obtain ⟨x, y, hxy⟩ := drop_cons h
  have e1 : M.shut ([60, 47] ++ tag) (s.drop k) = (M.has (s.drop k) ([60, 47] ++ tag) && M.stops x) := by
    unfold M.shut
    rw [List.drop_drop, hl, ← Nat.add_assoc, hxy]
  rw [e1, stop_at hxy]
  have hh : M.has (s.drop k) ([60, 47] ++ tag) = ([60, 47].isPrefixOf (s.drop k) && (M.lower ((s.drop (k + 2)).take tag.length) == tag)) := by
    unfold M.has
    rw [decide_eq_true (by rw [hl, List.length_drop]; omega), Bool.true_and, hl]
    obtain ⟨c, r, hd⟩ := drop_cons (s := s) (i := k) (by omega)
    obtain ⟨d, t, hd2⟩ := drop_cons (s := s) (i := k + 1) (by omega)
    have e1 := drop_more hd
    have e2 : s.drop (k + 2) = t := drop_more hd2
    have hr : r = d :: t := by rw [← e1, hd2]
    subst hr
    rw [hd, e2, show 2 + tag.length = tag.length + 1 + 1 by omega, List.take_succ_cons, List.take_succ_cons]
    have hlow : ∀ x : UInt8, ∀ y : UInt8, (y = 60 ∨ y = 47) → ((T.low x == y) = (y == x)) := by
      intro x y hy
      rw [Bool.eq_iff_iff, beq_iff_eq, beq_iff_eq]
      constructor
      · intro e
        exact (M.low_eq e (by rcases hy with rfl | rfl <;> decide)).symm
      · rintro rfl
        rcases hy with rfl | rfl <;> decide
    show (T.low c :: T.low d :: M.lower (t.take tag.length) == 60 :: 47 :: tag) = ([60, 47].isPrefixOf (c :: d :: t) && (M.lower (t.take tag.length) == tag))
    rw [List.cons_beq_cons, List.cons_beq_cons, hlow c 60 (Or.inl rfl), hlow d 47 (Or.inr rfl)]
    simp [List.isPrefixOf, Bool.and_assoc]
  rw [hh, Bool.and_assoc]

/-- Where a raw element's text ends, seen from a place on. -/
def shutI (tag s : List UInt8) (k : Nat) : Nat := k + M.shutEnd tag (s.drop k)

theorem shutI_yes {tag s : List UInt8} {k : Nat} (h : k < s.length) (hs : M.shut ([60, 47] ++ tag) (s.drop k) = true) : shutI tag s k = k := by
  obtain ⟨c, r, hd⟩ := drop_cons h
  have hc : c = 60 := by
    have := M.shut_head hs
    rw [hd] at this
    have e : T.low c = 60 := by
      have h2 : M.lower ((c :: r).take ([60, 47] ++ tag).length) = T.low c :: M.lower (r.take (tag.length + 1)) := by simp [M.lower]
      rw [h2] at this
      injection this
    exact M.low_eq e (by decide)
  subst hc
  unfold shutI M.shutEnd
  have : M.shutAt ([60, 47] ++ tag) (s.drop k) = some 0 := by
    rw [hd] at hs ⊢
    unfold M.shutAt
    rw [if_pos (by rw [hs]; rfl)]
  rw [this]
  rfl
theorem shutI_no {tag s : List UInt8} {k : Nat} (h : k < s.length) (hs : M.shut ([60, 47] ++ tag) (s.drop k) = false) : shutI tag s k = shutI tag s (k + 1) := by
  obtain ⟨c, r, hd⟩ := drop_cons h
  have hd1 := drop_more hd
  have hl : r.length + 1 = s.length - k := by have := congrArg List.length hd; rw [List.length_drop, List.length_cons] at this; omega
  unfold shutI M.shutEnd
  have e : M.shutAt ([60, 47] ++ tag) (s.drop k) = (M.shutAt ([60, 47] ++ tag) r).map (· + 1) := by
    rw [hd] at hs ⊢
    conv => lhs; unfold M.shutAt
    rw [if_neg (by rw [hs]; simp)]
  rw [e, hd1, hd]
  cases M.shutAt ([60, 47] ++ tag) r with
  | none => simp only [Option.map_none, List.length_cons]; omega
  | some j => simp only [Option.map_some]; omega
theorem shutI_end {tag s : List UInt8} {k : Nat} (hk : k ≤ s.length) (h : s.length ≤ k + 2 + tag.length) : shutI tag s k = s.length := by
  unfold shutI M.shutEnd
  cases hx : M.shutAt ([60, 47] ++ tag) (s.drop k) with
  | none => dsimp only; rw [List.length_drop]; omega
  | some i =>
    have := M.shutAt_len _ _ _ hx
    rw [List.length_drop] at this
    simp at this
    omega
theorem shutI_le {tag s : List UInt8} {k : Nat} (hk : k ≤ s.length) : k ≤ shutI tag s k ∧ shutI tag s k ≤ s.length := by
  unfold shutI M.shutEnd
  cases hx : M.shutAt ([60, 47] ++ tag) (s.drop k) with
  | none => dsimp only; rw [List.length_drop]; omega
  | some i =>
    have := M.shutAt_len _ _ _ hx
    rw [List.length_drop] at this
    dsimp only
    omega

/-- What stands between a place and a mark, and the place behind it. -/
def cutI (p s : List UInt8) (i : Nat) : List UInt8 × Nat := match M.idx p (s.drop i) with | none => (s.drop i, s.length) | some j => ((s.drop i).take j, i + j + p.length)
theorem cutI_cut (p s : List UInt8) (i : Nat) : M.cutT p (s.drop i) = ((cutI p s i).1, s.drop (cutI p s i).2) := by
  unfold M.cutT cutI
  cases M.idx p (s.drop i) with
  | none => simp
  | some j => simp only [List.drop_drop]; rw [Nat.add_assoc]
theorem cutI_le {p s : List UInt8} {i : Nat} (hi : i ≤ s.length) : i ≤ (cutI p s i).2 ∧ (cutI p s i).2 ≤ s.length ∧ (cutI p s i).1.length ≤ s.length := by
  unfold cutI
  cases hx : M.idx p (s.drop i) with
  | none => exact ⟨hi, Nat.le_refl _, by rw [List.length_drop]; omega⟩
  | some j =>
    have := idx_le p _ j hx
    rw [List.length_drop] at this
    exact ⟨by dsimp only; omega, by dsimp only; omega, by rw [List.length_take, List.length_drop]; omega⟩

/-- Where a text ends, seen from a place on: the place of the next construct. -/
def textI (s : List UInt8) (k : Nat) : Nat := match M.nextAt (s.drop k) with | none => s.length | some j => k + j
theorem textI_yes {s : List UInt8} {k : Nat} (h : k < s.length) (hb : M.begins (s.drop k) = true) : textI s k = k := by
  obtain ⟨c, r, hd⟩ := drop_cons h
  unfold textI
  have : M.nextAt (s.drop k) = some 0 := by
    rw [hd] at hb ⊢
    unfold M.nextAt
    rw [if_pos hb]
  rw [this]; rfl
theorem textI_no {s : List UInt8} {k : Nat} (h : k < s.length) (hb : M.begins (s.drop k) = false) : textI s k = textI s (k + 1) := by
  obtain ⟨c, r, hd⟩ := drop_cons h
  have hd1 := drop_more hd
  unfold textI
  have : M.nextAt (s.drop k) = (M.nextAt r).map (· + 1) := by
    rw [hd] at hb ⊢
    conv => lhs; unfold M.nextAt
    rw [if_neg (by rw [hb]; simp)]
  rw [this, hd1]
  cases M.nextAt r with
  | none => rfl
  | some j => simp only [Option.map_some]; omega
theorem textI_end {s : List UInt8} {k : Nat} (hk : k = s.length) : textI s k = k := by
  unfold textI
  rw [List.drop_eq_nil_of_le (by omega)]
  show s.length = k
  omega
theorem textI_eq {s : List UInt8} {i : Nat} (hi : i < s.length) : textI s (i + 1) = i + M.textEnd (s.drop i) := by
  obtain ⟨c, r, hd⟩ := drop_cons hi
  have hd1 := drop_more hd
  have hl : r.length + 1 = s.length - i := by have := congrArg List.length hd; rw [List.length_drop, List.length_cons] at this; omega
  unfold textI M.textEnd
  rw [hd, hd1]
  show _ = i + (match M.nextAt r with | none => (c :: r).length | some i => i + 1)
  cases M.nextAt r with
  | none => simp only [List.length_cons]; omega
  | some j => simp only []; omega
theorem nextAt_le : ∀ (s : List UInt8) (j : Nat), M.nextAt s = some j → j < s.length
  | [], j, h => by cases h
  | c :: r, j, h => by
    unfold M.nextAt at h
    split at h
    · obtain rfl : 0 = j := by simpa using h
      simp
    · cases hx : M.nextAt r with
      | none => rw [hx] at h; cases h
      | some k =>
        rw [hx] at h
        obtain rfl : k + 1 = j := by simpa using h
        have := nextAt_le r k hx
        rw [List.length_cons]; omega
theorem textI_le {s : List UInt8} {k : Nat} (hk : k ≤ s.length) : k ≤ textI s k ∧ textI s k ≤ s.length := by
  unfold textI
  cases hx : M.nextAt (s.drop k) with
  | none => exact ⟨hk, Nat.le_refl _⟩
  | some j =>
    have := nextAt_le _ _ hx
    rw [List.length_drop] at this
    dsimp only
    omega

end K
end Go.Proofs.YtlnginciehjlnaaGreatDoor

namespace Go.Proofs.YtlnginciehjlnaaGreatDoor
namespace K

theorem pre_two (a b : UInt8) (s : List UInt8) (i : Nat) : [a, b].isPrefixOf (s.drop i) = ([a].isPrefixOf (s.drop i) && [b].isPrefixOf (s.drop (i + 1))) := by
  cases hd : s.drop i with
  | nil => rfl
  | cons c r =>
    rw [drop_more hd]
    simp [List.isPrefixOf]

theorem prefix_fit {p s : List UInt8} {i : Nat} (h : p.isPrefixOf (s.drop i) = true) (h1 : 1 ≤ p.length) : i + p.length ≤ s.length := by
  have := (List.isPrefixOf_iff_prefix.1 h).length_le
  rw [List.length_drop] at this
  omega
theorem pre_form {p s : List UInt8} {i : Nat} (h : p.isPrefixOf (s.drop i) = true) : s.drop i = p ++ s.drop (i + p.length) := by
  obtain ⟨t, ht⟩ := List.isPrefixOf_iff_prefix.1 h
  rw [← ht, ← List.drop_drop, ← ht, List.drop_left]

theorem letter_in {s : List UInt8} {i : Nat} (h : M.letter (s.getD i 0) = true) : i < s.length := by
  rcases Nat.lt_or_ge i s.length with h' | h'
  · exact h'
  · rw [getD_past h'] at h; cases h

theorem getD_off (s : List UInt8) (i k : Nat) : (s.drop i).getD k 0 = s.getD (i + k) 0 := by
  rw [List.getD_eq_getElem?_getD, List.getD_eq_getElem?_getD, List.getElem?_drop]

theorem leafA {s : List UInt8} {i : Nat} (h : [60, 33, 45, 45].isPrefixOf (s.drop i) = true) :
    i + 4 ≤ s.length ∧ M.run [] (s.drop i) = .txt 4 (cutI [45, 45, 62] s (i + 4)).1 :: M.run [] (s.drop (cutI [45, 45, 62] s (i + 4)).2) := by
  refine ⟨prefix_fit h (by decide), ?_⟩
  have := M.run_open (s.drop i) h
  rw [List.drop_drop] at this
  rw [this, show M.closing = [45, 45, 62] from rfl, cutI_cut]

theorem leafB {s : List UInt8} {i : Nat} (h : [60, 47].isPrefixOf (s.drop i) = true) (hl : M.letter (s.getD (i + 2) 0) = true) :
    i + 2 < s.length ∧ (match M.idx [62] (s.drop i) with
      | none => M.run [] (s.drop i) = []
      | some k => i + k < s.length ∧ 1 ≤ k ∧ M.run [] (s.drop i) = ⟨2, M.lower ((s.drop (i + 2)).takeWhile M.goesOn), [], false, []⟩ :: M.run [] (s.drop (i + k + 1))) := by
  have h2 := letter_in hl
  obtain ⟨c, r, hd⟩ := drop_cons h2
  have hf : s.drop i = 60 :: 47 :: c :: r := by rw [pre_form h]; show 60 :: 47 :: s.drop (i + 2) = _; rw [hd]
  have hc : M.letter c = true := by rw [getD_drop hd] at hl; exact hl
  have hr := M.run_end c r hc
  refine ⟨h2, ?_⟩
  rw [← hf] at hr
  rw [hd]
  cases hx : M.idx [62] (s.drop i) with
  | none => rw [hx] at hr; exact hr
  | some k =>
    rw [hx] at hr
    have hk := idx_le [62] _ k hx
    rw [List.length_drop] at hk
    simp only [List.length_cons, List.length_nil] at hk
    have h1 : 1 ≤ k := by
      rcases Nat.eq_zero_or_pos k with rfl | hp
      · rw [hf] at hx
        have : M.idx [62] (60 :: 47 :: c :: r) = (M.idx [62] (47 :: c :: r)).map (· + 1) := by
          conv => lhs; unfold M.idx
          rw [if_neg (by simp [List.isPrefixOf])]
        rw [this] at hx
        cases hy : M.idx [62] (47 :: c :: r) with
        | none => rw [hy] at hx; cases hx
        | some j => rw [hy] at hx; simp at hx
      · exact hp
    exact ⟨by omega, h1, by rw [hr]; dsimp only; rw [List.drop_drop, Nat.add_assoc]⟩

theorem leafC {s : List UInt8} {i : Nat} (h : [60, 47, 62].isPrefixOf (s.drop i) = true) : i + 3 ≤ s.length ∧ M.run [] (s.drop i) = M.run [] (s.drop (i + 3)) := by
  refine ⟨prefix_fit h (by decide), ?_⟩
  rw [pre_form h]
  exact M.run_skip _

theorem leafD {s : List UInt8} {i : Nat} (h1 : [60, 33, 45, 45].isPrefixOf (s.drop i) = false) {c : UInt8} (hc : c = 47 ∨ c = 33 ∨ c = 63) (hp : [60, c].isPrefixOf (s.drop i) = true)
    (hl : c = 47 → M.letter (s.getD (i + 2) 0) = false) (h3 : c = 47 → [60, 47, 62].isPrefixOf (s.drop i) = false) :
    i + 2 ≤ s.length ∧ M.run [] (s.drop i) = (if c == 33 && decide (7 ≤ (cutI [62] s (i + 2)).1.length) && (M.lower ((cutI [62] s (i + 2)).1.take 7) == [100, 111, 99, 116, 121, 112, 101]) then .txt 5 (M.trim ((cutI [62] s (i + 2)).1.drop 7)) else .txt 4 (cutI [62] s (i + 2)).1) :: M.run [] (s.drop (cutI [62] s (i + 2)).2) := by
  refine ⟨prefix_fit hp (by show 1 ≤ 2; omega), ?_⟩
  have hf := pre_form hp
  have hf : s.drop i = 60 :: c :: s.drop (i + 2) := hf
  have g1 : (s.drop i).getD 1 0 = c := by rw [hf]; rfl
  have g2 : (s.drop i).getD 2 0 = s.getD (i + 2) 0 := getD_off s i 2
  have hb : M.begins (s.drop i) = true := by
    rw [hf]
    rcases hc with rfl | rfl | rfl <;> simp [M.begins]
  have hlc : M.letter c = false := by rcases hc with rfl | rfl | rfl <;> decide
  have h4 : [60, 47, 62].isPrefixOf (s.drop i) = false := by
    rcases hc with rfl | rfl | rfl
    · exact h3 rfl
    · rw [hf]; rfl
    · rw [hf]; rfl
  have h5 : ((s.drop i).getD 1 0 == 47 && M.letter ((s.drop i).getD 2 0)) = false := by
    rw [g1, g2]
    rcases hc with rfl | rfl | rfl
    · rw [hl rfl]; rfl
    · rfl
    · rfl
  have hr := M.run_mark (s.drop i) h1 hb (by rw [g1]; exact hlc) h4 h5
  rw [hr, List.drop_drop, cutI_cut]
  dsimp only
  have e : M.isDoc (s.drop i) (cutI [62] s (i + 2)).1 = (c == 33 && decide (7 ≤ (cutI [62] s (i + 2)).1.length) && (M.lower ((cutI [62] s (i + 2)).1.take 7) == [100, 111, 99, 116, 121, 112, 101])) := by
    unfold M.isDoc
    have : [60, 33].isPrefixOf (s.drop i) = (c == 33) := by
      rw [hf]
      rcases hc with rfl | rfl | rfl <;> rfl
    rw [this]
  rw [e]

theorem leafE {s : List UInt8} {i : Nat} (h : [60].isPrefixOf (s.drop i) = true) (hl : M.letter (s.getD (i + 1) 0) = true) :
    i + 1 < s.length ∧ (match M.start (s.drop (i + 1)) with
      | none => M.run [] (s.drop i) = []
      | some (t, u) => M.run [] (s.drop i) = t :: M.run (if M.isRaw t.name || M.isPlain t.name then t.name else []) u) := by
  have h2 := letter_in hl
  obtain ⟨c, r, hd⟩ := drop_cons h2
  have hf : s.drop i = 60 :: c :: r := by rw [pre_form h]; show 60 :: s.drop (i + 1) = _; rw [hd]
  have hc : M.letter c = true := by rw [getD_drop hd] at hl; exact hl
  refine ⟨h2, ?_⟩
  rw [hd, hf]
  cases hs : M.start (c :: r) with
  | none => exact M.run_tag_none c r hc hs
  | some q =>
    obtain ⟨t, u⟩ := q
    exact M.run_tag c r u t hc hs

/-- The text of a raw element that begins at a place. -/
theorem leafR {name s : List UInt8} {j : Nat} (hm : M.isRaw name = true ∨ M.isPlain name = true) :
    M.run name (s.drop j) = (if (s.drop j).take (shutI name s j - j) = [] then [] else [.txt 3 (if M.isPlain name then E.decode ((s.drop j).take (shutI name s j - j)) else (s.drop j).take (shutI name s j - j))]) ++ M.run [] (s.drop (shutI name s j)) := by
  have hn : name ≠ [] := by rintro rfl; rcases hm with h | h <;> cases h
  have := M.run_raw (s.drop j) (Or.inr hm) hn
  have e : shutI name s j - j = M.shutEnd name (s.drop j) := by unfold shutI; omega
  have e2 : s.drop (shutI name s j) = (s.drop j).drop (M.shutEnd name (s.drop j)) := by unfold shutI; rw [List.drop_drop]
  rw [e, e2]
  exact this

theorem leafF {s : List UInt8} {i : Nat} (hi : i < s.length) (h : ([60].isPrefixOf (s.drop i) && M.letter (s.getD (i + 1) 0)) = false) (h1 : [60, 47].isPrefixOf (s.drop i) = false) (h2 : [60, 33].isPrefixOf (s.drop i) = false) (h3 : [60, 63].isPrefixOf (s.drop i) = false) :
    M.run [] (s.drop i) = .txt 3 (E.decode ((s.drop i).take (textI s (i + 1) - i))) :: M.run [] (s.drop (textI s (i + 1))) := by
  have hb : M.begins (s.drop i) = false := by
    rw [begins_eq]
    rw [pre_two] at h1 h2 h3
    cases hp : [60].isPrefixOf (s.drop i) with
    | false => rfl
    | true =>
      rw [hp] at h h1 h2 h3
      simp only [Bool.true_and] at h h1 h2 h3
      rw [h, h1, h2, h3]
      rfl
  have hne : s.drop i ≠ [] := by
    obtain ⟨c, r, hd⟩ := drop_cons hi
    rw [hd]; simp
  have hr := M.run_plain (s.drop i) hne hb
  have e := textI_eq hi
  rw [hr, e, Nat.add_sub_cancel_left, List.drop_drop]

end K
end Go.Proofs.YtlnginciehjlnaaGreatDoor

namespace Go.Proofs.YtlnginciehjlnaaGreatDoor
open Go.RowKit
namespace K

theorem ratz (s p : List UInt8) (i : Nat) (z : Int) (w : World) (hz : z = (i : Int)) (hs : s.length ≤ 1000000) (h1 : 1 ≤ p.length) (hp : p.length ≤ 1000000) (hi : i ≤ 2000000) :
    Calls Tryz.prog 32 #[.string ⟨s.toArray⟩, .int .i64 z, .string ⟨p.toArray⟩] w fun e w' => e = .returned (.bool (p.isPrefixOf (s.drop i))) ∧ w = w' := by
  subst hz; exact rat s p i w hs h1 hp hi

theorem rFindz (s p : List UInt8) (i : Nat) (z : Int) (w : World) (hz : z = (i : Int)) (hs : s.length ≤ 1000000) (h1 : 1 ≤ p.length) (hp : p.length ≤ 1000000) (hf : i ≤ s.length) :
    Calls Tryz.prog 18 #[.string ⟨s.toArray⟩, .int .i64 z, .string ⟨p.toArray⟩] w fun e w' => e = .returned (.int .i64 (findI p s i)) ∧ w = w' := by
  subst hz; exact rFind s p i w hs h1 hp hf

set_option maxHeartbeats 1000000 in
theorem rletter (s : List UInt8) (i : Nat) (z : Int) (w : World) (hz : z = (i : Int)) (hs : s.length ≤ 1000000) (hi : i ≤ 2000000) :
    Calls Tryz.prog 34 #[.string ⟨s.toArray⟩, .int .i64 z] w fun e w' => e = .returned (.bool (M.letter (s.getD i 0))) ∧ w = w' := by
  subst hz
  by_cases hl : i < s.length
  · obtain ⟨c, r, hd⟩ := drop_cons hl
    have hx := at_drop hd (by rw [T.bytes_size]; exact hl)
    have hl1 : (i : Int) < (s.length : Int) := by omega
    have hc := c.toNat_lt
    rw [getD_drop hd]
    clear hd
    go_enter Tryz.func34, Tryz.ntmps34
    go_wp2
    all_goals
      go_ret
      refine ⟨ret_bool ?_, rfl⟩
      unfold M.letter
      rw [Bool.eq_iff_iff]
      simp
      omega
  · have hl1 : (s.length : Int) ≤ (i : Int) := by omega
    have hv : M.letter (s.getD i 0) = false := by rw [getD_past (by omega)]; rfl
    rw [hv]
    clear hv hl
    go_enter Tryz.func34, Tryz.ntmps34
    go_wp2_with fail
    go_ret
    exact ⟨rfl, rfl⟩

set_option maxHeartbeats 1000000 in
theorem rstop (s : List UInt8) (i : Nat) (z : Int) (w : World) (hz : z = (i : Int)) (hs : s.length ≤ 1000000) (hi : i ≤ 2000000) :
    Calls Tryz.prog 48 #[.string ⟨s.toArray⟩, .int .i64 z] w fun e w' => e = .returned (.bool (stopAt s i)) ∧ w = w' := by
  subst hz
  by_cases hl : i < s.length
  · obtain ⟨c, r, hd⟩ := drop_cons hl
    have hx := at_drop hd (by rw [T.bytes_size]; exact hl)
    have hl1 : (i : Int) < (s.length : Int) := by omega
    have hl3 : decide (s.length ≤ i) = false := decide_eq_false (by omega)
    rw [stop_at hd]
    clear hd
    have q := fun W => T.refSpace c W
    cases hsp : T.sp c with
    | true =>
      have hv : M.stops c = true := by unfold M.stops; rw [hsp]; simp
      rw [hsp] at q
      have Q := Lib.hid q
      rw [hv]
      clear q hsp hv
      go_enter Tryz.func48, Tryz.ntmps48
      go_wp2_with fail
      refine (Q.out _).mono ?_
      rintro e w' ⟨rfl, rfl⟩
      go_wp2_with fail
      go_ret
      exact ⟨rfl, rfl⟩
    | false =>
      rw [hsp] at q
      have Q := Lib.hid q
      clear q
      rcases Decidable.em (c = 47) with h1 | h1
      case' inl =>
        have hv : M.stops c = true := by subst h1; rfl
        have f1 : ((c.toNat : Int) == 47) = true := byte_is (n := 47) h1 (by omega)
      case' inr =>
        have f1 : ((c.toNat : Int) == 47) = false := byte_ne (n := 47) h1 (by omega)
        have hv : M.stops c = (c == 62) := by
          have g1 : (c == 47) = false := by simpa using h1
          unfold M.stops; rw [hsp, g1]; simp
        have f2 : ((c.toNat : Int) == 62) = (c == 62) := T.byte_eq c 62 (by omega)
        generalize (c == 62) = B at *
      all_goals
        rw [hv]
        clear hv h1 hsp
        go_enter Tryz.func48, Tryz.ntmps48
        go_wp2_with fail
        refine (Q.out _).mono ?_
        rintro e w' ⟨rfl, rfl⟩
        go_wp2_with fail
        go_ret
        exact ⟨rfl, rfl⟩
  · have hl1 : (s.length : Int) ≤ (i : Int) := by omega
    rw [stop_past (by omega)]
    clear hl
    go_enter Tryz.func48, Tryz.ntmps48
    go_wp2_with fail
    go_ret
    exact ⟨rfl, rfl⟩

set_option maxHeartbeats 2000000 in
theorem rBegins (s : List UInt8) (i : Nat) (z : Int) (w : World) (hz : z = (i : Int)) (hs : s.length ≤ 1000000) (hi : i ≤ 1000000) :
    Calls Tryz.prog 39 #[.string ⟨s.toArray⟩, .int .i64 z] w fun e w' => e = .returned (.bool (M.begins (s.drop i))) ∧ w = w' := by
  subst hz
  rw [begins_eq]
  have q0 := fun W => rat s [60] i W hs (by decide) (by decide) (by omega)
  have q1 := fun W => rletter s (i + 1) ((i : Int) + 1) W (by omega) hs (by omega)
  have q2 := fun W => ratz s [47] (i + 1) ((i : Int) + 1) W (by omega) hs (by decide) (by decide) (by omega)
  have q3 := fun W => ratz s [33] (i + 1) ((i : Int) + 1) W (by omega) hs (by decide) (by decide) (by omega)
  have q4 := fun W => ratz s [63] (i + 1) ((i : Int) + 1) W (by omega) hs (by decide) (by decide) (by omega)
  generalize [60].isPrefixOf (s.drop i) = b0 at *
  generalize M.letter (s.getD (i + 1) 0) = b1 at *
  generalize [47].isPrefixOf (s.drop (i + 1)) = b2 at *
  generalize [33].isPrefixOf (s.drop (i + 1)) = b3 at *
  generalize [63].isPrefixOf (s.drop (i + 1)) = b4 at *
  cases b0 with
  | false =>
    have Q0 := Lib.hid q0
    clear q0 q1 q2 q3 q4
    go_enter Tryz.func39, Tryz.ntmps39
    go_wp2_with fail
    refine (Q0.out _).mono ?_
    rintro e w' ⟨rfl, rfl⟩
    go_wp2_with fail
    go_ret
    exact ⟨rfl, rfl⟩
  | true =>
    cases b1 with
    | true =>
      have Q0 := Lib.hid q0
      have Q1 := Lib.hid q1
      clear q0 q1 q2 q3 q4
      go_enter Tryz.func39, Tryz.ntmps39
      go_wp2_with fail
      refine (Q0.out _).mono ?_
      rintro e w' ⟨rfl, rfl⟩
      go_wp2_with fail
      refine (Q1.out _).mono ?_
      rintro e w' ⟨rfl, rfl⟩
      go_wp2_with fail
      go_ret
      exact ⟨rfl, rfl⟩
    | false =>
      cases b2 with
      | true =>
        have Q0 := Lib.hid q0
        have Q1 := Lib.hid q1
        have Q2 := Lib.hid q2
        clear q0 q1 q2 q3 q4
        go_enter Tryz.func39, Tryz.ntmps39
        go_wp2_with fail
        refine (Q0.out _).mono ?_
        rintro e w' ⟨rfl, rfl⟩
        go_wp2_with fail
        refine (Q1.out _).mono ?_
        rintro e w' ⟨rfl, rfl⟩
        go_wp2_with fail
        refine (Q2.out _).mono ?_
        rintro e w' ⟨rfl, rfl⟩
        go_wp2_with fail
        go_ret
        exact ⟨rfl, rfl⟩
      | false =>
        cases b3 with
        | true =>
          have Q0 := Lib.hid q0
          have Q1 := Lib.hid q1
          have Q2 := Lib.hid q2
          have Q3 := Lib.hid q3
          clear q0 q1 q2 q3 q4
          go_enter Tryz.func39, Tryz.ntmps39
          go_wp2_with fail
          refine (Q0.out _).mono ?_
          rintro e w' ⟨rfl, rfl⟩
          go_wp2_with fail
          refine (Q1.out _).mono ?_
          rintro e w' ⟨rfl, rfl⟩
          go_wp2_with fail
          refine (Q2.out _).mono ?_
          rintro e w' ⟨rfl, rfl⟩
          go_wp2_with fail
          refine (Q3.out _).mono ?_
          rintro e w' ⟨rfl, rfl⟩
          go_wp2_with fail
          go_ret
          exact ⟨rfl, rfl⟩
        | false =>
          have Q0 := Lib.hid q0
          have Q1 := Lib.hid q1
          have Q2 := Lib.hid q2
          have Q3 := Lib.hid q3
          have Q4 := Lib.hid q4
          clear q0 q1 q2 q3 q4
          go_enter Tryz.func39, Tryz.ntmps39
          go_wp2_with fail
          refine (Q0.out _).mono ?_
          rintro e w' ⟨rfl, rfl⟩
          go_wp2_with fail
          refine (Q1.out _).mono ?_
          rintro e w' ⟨rfl, rfl⟩
          go_wp2_with fail
          refine (Q2.out _).mono ?_
          rintro e w' ⟨rfl, rfl⟩
          go_wp2_with fail
          refine (Q3.out _).mono ?_
          rintro e w' ⟨rfl, rfl⟩
          go_wp2_with fail
          refine (Q4.out _).mono ?_
          rintro e w' ⟨rfl, rfl⟩
          go_wp2_with fail
          go_ret
          exact ⟨rfl, rfl⟩

theorem refLowerA (l : List UInt8) (w : World) (h : l.length ≤ 1000000) :
    Calls Tryz.prog 25 #[.string ⟨l.toArray⟩] w fun e w' => e = .returned (.string ⟨(M.lower l).toArray⟩) ∧ Below w.heap.size w w' := by
  have := T.refLower ⟨l.toArray⟩ w (by rw [T.bytes_size]; omega)
  rw [T.bytes_toList] at this
  exact this

set_option maxHeartbeats 1000000 in
theorem rname (s : List UInt8) (i : Nat) (z : Int) (w : World) (hz : z = (i : Int)) (hs : s.length ≤ 1000000) (hi : i ≤ s.length) :
    Calls Tryz.prog 35 #[.string ⟨s.toArray⟩, .int .i64 z] w fun e w' => e = .returned (.string ⟨(M.lower ((s.drop i).takeWhile M.goesOn)).toArray⟩) ∧ Below w.heap.size w w' := by
  subst hz
  have hle := twEnd_le (p := M.goesOn) hi
  have hge := twEnd_ge M.goesOn s i
  have hx := T.slice_str s i (twEnd M.goesOn s i) hge hle
  rw [twEnd_take] at hx
  have hnl : ((s.drop i).takeWhile M.goesOn).length ≤ 1000000 := by
    have := tw_le M.goesOn (s.drop i)
    rw [List.length_drop] at this; omega
  have QL := Lib.hid (fun W => refLowerA ((s.drop i).takeWhile M.goesOn) W hnl)
  generalize (s.drop i).takeWhile M.goesOn = nm at *
  obtain ⟨E, hE⟩ : ∃ E, twEnd M.goesOn s i = E := ⟨_, rfl⟩
  have HE := Lib.hid hE
  rw [hE] at hx hle hge
  have HX := Lib.hid hx
  clear hE hx hnl
  go_enter Tryz.func35, Tryz.ntmps35
  go_wp2_with fail
  go_loopw [5] (fun u wr => ∃ k : Nat, u = .int .i64 k ∧ i ≤ k ∧ k ≤ s.length ∧ w = wr ∧ Hid (twEnd M.goesOn s k = E)) (fun u _ => s.length - (intOf u).toNat)
  case atStart => exact ⟨i, rfl, Nat.le_refl _, hi, rfl, HE⟩
  case round =>
    obtain ⟨k, rfl, hk1, hk2, rfl, HK⟩ := hrel
    have q := fun W => rstop s k k W rfl hs (by omega)
    cases hst : stopAt s k with
    | true =>
      rw [hst] at q
      have Q := Lib.hid q
      obtain rfl : k = E := (stop_true hst).symm.trans HK.out
      have hxx := HX.out
      clear q hst HK HE
      go_wp2_with fail
      refine (Q.out _).mono ?_
      rintro e w' ⟨rfl, rfl⟩
      go_wp2_with fail
      refine (QL.out _).mono ?_
      rintro e w' ⟨rfl, b⟩
      go_wp2_with fail
      go_ret
      exact ⟨rfl, b⟩
    | false =>
      rw [hst] at q
      have Q := Lib.hid q
      obtain ⟨c, r, hd, hc, _⟩ := stop_false hst
      have hlt := lt_drop hd
      have HK' := Lib.hid ((twEnd_step hd hc).trans HK.out)
      clear q hst HK HE hd hc
      go_wp2_with fail
      refine (Q.out _).mono ?_
      rintro e w' ⟨rfl, rfl⟩
      go_wp2_with fail
      go_roundw
      case rel => exact ⟨k + 1, by go_num, by omega, by omega, trivial, HK'⟩
      case measure => simp [intOf]; omega

end K
end Go.Proofs.YtlnginciehjlnaaGreatDoor

namespace Go.Proofs.YtlnginciehjlnaaGreatDoor
open Go.RowKit
namespace K

theorem refTrimL (l : List UInt8) (w : World) (h : l.length ≤ 1000000) :
    Calls Tryz.prog 36 #[.string ⟨l.toArray⟩] w fun e w' => e = .returned (.string ⟨(M.trim l).toArray⟩) ∧ w = w' := by
  have := T.refTrim ⟨l.toArray⟩ w (by rw [T.bytes_size]; omega)
  rw [T.bytes_toList] at this
  exact this

theorem ret_t2 {a b : ByteArray} {c d : Int} (h1 : a = b) (h2 : c = d) : Ending.returned (.tuple #[.string a, .int .i64 c]) = Ending.returned (.tuple #[.string b, .int .i64 d]) := by rw [h1, h2]

def tup2 (x : List UInt8 × Nat) : Value := .tuple #[.string ⟨x.1.toArray⟩, .int .i64 x.2]

set_option maxHeartbeats 1000000 in
set_option maxRecDepth 100000 in
theorem rcut (s p : List UInt8) (i : Nat) (z t n : Int) (w : World) (hz : z = (i : Int)) (ht : t = findI p s i) (hn : n = (p.length : Int)) (hs : s.length ≤ 1000000) (hp : p.length ≤ 1000) (hi : i ≤ s.length) :
    Calls Tryz.prog 33 #[.string ⟨s.toArray⟩, .int .i64 z, .int .i64 t, .int .i64 n] w fun e w' => e = .returned (tup2 (cutI p s i)) ∧ w = w' := by
  subst hz
  unfold findI at ht
  have hc : cutI p s i = match M.idx p (s.drop i) with | none => (s.drop i, s.length) | some j => ((s.drop i).take j, i + j + p.length) := rfl
  rw [hc]
  clear hc
  cases hx : M.idx p (s.drop i) with
  | none =>
    dsimp only
    rw [hx] at ht
    have ht : t = -1 := ht
    subst ht
    have hi1 : (i : Int) ≤ (s.length : Int) := by omega
    have hxs := T.slice_str s i s.length hi (Nat.le_refl _)
    rw [List.take_of_length_le (by rw [List.length_drop]; omega)] at hxs
    clear hx
    generalize s.drop i = d at *
    go_enter Tryz.func33, Tryz.ntmps33
    go_wp2_with fail
    go_ret2
    exact ⟨ret_t2 (by rw [show (min (i : Int) (s.length : Int)).toNat = i by omega]; exact hxs) rfl, rfl⟩
  | some j =>
    dsimp only
    rw [hx] at ht
    obtain ⟨J, hJ⟩ : ∃ J : Nat, J = i + j := ⟨_, rfl⟩
    have ht2 : t = (J : Int) := by rw [hJ]; exact ht
    have hj := idx_le p _ j hx
    rw [List.length_drop] at hj
    have hxs := T.slice_str s i J (by omega) (by omega)
    rw [show J - i = j by omega] at hxs
    have b1 : (i : Int) ≤ (J : Int) := by omega
    have b2 : (J : Int) ≤ (s.length : Int) := by omega
    have HV : Hid ((J : Int) + (p.length : Int) = ((i + j + p.length : Nat) : Int)) := Lib.hid (by omega)
    clear hx hj hJ ht
    subst ht2 hn
    generalize (s.drop i).take j = d at *
    go_enter Tryz.func33, Tryz.ntmps33
    go_wp2_with fail
    go_ret2
    exact ⟨ret_t2 rfl HV.out, rfl⟩

def vres : Option (List UInt8 × Nat) → Value
  | none => .tuple #[.string ⟨#[]⟩, .int .i64 (-1)]
  | some x => tup2 x

set_option maxHeartbeats 2000000 in
theorem rvalue (s : List UInt8) (i : Nat) (w : World) (hs : s.length ≤ 1000000) (hi : i ≤ s.length) :
    Calls Tryz.prog 50 #[.string ⟨s.toArray⟩, .int .i64 i] w fun e w' => e = .returned (vres (vspec s i)) ∧ w = w' := by
  have hvs : vspec s i = match s.drop i with
    | [] => some ([], i)
    | c :: t => if c == 34 || c == 39 then (match M.idx [c] t with | none => none | some k => some (t.take k, i + 1 + k + 1))
      else some ((c :: t).takeWhile M.inValue, twEnd M.inValue s i) := rfl
  rw [hvs]
  clear hvs
  have q1 := fun W => rat s [34] i W hs (by decide) (by decide) (by omega)
  have q2 := fun W => rat s [39] i W hs (by decide) (by decide) (by omega)
  by_cases hq : ∃ c t, s.drop i = c :: t ∧ (c = 34 ∨ c = 39)
  · obtain ⟨c, t, hd, hc⟩ := hq
    have hlt := lt_drop hd
    have hi1 : (i : Int) + 1 ≤ (s.length : Int) := by omega
    have hxs := T.slice_str s i (i + 1) (by omega) (by omega)
    rw [show i + 1 - i = 1 by omega, hd] at hxs
    have hxs : (⟨s.toArray⟩ : ByteArray).extract i (i + 1) = ⟨#[c]⟩ := hxs
    have hd1 := drop_more hd
    have qf := fun W => rFindz s [c] (i + 1) ((i : Int) + 1) W (by omega) hs (by show 1 ≤ 1; omega) (by show 1 ≤ 1000000; omega) (by omega)
    rw [hd] at q1 q2 ⊢
    have hcq : (c == 34 || c == 39) = true := by rcases hc with rfl | rfl <;> rfl
    dsimp only
    rw [hcq, if_pos rfl]
    unfold findI at qf
    rw [hd1] at qf
    cases hx : M.idx [c] t with
    | none =>
      rw [hx] at qf
      have QF := Lib.hid (show ∀ W, Calls Tryz.prog 18 #[.string ⟨s.toArray⟩, .int .i64 ((i : Int) + 1), .string ⟨#[c]⟩] W fun e w' => e = .returned (.int .i64 (-1)) ∧ W = w' from qf)
      clear qf hx hd hd1 hcq
      rcases hc with rfl | rfl
      · have Q1 := Lib.hid q1
        clear q1 q2
        go_enter Tryz.func50, Tryz.ntmps50
        go_wp2_with fail
        refine (Q1.out _).mono ?_
        rintro e w' ⟨rfl, rfl⟩
        go_wp2_with fail
        refine (QF.out _).mono ?_
        rintro e w' ⟨rfl, rfl⟩
        go_wp2_with fail
        go_ret2
        exact ⟨rfl, rfl⟩
      · have Q1 := Lib.hid q1
        have Q2 := Lib.hid q2
        clear q1 q2
        go_enter Tryz.func50, Tryz.ntmps50
        go_wp2_with fail
        refine (Q1.out _).mono ?_
        rintro e w' ⟨rfl, rfl⟩
        go_wp2_with fail
        refine (Q2.out _).mono ?_
        rintro e w' ⟨rfl, rfl⟩
        go_wp2_with fail
        refine (QF.out _).mono ?_
        rintro e w' ⟨rfl, rfl⟩
        go_wp2_with fail
        go_ret2
        exact ⟨rfl, rfl⟩
    | some k =>
      dsimp only
      rw [hx] at qf
      obtain ⟨J, hJ⟩ : ∃ J : Nat, J = i + 1 + k := ⟨_, rfl⟩
      have QF := Lib.hid (show ∀ W, Calls Tryz.prog 18 #[.string ⟨s.toArray⟩, .int .i64 ((i : Int) + 1), .string ⟨#[c]⟩] W fun e w' => e = .returned (.int .i64 (J : Int)) ∧ W = w' from (by rw [hJ]; exact qf))
      have hk := idx_le [c] t k hx
      have htl : t.length + 1 = s.length - i := by have := congrArg List.length hd; rw [List.length_drop, List.length_cons] at this; omega
      simp only [List.length_cons, List.length_nil] at hk
      have hxv := T.slice_str s (i + 1) J (by omega) (by omega)
      rw [show J - (i + 1) = k by omega, hd1] at hxv
      have b1 : (i : Int) + 1 ≤ (J : Int) := by omega
      have b2 : (J : Int) ≤ (s.length : Int) := by omega
      have HV : Hid ((J : Int) + 1 = ((i + 1 + k + 1 : Nat) : Int)) := Lib.hid (by omega)
      clear qf hx hd hd1 hcq htl hk hJ
      generalize t.take k = V at *
      rcases hc with rfl | rfl
      · have Q1 := Lib.hid q1
        clear q1 q2
        go_enter Tryz.func50, Tryz.ntmps50
        go_wp2_with fail
        refine (Q1.out _).mono ?_
        rintro e w' ⟨rfl, rfl⟩
        go_wp2_with fail
        refine (QF.out _).mono ?_
        rintro e w' ⟨rfl, rfl⟩
        go_wp2_with fail
        go_ret2
        exact ⟨ret_t2 rfl HV.out, rfl⟩
      · have Q1 := Lib.hid q1
        have Q2 := Lib.hid q2
        clear q1 q2
        go_enter Tryz.func50, Tryz.ntmps50
        go_wp2_with fail
        refine (Q1.out _).mono ?_
        rintro e w' ⟨rfl, rfl⟩
        go_wp2_with fail
        refine (Q2.out _).mono ?_
        rintro e w' ⟨rfl, rfl⟩
        go_wp2_with fail
        refine (QF.out _).mono ?_
        rintro e w' ⟨rfl, rfl⟩
        go_wp2_with fail
        go_ret2
        exact ⟨ret_t2 rfl HV.out, rfl⟩
  · have hp1 : [34].isPrefixOf (s.drop i) = false := by
      rw [pre_one]
      cases hd : s.drop i with
      | nil => rfl
      | cons c t => simpa using fun h => hq ⟨c, t, hd, Or.inl h.symm⟩
    have hp2 : [39].isPrefixOf (s.drop i) = false := by
      rw [pre_one]
      cases hd : s.drop i with
      | nil => rfl
      | cons c t => simpa using fun h => hq ⟨c, t, hd, Or.inr h.symm⟩
    have hv : (match s.drop i with
      | [] => some ([], i)
      | c :: t => if c == 34 || c == 39 then (match M.idx [c] t with | none => none | some k => some (t.take k, i + 1 + k + 1))
        else some ((c :: t).takeWhile M.inValue, twEnd M.inValue s i)) = some ((s.drop i).takeWhile M.inValue, twEnd M.inValue s i) := by
      cases hd : s.drop i with
      | nil => unfold twEnd; rw [hd]; rfl
      | cons c t =>
        have e : (c == 34 || c == 39) = false := by
          cases h : (c == 34 || c == 39) with
          | false => rfl
          | true => exact absurd ⟨c, t, hd, by simpa using h⟩ hq
        dsimp only
        rw [e]
        rfl
    rw [hv]
    clear hv hq
    rw [hp1] at q1
    rw [hp2] at q2
    have Q1 := Lib.hid q1
    have Q2 := Lib.hid q2
    have hle := twEnd_le (p := M.inValue) hi
    have hge := twEnd_ge M.inValue s i
    have hx := T.slice_str s i (twEnd M.inValue s i) hge hle
    rw [twEnd_take] at hx
    generalize (s.drop i).takeWhile M.inValue = nm at *
    obtain ⟨E, hE⟩ : ∃ E, twEnd M.inValue s i = E := ⟨_, rfl⟩
    have HE := Lib.hid hE
    rw [hE] at hx hle hge ⊢
    have HX := Lib.hid hx
    clear hE hx hp1 hp2 q1 q2
    go_enter Tryz.func50, Tryz.ntmps50
    go_wp2_with fail
    refine (Q1.out _).mono ?_
    rintro e w' ⟨rfl, rfl⟩
    go_wp2_with fail
    refine (Q2.out _).mono ?_
    rintro e w' ⟨rfl, rfl⟩
    go_wp2_with fail
    go_loopw [7] (fun u wr => ∃ k : Nat, u = .int .i64 k ∧ i ≤ k ∧ k ≤ s.length ∧ w = wr ∧ Hid (twEnd M.inValue s k = E)) (fun u _ => s.length - (intOf u).toNat)
    case atStart => exact ⟨i, rfl, Nat.le_refl _, hi, rfl, HE⟩
    case round =>
      obtain ⟨k, rfl, hk1, hk2, rfl, HK⟩ := hrel
      by_cases hlt : k < s.length
      · have hlt1 : (k : Int) < (s.length : Int) := by omega
        obtain ⟨c, r, hd⟩ := drop_cons hlt
        have hix := at_drop hd (by rw [T.bytes_size]; exact hlt)
        have q := fun W => T.refSpace c W
        cases hsp : T.sp c with
        | true =>
          rw [hsp] at q
          have Q := Lib.hid q
          obtain rfl : k = E := (twEnd_stop hd (by unfold M.inValue; rw [hsp]; simp)).symm.trans HK.out
          have hxx := HX.out
          clear q hd HK HE hsp
          go_wp2_with fail
          refine (Q.out _).mono ?_
          rintro e w' ⟨rfl, rfl⟩
          go_wp2_with fail
          go_ret2
          exact ⟨rfl, rfl⟩
        | false =>
          rw [hsp] at q
          have Q := Lib.hid q
          clear q
          rcases Decidable.em (c = 62) with h1 | h1
          · have f1 : ((c.toNat : Int) == 62) = true := byte_is (n := 62) h1 (by omega)
            have f1' : ((c.toNat : Int) != 62) = false := by rw [bne, f1]; rfl
            obtain rfl : k = E := (twEnd_stop hd (by unfold M.inValue; rw [h1]; rfl)).symm.trans HK.out
            have hxx := HX.out
            clear hd HK HE hsp h1
            go_wp2_with fail
            refine (Q.out _).mono ?_
            rintro e w' ⟨rfl, rfl⟩
            go_wp2_with fail
            go_ret2
            exact ⟨rfl, rfl⟩
          · have f1 : ((c.toNat : Int) == 62) = false := byte_ne (n := 62) h1 (by omega)
            have f1' : ((c.toNat : Int) != 62) = true := by rw [bne, f1]; rfl
            have HK' := Lib.hid ((twEnd_step hd (by unfold M.inValue; rw [hsp]; simpa using h1)).trans HK.out)
            clear hd HK HE hsp h1
            go_wp2_with fail
            refine (Q.out _).mono ?_
            rintro e w' ⟨rfl, rfl⟩
            go_wp2_with fail
            go_roundw
            case rel => exact ⟨k + 1, by go_num, by omega, by omega, trivial, HK'⟩
            case measure => simp [intOf]; omega
      · have hge1 : (s.length : Int) ≤ (k : Int) := by omega
        obtain rfl : k = E := (twEnd_past (by omega)).symm.trans HK.out
        have hxx := HX.out
        clear HK HE
        go_wp2_with fail
        go_ret2
        exact ⟨rfl, rfl⟩

set_option maxHeartbeats 2000000 in
theorem rclosing (s tag : List UInt8) (i : Nat) (w : World) (hs : s.length ≤ 1000000) (ht : tag.length ≤ 1000) (hi : i ≤ s.length) :
    Calls Tryz.prog 38 #[.string ⟨s.toArray⟩, .int .i64 i, .string ⟨tag.toArray⟩] w fun e w' => e = .returned (.int .i64 (shutI tag s i)) ∧ Below w.heap.size w w' := by
  obtain ⟨E, hE⟩ : ∃ E, shutI tag s i = E := ⟨_, rfl⟩
  have HE := Lib.hid hE
  rw [hE]
  clear hE
  go_enter Tryz.func38, Tryz.ntmps38
  go_wp2_with fail
  go_loopw [7] (fun u wr => ∃ k : Nat, u = .int .i64 k ∧ k ≤ s.length ∧ Below w.heap.size w wr ∧ Hid (shutI tag s k = E)) (fun u _ => s.length - (intOf u).toNat)
  case atStart => exact ⟨i, rfl, hi, Below.refl _ _, HE⟩
  case round =>
    obtain ⟨k, rfl, hk, hB, HK⟩ := hrel
    have hz := hB.size
    by_cases hlt : k + 2 + tag.length < s.length
    · have hlt1 : (k : Int) + 2 + (tag.length : Int) < (s.length : Int) := by omega
      have hsp := shut_split tag s k hlt
      have q0 := fun W => rat s [60, 47] k W hs (by decide) (by decide) (by omega)
      have hxs := T.slice_str s (k + 2) (k + 2 + tag.length) (by omega) (by omega)
      rw [show k + 2 + tag.length - (k + 2) = tag.length by omega] at hxs
      have q1 := fun W => refLowerA ((s.drop (k + 2)).take tag.length) W (by rw [List.length_take]; omega)
      have q2 := fun W => rstop s (k + 2 + tag.length) ((k : Int) + 2 + (tag.length : Int)) W (by omega) hs (by omega)
      generalize (s.drop (k + 2)).take tag.length = X at *
      generalize M.lower X = Y at *
      generalize stopAt s (k + 2 + tag.length) = b2 at *
      generalize [60, 47].isPrefixOf (s.drop k) = b0 at *
      have Q0 := Lib.hid q0
      have Q1 := Lib.hid q1
      have Q2 := Lib.hid q2
      clear q0 q1 q2 HE
      cases b0 with
      | false =>
        have HK' := Lib.hid ((shutI_no (by omega) hsp).symm.trans HK.out)
        clear hsp HK
        go_wp2_with fail
        refine (Q0.out _).mono ?_
        rintro e w' ⟨rfl, rfl⟩
        go_wp2_with fail
        go_roundw
        case rel => exact ⟨k + 1, by go_num, by omega, hB, HK'⟩
        case measure => simp [intOf]; omega
      | true =>
        cases hy : (Y == tag) with
        | false =>
          rw [hy] at hsp
          have HK' := Lib.hid ((shutI_no (by omega) hsp).symm.trans HK.out)
          clear hsp HK
          go_wp2_with fail
          refine (Q0.out _).mono ?_
          rintro e w' ⟨rfl, rfl⟩
          go_wp2_with fail
          refine (Q1.out _).mono ?_
          rintro e w' ⟨rfl, b1⟩
          go_wp2_with fail
          go_roundw
          case rel => exact ⟨k + 1, by go_num, by omega, hB.trans (b1.mono hz), HK'⟩
          case measure => simp [intOf]; omega
        | true =>
          rw [hy] at hsp
          cases b2 with
          | false =>
            have HK' := Lib.hid ((shutI_no (by omega) hsp).symm.trans HK.out)
            clear hsp HK
            go_wp2_with fail
            refine (Q0.out _).mono ?_
            rintro e w' ⟨rfl, rfl⟩
            go_wp2_with fail
            refine (Q1.out _).mono ?_
            rintro e w' ⟨rfl, b1⟩
            go_wp2_with fail
            refine (Q2.out _).mono ?_
            rintro e w' ⟨rfl, rfl⟩
            go_wp2_with fail
            go_roundw
            case rel => exact ⟨k + 1, by go_num, by omega, hB.trans (b1.mono hz), HK'⟩
            case measure => simp [intOf]; omega
          | true =>
            obtain rfl : k = E := (shutI_yes (by omega) hsp).symm.trans HK.out
            clear hsp HK
            go_wp2_with fail
            refine (Q0.out _).mono ?_
            rintro e w' ⟨rfl, rfl⟩
            go_wp2_with fail
            refine (Q1.out _).mono ?_
            rintro e w' ⟨rfl, b1⟩
            go_wp2_with fail
            refine (Q2.out _).mono ?_
            rintro e w' ⟨rfl, rfl⟩
            go_wp2_with fail
            go_ret
            exact ⟨rfl, hB.trans (b1.mono hz)⟩
    · have hge1 : (s.length : Int) ≤ (k : Int) + 2 + (tag.length : Int) := by omega
      obtain rfl : E = s.length := HK.out.symm.trans (shutI_end hk (by omega))
      clear HK HE
      go_wp2_with fail
      go_ret
      exact ⟨rfl, hB⟩

end K
end Go.Proofs.YtlnginciehjlnaaGreatDoor

namespace Go.Proofs.YtlnginciehjlnaaGreatDoor
open Go.RowKit
namespace K

/-- The reference's token and attribute, as blocks. -/
def IsTk (b : Nat) (k n a c t : Value) (w : World) : Prop := w.heap[b]? = some (.cells #[k, n, a, c, t] 33 (0, 0))
def IsRAttr (A : Nat) (n v : List UInt8) (w : World) : Prop := w.heap[A]? = some (.cells #[.string ⟨n.toArray⟩, .string ⟨v.toArray⟩] 63 (0, 0))
def HasRAttrs (base : Nat) (a : Value) (l : List (List UInt8 × List UInt8)) (w : World) : Prop := w.ownsRow base 63 2 a l.length (acells l)

theorem IsTk.below {b : Nat} {k n a c t : Value} {w w' : World} (h : IsTk b k n a c t w) (hb : Below w.heap.size w w') : IsTk b k n a c t w' := (hb.block b (lt_of_block h)).trans h
theorem IsRAttr.below {A : Nat} {n v : List UInt8} {w w' : World} (h : IsRAttr A n v w) (hb : Below w.heap.size w w') : IsRAttr A n v w' := (hb.block A (lt_of_block h)).trans h
theorem below_drewN {B : Nat} {w w' : World} (h : Below B w w') (n : Nat) : Below B w (w'.drewN n) := ⟨h.os, h.tape, h.output, h.size, h.block⟩

theorem infoRAttr : (Tryz.prog.info? 63).map (fun i => (i.zero, i.size, i.bytes)) = some (some (.agg #[.string ⟨#[]⟩, .string ⟨#[]⟩]), 2, 32) := by kernel_rfl

def RAddPost (T : Nat) (k n c t : Value) (l : List (List UInt8 × List UInt8)) (p : List UInt8 × List UInt8) (w : World) (e : Ending) (w' : World) : Prop :=
  e = .returned (.tuple #[]) ∧ Below T w w' ∧ ∃ a, IsTk T k n a c t w' ∧ HasRAttrs (T + 1) a (M.add l p) w'

theorem add_oldr (l : List (List UInt8 × List UInt8)) (p : List UInt8 × List UInt8) (m : Nat) (h : m < l.length) (he : (l[m].1 == p.1) = true) : M.add l p = l :=
  add_old l p m h (by rw [BEq.comm]; exact he)

set_option maxHeartbeats 4000000 in
set_option maxRecDepth 100000 in
theorem radd (T : Nat) (k n c t a : Value) (l : List (List UInt8 × List UInt8)) (nm v : List UInt8) (w : World) (hll : l.length ≤ 64) (hT : IsTk T k n a c t w) (hO : HasRAttrs (T + 1) a l w) :
    Calls Tryz.prog 51 #[.pointer (some ⟨T, 0, none⟩), .agg #[.string ⟨nm.toArray⟩, .string ⟨v.toArray⟩]] w (RAddPost T k n c t l (nm, v) w) := by
  have hal := lt_of_block hT
  obtain ⟨ao, cap, rfl, hao⟩ := own_slice hO
  have HT := Lib.hid hT
  have HO := Lib.hid hO
  clear hT hO
  go_enter Tryz.func51, Tryz.ntmps51
  go_wp2_with fail
  obtain ⟨W, hW⟩ : ∃ W, W = w.alloc (.cells #[.string ⟨nm.toArray⟩, .string ⟨v.toArray⟩] 63) := ⟨_, rfl⟩
  rw [← hW]
  have hbW : Below w.heap.size w W := by rw [hW]; exact (Below.refl _ _).alloc (Nat.le_refl _) _
  have HAC : Hid (IsRAttr w.heap.size nm v W) := Lib.hid (by rw [hW]; exact heap_alloc_new _ _)
  have HTC := Lib.hid (HT.out.below hbW)
  have HOC := Lib.hid (own_below hbW HO.out)
  have hzW : w.heap.size < W.heap.size := by rw [hW]; simp
  clear hW HT HO
  generalize hA : w.heap.size = A at *
  go_loopw [4] (fun u wr => AlRel l nm W u wr) (fun u _ => l.length - (intOf u).toNat)
  case atStart => exact ⟨0, rfl, Nat.zero_le _, Below.refl _ _, Lib.hid (by simp)⟩
  case round =>
    obtain ⟨m, rfl, hm, hBm, HM⟩ := hrel
    have hzm := hBm.size
    have hTm := HTC.out.below hBm
    obtain ⟨hcT, hfT⟩ := cells_of hTm
    have hlT := lt_of_block hTm
    have HTm := Lib.hid hTm
    have hAm := HAC.out.below hBm
    obtain ⟨hcA, hfA⟩ := cells_of hAm
    have hlA := lt_of_block hAm
    clear hTm hAm
    by_cases hml : m < l.length
    · obtain ⟨g, rfl, hg⟩ := hao (by omega)
      have hm0 : (0 : Int) ≤ (m : Int) := by omega
      have hm1 : (m : Int) < (l.length : Int) := by omega
      obtain ⟨q1, q2, hq⟩ : ∃ q1 q2, l[m] = (q1, q2) := ⟨l[m].1, l[m].2, rfl⟩
      have hgl : g < W.heap.size := (HOC.out.lt g rfl).2
      have hx0 : wr.cell? ⟨g, m * 2, none⟩ = some (.string ⟨q1.toArray⟩) := by
        rw [hBm.cell (p := ⟨g, m * 2, none⟩) hgl, HOC.out.cellAt (m * 2) (by omega)]; exact acells_at l m hml hq 0 (by omega)
      have k2 : wr.cell? ⟨T, 2, none⟩ = some (.slice (some ⟨g, 0, none⟩) l.length cap) := hcT 2
      have kA : wr.cell? ⟨A, 0, none⟩ = some (.string ⟨nm.toArray⟩) := hcA 0
      clear hcT hfT hcA hfA
      cases hnq : (q1 == nm) with
      | true =>
        have HV2 : Hid (M.add l (nm, v) = l) := Lib.hid (add_oldr l _ m hml (by rw [hq]; exact hnq))
        clear HM hq
        go_wp2_with fail
        go_quiet (fail)
        go_wp2_with fail
        go_end0
        refine ⟨rfl, ?_, _, HTm.out, ?_⟩
        · exact (hbW.mono (by omega)).trans ((below_drewN hBm _).mono (by omega))
        · rw [HV2.out]
          exact own_below (below_drewN hBm _) HOC.out
      | false =>
        have HM' : Hid ((l.take (m + 1)).any (fun q => nm == q.1) = false) := Lib.hid (by
          rw [List.take_succ_eq_append_getElem hml, List.any_append, HM.out, hq]
          simp only [List.any_cons, List.any_nil, Bool.or_false, Bool.false_or]
          rw [BEq.comm]; exact hnq)
        clear HM hq
        go_wp2_with fail
        go_quiet (fail)
        go_wp2_with fail
        go_roundw
        case rel => exact ⟨m + 1, by go_num, by omega, below_drewN hBm _, HM'⟩
        case measure => simp [intOf]; omega
    · obtain rfl : m = l.length := by omega
      have HF : Hid (l.any (fun q => nm == q.1) = false) := Lib.hid (by have h9 := HM.out; rw [List.take_length] at h9; exact h9)
      have HOr := Lib.hid (own_below hBm HOC.out)
      have hno := HOr.out.lt
      clear HM
      by_cases h64 : l.length < 64
      · have h65 : (l.length : Int) < 64 := by omega
        have HV2 : Hid (M.add l (nm, v) = l ++ [(nm, v)]) := Lib.hid (by unfold M.add; rw [if_neg (by rw [HF.out]; simp), if_pos h64])
        obtain ⟨i0, hi0, hz0, hz1, hz2⟩ := info_parts infoRAttr
        go_wp2_with fail
        go_region_law ((refine step_append_lies _ (by rfl) _ _ _ (by rfl) (T + 1) 63 i0 _ 2 32 Tryz.underlying31 hi0 hz0 hz1 hz2 rfl (by omega) (.slice ao l.length cap) l.length (acells l) (by rfl) ((HOr.out.alloc _).drew) ⟨wr.heap.size, 0, none⟩ 1 1 [.string ⟨nm.toArray⟩, .string ⟨v.toArray⟩] (by rfl) (by rfl) (World.news_of_block (cs := #[.string ⟨nm.toArray⟩, .string ⟨v.toArray⟩]) (t := 63) (fr := (0, 0)) (heap_alloc_new wr _)) (by simp [Value.oneCell']) (by omega) (by unfold maxLen; omega) (by omega) (by simp; omega) (wr.heap.size + 1) (by simp) ?_; intro gg cap2 w5 hown5 hgrow hat hlt5; have hbk : w5.heap[T]? = some (.cells #[k, n, .slice ao l.length cap, c, t] 33 (0, 0)) := (hgrow.block T (by simp; omega) (fun h => by have := (hno T h.symm).1; omega)).trans ((((Below.refl wr.heap.size wr).alloc (Nat.le_refl _) _).drew.block T hlT).trans HTm.out); obtain ⟨hcb, hfb⟩ := cells_of hbk))
        all_goals
          have hz5 : T + 1 ≤ w5.heap.size := Nat.le_trans (by simp; omega) hgrow.size
          go_wp2_with fail
          go_end0
          refine ⟨rfl, ?_, _, block_set hbk, ?_⟩
          · have hfr : Fr (T + 1) T w (w5.setCell ⟨T, 2, none⟩ (.slice (some ⟨gg, 0, none⟩) (l.length + 1) cap2)) := ((fr_of (B := T + 1) (b := T) (hbW.trans (hBm.mono (by omega))) (by omega)).trans (fr_of (((Below.refl wr.heap.size wr).alloc (Nat.le_refl _) _).drew) (by omega))).trans ((fr_grown hgrow (fun q hq => (hno q hq).1) (by simp; omega)).trans ((But.set _ 2 _).fr hz5))
            exact hfr.below (by omega)
          · rw [HV2.out]
            unfold HasRAttrs
            rw [List.length_append, acells_snoc]
            exact ownsRow_setCell_below hown5 (by show T < T + 1; omega) _
      · have h65 : 64 ≤ (l.length : Int) := by omega
        have HV2 : Hid (M.add l (nm, v) = l) := Lib.hid (by unfold M.add; rw [if_neg (by rw [HF.out]; simp), if_neg h64])
        go_wp2_with fail
        go_end0
        refine ⟨rfl, ?_, _, HTm.out, ?_⟩
        · exact (hbW.mono (by omega)).trans (hBm.mono (by omega))
        · rw [HV2.out]
          exact HOr.out

end K
end Go.Proofs.YtlnginciehjlnaaGreatDoor

namespace Go.Proofs.YtlnginciehjlnaaGreatDoor
open Go.RowKit
namespace K

def tzero : Array Value := #[.int .i64 0, .string ⟨#[]⟩, .slice none 0 0, .bool false, .string ⟨#[]⟩]
def stupV (k n a c t : Value) (j : Int) : Value := .tuple #[.agg #[k, n, a, c, t], .int .i64 j]

def RStPost (s : List UInt8) (i : Nat) (x : Option (M.Tok × List UInt8)) (w : World) (e : Ending) (w' : World) : Prop :=
  Below w.heap.size w w' ∧ match x with
    | none => ∃ (n : List UInt8) (ao : Option Addr) (m cap : Nat), e = .returned (stupV (.int .i64 1) (.string ⟨n.toArray⟩) (.slice ao m cap) (.bool false) (.string ⟨#[]⟩) (-1))
    | some (tk, u) => ∃ a, ∃ j : Nat, e = .returned (stupV (.int .i64 tk.kind) (.string ⟨tk.name.toArray⟩) a (.bool tk.closed) (.string ⟨tk.text.toArray⟩) j) ∧ HasRAttrs w.heap.size a tk.attrs w' ∧ s.drop j = u ∧ j ≤ s.length ∧ i < j

/-- At the head of start's second loop. -/
def RsRel (s nm : List UInt8) (i0 : Nat) (X : Option (List (List UInt8 × List UInt8) × Bool × List UInt8)) (T : Nat) (w : World) (u : Value) (wr : World) : Prop :=
  ∃ (i n : Nat) (l : List (List UInt8 × List UInt8)) (a : Value), u = .int .i64 i ∧ i0 ≤ i ∧ i ≤ s.length ∧ l.length ≤ 64 ∧ Hid (IsTk T (.int .i64 1) (.string ⟨nm.toArray⟩) a (.bool false) (.string ⟨#[]⟩) wr) ∧
    Hid (wr.heap[w.heap.size]? = some (.cells tzero 33 (0, 0))) ∧ Hid (HasRAttrs (T + 1) a l wr) ∧ Below w.heap.size w wr ∧ T < wr.heap.size ∧ Hid ((s.drop i).length < n ∧ M.tagLoop n l (s.drop i) = X)

/-- What stands behind the reading of an attribute, ahead of its being added. -/
def RaC (s nm : List UInt8) (T A : Nat) (a : Value) (l : List (List UInt8 × List UInt8)) (x V : List UInt8) (w W : World) : Prop :=
  IsTk T (.int .i64 1) (.string ⟨nm.toArray⟩) a (.bool false) (.string ⟨#[]⟩) W ∧ W.heap[w.heap.size]? = some (.cells tzero 33 (0, 0)) ∧ IsRAttr A x V W ∧ HasRAttrs (T + 1) a l W ∧ Below w.heap.size w W ∧ T < W.heap.size

/-- How an attribute's reading ends: as the chapter says, or it is none, and the text is at its end. -/
def RaSpec (c : UInt8) (r s : List UInt8) (x V : List UInt8) (J : Nat) : Prop := M.attr c r = some ((x, V), s.drop J) ∨ (M.attr c r = none ∧ J = s.length)

theorem rattr_val {s r x u : List UInt8} {c d : UInt8} {k m p : Nat} (h1 : s.drop (k + 1) = r) (hm : twEnd M.inName s (k + 1) = m) (hp : twEnd T.sp s m = p) (hd : s.drop p = d :: u) (hx : M.lower (c :: (s.drop (k + 1)).takeWhile M.inName) = x) :
    M.attr c r = if d == 61 then (match M.value u with | none => none | some (v, w) => some ((x, E.decode v), w)) else some ((x, []), d :: u) := by
  have e1 := twEnd_drop M.inName s (k + 1)
  rw [hm] at e1
  have e2 := twEnd_drop T.sp s m
  rw [hp, hd, e1] at e2
  have hlt := lt_drop hd
  have hmp : m ≤ p := hp ▸ twEnd_ge T.sp s m
  rw [h1] at e1 e2 hx
  have hne : r.dropWhile M.inName ≠ [] := by
    rw [← e1]; intro h
    have := congrArg List.length h
    rw [List.length_drop] at this; simp at this; omega
  rw [attr_eq hne e2.symm, hx]
  cases M.value u with
  | none => rfl
  | some q => rfl
theorem rattr_end {s r : List UInt8} {c : UInt8} {k m p : Nat} (h1 : s.drop (k + 1) = r) (hm : twEnd M.inName s (k + 1) = m) (hp : twEnd T.sp s m = p) (hl : s.length ≤ p) : M.attr c r = none := by
  have e1 := twEnd_drop M.inName s (k + 1)
  rw [hm] at e1
  have e2 := twEnd_drop T.sp s m
  rw [hp, List.drop_eq_nil_of_le hl, e1] at e2
  rw [h1] at e1 e2
  by_cases hne : r.dropWhile M.inName = []
  · exact attr_none1 hne
  · exact attr_none2 hne e2.symm

theorem ra_next {n : Nat} {l : List (List UInt8 × List UInt8)} {c : UInt8} {r s x V : List UInt8} {J i : Nat} {X : Option (List (List UInt8 × List UInt8) × Bool × List UInt8)}
    (hta : M.tagLoop (n + 1) l (s.drop i) = match M.attr c r with | none => none | some (a, u) => M.tagLoop n (M.add l a) u) (hX : M.tagLoop (n + 1) l (s.drop i) = X) (hlen : (s.drop i).length < n + 1) (hiJ : i < J) (hJ : J ≤ s.length) (hsp : RaSpec c r s x V J) :
    (s.drop J).length < n ∧ M.tagLoop n (M.add l (x, V)) (s.drop J) = X := by
  rw [List.length_drop] at hlen ⊢
  refine ⟨by omega, ?_⟩
  rw [← hX, hta]
  rcases hsp with h | ⟨h, hl⟩
  · rw [h]
  · rw [h, hl, List.drop_length]
    obtain ⟨n', rfl⟩ : ∃ n', n = n' + 1 := ⟨n - 1, by omega⟩
    exact tag_end rfl

theorem take_last {s r : List UInt8} {i k : Nat} {c : UInt8} (h : i ≤ k) (hd : s.drop k = c :: r) : ((s.drop i).take (k + 1 - i)).getLast? = some c := by
  have h1 : (s.drop i).drop (k - i) = c :: r := by rw [List.drop_drop, show i + (k - i) = k by omega]; exact hd
  have hl := lt_drop h1
  rw [show k + 1 - i = (k - i) + 1 by omega, List.take_succ_eq_append_getElem hl, List.getLast?_append]
  have h2 : ((s.drop i).drop (k - i))[0]? = some c := by rw [h1]; rfl
  rw [List.getElem?_drop, Nat.add_zero, List.getElem?_eq_getElem hl] at h2
  have h3 : (s.drop i)[k - i] = c := by simpa using h2
  rw [h3]
  rfl

set_option maxHeartbeats 8000000 in
set_option maxRecDepth 100000 in
theorem rstart (s : List UInt8) (i0 : Nat) (z : Int) (w : World) (hz : z = (i0 : Int)) (hs : s.length ≤ 100000) (hi : i0 ≤ s.length) :
    Calls Tryz.prog 37 #[.string ⟨s.toArray⟩, .int .i64 z] w (RStPost s i0 (M.start (s.drop i0)) w) := by
  subst hz
  have hle := twEnd_le (p := M.goesOn) hi
  have hge := twEnd_ge M.goesOn s i0
  obtain ⟨E, hE⟩ : ∃ E, twEnd M.goesOn s i0 = E := ⟨_, rfl⟩
  have HE := Lib.hid hE
  have hdE := twEnd_drop M.goesOn s i0
  rw [hE] at hle hge hdE
  have hnl : ((s.drop i0).takeWhile M.goesOn).length ≤ 1000000 := by
    have := tw_le M.goesOn (s.drop i0)
    rw [List.length_drop] at this; omega
  have QN := Lib.hid (fun W => rname s i0 i0 W rfl (by omega) hi)
  have HX : Hid ((s.drop E).length < (s.drop i0).length + 1 ∧ M.tagLoop ((s.drop i0).length + 1) [] (s.drop E) = M.tagLoop ((s.drop i0).length + 1) [] ((s.drop i0).dropWhile M.goesOn)) := Lib.hid ⟨by rw [List.length_drop, List.length_drop]; omega, by rw [hdE]⟩
  have HS : Hid (M.start (s.drop i0) = match M.tagLoop ((s.drop i0).length + 1) [] ((s.drop i0).dropWhile M.goesOn) with | none => none | some (l, c, u) => some (⟨1, M.lower ((s.drop i0).takeWhile M.goesOn), l, c, []⟩, u)) := Lib.hid rfl
  generalize M.tagLoop ((s.drop i0).length + 1) [] ((s.drop i0).dropWhile M.goesOn) = X at HX HS
  generalize M.lower ((s.drop i0).takeWhile M.goesOn) = nm at *
  clear hE hdE hnl
  go_enter Tryz.func37, Tryz.ntmps37
  go_wp2_with fail
  refine (QN.out _).mono ?_
  rintro e w1 ⟨rfl, b1⟩
  have hR1 : w1.heap[w.heap.size]? = some (.cells tzero 33 (0, 0)) := (b1.block w.heap.size (by simp)).trans (heap_alloc_new _ _)
  have hB1 : Below w.heap.size w w1 := ((Below.refl _ _).alloc (Nat.le_refl _) _).trans (b1.mono (by simp))
  have hz1 : w.heap.size < w1.heap.size := by have := b1.size; simp at this; omega
  clear b1
  go_wp2_with fail
  obtain ⟨W, hW⟩ : ∃ W, W = w1.alloc (.cells #[.int .i64 1, .string ⟨nm.toArray⟩, .slice none 0 0, .bool false, .string ⟨#[]⟩] 33) := ⟨_, rfl⟩
  rw [← hW]
  have hbW : Below w1.heap.size w1 W := by rw [hW]; exact (Below.refl _ _).alloc (Nat.le_refl _) _
  have HT0 : Hid (IsTk w1.heap.size (.int .i64 1) (.string ⟨nm.toArray⟩) (.slice none 0 0) (.bool false) (.string ⟨#[]⟩) W) := Lib.hid (by rw [hW]; exact heap_alloc_new _ _)
  have HR0 := Lib.hid ((hbW.block _ hz1).trans hR1)
  have hBW : Below w.heap.size w W := hB1.trans (hbW.mono (by omega))
  have hzW : w1.heap.size < W.heap.size := by rw [hW]; simp
  clear hW hbW hB1 hR1
  generalize w1.heap.size = TT at *
  go_loopw [1] (fun u wr => ∃ k : Nat, u = .int .i64 k ∧ i0 ≤ k ∧ k ≤ s.length ∧ W = wr ∧ Hid (twEnd M.goesOn s k = E)) (fun u _ => s.length - (intOf u).toNat)
  case atStart => exact ⟨i0, rfl, Nat.le_refl _, hi, rfl, HE⟩
  case round =>
    obtain ⟨k, rfl, hk1, hk2, rfl, HK⟩ := hrel
    have q := fun W => rstop s k k W rfl (by omega) (by omega)
    cases hst : stopAt s k with
    | false =>
      rw [hst] at q
      have Q := Lib.hid q
      obtain ⟨c, r, hd, hc, _⟩ := stop_false hst
      have hlt := lt_drop hd
      have HK' := Lib.hid ((twEnd_step hd hc).trans HK.out)
      clear q hst HK HE hd hc
      go_wp2_with fail
      refine (Q.out _).mono ?_
      rintro e w' ⟨rfl, rfl⟩
      go_wp2_with fail
      go_roundw
      case rel => exact ⟨k + 1, by go_num, by omega, by omega, trivial, HK'⟩
      case measure => simp [intOf]; omega
    | true =>
      rw [hst] at q
      have Q := Lib.hid q
      obtain rfl : k = E := (stop_true hst).symm.trans HK.out
      clear q hst HK HE
      go_wp2_with fail
      refine (Q.out _).mono ?_
      rintro e w' ⟨rfl, rfl⟩
      clear Q
      go_wp2_with fail
      go_loopw [1] (fun u wr => RsRel s nm i0 X TT w u wr) (fun u _ => s.length - (intOf u).toNat)
      case atStart => exact ⟨k, _, [], _, rfl, hk1, hk2, by simp, HT0, HR0, Lib.hid (World.ownsRow_nil _ _ _ _), hBW, hzW, HX⟩
      case round =>
        obtain ⟨i, n, l, a, rfl, hii, hil, hl, HT, HR, HA, hB, hTl, HXr⟩ := hrel
        obtain ⟨wo, rfl⟩ : ∃ wo : World, wo = wr := ⟨_, rfl⟩
        clear HT0 HR0 hBW hzW HX
        obtain ⟨n, rfl⟩ : ∃ n', n = n' + 1 := ⟨n - 1, by have := HXr.out.1; omega⟩
        have hnl : (s.drop i).length < n + 1 := HXr.out.1
        obtain ⟨P, hP⟩ : ∃ P, twEnd M.skips s i = P := ⟨_, rfl⟩
        have HP := Lib.hid hP
        have hPi : i ≤ P := hP ▸ twEnd_ge M.skips s i
        have hPl : P ≤ s.length := hP ▸ twEnd_le (p := M.skips) hil
        clear hP
        go_wp2_with fail
        go_loopw [1, 7] (fun u v wx => ∃ (k : Nat) (B : Bool), u = .int .i64 k ∧ v = .bool B ∧ i ≤ k ∧ k ≤ s.length ∧ wo = wx ∧ Hid (twEnd M.skips s k = P) ∧ Hid ((((s.drop i).take (k - i)).getLast? == some 47) = B)) (fun u _ _ => s.length - (intOf u).toNat)
        case atStart => exact ⟨i, false, rfl, rfl, Nat.le_refl _, hil, rfl, HP, Lib.hid (by rw [Nat.sub_self]; rfl)⟩
        case round =>
          obtain ⟨k, B, rfl, rfl, hk1, hk2, rfl, HK, HB⟩ := hrel
          by_cases hlt : k < s.length
          · have hlt1 : (k : Int) < (s.length : Int) := by omega
            obtain ⟨c, r, hd⟩ := drop_cons hlt
            have hix := at_drop hd (by rw [T.bytes_size]; exact hlt)
            have HT1 : Hid (((s.drop i).take (k + 1 - i)).getLast? = some c) := Lib.hid (take_last hk1 hd)
            have q := fun W => T.refSpace c W
            by_cases hsk : M.skips c = true
            · have HK' := Lib.hid ((twEnd_step hd hsk).trans HK.out)
              have HB' : Hid ((((s.drop i).take (k + 1 - i)).getLast? == some 47) = (c == 47)) := Lib.hid (by rw [HT1.out]; rfl)
              rcases Decidable.em (c = 47) with h47 | h47
              case' inl =>
                have hsp : T.sp c = false := by subst h47; rfl
                have f1 : ((c.toNat : Int) == 47) = true := byte_is (n := 47) h47 (by omega)
                have f2 : (c == 47) = true := by simpa using h47
              case' inr =>
                have hsp : T.sp c = true := by
                  have e : (c == 47) = false := by simpa using h47
                  unfold M.skips at hsk; rw [e] at hsk; simpa using hsk
                have f1 : ((c.toNat : Int) == 47) = false := byte_ne (n := 47) h47 (by omega)
                have f2 : (c == 47) = false := by simpa using h47
              all_goals
                rw [hsp] at q
                rw [f2] at HB'
                have Q := Lib.hid q
                clear q hsp f2 hsk hd HT1 HK HB HP h47
                go_wp2_with fail
                refine (Q.out _).mono ?_
                rintro e w' ⟨rfl, rfl⟩
                go_wp2_with fail
                go_roundw
                case rel => exact ⟨k + 1, _, by go_num, rfl, by omega, by omega, trivial, HK', HB'⟩
                case measure => simp [intOf]; omega
            · have hsk : M.skips c = false := by simpa using hsk
              obtain rfl : k = P := (twEnd_stop hd hsk).symm.trans HK.out
              have h47 : c ≠ 47 := by rintro rfl; cases hsk
              have hdk : decide (s.length ≤ k) = false := decide_eq_false (by omega)
              have hsp : T.sp c = false := by
                have e : (c == 47) = false := by simpa using h47
                unfold M.skips at hsk; rw [e] at hsk; simpa using hsk
              have f1 : ((c.toNat : Int) == 47) = false := byte_ne (n := 47) h47 (by omega)
              rw [hsp] at q
              have Q := Lib.hid q
              have htw : (s.drop i).take (k - i) = (s.drop i).takeWhile M.skips := by rw [← HP.out]; exact twEnd_take _ _ _
              have hdw : (s.drop i).dropWhile M.skips = c :: r := by rw [← hd, ← HP.out]; exact (twEnd_drop _ _ _).symm
              rw [htw] at HB
              clear q hsp hsk HT1 HK HP h47 htw
              rcases Decidable.em (c = 62) with h62 | h62
              · have g1 : ((c.toNat : Int) == 62) = true := byte_is (n := 62) h62 (by omega)
                subst h62
                have HV : Hid (M.start (s.drop i0) = some (⟨1, nm, l, B, []⟩, r)) := Lib.hid (by
                  rw [HS.out, ← HXr.out.2, tag_close hdw, HB.out])
                have HD1 := Lib.hid (drop_more hd)
                obtain ⟨ao, cap, rfl, hao⟩ := own_slice HA.out
                obtain ⟨hcT, hfT⟩ := cells_of HT.out
                obtain ⟨hcR, hfR⟩ := cells_of HR.out
                unfold tzero at hcR hfR
                clear hd hdw HB HXr f1
                go_wp2_with fail
                refine (Q.out _).mono ?_
                rintro e w' ⟨rfl, rfl⟩
                go_wp2_with fail
                rw [HV.out]
                refine bodyPost_ret (v := stupV (.int .i64 1) (.string ⟨nm.toArray⟩) (.slice ao l.length cap) (.bool B) (.string ⟨#[]⟩) ((k : Int) + 1)) (by simp [results, Tryz.results37, go_sem, stupV, hcR, hcT]) rfl ⟨?_, _, k + 1, rfl, ?_, HD1.out, by omega, by omega⟩
                · iterate 5 refine bset ?_ (Nat.le_refl _)
                  exact bset hB (by omega)
                · unfold HasRAttrs
                  refine own_mono (base := TT + 1) ?_ (by omega)
                  iterate 5 refine ownsRow_setCell_below ?_ (by show w.heap.size < TT + 1; omega) _
                  exact ownsRow_setCell_below HA.out (by show TT < TT + 1; omega) _
              · have g1 : ((c.toNat : Int) == 62) = false := byte_ne (n := 62) h62 (by omega)
                have HTA := Lib.hid (tag_attr (n := n) (l := l) hdw h62)
                obtain ⟨E1, hE1⟩ : ∃ E1, twEnd M.inName s (k + 1) = E1 := ⟨_, rfl⟩
                have hE1a : k + 1 ≤ E1 := hE1 ▸ twEnd_ge M.inName s (k + 1)
                have hE1b : E1 ≤ s.length := hE1 ▸ twEnd_le (p := M.inName) (by omega)
                obtain ⟨E2, hE2⟩ : ∃ E2, twEnd T.sp s E1 = E2 := ⟨_, rfl⟩
                have hE2a : E1 ≤ E2 := hE2 ▸ twEnd_ge T.sp s E1
                have hE2b : E2 ≤ s.length := hE2 ▸ twEnd_le (p := T.sp) hE1b
                have hd1 := drop_more hd
                have hxs := T.slice_str s k E1 (by omega) hE1b
                have hnm : (s.drop k).take (E1 - k) = c :: (s.drop (k + 1)).takeWhile M.inName := by
                  rw [← twEnd_take, hE1, hd, show E1 - k = (E1 - (k + 1)) + 1 by omega, List.take_succ_cons, hd1]
                rw [hnm] at hxs
                have hxl : (c :: (s.drop (k + 1)).takeWhile M.inName).length ≤ 1000000 := by rw [← hnm, List.length_take, List.length_drop]; omega
                obtain ⟨x0, hx0⟩ : ∃ x0, c :: (s.drop (k + 1)).takeWhile M.inName = x0 := ⟨_, rfl⟩
                rw [hx0] at hxs hxl
                have ql := fun W => refLowerA x0 W hxl
                obtain ⟨x, hx⟩ : ∃ x, M.lower x0 = x := ⟨_, rfl⟩
                rw [hx] at ql
                have QL := Lib.hid ql
                have HX0 := Lib.hid (show M.lower (c :: (s.drop (k + 1)).takeWhile M.inName) = x by rw [hx0, hx])
                have HD1 := Lib.hid hd1
                have HE1 := Lib.hid hE1
                have HE2 := Lib.hid hE2
                clear hE1 hE2 hd hd1 hdw HB hnm hxl ql hx hx0
                go_wp2_with fail
                refine (Q.out _).mono ?_
                rintro e w' ⟨rfl, rfl⟩
                go_wp2_with fail
                obtain ⟨W1, hW1⟩ : ∃ W, W = wo.alloc (.cells #[.string ⟨#[]⟩, .string ⟨#[]⟩] 63) := ⟨_, rfl⟩
                rw [← hW1]
                have hbW1 : Below wo.heap.size wo W1 := by rw [hW1]; exact (Below.refl _ _).alloc (Nat.le_refl _) _
                have HA1 : Hid (IsRAttr wo.heap.size [] [] W1) := Lib.hid (by rw [hW1]; exact heap_alloc_new _ _)
                have hzB := hB.size
                have hzW1 := hbW1.size
                have HT1 := Lib.hid (HT.out.below hbW1)
                have hR1 := hbW1.block w.heap.size
                have hO1 : HasRAttrs (TT + 1) a l W1 := own_below hbW1 HA.out
                have hoA : ∀ g, a.ownBlock = some g → g < wo.heap.size := fun g hg => (HA.out.lt g hg).2
                obtain ⟨A, hAe⟩ : ∃ A, wo.heap.size = A := ⟨_, rfl⟩
                rw [hAe] at HA1 hbW1 hzW1 hR1 hoA ⊢
                have hTA : TT < A := by omega
                have hwA : w.heap.size ≤ A := by omega
                have hwA2 : w.heap.size < A := by have := lt_of_block HR.out; omega
                have HR1 := Lib.hid ((hR1 hwA2).trans HR.out)
                have HO1 := Lib.hid hO1
                have hBW1 : Below w.heap.size w W1 := hB.trans (hbW1.mono hwA)
                have hlA := lt_of_block HA1.out
                have HOA := Lib.hid hoA
                clear hW1 hbW1 Q f1 g1 hix hR1 hO1 hoA
                go_loopw [9] (fun u wr => ∃ m : Nat, u = .int .i64 m ∧ k + 1 ≤ m ∧ m ≤ s.length ∧ W1 = wr ∧ Hid (twEnd M.inName s m = E1)) (fun u _ => s.length - (intOf u).toNat)
                case atStart => exact ⟨k + 1, by go_num, Nat.le_refl _, by omega, rfl, HE1⟩
                case round =>
                  obtain ⟨m, rfl, hm1, hm2, rfl, HM⟩ := hrel
                  have q := fun W => rstop s m m W rfl (by omega) (by omega)
                  by_cases hgo : stopAt s m = false ∧ s.getD m 0 ≠ 61
                  · obtain ⟨hst, h61⟩ := hgo
                    rw [hst] at q
                    have QS := Lib.hid q
                    obtain ⟨y, u, hd, hy, hys⟩ := stop_false hst
                    have hlt2 := lt_drop hd
                    have hlt3 : (m : Int) < (s.length : Int) := by omega
                    have hiy := at_drop hd (by rw [T.bytes_size]; exact hlt2)
                    rw [getD_drop hd] at h61
                    have t1 : ((y.toNat : Int) == 61) = false := byte_ne (n := 61) h61 (by omega)
                    have t2 : ((y.toNat : Int) != 61) = true := by rw [bne, t1]; rfl
                    have HM' := Lib.hid ((twEnd_step hd (by unfold M.inName; rw [hys]; simpa using h61)).trans HM.out)
                    clear q hst HM HE1 hd hy hys h61 QL hxs
                    go_wp2_with fail
                    refine (QS.out _).mono ?_
                    rintro e w' ⟨rfl, rfl⟩
                    go_wp2_with fail
                    go_roundw
                    case rel => first | exact ⟨m + 1, by go_num, by omega, by omega, trivial, HM'⟩ | ((repeat apply Exists.intro); exact ⟨⟨m + 1, by go_num, by omega, by omega, by trivial, HM'⟩, rfl⟩)
                    case measure => simp [intOf]; omega
                  · have hme : m = E1 := by
                      refine Eq.trans (Eq.symm ?_) HM.out
                      cases hd : s.drop m with
                      | nil => exact twEnd_past (by have := congrArg List.length hd; rw [List.length_drop] at this; simp at this; omega)
                      | cons y u =>
                        refine twEnd_stop hd ?_
                        cases hst : stopAt s m with
                        | true =>
                          rw [stop_at hd] at hst
                          unfold M.inName; rw [hst]; simp
                        | false =>
                          have : s.getD m 0 = 61 := Decidable.byContradiction fun h => hgo ⟨hst, h⟩
                          rw [getD_drop hd] at this
                          unfold M.inName; rw [this]; rfl
                    subst hme
                    have hb1 : (k : Int) ≤ (m : Int) := by omega
                    have hb2 : (m : Int) ≤ (s.length : Int) := by omega
                    clear HM
                    cases hst : stopAt s m with
                    | true =>
                      rw [hst] at q
                      have QS := Lib.hid q
                      clear q hst hgo
                      go_wp2_with fail
                      refine (QS.out _).mono ?_
                      rintro e w' ⟨rfl, rfl⟩
                      go_wp2_with fail
                      refine (QL.out _).mono ?_
                      rintro e w2 ⟨rfl, b2⟩
                      have HA2 := Lib.hid (HA1.out.below b2)
                      have HT2 := Lib.hid (HT1.out.below b2)
                      have HR2 := Lib.hid ((b2.block w.heap.size (by omega)).trans HR1.out)
                      have HO2 : Hid (HasRAttrs (TT + 1) a l w2) := Lib.hid (own_below b2 HO1.out)
                      have hBW2 : Below w.heap.size w w2 := hBW1.trans (b2.mono (by omega))
                      have hz2 := b2.size
                      obtain ⟨hcA, hfA⟩ := cells_of HA2.out
                      clear HA1 HT1 HR1 HO1 b2 QL hxs
                      go_wp2_with fail
                      obtain ⟨W2, hW2⟩ : ∃ W, W = w2.setCell ⟨A, 0, none⟩ (.string ⟨x.toArray⟩) := ⟨_, rfl⟩
                      rw [← hW2]
                      have HC : Hid (RaC s nm TT A a l x [] w W2) := Lib.hid (by
                        rw [hW2]
                        refine ⟨?_, ?_, block_set HA2.out, ?_, bset hBW2 (by omega), by simp [World.setCell]; omega⟩
                        · exact (Below.heap_setCell w2 ⟨A, 0, none⟩ _ TT (by show TT ≠ A; omega)).trans HT2.out
                        · exact (Below.heap_setCell w2 ⟨A, 0, none⟩ _ w.heap.size (by show w.heap.size ≠ A; omega)).trans HR2.out
                        · exact ownsRow_setCell_other HO2.out (a := ⟨A, 0, none⟩) (fun h => by have := HOA.out A h; omega) _)
                      clear hW2 HA2 HT2 HR2 HO2 hcA hfA hBW2
                      go_loopw [1] (fun u wr => ∃ p : Nat, u = .int .i64 p ∧ m ≤ p ∧ p ≤ s.length ∧ W2 = wr ∧ Hid (twEnd T.sp s p = E2)) (fun u _ => s.length - (intOf u).toNat)
                      case atStart => exact ⟨m, rfl, Nat.le_refl _, by omega, rfl, HE2⟩
                      case round =>
                        obtain ⟨p, rfl, hp1, hp2, rfl, HP2⟩ := hrel
                        have hBz := HC.out.2.2.2.2.1.size
                        have hAz := lt_of_block HC.out.2.2.1
                        by_cases hpl : p < s.length
                        · have hpl1 : (p : Int) < (s.length : Int) := by omega
                          obtain ⟨d, u, hd⟩ := drop_cons hpl
                          have hid := at_drop hd (by rw [T.bytes_size]; exact hpl)
                          have q := fun W => T.refSpace d W
                          cases hsp : T.sp d with
                          | true =>
                            rw [hsp] at q
                            have QP := Lib.hid q
                            have HP' := Lib.hid ((twEnd_step hd hsp).trans HP2.out)
                            clear q hsp HP2 HE2 hd
                            go_wp2_with fail
                            refine (QP.out _).mono ?_
                            rintro e w' ⟨rfl, rfl⟩
                            go_wp2_with fail
                            go_roundw
                            case rel => first | exact ⟨p + 1, by go_num, by omega, by omega, trivial, HP'⟩ | ((repeat apply Exists.intro); exact ⟨⟨p + 1, by go_num, by omega, by omega, by trivial, HP'⟩, rfl⟩)
                            case measure => simp [intOf]; omega
                          | false =>
                            rw [hsp] at q
                            have QP := Lib.hid q
                            obtain rfl : p = E2 := (twEnd_stop hd hsp).symm.trans HP2.out
                            have HAT := Lib.hid (rattr_val HD1.out HE1.out HE2.out hd HX0.out)
                            have HU := Lib.hid (drop_more hd)
                            have HDD := Lib.hid hd
                            clear q hsp HP2 hd
                            rcases Decidable.em (d = 61) with h61 | h61
                            · have t1 : ((d.toNat : Int) == 61) = true := byte_is (n := 61) h61 (by omega)
                              subst h61
                              obtain ⟨E3, hE3⟩ : ∃ E3, twEnd T.sp s (p + 1) = E3 := ⟨_, rfl⟩
                              have HE3 := Lib.hid hE3
                              clear hE3
                              go_wp2_with fail
                              refine (QP.out _).mono ?_
                              rintro e w' ⟨rfl, rfl⟩
                              go_wp2_with fail
                              go_loopw [1] (fun u wr => ∃ o : Nat, u = .int .i64 o ∧ p + 1 ≤ o ∧ o ≤ s.length ∧ W2 = wr ∧ Hid (twEnd T.sp s o = E3)) (fun u _ => s.length - (intOf u).toNat)
                              case atStart => exact ⟨p + 1, by go_num, Nat.le_refl _, by omega, rfl, HE3⟩
                              case round =>
                                obtain ⟨o, rfl, ho1, ho2, rfl, HO3⟩ := hrel
                                clear t1 hid
                                by_cases hol : o < s.length
                                · have hol1 : (o : Int) < (s.length : Int) := by omega
                                  obtain ⟨y, z, hyz⟩ := drop_cons hol
                                  have hiy := at_drop hyz (by rw [T.bytes_size]; exact hol)
                                  have q := fun W => T.refSpace y W
                                  cases hsp : T.sp y with
                                  | true =>
                                    rw [hsp] at q
                                    have QY := Lib.hid q
                                    have HO' := Lib.hid ((twEnd_step hyz hsp).trans HO3.out)
                                    clear q hsp HO3 HE3 hyz
                                    go_wp2_with fail
                                    refine (QY.out _).mono ?_
                                    rintro e w' ⟨rfl, rfl⟩
                                    go_wp2_with fail
                                    go_roundw
                                    case rel => first | exact ⟨o + 1, by go_num, by omega, by omega, trivial, HO'⟩ | ((repeat apply Exists.intro); exact ⟨⟨o + 1, by go_num, by omega, by omega, by trivial, HO'⟩, rfl⟩)
                                    case measure => simp [intOf]; omega
                                  | false =>
                                    rw [hsp] at q
                                    have QY := Lib.hid q
                                    obtain rfl : o = E3 := (twEnd_stop hyz hsp).symm.trans HO3.out
                                    have hvs := value_spec (s := s) (i := o) (i0 := p + 1) ho2 (by rw [← twEnd_drop, HE3.out])
                                    have QV := Lib.hid (fun W => rvalue s o W (by omega) ho2)
                                    clear q hsp HO3 hyz
                                    go_wp2_with fail
                                    refine (QY.out _).mono ?_
                                    rintro e w' ⟨rfl, rfl⟩
                                    go_wp2_with fail
                                    refine (QV.out _).mono ?_
                                    rintro e w' ⟨rfl, rfl⟩
                                    cases hvv : vspec s o with
                                    | none =>
                                      rw [hvv] at hvs
                                      have hvs : M.value (s.drop (p + 1)) = none := hvs
                                      have HV : Hid (M.start (s.drop i0) = none) := Lib.hid (by
                                        have h1 := HAT.out
                                        rw [if_pos (show (61 : UInt8) == 61 from rfl), ← HU.out, hvs] at h1
                                        rw [HS.out, ← HXr.out.2, HTA.out, h1])
                                      obtain ⟨cT, cR, cA, cO, cB, cL⟩ := HC.out
                                      obtain ⟨ao, cap, rfl, hao⟩ := own_slice cO
                                      obtain ⟨hcT, hfT⟩ := cells_of cT
                                      obtain ⟨hcR, hfR⟩ := cells_of cR
                                      unfold tzero at hcR hfR
                                      clear cT cR cA cO hvs hvv HAT
                                      unfold vres
                                      go_wp2_with fail
                                      rw [HV.out]
                                      refine bodyPost_ret (v := stupV (.int .i64 1) (.string ⟨nm.toArray⟩) (.slice ao l.length cap) (.bool false) (.string ⟨#[]⟩) (-1)) (by simp [results, Tryz.results37, go_sem, stupV, hcR, hcT]) rfl ⟨?_, _, _, _, _, rfl⟩
                                      iterate 5 refine bset ?_ (Nat.le_refl _)
                                      exact cB
                                    | some vj =>
                                      obtain ⟨v, j⟩ := vj
                                      rw [hvv] at hvs
                                      have hvs : o ≤ j ∧ j ≤ s.length ∧ v.length ≤ s.length ∧ (M.value (s.drop (p + 1)) = some (v, s.drop j) ∨ (M.value (s.drop (p + 1)) = none ∧ j = s.length)) := hvs
                                      obtain ⟨hv1, hv2, hv3, hv4⟩ := hvs
                                      have hv30 : (0 : Int) ≤ (j : Int) := by omega
                                      obtain ⟨dv, hdv⟩ : ∃ dv, E.decode v = dv := ⟨_, rfl⟩
                                      have HSP : Hid (RaSpec c r s x dv j) := Lib.hid (by
                                        have h1 := HAT.out
                                        rw [if_pos (show (61 : UInt8) == 61 from rfl), ← HU.out] at h1
                                        rcases hv4 with h | ⟨h, h2⟩
                                        · rw [h] at h1
                                          exact Or.inl (by rw [h1, ← hdv])
                                        · rw [h] at h1
                                          exact Or.inr ⟨h1, h2⟩)
                                      have qd := fun W => refDecode v W (by omega)
                                      rw [hdv] at qd
                                      have QD := Lib.hid qd
                                      clear qd hdv hv4 hvv HAT
                                      unfold vres tup2
                                      go_wp2_with fail
                                      refine (QD.out _).mono ?_
                                      rintro e w7 ⟨rfl, b7⟩
                                      obtain ⟨cT, cR, cA, cO, cB, cL⟩ := HC.out
                                      have cT7 := cT.below b7
                                      have cR7 := (b7.block w.heap.size (by omega)).trans cR
                                      have cA7 := cA.below b7
                                      have cO7 := own_below b7 cO
                                      have cB7 := cB.trans (b7.mono (by omega))
                                      have hz7 := b7.size
                                      have hoB : ∀ g, a.ownBlock = some g → g ≠ A := fun g hg e => by have := HOA.out g hg; omega
                                      have HC7 : Hid (RaC s nm TT A a l x dv w (w7.setCell ⟨A, 1, none⟩ (.string ⟨dv.toArray⟩))) := Lib.hid (by
                                        refine ⟨?_, ?_, block_set cA7, ?_, bset cB7 (by omega), by simp [World.setCell]; omega⟩
                                        · exact (Below.heap_setCell w7 ⟨A, 1, none⟩ _ TT (by show TT ≠ A; omega)).trans cT7
                                        · exact (Below.heap_setCell w7 ⟨A, 1, none⟩ _ w.heap.size (by show w.heap.size ≠ A; omega)).trans cR7
                                        · exact ownsRow_setCell_other cO7 (a := ⟨A, 1, none⟩) (fun h => hoB A h rfl) _)
                                      obtain ⟨hcA, hfA⟩ := cells_of cA7
                                      have HC := HC7
                                      clear cT cR cA cO cB cL cT7 cR7 cA7 cO7 cB7 hoB HC7
                                      go_upto_region 30 with fail
                                      generalize w7.setCell ⟨A, 1, none⟩ (.string ⟨dv.toArray⟩) = W7 at HC ⊢
                                      clear hcA hfA b7 QD
                                      obtain ⟨cT, cR, cA, cO, cB, cL⟩ := HC.out
                                      obtain ⟨hcA, hfA⟩ := cells_of cA
                                      have QADD := Lib.hid (radd TT _ _ _ _ a l x dv W7 hl cT cO)
                                      have CT := Lib.hid cT
                                      have CR := Lib.hid cR
                                      clear cT cR cA cO
                                      go_wp2_with fail
                                      refine QADD.out.mono ?_
                                      rintro e w9 ⟨rfl, hb9, a9, ht9, ho9⟩
                                      have HT9 := Lib.hid ht9
                                      have HO9 := Lib.hid ho9
                                      clear ht9 ho9 hcA hfA QADD
                                      go_wp2_with fail
                                      go_roundw
                                      case rel =>
                                        have HXn := Lib.hid (ra_next HTA.out HXr.out.2 hnl (J := j) (by omega) (by omega) HSP.out)
                                        have HR9 := Lib.hid ((hb9.block w.heap.size hz1).trans CR.out)
                                        have hB9 := cB.trans (hb9.mono (by omega))
                                        have hl9 := lt_of_block HT9.out
                                        first | exact ⟨j, n, M.add l (x, dv), a9, rfl, by omega, by omega, add_le hl, HT9, HR9, HO9, hB9, hl9, HXn⟩ | ((repeat apply Exists.intro); exact ⟨⟨j, n, M.add l (x, dv), a9, rfl, by omega, by omega, add_le hl, HT9, HR9, HO9, hB9, hl9, HXn⟩, rfl⟩)
                                      case measure => simp [intOf]; omega
                                · have hol1 : (s.length : Int) ≤ (o : Int) := by omega
                                  obtain rfl : o = E3 := (twEnd_past (by omega)).symm.trans HO3.out
                                  have hvs := value_spec (s := s) (i := o) (i0 := p + 1) ho2 (by rw [← twEnd_drop, HE3.out])
                                  have QV := Lib.hid (fun W => rvalue s o W (by omega) ho2)
                                  clear HO3
                                  go_wp2_with fail
                                  refine (QV.out _).mono ?_
                                  rintro e w' ⟨rfl, rfl⟩
                                  cases hvv : vspec s o with
                                  | none =>
                                    rw [hvv] at hvs
                                    have hvs : M.value (s.drop (p + 1)) = none := hvs
                                    have HV : Hid (M.start (s.drop i0) = none) := Lib.hid (by
                                      have h1 := HAT.out
                                      rw [if_pos (show (61 : UInt8) == 61 from rfl), ← HU.out, hvs] at h1
                                      rw [HS.out, ← HXr.out.2, HTA.out, h1])
                                    obtain ⟨cT, cR, cA, cO, cB, cL⟩ := HC.out
                                    obtain ⟨ao, cap, rfl, hao⟩ := own_slice cO
                                    obtain ⟨hcT, hfT⟩ := cells_of cT
                                    obtain ⟨hcR, hfR⟩ := cells_of cR
                                    unfold tzero at hcR hfR
                                    clear cT cR cA cO hvs hvv HAT
                                    unfold vres
                                    go_wp2_with fail
                                    rw [HV.out]
                                    refine bodyPost_ret (v := stupV (.int .i64 1) (.string ⟨nm.toArray⟩) (.slice ao l.length cap) (.bool false) (.string ⟨#[]⟩) (-1)) (by simp [results, Tryz.results37, go_sem, stupV, hcR, hcT]) rfl ⟨?_, _, _, _, _, rfl⟩
                                    iterate 5 refine bset ?_ (Nat.le_refl _)
                                    exact cB
                                  | some vj =>
                                    obtain ⟨v, j⟩ := vj
                                    rw [hvv] at hvs
                                    have hvs : o ≤ j ∧ j ≤ s.length ∧ v.length ≤ s.length ∧ (M.value (s.drop (p + 1)) = some (v, s.drop j) ∨ (M.value (s.drop (p + 1)) = none ∧ j = s.length)) := hvs
                                    obtain ⟨hv1, hv2, hv3, hv4⟩ := hvs
                                    have hv30 : (0 : Int) ≤ (j : Int) := by omega
                                    obtain ⟨dv, hdv⟩ : ∃ dv, E.decode v = dv := ⟨_, rfl⟩
                                    have HSP : Hid (RaSpec c r s x dv j) := Lib.hid (by
                                      have h1 := HAT.out
                                      rw [if_pos (show (61 : UInt8) == 61 from rfl), ← HU.out] at h1
                                      rcases hv4 with h | ⟨h, h2⟩
                                      · rw [h] at h1
                                        exact Or.inl (by rw [h1, ← hdv])
                                      · rw [h] at h1
                                        exact Or.inr ⟨h1, h2⟩)
                                    have qd := fun W => refDecode v W (by omega)
                                    rw [hdv] at qd
                                    have QD := Lib.hid qd
                                    clear qd hdv hv4 hvv HAT
                                    unfold vres tup2
                                    go_wp2_with fail
                                    refine (QD.out _).mono ?_
                                    rintro e w7 ⟨rfl, b7⟩
                                    obtain ⟨cT, cR, cA, cO, cB, cL⟩ := HC.out
                                    have cT7 := cT.below b7
                                    have cR7 := (b7.block w.heap.size (by omega)).trans cR
                                    have cA7 := cA.below b7
                                    have cO7 := own_below b7 cO
                                    have cB7 := cB.trans (b7.mono (by omega))
                                    have hz7 := b7.size
                                    have hoB : ∀ g, a.ownBlock = some g → g ≠ A := fun g hg e => by have := HOA.out g hg; omega
                                    have HC7 : Hid (RaC s nm TT A a l x dv w (w7.setCell ⟨A, 1, none⟩ (.string ⟨dv.toArray⟩))) := Lib.hid (by
                                      refine ⟨?_, ?_, block_set cA7, ?_, bset cB7 (by omega), by simp [World.setCell]; omega⟩
                                      · exact (Below.heap_setCell w7 ⟨A, 1, none⟩ _ TT (by show TT ≠ A; omega)).trans cT7
                                      · exact (Below.heap_setCell w7 ⟨A, 1, none⟩ _ w.heap.size (by show w.heap.size ≠ A; omega)).trans cR7
                                      · exact ownsRow_setCell_other cO7 (a := ⟨A, 1, none⟩) (fun h => hoB A h rfl) _)
                                    obtain ⟨hcA, hfA⟩ := cells_of cA7
                                    have HC := HC7
                                    clear cT cR cA cO cB cL cT7 cR7 cA7 cO7 cB7 hoB HC7
                                    go_upto_region 30 with fail
                                    generalize w7.setCell ⟨A, 1, none⟩ (.string ⟨dv.toArray⟩) = W7 at HC ⊢
                                    clear hcA hfA b7 QD
                                    obtain ⟨cT, cR, cA, cO, cB, cL⟩ := HC.out
                                    obtain ⟨hcA, hfA⟩ := cells_of cA
                                    have QADD := Lib.hid (radd TT _ _ _ _ a l x dv W7 hl cT cO)
                                    have CT := Lib.hid cT
                                    have CR := Lib.hid cR
                                    clear cT cR cA cO
                                    go_wp2_with fail
                                    refine QADD.out.mono ?_
                                    rintro e w9 ⟨rfl, hb9, a9, ht9, ho9⟩
                                    have HT9 := Lib.hid ht9
                                    have HO9 := Lib.hid ho9
                                    clear ht9 ho9 hcA hfA QADD
                                    go_wp2_with fail
                                    go_roundw
                                    case rel =>
                                      have HXn := Lib.hid (ra_next HTA.out HXr.out.2 hnl (J := j) (by omega) (by omega) HSP.out)
                                      have HR9 := Lib.hid ((hb9.block w.heap.size hz1).trans CR.out)
                                      have hB9 := cB.trans (hb9.mono (by omega))
                                      have hl9 := lt_of_block HT9.out
                                      first | exact ⟨j, n, M.add l (x, dv), a9, rfl, by omega, by omega, add_le hl, HT9, HR9, HO9, hB9, hl9, HXn⟩ | ((repeat apply Exists.intro); exact ⟨⟨j, n, M.add l (x, dv), a9, rfl, by omega, by omega, add_le hl, HT9, HR9, HO9, hB9, hl9, HXn⟩, rfl⟩)
                                    case measure => simp [intOf]; omega
                            · have t1 : ((d.toNat : Int) == 61) = false := byte_ne (n := 61) h61 (by omega)
                              have h62' : (d == 61) = false := by simpa using h61
                              have HSP : Hid (RaSpec c r s x [] p) := Lib.hid (by
                                have h1 := HAT.out
                                rw [h62', if_neg (by simp)] at h1
                                exact Or.inl (by rw [h1, HDD.out]))
                              clear HAT h62' h61
                              go_wp2_with fail
                              refine (QP.out _).mono ?_
                              rintro e w' ⟨rfl, rfl⟩
                              go_upto_region 30 with fail
                              obtain ⟨cT, cR, cA, cO, cB, cL⟩ := HC.out
                              obtain ⟨hcA, hfA⟩ := cells_of cA
                              have QADD := Lib.hid (radd TT _ _ _ _ a l x [] W2 hl cT cO)
                              have CT := Lib.hid cT
                              have CR := Lib.hid cR
                              clear cT cR cA cO
                              go_wp2_with fail
                              refine QADD.out.mono ?_
                              rintro e w9 ⟨rfl, hb9, a9, ht9, ho9⟩
                              have HT9 := Lib.hid ht9
                              have HO9 := Lib.hid ho9
                              clear ht9 ho9 hcA hfA QADD
                              go_wp2_with fail
                              go_roundw
                              case rel =>
                                have HXn := Lib.hid (ra_next HTA.out HXr.out.2 hnl (J := p) (by omega) (by omega) HSP.out)
                                have HR9 := Lib.hid ((hb9.block w.heap.size hz1).trans CR.out)
                                have hB9 := cB.trans (hb9.mono (by omega))
                                have hl9 := lt_of_block HT9.out
                                first | exact ⟨p, n, M.add l (x, []), a9, rfl, by omega, by omega, add_le hl, HT9, HR9, HO9, hB9, hl9, HXn⟩ | ((repeat apply Exists.intro); exact ⟨⟨p, n, M.add l (x, []), a9, rfl, by omega, by omega, add_le hl, HT9, HR9, HO9, hB9, hl9, HXn⟩, rfl⟩)
                              case measure => simp [intOf]; omega
                        · have hpl1 : (s.length : Int) ≤ (p : Int) := by omega
                          obtain rfl : p = E2 := (twEnd_past (by omega)).symm.trans HP2.out
                          have HSP : Hid (RaSpec c r s x [] p) := Lib.hid (Or.inr ⟨rattr_end HD1.out HE1.out HE2.out (by omega), by omega⟩)
                          clear HP2
                          go_upto_region 30 with fail
                          obtain ⟨cT, cR, cA, cO, cB, cL⟩ := HC.out
                          obtain ⟨hcA, hfA⟩ := cells_of cA
                          have QADD := Lib.hid (radd TT _ _ _ _ a l x [] W2 hl cT cO)
                          have CT := Lib.hid cT
                          have CR := Lib.hid cR
                          clear cT cR cA cO
                          go_wp2_with fail
                          refine QADD.out.mono ?_
                          rintro e w9 ⟨rfl, hb9, a9, ht9, ho9⟩
                          have HT9 := Lib.hid ht9
                          have HO9 := Lib.hid ho9
                          clear ht9 ho9 hcA hfA QADD
                          go_wp2_with fail
                          go_roundw
                          case rel =>
                            have HXn := Lib.hid (ra_next HTA.out HXr.out.2 hnl (J := p) (by omega) (by omega) HSP.out)
                            have HR9 := Lib.hid ((hb9.block w.heap.size hz1).trans CR.out)
                            have hB9 := cB.trans (hb9.mono (by omega))
                            have hl9 := lt_of_block HT9.out
                            first | exact ⟨p, n, M.add l (x, []), a9, rfl, by omega, by omega, add_le hl, HT9, HR9, HO9, hB9, hl9, HXn⟩ | ((repeat apply Exists.intro); exact ⟨⟨p, n, M.add l (x, []), a9, rfl, by omega, by omega, add_le hl, HT9, HR9, HO9, hB9, hl9, HXn⟩, rfl⟩)
                          case measure => simp [intOf]; omega
                    | false =>
                      have h61 : s.getD m 0 = 61 := Decidable.byContradiction fun h => hgo ⟨hst, h⟩
                      rw [hst] at q
                      have QS := Lib.hid q
                      obtain ⟨y, u, hd, hy, hys⟩ := stop_false hst
                      have hlt2 := lt_drop hd
                      have hlt3 : (m : Int) < (s.length : Int) := by omega
                      have hiy := at_drop hd (by rw [T.bytes_size]; exact hlt2)
                      rw [getD_drop hd] at h61
                      have t1 : ((y.toNat : Int) == 61) = true := byte_is (n := 61) h61 (by omega)
                      have t2 : ((y.toNat : Int) != 61) = false := by rw [bne, t1]; rfl
                      clear q hst hgo hd hy hys h61
                      go_wp2_with fail
                      refine (QS.out _).mono ?_
                      rintro e w' ⟨rfl, rfl⟩
                      go_wp2_with fail
                      refine (QL.out _).mono ?_
                      rintro e w2 ⟨rfl, b2⟩
                      have HA2 := Lib.hid (HA1.out.below b2)
                      have HT2 := Lib.hid (HT1.out.below b2)
                      have HR2 := Lib.hid ((b2.block w.heap.size (by omega)).trans HR1.out)
                      have HO2 : Hid (HasRAttrs (TT + 1) a l w2) := Lib.hid (own_below b2 HO1.out)
                      have hBW2 : Below w.heap.size w w2 := hBW1.trans (b2.mono (by omega))
                      have hz2 := b2.size
                      obtain ⟨hcA, hfA⟩ := cells_of HA2.out
                      clear HA1 HT1 HR1 HO1 b2 QL hxs
                      go_wp2_with fail
                      obtain ⟨W2, hW2⟩ : ∃ W, W = w2.setCell ⟨A, 0, none⟩ (.string ⟨x.toArray⟩) := ⟨_, rfl⟩
                      rw [← hW2]
                      have HC : Hid (RaC s nm TT A a l x [] w W2) := Lib.hid (by
                        rw [hW2]
                        refine ⟨?_, ?_, block_set HA2.out, ?_, bset hBW2 (by omega), by simp [World.setCell]; omega⟩
                        · exact (Below.heap_setCell w2 ⟨A, 0, none⟩ _ TT (by show TT ≠ A; omega)).trans HT2.out
                        · exact (Below.heap_setCell w2 ⟨A, 0, none⟩ _ w.heap.size (by show w.heap.size ≠ A; omega)).trans HR2.out
                        · exact ownsRow_setCell_other HO2.out (a := ⟨A, 0, none⟩) (fun h => by have := HOA.out A h; omega) _)
                      clear hW2 HA2 HT2 HR2 HO2 hcA hfA hBW2
                      go_loopw [1] (fun u wr => ∃ p : Nat, u = .int .i64 p ∧ m ≤ p ∧ p ≤ s.length ∧ W2 = wr ∧ Hid (twEnd T.sp s p = E2)) (fun u _ => s.length - (intOf u).toNat)
                      case atStart => exact ⟨m, rfl, Nat.le_refl _, by omega, rfl, HE2⟩
                      case round =>
                        obtain ⟨p, rfl, hp1, hp2, rfl, HP2⟩ := hrel
                        have hBz := HC.out.2.2.2.2.1.size
                        have hAz := lt_of_block HC.out.2.2.1
                        by_cases hpl : p < s.length
                        · have hpl1 : (p : Int) < (s.length : Int) := by omega
                          obtain ⟨d, u, hd⟩ := drop_cons hpl
                          have hid := at_drop hd (by rw [T.bytes_size]; exact hpl)
                          have q := fun W => T.refSpace d W
                          cases hsp : T.sp d with
                          | true =>
                            rw [hsp] at q
                            have QP := Lib.hid q
                            have HP' := Lib.hid ((twEnd_step hd hsp).trans HP2.out)
                            clear q hsp HP2 HE2 hd
                            go_wp2_with fail
                            refine (QP.out _).mono ?_
                            rintro e w' ⟨rfl, rfl⟩
                            go_wp2_with fail
                            go_roundw
                            case rel => first | exact ⟨p + 1, by go_num, by omega, by omega, trivial, HP'⟩ | ((repeat apply Exists.intro); exact ⟨⟨p + 1, by go_num, by omega, by omega, by trivial, HP'⟩, rfl⟩)
                            case measure => simp [intOf]; omega
                          | false =>
                            rw [hsp] at q
                            have QP := Lib.hid q
                            obtain rfl : p = E2 := (twEnd_stop hd hsp).symm.trans HP2.out
                            have HAT := Lib.hid (rattr_val HD1.out HE1.out HE2.out hd HX0.out)
                            have HU := Lib.hid (drop_more hd)
                            have HDD := Lib.hid hd
                            clear q hsp HP2 hd
                            rcases Decidable.em (d = 61) with h61 | h61
                            · have t1 : ((d.toNat : Int) == 61) = true := byte_is (n := 61) h61 (by omega)
                              subst h61
                              obtain ⟨E3, hE3⟩ : ∃ E3, twEnd T.sp s (p + 1) = E3 := ⟨_, rfl⟩
                              have HE3 := Lib.hid hE3
                              clear hE3
                              go_wp2_with fail
                              refine (QP.out _).mono ?_
                              rintro e w' ⟨rfl, rfl⟩
                              go_wp2_with fail
                              go_loopw [1] (fun u wr => ∃ o : Nat, u = .int .i64 o ∧ p + 1 ≤ o ∧ o ≤ s.length ∧ W2 = wr ∧ Hid (twEnd T.sp s o = E3)) (fun u _ => s.length - (intOf u).toNat)
                              case atStart => exact ⟨p + 1, by go_num, Nat.le_refl _, by omega, rfl, HE3⟩
                              case round =>
                                obtain ⟨o, rfl, ho1, ho2, rfl, HO3⟩ := hrel
                                clear t1 hid
                                by_cases hol : o < s.length
                                · have hol1 : (o : Int) < (s.length : Int) := by omega
                                  obtain ⟨y, z, hyz⟩ := drop_cons hol
                                  have hiy := at_drop hyz (by rw [T.bytes_size]; exact hol)
                                  have q := fun W => T.refSpace y W
                                  cases hsp : T.sp y with
                                  | true =>
                                    rw [hsp] at q
                                    have QY := Lib.hid q
                                    have HO' := Lib.hid ((twEnd_step hyz hsp).trans HO3.out)
                                    clear q hsp HO3 HE3 hyz
                                    go_wp2_with fail
                                    refine (QY.out _).mono ?_
                                    rintro e w' ⟨rfl, rfl⟩
                                    go_wp2_with fail
                                    go_roundw
                                    case rel => first | exact ⟨o + 1, by go_num, by omega, by omega, trivial, HO'⟩ | ((repeat apply Exists.intro); exact ⟨⟨o + 1, by go_num, by omega, by omega, by trivial, HO'⟩, rfl⟩)
                                    case measure => simp [intOf]; omega
                                  | false =>
                                    rw [hsp] at q
                                    have QY := Lib.hid q
                                    obtain rfl : o = E3 := (twEnd_stop hyz hsp).symm.trans HO3.out
                                    have hvs := value_spec (s := s) (i := o) (i0 := p + 1) ho2 (by rw [← twEnd_drop, HE3.out])
                                    have QV := Lib.hid (fun W => rvalue s o W (by omega) ho2)
                                    clear q hsp HO3 hyz
                                    go_wp2_with fail
                                    refine (QY.out _).mono ?_
                                    rintro e w' ⟨rfl, rfl⟩
                                    go_wp2_with fail
                                    refine (QV.out _).mono ?_
                                    rintro e w' ⟨rfl, rfl⟩
                                    cases hvv : vspec s o with
                                    | none =>
                                      rw [hvv] at hvs
                                      have hvs : M.value (s.drop (p + 1)) = none := hvs
                                      have HV : Hid (M.start (s.drop i0) = none) := Lib.hid (by
                                        have h1 := HAT.out
                                        rw [if_pos (show (61 : UInt8) == 61 from rfl), ← HU.out, hvs] at h1
                                        rw [HS.out, ← HXr.out.2, HTA.out, h1])
                                      obtain ⟨cT, cR, cA, cO, cB, cL⟩ := HC.out
                                      obtain ⟨ao, cap, rfl, hao⟩ := own_slice cO
                                      obtain ⟨hcT, hfT⟩ := cells_of cT
                                      obtain ⟨hcR, hfR⟩ := cells_of cR
                                      unfold tzero at hcR hfR
                                      clear cT cR cA cO hvs hvv HAT
                                      unfold vres
                                      go_wp2_with fail
                                      rw [HV.out]
                                      refine bodyPost_ret (v := stupV (.int .i64 1) (.string ⟨nm.toArray⟩) (.slice ao l.length cap) (.bool false) (.string ⟨#[]⟩) (-1)) (by simp [results, Tryz.results37, go_sem, stupV, hcR, hcT]) rfl ⟨?_, _, _, _, _, rfl⟩
                                      iterate 5 refine bset ?_ (Nat.le_refl _)
                                      exact cB
                                    | some vj =>
                                      obtain ⟨v, j⟩ := vj
                                      rw [hvv] at hvs
                                      have hvs : o ≤ j ∧ j ≤ s.length ∧ v.length ≤ s.length ∧ (M.value (s.drop (p + 1)) = some (v, s.drop j) ∨ (M.value (s.drop (p + 1)) = none ∧ j = s.length)) := hvs
                                      obtain ⟨hv1, hv2, hv3, hv4⟩ := hvs
                                      have hv30 : (0 : Int) ≤ (j : Int) := by omega
                                      obtain ⟨dv, hdv⟩ : ∃ dv, E.decode v = dv := ⟨_, rfl⟩
                                      have HSP : Hid (RaSpec c r s x dv j) := Lib.hid (by
                                        have h1 := HAT.out
                                        rw [if_pos (show (61 : UInt8) == 61 from rfl), ← HU.out] at h1
                                        rcases hv4 with h | ⟨h, h2⟩
                                        · rw [h] at h1
                                          exact Or.inl (by rw [h1, ← hdv])
                                        · rw [h] at h1
                                          exact Or.inr ⟨h1, h2⟩)
                                      have qd := fun W => refDecode v W (by omega)
                                      rw [hdv] at qd
                                      have QD := Lib.hid qd
                                      clear qd hdv hv4 hvv HAT
                                      unfold vres tup2
                                      go_wp2_with fail
                                      refine (QD.out _).mono ?_
                                      rintro e w7 ⟨rfl, b7⟩
                                      obtain ⟨cT, cR, cA, cO, cB, cL⟩ := HC.out
                                      have cT7 := cT.below b7
                                      have cR7 := (b7.block w.heap.size (by omega)).trans cR
                                      have cA7 := cA.below b7
                                      have cO7 := own_below b7 cO
                                      have cB7 := cB.trans (b7.mono (by omega))
                                      have hz7 := b7.size
                                      have hoB : ∀ g, a.ownBlock = some g → g ≠ A := fun g hg e => by have := HOA.out g hg; omega
                                      have HC7 : Hid (RaC s nm TT A a l x dv w (w7.setCell ⟨A, 1, none⟩ (.string ⟨dv.toArray⟩))) := Lib.hid (by
                                        refine ⟨?_, ?_, block_set cA7, ?_, bset cB7 (by omega), by simp [World.setCell]; omega⟩
                                        · exact (Below.heap_setCell w7 ⟨A, 1, none⟩ _ TT (by show TT ≠ A; omega)).trans cT7
                                        · exact (Below.heap_setCell w7 ⟨A, 1, none⟩ _ w.heap.size (by show w.heap.size ≠ A; omega)).trans cR7
                                        · exact ownsRow_setCell_other cO7 (a := ⟨A, 1, none⟩) (fun h => hoB A h rfl) _)
                                      obtain ⟨hcA, hfA⟩ := cells_of cA7
                                      have HC := HC7
                                      clear cT cR cA cO cB cL cT7 cR7 cA7 cO7 cB7 hoB HC7
                                      go_upto_region 30 with fail
                                      generalize w7.setCell ⟨A, 1, none⟩ (.string ⟨dv.toArray⟩) = W7 at HC ⊢
                                      clear hcA hfA b7 QD
                                      obtain ⟨cT, cR, cA, cO, cB, cL⟩ := HC.out
                                      obtain ⟨hcA, hfA⟩ := cells_of cA
                                      have QADD := Lib.hid (radd TT _ _ _ _ a l x dv W7 hl cT cO)
                                      have CT := Lib.hid cT
                                      have CR := Lib.hid cR
                                      clear cT cR cA cO
                                      go_wp2_with fail
                                      refine QADD.out.mono ?_
                                      rintro e w9 ⟨rfl, hb9, a9, ht9, ho9⟩
                                      have HT9 := Lib.hid ht9
                                      have HO9 := Lib.hid ho9
                                      clear ht9 ho9 hcA hfA QADD
                                      go_wp2_with fail
                                      go_roundw
                                      case rel =>
                                        have HXn := Lib.hid (ra_next HTA.out HXr.out.2 hnl (J := j) (by omega) (by omega) HSP.out)
                                        have HR9 := Lib.hid ((hb9.block w.heap.size hz1).trans CR.out)
                                        have hB9 := cB.trans (hb9.mono (by omega))
                                        have hl9 := lt_of_block HT9.out
                                        first | exact ⟨j, n, M.add l (x, dv), a9, rfl, by omega, by omega, add_le hl, HT9, HR9, HO9, hB9, hl9, HXn⟩ | ((repeat apply Exists.intro); exact ⟨⟨j, n, M.add l (x, dv), a9, rfl, by omega, by omega, add_le hl, HT9, HR9, HO9, hB9, hl9, HXn⟩, rfl⟩)
                                      case measure => simp [intOf]; omega
                                · have hol1 : (s.length : Int) ≤ (o : Int) := by omega
                                  obtain rfl : o = E3 := (twEnd_past (by omega)).symm.trans HO3.out
                                  have hvs := value_spec (s := s) (i := o) (i0 := p + 1) ho2 (by rw [← twEnd_drop, HE3.out])
                                  have QV := Lib.hid (fun W => rvalue s o W (by omega) ho2)
                                  clear HO3
                                  go_wp2_with fail
                                  refine (QV.out _).mono ?_
                                  rintro e w' ⟨rfl, rfl⟩
                                  cases hvv : vspec s o with
                                  | none =>
                                    rw [hvv] at hvs
                                    have hvs : M.value (s.drop (p + 1)) = none := hvs
                                    have HV : Hid (M.start (s.drop i0) = none) := Lib.hid (by
                                      have h1 := HAT.out
                                      rw [if_pos (show (61 : UInt8) == 61 from rfl), ← HU.out, hvs] at h1
                                      rw [HS.out, ← HXr.out.2, HTA.out, h1])
                                    obtain ⟨cT, cR, cA, cO, cB, cL⟩ := HC.out
                                    obtain ⟨ao, cap, rfl, hao⟩ := own_slice cO
                                    obtain ⟨hcT, hfT⟩ := cells_of cT
                                    obtain ⟨hcR, hfR⟩ := cells_of cR
                                    unfold tzero at hcR hfR
                                    clear cT cR cA cO hvs hvv HAT
                                    unfold vres
                                    go_wp2_with fail
                                    rw [HV.out]
                                    refine bodyPost_ret (v := stupV (.int .i64 1) (.string ⟨nm.toArray⟩) (.slice ao l.length cap) (.bool false) (.string ⟨#[]⟩) (-1)) (by simp [results, Tryz.results37, go_sem, stupV, hcR, hcT]) rfl ⟨?_, _, _, _, _, rfl⟩
                                    iterate 5 refine bset ?_ (Nat.le_refl _)
                                    exact cB
                                  | some vj =>
                                    obtain ⟨v, j⟩ := vj
                                    rw [hvv] at hvs
                                    have hvs : o ≤ j ∧ j ≤ s.length ∧ v.length ≤ s.length ∧ (M.value (s.drop (p + 1)) = some (v, s.drop j) ∨ (M.value (s.drop (p + 1)) = none ∧ j = s.length)) := hvs
                                    obtain ⟨hv1, hv2, hv3, hv4⟩ := hvs
                                    have hv30 : (0 : Int) ≤ (j : Int) := by omega
                                    obtain ⟨dv, hdv⟩ : ∃ dv, E.decode v = dv := ⟨_, rfl⟩
                                    have HSP : Hid (RaSpec c r s x dv j) := Lib.hid (by
                                      have h1 := HAT.out
                                      rw [if_pos (show (61 : UInt8) == 61 from rfl), ← HU.out] at h1
                                      rcases hv4 with h | ⟨h, h2⟩
                                      · rw [h] at h1
                                        exact Or.inl (by rw [h1, ← hdv])
                                      · rw [h] at h1
                                        exact Or.inr ⟨h1, h2⟩)
                                    have qd := fun W => refDecode v W (by omega)
                                    rw [hdv] at qd
                                    have QD := Lib.hid qd
                                    clear qd hdv hv4 hvv HAT
                                    unfold vres tup2
                                    go_wp2_with fail
                                    refine (QD.out _).mono ?_
                                    rintro e w7 ⟨rfl, b7⟩
                                    obtain ⟨cT, cR, cA, cO, cB, cL⟩ := HC.out
                                    have cT7 := cT.below b7
                                    have cR7 := (b7.block w.heap.size (by omega)).trans cR
                                    have cA7 := cA.below b7
                                    have cO7 := own_below b7 cO
                                    have cB7 := cB.trans (b7.mono (by omega))
                                    have hz7 := b7.size
                                    have hoB : ∀ g, a.ownBlock = some g → g ≠ A := fun g hg e => by have := HOA.out g hg; omega
                                    have HC7 : Hid (RaC s nm TT A a l x dv w (w7.setCell ⟨A, 1, none⟩ (.string ⟨dv.toArray⟩))) := Lib.hid (by
                                      refine ⟨?_, ?_, block_set cA7, ?_, bset cB7 (by omega), by simp [World.setCell]; omega⟩
                                      · exact (Below.heap_setCell w7 ⟨A, 1, none⟩ _ TT (by show TT ≠ A; omega)).trans cT7
                                      · exact (Below.heap_setCell w7 ⟨A, 1, none⟩ _ w.heap.size (by show w.heap.size ≠ A; omega)).trans cR7
                                      · exact ownsRow_setCell_other cO7 (a := ⟨A, 1, none⟩) (fun h => hoB A h rfl) _)
                                    obtain ⟨hcA, hfA⟩ := cells_of cA7
                                    have HC := HC7
                                    clear cT cR cA cO cB cL cT7 cR7 cA7 cO7 cB7 hoB HC7
                                    go_upto_region 30 with fail
                                    generalize w7.setCell ⟨A, 1, none⟩ (.string ⟨dv.toArray⟩) = W7 at HC ⊢
                                    clear hcA hfA b7 QD
                                    obtain ⟨cT, cR, cA, cO, cB, cL⟩ := HC.out
                                    obtain ⟨hcA, hfA⟩ := cells_of cA
                                    have QADD := Lib.hid (radd TT _ _ _ _ a l x dv W7 hl cT cO)
                                    have CT := Lib.hid cT
                                    have CR := Lib.hid cR
                                    clear cT cR cA cO
                                    go_wp2_with fail
                                    refine QADD.out.mono ?_
                                    rintro e w9 ⟨rfl, hb9, a9, ht9, ho9⟩
                                    have HT9 := Lib.hid ht9
                                    have HO9 := Lib.hid ho9
                                    clear ht9 ho9 hcA hfA QADD
                                    go_wp2_with fail
                                    go_roundw
                                    case rel =>
                                      have HXn := Lib.hid (ra_next HTA.out HXr.out.2 hnl (J := j) (by omega) (by omega) HSP.out)
                                      have HR9 := Lib.hid ((hb9.block w.heap.size hz1).trans CR.out)
                                      have hB9 := cB.trans (hb9.mono (by omega))
                                      have hl9 := lt_of_block HT9.out
                                      first | exact ⟨j, n, M.add l (x, dv), a9, rfl, by omega, by omega, add_le hl, HT9, HR9, HO9, hB9, hl9, HXn⟩ | ((repeat apply Exists.intro); exact ⟨⟨j, n, M.add l (x, dv), a9, rfl, by omega, by omega, add_le hl, HT9, HR9, HO9, hB9, hl9, HXn⟩, rfl⟩)
                                    case measure => simp [intOf]; omega
                            · have t1 : ((d.toNat : Int) == 61) = false := byte_ne (n := 61) h61 (by omega)
                              have h62' : (d == 61) = false := by simpa using h61
                              have HSP : Hid (RaSpec c r s x [] p) := Lib.hid (by
                                have h1 := HAT.out
                                rw [h62', if_neg (by simp)] at h1
                                exact Or.inl (by rw [h1, HDD.out]))
                              clear HAT h62' h61
                              go_wp2_with fail
                              refine (QP.out _).mono ?_
                              rintro e w' ⟨rfl, rfl⟩
                              go_upto_region 30 with fail
                              obtain ⟨cT, cR, cA, cO, cB, cL⟩ := HC.out
                              obtain ⟨hcA, hfA⟩ := cells_of cA
                              have QADD := Lib.hid (radd TT _ _ _ _ a l x [] W2 hl cT cO)
                              have CT := Lib.hid cT
                              have CR := Lib.hid cR
                              clear cT cR cA cO
                              go_wp2_with fail
                              refine QADD.out.mono ?_
                              rintro e w9 ⟨rfl, hb9, a9, ht9, ho9⟩
                              have HT9 := Lib.hid ht9
                              have HO9 := Lib.hid ho9
                              clear ht9 ho9 hcA hfA QADD
                              go_wp2_with fail
                              go_roundw
                              case rel =>
                                have HXn := Lib.hid (ra_next HTA.out HXr.out.2 hnl (J := p) (by omega) (by omega) HSP.out)
                                have HR9 := Lib.hid ((hb9.block w.heap.size hz1).trans CR.out)
                                have hB9 := cB.trans (hb9.mono (by omega))
                                have hl9 := lt_of_block HT9.out
                                first | exact ⟨p, n, M.add l (x, []), a9, rfl, by omega, by omega, add_le hl, HT9, HR9, HO9, hB9, hl9, HXn⟩ | ((repeat apply Exists.intro); exact ⟨⟨p, n, M.add l (x, []), a9, rfl, by omega, by omega, add_le hl, HT9, HR9, HO9, hB9, hl9, HXn⟩, rfl⟩)
                              case measure => simp [intOf]; omega
                        · have hpl1 : (s.length : Int) ≤ (p : Int) := by omega
                          obtain rfl : p = E2 := (twEnd_past (by omega)).symm.trans HP2.out
                          have HSP : Hid (RaSpec c r s x [] p) := Lib.hid (Or.inr ⟨rattr_end HD1.out HE1.out HE2.out (by omega), by omega⟩)
                          clear HP2
                          go_upto_region 30 with fail
                          obtain ⟨cT, cR, cA, cO, cB, cL⟩ := HC.out
                          obtain ⟨hcA, hfA⟩ := cells_of cA
                          have QADD := Lib.hid (radd TT _ _ _ _ a l x [] W2 hl cT cO)
                          have CT := Lib.hid cT
                          have CR := Lib.hid cR
                          clear cT cR cA cO
                          go_wp2_with fail
                          refine QADD.out.mono ?_
                          rintro e w9 ⟨rfl, hb9, a9, ht9, ho9⟩
                          have HT9 := Lib.hid ht9
                          have HO9 := Lib.hid ho9
                          clear ht9 ho9 hcA hfA QADD
                          go_wp2_with fail
                          go_roundw
                          case rel =>
                            have HXn := Lib.hid (ra_next HTA.out HXr.out.2 hnl (J := p) (by omega) (by omega) HSP.out)
                            have HR9 := Lib.hid ((hb9.block w.heap.size hz1).trans CR.out)
                            have hB9 := cB.trans (hb9.mono (by omega))
                            have hl9 := lt_of_block HT9.out
                            first | exact ⟨p, n, M.add l (x, []), a9, rfl, by omega, by omega, add_le hl, HT9, HR9, HO9, hB9, hl9, HXn⟩ | ((repeat apply Exists.intro); exact ⟨⟨p, n, M.add l (x, []), a9, rfl, by omega, by omega, add_le hl, HT9, HR9, HO9, hB9, hl9, HXn⟩, rfl⟩)
                          case measure => simp [intOf]; omega
          · have hge1 : (s.length : Int) ≤ (k : Int) := by omega
            obtain rfl : k = P := (twEnd_past (by omega)).symm.trans HK.out
            have hdw : (s.drop i).dropWhile M.skips = [] := by rw [← twEnd_drop, HP.out]; exact List.drop_eq_nil_of_le (by omega)
            have HV : Hid (M.start (s.drop i0) = none) := Lib.hid (by rw [HS.out, ← HXr.out.2, tag_end hdw])
            obtain ⟨ao, cap, rfl, hao⟩ := own_slice HA.out
            obtain ⟨hcT, hfT⟩ := cells_of HT.out
            obtain ⟨hcR, hfR⟩ := cells_of HR.out
            unfold tzero at hcR hfR
            clear HB HXr HK hdw
            go_wp2_with fail
            rw [HV.out]
            refine bodyPost_ret (v := stupV (.int .i64 1) (.string ⟨nm.toArray⟩) (.slice ao l.length cap) (.bool false) (.string ⟨#[]⟩) (-1)) (by simp [results, Tryz.results37, go_sem, stupV, hcR, hcT]) rfl ⟨?_, _, _, _, _, rfl⟩
            iterate 5 refine bset ?_ (Nat.le_refl _)
            exact hB

end K
end Go.Proofs.YtlnginciehjlnaaGreatDoor
