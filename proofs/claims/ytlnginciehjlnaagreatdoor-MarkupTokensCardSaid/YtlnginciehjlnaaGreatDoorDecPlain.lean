/- Plain facts on a text in pieces: where a text may be cut so that the repaired forms of both parts are that of the whole. No program in sight. -/
import Derived.Test.YtlnginciehjlnaaGreatDoorUtfMore
import Derived.Shelf.Unicode.DecodeSlow
set_option linter.unusedVariables false
set_option linter.unusedSimpArgs false
namespace Go.Proofs.YtlnginciehjlnaaGreatDoor
namespace U

/-- Does a text begin with a whole sequence, or with a byte that begins none? By its length and its first three bytes. -/
def fullN (n x0 x1 x2 : Nat) : Bool :=
  if n = 0 then false
  else if Lib.firstT x0 % 8 ≤ n then true
  else if 1 < n ∧ (x1 < Lib.accLo (Lib.firstT x0 / 16) ∨ Lib.accHi (Lib.firstT x0 / 16) < x1) then true
  else if 2 < n ∧ (x2 < 128 ∨ 191 < x2) then true
  else false

def full (l : List UInt8) : Bool := fullN l.length (l.getD 0 0).toNat (l.getD 1 0).toNat (l.getD 2 0).toNat

theorem nf_lead (l : List UInt8) (hl : l ≠ []) (h : full l = false) : 194 ≤ (l.getD 0 0).toNat := by
  have hn : 0 < l.length := List.length_pos_iff.2 hl
  unfold full fullN at h
  rw [if_neg (by omega)] at h
  by_cases h1 : Lib.firstT (l.getD 0 0).toNat % 8 ≤ l.length
  · rw [if_pos h1] at h; cases h
  · have hf : Lib.firstT (l.getD 0 0).toNat < 240 := by
      rcases Lib.firstT_cases (l.getD 0 0).toNat with e | e | e | e | e | e | e | e | e <;> omega
    have := Lib.firstT_low hf
    omega

theorem fullN_false {n x0 x1 x2 : Nat} (h0 : n ≠ 0) (h1 : n < Lib.firstT x0 % 8) (h2 : 1 < n → Lib.accLo (Lib.firstT x0 / 16) ≤ x1 ∧ x1 ≤ Lib.accHi (Lib.firstT x0 / 16)) (h3 : 2 < n → 128 ≤ x2 ∧ x2 ≤ 191) : fullN n x0 x1 x2 = false := by
  unfold fullN
  rw [if_neg h0, if_neg (by omega), if_neg (fun h => by have := h2 h.1; omega), if_neg (fun h => by have := h3 h.1; omega)]

theorem nf_two {n x0 x1 m y1 y2 : Nat} (h : two n x0 x1) (h0 : m ≠ 0) (hm : m < 2) : fullN m x0 y1 y2 = false := by
  unfold two at h
  have e := Lib.firstT_C2 (b := x0) (by omega)
  refine fullN_false h0 (by rw [e]; omega) (fun h => by omega) (fun h => by omega)

theorem nf_three {n x0 x1 x2 m y1 y2 : Nat} (h : three n x0 x1 x2) (h0 : m ≠ 0) (hm : m < 3) (h1 : 1 < m → y1 = x1) : fullN m x0 y1 y2 = false := by
  unfold three sec at h
  have hc : Lib.firstT x0 = 19 ∧ x0 = 224 ∨ Lib.firstT x0 = 35 ∧ x0 = 237 ∨ Lib.firstT x0 = 3 ∧ x0 ≠ 224 ∧ x0 ≠ 237 := by
    by_cases a : x0 = 224
    · exact Or.inl ⟨Lib.firstT_E0 a, a⟩
    · by_cases b : x0 = 237
      · exact Or.inr (Or.inl ⟨Lib.firstT_ED b, b⟩)
      · exact Or.inr (Or.inr ⟨Lib.firstT_E1 (by omega), a, b⟩)
  rcases hc with ⟨e, a⟩ | ⟨e, a⟩ | ⟨e, a, b⟩
  · refine fullN_false h0 (by rw [e]; omega) (fun h => ?_) (fun h => by omega)
    have := h1 h
    rw [e]; simp only [Lib.accLo, Lib.accHi, Nat.reduceDiv, Nat.reduceEqDiff, if_true, if_false]; omega
  · refine fullN_false h0 (by rw [e]; omega) (fun h => ?_) (fun h => by omega)
    have := h1 h
    rw [e]; simp only [Lib.accLo, Lib.accHi, Nat.reduceDiv, Nat.reduceEqDiff, if_true, if_false]; omega
  · refine fullN_false h0 (by rw [e]; omega) (fun h => ?_) (fun h => by omega)
    have := h1 h
    rw [e]; simp only [Lib.accLo, Lib.accHi, Nat.reduceDiv, Nat.reduceEqDiff, if_true, if_false]; omega

theorem nf_four {n x0 x1 x2 x3 m y1 y2 : Nat} (h : four n x0 x1 x2 x3) (h0 : m ≠ 0) (hm : m < 4) (h1 : 1 < m → y1 = x1) (h2 : 2 < m → y2 = x2) : fullN m x0 y1 y2 = false := by
  unfold four sec at h
  have hc : Lib.firstT x0 = 52 ∧ x0 = 240 ∨ Lib.firstT x0 = 68 ∧ x0 = 244 ∨ Lib.firstT x0 = 4 ∧ x0 ≠ 240 ∧ x0 ≠ 244 := by
    by_cases a : x0 = 240
    · exact Or.inl ⟨Lib.firstT_F0 a, a⟩
    · by_cases b : x0 = 244
      · exact Or.inr (Or.inl ⟨Lib.firstT_F4 b, b⟩)
      · exact Or.inr (Or.inr ⟨Lib.firstT_F1 (by omega), a, b⟩)
  rcases hc with ⟨e, a⟩ | ⟨e, a⟩ | ⟨e, a, b⟩
  · refine fullN_false h0 (by rw [e]; omega) (fun h => ?_) (fun h => by have := h2 h; omega)
    have := h1 h
    rw [e]; simp only [Lib.accLo, Lib.accHi, Nat.reduceDiv, Nat.reduceEqDiff, if_true, if_false]; omega
  · refine fullN_false h0 (by rw [e]; omega) (fun h => ?_) (fun h => by have := h2 h; omega)
    have := h1 h
    rw [e]; simp only [Lib.accLo, Lib.accHi, Nat.reduceDiv, Nat.reduceEqDiff, if_true, if_false]; omega
  · refine fullN_false h0 (by rw [e]; omega) (fun h => ?_) (fun h => by have := h2 h; omega)
    have := h1 h
    rw [e]; simp only [Lib.accLo, Lib.accHi, Nat.reduceDiv, Nat.reduceEqDiff, if_true, if_false]; omega

theorem getD_take (l : List UInt8) (m i : Nat) (h : i < m) : (l.take m).getD i 0 = l.getD i 0 := by
  simp [List.getD, List.getElem?_take_of_lt h]

/-- A proper beginning of a sequence is not full. -/
theorem nf_take (u : List UInt8) (m : Nat) (h0 : m ≠ 0) (hm : m < sz u) : full (u.take m) = false := by
  have hle := sz_le u
  have hl : (u.take m).length = m := by rw [List.length_take]; omega
  unfold full
  rw [hl, getD_take u m 0 (by omega)]
  rcases sz_cases u with ⟨e, hc⟩ | ⟨e, hc⟩ | ⟨e, hc⟩ | ⟨e, hc⟩ | ⟨e, _⟩
  · omega
  · exact nf_two hc h0 (by omega)
  · exact nf_three hc h0 (by omega) (fun h => by rw [getD_take u m 1 h])
  · exact nf_four hc h0 (by omega) (fun h => by rw [getD_take u m 1 h]) (fun h => by rw [getD_take u m 2 h])
  · omega

/-- The bytes of a sequence behind its first one are below 192. -/
theorem sz_tail (u : List UInt8) (i : Nat) (h0 : i ≠ 0) (hi : i < sz u) : (u.getD i 0).toNat < 192 := by
  rcases sz_cases u with ⟨e, hc⟩ | ⟨e, hc⟩ | ⟨e, hc⟩ | ⟨e, hc⟩ | ⟨e, _⟩
  · omega
  · unfold two at hc
    obtain rfl : i = 1 := by omega
    omega
  · unfold three sec at hc
    rcases (by omega : i = 1 ∨ i = 2) with rfl | rfl <;> omega
  · unfold four sec at hc
    rcases (by omega : i = 1 ∨ i = 2 ∨ i = 3) with rfl | rfl | rfl <;> omega
  · omega

/-- No sequence crosses the cut. -/
def Uncrossed (l : List UInt8) (m : Nat) : Prop := ∀ j, j < m → j + sz (l.drop j) ≤ m

theorem rep_split : ∀ (n m : Nat) (l : List UInt8), l.length ≤ n → m ≤ l.length → Uncrossed l m → rep l = rep (l.take m) ++ rep (l.drop m)
  | 0, m, l, h, _, _ => by
    have : l = [] := List.eq_nil_of_length_eq_zero (by omega)
    subst this; simp [rep_nil]
  | n + 1, m, l, h, hm, hu => by
    by_cases h0 : m = 0
    · subst h0; simp [rep_nil]
    · have hl : l ≠ [] := fun e => by subst e; simp at hm; omega
      have ha := adv_pos l
      have hale := adv_le l hl
      have hz : sz l ≤ m := by have := hu 0 (by omega); simpa using this
      have ham : adv l ≤ m := by unfold adv; split <;> omega
      have htk : l.take m ≠ [] := fun e => by
        have e' := congrArg List.length e
        rw [List.length_take, List.length_nil] at e'
        omega
      have hlt : (l.take m).length = m := by rw [List.length_take]; omega
      have hsz : sz (l.take m) = sz l := by
        by_cases hs : sz l = 0
        · by_cases hs' : sz (l.take m) = 0
          · rw [hs, hs']
          · have h1 := sz_le (l.take m)
            have h2 := sz_congr (l.take m) l hs' (by rw [List.take_take, Nat.min_eq_left (by omega)]) (by omega)
            omega
        · exact sz_congr l (l.take m) hs (by rw [List.take_take, Nat.min_eq_left (by omega)]) (by omega)
      have hav : adv (l.take m) = adv l := by unfold adv; rw [hsz]
      have hch : chunk (l.take m) = chunk l := by
        unfold chunk
        rw [hsz]
        split
        · rfl
        · rw [List.take_take, Nat.min_eq_left (by omega)]
      have ih := rep_split n (m - adv l) (l.drop (adv l)) (by rw [List.length_drop]; omega) (by rw [List.length_drop]; omega) (fun j hj => by
        rw [List.drop_drop]
        have := hu (adv l + j) (by omega)
        omega)
      rw [rep_cons l hl, rep_cons (l.take m) htk, hch, hav, ih, List.drop_take, List.drop_drop, List.append_assoc, show adv l + (m - adv l) = m from by omega]

/-- Where a text is cut: at the first of its last three bytes that begins what is not full; at its end if there is none. -/
def cutFrom : Nat → Nat → List UInt8 → Nat
  | 0, i, t => i
  | n + 1, i, t => if full (t.drop i) then cutFrom n (i + 1) t else i

/-- The cut from a place on. -/
def fend (i : Nat) (t : List UInt8) : Nat := cutFrom (t.length - i) i t

theorem fend_end (t : List UInt8) (i : Nat) (h : t.length ≤ i) : fend i t = i := by
  unfold fend; rw [show t.length - i = 0 by omega]; rfl
theorem fend_full (t : List UInt8) (i : Nat) (h : i < t.length) (hf : full (t.drop i) = true) : fend i t = fend (i + 1) t := by
  unfold fend; rw [show t.length - i = (t.length - (i + 1)) + 1 by omega]; simp [cutFrom, hf]
theorem fend_stop (t : List UInt8) (i : Nat) (h : i < t.length) (hf : full (t.drop i) = false) : fend i t = i := by
  unfold fend; rw [show t.length - i = (t.length - (i + 1)) + 1 by omega]; simp [cutFrom, hf]

theorem fend_spec (t : List UInt8) : ∀ (n i : Nat), t.length - i = n → i ≤ t.length → i ≤ fend i t ∧ fend i t ≤ t.length ∧ (∀ j, i ≤ j → j < fend i t → full (t.drop j) = true) ∧ (fend i t = t.length ∨ full (t.drop (fend i t)) = false)
  | 0, i, h, hi => by
    rw [fend_end t i (by omega)]
    exact ⟨Nat.le_refl _, hi, fun j h1 h2 => by omega, Or.inl (by omega)⟩
  | n + 1, i, h, hi => by
    by_cases hf : full (t.drop i) = true
    · obtain ⟨h1, h2, h3, h4⟩ := fend_spec t n (i + 1) (by omega) (by omega)
      rw [fend_full t i (by omega) hf]
      refine ⟨by omega, h2, fun j hj hj' => ?_, h4⟩
      by_cases e : j = i
      · rw [e]; exact hf
      · exact h3 j (by omega) hj'
    · have hf' : full (t.drop i) = false := by simpa using hf
      rw [fend_stop t i (by omega) hf']
      exact ⟨Nat.le_refl _, hi, fun j h1 h2 => by omega, Or.inr hf'⟩

/-- Where Feed cuts. -/
def fcut (t : List UInt8) : Nat := fend (t.length - 3) t

theorem fcut_le (t : List UInt8) : fcut t ≤ t.length := (fend_spec t _ (t.length - 3) rfl (by omega)).2.1
theorem fcut_ge (t : List UInt8) : t.length - 3 ≤ fcut t := (fend_spec t _ (t.length - 3) rfl (by omega)).1

theorem fcut_rep (t r : List UInt8) : rep (t ++ r) = rep (t.take (fcut t)) ++ rep (t.drop (fcut t) ++ r) := by
  obtain ⟨h1, h2, h3, h4⟩ := fend_spec t _ (t.length - 3) rfl (by omega)
  change t.length - 3 ≤ fcut t at h1
  change fcut t ≤ t.length at h2
  change ∀ j, t.length - 3 ≤ j → j < fcut t → full (t.drop j) = true at h3
  change fcut t = t.length ∨ full (t.drop (fcut t)) = false at h4
  have hs := rep_split (t ++ r).length (fcut t) (t ++ r) (Nat.le_refl _) (by rw [List.length_append]; omega) (fun j hj => by
    rcases Nat.lt_or_ge (fcut t) (j + sz ((t ++ r).drop j)) with hc | hc
    · exfalso
      have h4' := sz_le4 ((t ++ r).drop j)
      rcases Nat.lt_or_ge (fcut t) t.length with hlt | hge
      · have hnf : full (t.drop (fcut t)) = false := by
          rcases h4 with h | h
          · omega
          · exact h
        have hld := nf_lead (t.drop (fcut t)) (fun e => by have e' := congrArg List.length e; rw [List.length_drop, List.length_nil] at e'; omega) hnf
        have htl := sz_tail ((t ++ r).drop j) (fcut t - j) (by omega) (by omega)
        rw [getD_drop, show j + (fcut t - j) = fcut t by omega] at htl
        rw [getD_drop, Nat.add_zero] at hld
        have e : (t ++ r).getD (fcut t) 0 = t.getD (fcut t) 0 := by simp [List.getD, List.getElem?_append_left hlt]
        rw [e] at htl
        omega
      · have hfu := h3 j (by omega) hj
        have hnf := nf_take ((t ++ r).drop j) (t.length - j) (by omega) (by omega)
        have e : ((t ++ r).drop j).take (t.length - j) = t.drop j := by
          rw [List.drop_append_of_le_length (by omega), List.take_append_of_le_length (by rw [List.length_drop]; omega), List.take_of_length_le (by rw [List.length_drop]; omega)]
        rw [e, hfu] at hnf
        cases hnf
    · exact hc)
  rw [hs, List.take_append_of_le_length h2, List.drop_append_of_le_length h2]

end U
end Go.Proofs.YtlnginciehjlnaaGreatDoor
