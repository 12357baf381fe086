/- Plain facts on white space: the parts of a string without white space, as Go's FieldsFunc finds them by code points and as a scan of the bytes does; trimming; blanks. -/
import Derived.Test.YtafkeolpadfjfaaGreatDoorJoin
import Derived.Lib.FieldsP
import Derived.Lib.SlTrimSet
set_option linter.unusedVariables false
set_option linter.unusedSimpArgs false
namespace Go.Proofs.YtafkeolpadfjfaaGreatDoor
open Go.RowKit
namespace T

/-- The parts without white space; cur: the part that is open. -/
def flds : List UInt8 → List UInt8 → List (List UInt8)
  | cur, [] => if cur = [] then [] else [cur]
  | cur, b :: r => if sp b then (if cur = [] then flds [] r else cur :: flds [] r) else flds (cur ++ [b]) r

theorem flds_end (cur : List UInt8) (h : cur ≠ []) : flds cur [] = [cur] := by unfold flds; rw [if_neg h]
theorem flds_cut (cur r : List UInt8) (b : UInt8) (h : cur ≠ []) (hb : sp b = true) : flds cur (b :: r) = cur :: flds [] r := by
  rw [flds, if_pos hb, if_neg h]

/-- Is a code point's number that of white space? -/
def spR (x : Nat) : Bool := decide (x < 128) && sp (UInt8.ofNat x)

theorem sp_lt {b : UInt8} (h : sp b = true) : b.toNat < 128 := by
  unfold sp at h
  simp at h
  rcases h with (((h | h) | h) | h) | h <;> subst h <;> decide

theorem flds_plain : ∀ (c cur r : List UInt8), (∀ b ∈ c, sp b = false) → flds cur (c ++ r) = flds (cur ++ c) r
  | [], cur, r, _ => by simp
  | b :: c, cur, r, h => by
    have hb := h b (List.mem_cons_self ..)
    rw [List.cons_append, flds, if_neg (by rw [hb]; decide), flds_plain c _ r (fun x hx => h x (List.mem_cons_of_mem _ hx))]
    simp

/-- A code point that is white space is one byte. -/
theorem spR_yes (l : List UInt8) (hne : l ≠ []) (h : spR (U.code (U.chunk l)) = true) : ∃ b r, l = b :: r ∧ sp b = true ∧ U.adv l = 1 := by
  unfold spR at h
  simp only [Bool.and_eq_true, decide_eq_true_eq] at h
  obtain ⟨h1, h2⟩ := h
  obtain ⟨b, r, rfl⟩ := List.exists_cons_of_ne_nil hne
  have hc := U.sz_cases (b :: r)
  rw [U.code_chunk] at h1 h2
  rcases hc with ⟨e, hc⟩ | ⟨e, hc⟩ | ⟨e, hc⟩ | ⟨e, hc⟩ | ⟨e, _⟩
  · rw [if_neg (by omega), U.code_take _ (by omega), e] at h1 h2
    simp at h1 h2
    exact ⟨b, r, rfl, by simpa using h2, by unfold U.adv; rw [e]; rfl⟩
  · rw [if_neg (by omega), U.code_take _ (by omega), e] at h1
    unfold U.two at hc
    simp only [if_true, if_neg (by omega : ¬ (2 : Nat) = 1)] at h1
    omega
  · rw [if_neg (by omega), U.code_take _ (by omega), e] at h1
    unfold U.three U.sec at hc
    simp only [if_true, if_neg (by omega : ¬ (3 : Nat) = 1), if_neg (by omega : ¬ (3 : Nat) = 2)] at h1
    omega
  · rw [if_neg (by omega), U.code_take _ (by omega), e] at h1
    unfold U.four U.sec at hc
    simp only [if_neg (by omega : ¬ (4 : Nat) = 1), if_neg (by omega : ¬ (4 : Nat) = 2), if_neg (by omega : ¬ (4 : Nat) = 3)] at h1
    omega
  · rw [if_pos e] at h1
    omega

theorem sp_high {b : UInt8} (h : 128 ≤ b.toNat) : sp b = false := by
  rw [Bool.eq_false_iff]
  intro e
  have := sp_lt e
  omega

/-- A code point that is none has no byte that is white space. -/
theorem spR_no (l : List UInt8) (hne : l ≠ []) (h : spR (U.code (U.chunk l)) = false) : ∀ b ∈ l.take (U.adv l), sp b = false := by
  have hc := U.sz_cases l
  have hle := U.adv_le l hne
  rw [U.head_take l _ hle]
  have key : ∀ n, U.adv l = n → (∀ i, i < n → sp (l.getD i 0) = false) → ∀ b ∈ (List.range (U.adv l)).map fun i => l.getD i 0, sp b = false := by
    intro n hn hi b hb
    rw [hn] at hb
    obtain ⟨i, hi1, rfl⟩ := List.mem_map.1 hb
    exact hi i (List.mem_range.1 hi1)
  unfold spR at h
  rw [U.code_chunk] at h
  rcases hc with ⟨e, hc⟩ | ⟨e, hc⟩ | ⟨e, hc⟩ | ⟨e, hc⟩ | ⟨e, hn1, hn2⟩
  · rw [if_neg (by omega), U.code_take _ (by omega), e] at h
    unfold U.one at hc
    refine key 1 (by unfold U.adv; rw [e]; rfl) (fun i hi => ?_)
    obtain rfl : i = 0 := by omega
    have hd : decide ((l.getD 0 0).toNat < 128) = true := decide_eq_true (by omega)
    simp only [if_true] at h
    rw [hd] at h
    simpa using h
  · unfold U.two at hc
    refine key 2 (by unfold U.adv; rw [e]; rfl) (fun i hi => ?_)
    match i, hi with
    | 0, _ => exact sp_high (by omega)
    | 1, _ => exact sp_high (by omega)
  · unfold U.three U.sec at hc
    refine key 3 (by unfold U.adv; rw [e]; rfl) (fun i hi => ?_)
    match i, hi with
    | 0, _ => exact sp_high (by omega)
    | 1, _ => exact sp_high (by omega)
    | 2, _ => exact sp_high (by omega)
  · unfold U.four U.sec at hc
    refine key 4 (by unfold U.adv; rw [e]; rfl) (fun i hi => ?_)
    match i, hi with
    | 0, _ => exact sp_high (by omega)
    | 1, _ => exact sp_high (by omega)
    | 2, _ => exact sp_high (by omega)
    | 3, _ => exact sp_high (by omega)
  · refine key 1 (by unfold U.adv; rw [e]; rfl) (fun i hi => ?_)
    obtain rfl : i = 0 := by omega
    unfold U.one at hn1
    have hl : 0 < l.length := List.length_pos_iff.2 hne
    exact sp_high (by omega)

/-- The part that is open. -/
def curOf (l : List UInt8) (pos : Nat) : Option Nat → List UInt8
  | none => []
  | some a => (l.drop a).take (pos - a)

theorem take_more (l : List UInt8) (a pos n : Nat) (ha : a ≤ pos) : (l.drop a).take (pos + n - a) = (l.drop a).take (pos - a) ++ (l.drop pos).take n := by
  rw [show pos + n - a = (pos - a) + n by omega, List.take_add, List.drop_drop, show a + (pos - a) = pos by omega]

theorem spans_eq (s : ByteArray) : ∀ (f pos : Nat) (st : Option Nat) (acc : List (Nat × Nat)), s.size ≤ pos + f → pos ≤ s.size → (∀ a, st = some a → a < pos) →
    (Lib.closeSpans s (Lib.spansFromP spR s f pos st acc)).map (fun x => (s.data.toList.drop x.1).take (x.2 - x.1)) = acc.map (fun x => (s.data.toList.drop x.1).take (x.2 - x.1)) ++ flds (curOf s.data.toList pos st) (s.data.toList.drop pos) := by
  intro f
  induction f with
  | zero =>
    intro pos st acc h1 h2 h3
    obtain rfl : pos = s.size := by omega
    rw [drop_end s _ (by omega)]
    unfold Lib.spansFromP Lib.closeSpans
    cases st with
    | none => simp [curOf, flds]
    | some a =>
      have ha := h3 a rfl
      have hne : (s.data.toList.drop a).take (s.size - a) ≠ [] := by
        intro e
        have := congrArg List.length e
        simp at this
        omega
      rw [show curOf s.data.toList s.size (some a) = (s.data.toList.drop a).take (s.size - a) from rfl, flds_end _ hne]
      simp only [List.map_append, List.map_cons, List.map_nil]
  | succ f ih =>
    intro pos st acc h1 h2 h3
    by_cases hp : pos < s.size
    · have hne : s.data.toList.drop pos ≠ [] := by rw [drop_cons s pos hp]; exact List.cons_ne_nil _ _
      have ha := U.adv_pos (s.data.toList.drop pos)
      have hle := U.adv_le _ hne
      rw [List.length_drop, U.list_size] at hle
      unfold Lib.spansFromP
      rw [if_pos hp, U.decode_eq s pos hp]
      dsimp only
      by_cases hsp : spR (U.code (U.chunk (s.data.toList.drop pos))) = true
      · obtain ⟨b, r, e, hb, hadv⟩ := spR_yes _ hne hsp
        rw [if_pos hsp, hadv]
        have hdr : s.data.toList.drop (pos + 1) = r := by rw [← List.drop_drop, e]; rfl
        cases st with
        | none =>
          dsimp only
          rw [ih (pos + 1) none acc (by omega) (by omega) (fun a h => by cases h), hdr, e]
          simp [curOf, flds, hb]
        | some a =>
          have hap := h3 a rfl
          have hne2 : (s.data.toList.drop a).take (pos - a) ≠ [] := by
            intro e
            have := congrArg List.length e
            simp at this
            omega
          dsimp only
          rw [ih (pos + 1) none _ (by omega) (by omega) (fun a h => by cases h), hdr, e]
          rw [show curOf s.data.toList pos (some a) = (s.data.toList.drop a).take (pos - a) from rfl, flds_cut _ _ _ hne2 hb]
          simp only [curOf, List.map_append, List.map_cons, List.map_nil, List.append_assoc, List.singleton_append]
      · have hsp' : spR (U.code (U.chunk (s.data.toList.drop pos))) = false := by simpa using hsp
        have hno := spR_no _ hne hsp'
        rw [if_neg hsp]
        have hpl := flds_plain ((s.data.toList.drop pos).take (U.adv (s.data.toList.drop pos))) (curOf s.data.toList pos st) ((s.data.toList.drop pos).drop (U.adv (s.data.toList.drop pos))) hno
        rw [List.take_append_drop, List.drop_drop] at hpl
        rw [hpl]
        generalize U.adv (s.data.toList.drop pos) = n at *
        cases st with
        | none =>
          dsimp only
          rw [ih (pos + n) (some pos) acc (by omega) (by omega) (fun a h => by cases h; omega)]
          simp only [curOf, List.nil_append, Nat.add_sub_cancel_left]
        | some a =>
          have hap := h3 a rfl
          dsimp only
          rw [ih (pos + n) (some a) acc (by omega) (by omega) (fun b h => by cases h; omega)]
          simp only [curOf]
          rw [take_more _ _ _ _ (by omega)]
    · rw [Lib.spansFromP_end spR s _ pos st acc hp]
      obtain rfl : pos = s.size := by omega
      rw [drop_end s _ (by omega)]
      unfold Lib.closeSpans
      cases st with
      | none => simp [curOf, flds]
      | some a =>
        have ha := h3 a rfl
        have hne : (s.data.toList.drop a).take (s.size - a) ≠ [] := by
          intro e
          have := congrArg List.length e
          simp at this
          omega
        rw [show curOf s.data.toList s.size (some a) = (s.data.toList.drop a).take (s.size - a) from rfl, flds_end _ hne]
        simp only [List.map_append, List.map_cons, List.map_nil]

theorem extract_any (s : ByteArray) (a b : Nat) : s.extract a b = ⟨((s.data.toList.drop a).take (b - a)).toArray⟩ := by
  have h : (s.extract a b).data.toList = (s.data.toList.drop a).take (b - a) := by rw [Lib.extract_data]
  cases hx : s.extract a b with
  | mk d => rw [hx] at h; simp at h; rw [← h]

theorem fields_eq (s : ByteArray) : (Lib.goFieldsP spR s).map Value.string = strs (flds [] s.data.toList) := by
  have h := spans_eq s s.size 0 none [] (by omega) (by omega) (fun a h => by cases h)
  unfold Lib.goFieldsP Lib.spansOfP strs
  rw [List.map_map]
  simp only [List.map_nil, List.nil_append, List.drop_zero] at h
  rw [show flds [] s.data.toList = flds (curOf s.data.toList 0 none) s.data.toList from rfl, ← h, List.map_map]
  apply List.map_congr_left
  intro x _
  simp only [Function.comp, extract_any]

theorem fields_length (s : ByteArray) : (Lib.goFieldsP spR s).length = (flds [] s.data.toList).length := by
  have := congrArg List.length (fields_eq s)
  simpa [strs] using this

end T
end Go.Proofs.YtafkeolpadfjfaaGreatDoor
