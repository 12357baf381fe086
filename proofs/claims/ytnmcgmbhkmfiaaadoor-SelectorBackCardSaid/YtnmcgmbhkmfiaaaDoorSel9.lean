/- The reader of selectors: one contract for each reading, whatever comes. -/
import Derived.Test.YtnmcgmbhkmfiaaaDoorSel7
import Derived.Test.YtnmcgmbhkmfiaaaDoorSel8
set_option linter.unusedVariables false
set_option linter.unusedSimpArgs false
namespace Go.Proofs.YtnmcgmbhkmfiaaaDoor
open Go.RowKit
namespace K
open H

/-- A reading that failed, or came to x. -/
def Got {β : Type} (bad : Bool) (o : Option β) (x : β) : Prop := (bad = true ∧ o = none) ∨ (bad = false ∧ o = some x)

theorem Got.no {β : Type} {o : Option β} {x : β} (h : o = none) : Got true o x := Or.inl ⟨rfl, h⟩
theorem Got.yes {β : Type} {o : Option β} {x : β} (h : o = some x) : Got false o x := Or.inr ⟨rfl, h⟩

def StrPost (b : Nat) (s : List UInt8) (i : Nat) (o : Option (List UInt8 × List UInt8)) (w : World) (e : Ending) (w' : World) : Prop :=
  ∃ (t : List UInt8) (j : Nat) (bad' : Bool), e = .returned (.string ⟨t.toArray⟩) ∧ IsRdr b s j bad' w' ∧ But b w w' ∧ i ≤ j ∧ j ≤ s.length ∧ t.length ≤ s.length ∧ Hid (Got bad' o (t, s.drop j))

theorem name_any (b : Nat) (s : List UInt8) (i : Nat) (w : World) (hs : s.length ≤ 1000000) (hi : i ≤ s.length) (hR : IsRdr b s i false w) :
    Calls Tryd.prog 36 #[.pointer (some ⟨b, 0, none⟩)] w (StrPost b s i (L.ident (s.drop i)) w) := by
  cases hb : L.begins (s.drop i) with
  | false =>
    refine (name_no b s i w hs hi hb hR).mono ?_
    rintro e w' ⟨rfl, hr, hB⟩
    refine ⟨[], i, true, rfl, hr, hB, Nat.le_refl _, hi, Nat.zero_le _, Lib.hid (Got.no ?_)⟩
    unfold L.ident; rw [hb]; rfl
  | true =>
    refine (name b s i w hs hi hb hR).mono ?_
    rintro e w' ⟨rfl, hr, hB⟩
    refine ⟨_, _, false, rfl, hr, hB, twEnd_ge _ _ _, twEnd_le hi, ?_, Lib.hid (Got.yes ?_)⟩
    · have := tw_le L.inName (s.drop i); rw [List.length_drop] at this; omega
    · unfold L.ident; rw [hb, twEnd_drop]; rfl

theorem value_any (b : Nat) (s : List UInt8) (i : Nat) (w : World) (hs : s.length ≤ 1000000) (hi : i ≤ s.length) (hR : IsRdr b s i false w) :
    Calls Tryd.prog 48 #[.pointer (some ⟨b, 0, none⟩)] w (StrPost b s i (L.value (s.drop i)) w) := by
  have hnames : s.getD i 0 ≠ 34 ∧ s.getD i 0 ≠ 39 → Calls Tryd.prog 48 #[.pointer (some ⟨b, 0, none⟩)] w (StrPost b s i (L.ident (s.drop i)) w) := by
    intro hq
    cases hb : L.begins (s.drop i) with
    | false =>
      refine (value_name b s i i true [] w hs hi hq (fun W h => name_no b s i W hs hi hb h) hR).mono ?_
      rintro e w' ⟨rfl, hr, hB⟩
      refine ⟨[], i, true, rfl, hr, hB, Nat.le_refl _, hi, Nat.zero_le _, Lib.hid (Got.no ?_)⟩
      unfold L.ident; rw [hb]; rfl
    | true =>
      refine (value_name b s i _ false _ w hs hi hq (fun W h => name b s i W hs hi hb h) hR).mono ?_
      rintro e w' ⟨rfl, hr, hB⟩
      refine ⟨_, _, false, rfl, hr, hB, twEnd_ge _ _ _, twEnd_le hi, ?_, Lib.hid (Got.yes ?_)⟩
      · have := tw_le L.inName (s.drop i); rw [List.length_drop] at this; omega
      · unfold L.ident; rw [hb, twEnd_drop]; rfl
  cases hd : s.drop i with
  | nil =>
    have h := hnames (by rw [getD_past (by have := congrArg List.length hd; rw [List.length_drop] at this; simp at this; omega)]; decide)
    rw [hd] at h
    exact h
  | cons q t =>
    have hlt := lt_drop hd
    have htl : t.length + i + 1 = s.length := by have := congrArg List.length hd; rw [List.length_drop, List.length_cons] at this; omega
    by_cases h34 : q = 34
    · subst h34
      have hval : L.value (34 :: t) = match t.dropWhile (· != 34) with | [] => none | _ :: u => if (10 : UInt8) ∈ t.takeWhile (· != 34) then none else some (t.takeWhile (· != 34), u) := rfl
      have hln := tw_le (· != 34) t
      rw [hval]
      cases hu : t.dropWhile (· != 34) with
      | nil =>
        refine (value34_open b s t i w hs hd hu hR).mono ?_
        rintro e w' ⟨rfl, hr, hB⟩
        exact ⟨[], i, true, rfl, hr, hB, Nat.le_refl _, hi, Nat.zero_le _, Lib.hid (Got.no rfl)⟩
      | cons r u =>
        by_cases hl : (10 : UInt8) ∈ t.takeWhile (· != 34)
        · refine (value34_line b s t i u r w hs hd hu hl hR).mono ?_
          rintro e w' ⟨rfl, hr, hB⟩
          exact ⟨[], i, true, rfl, hr, hB, Nat.le_refl _, hi, Nat.zero_le _, Lib.hid (Got.no (by show (if _ then _ else _) = _; rw [if_pos hl]))⟩
        · refine (value34_ok b s t i u r w hs hd hu hl hR).mono ?_
          rintro e w' ⟨rfl, hr, hB⟩
          have h1 := List.takeWhile_append_dropWhile (p := (· != 34)) (l := t)
          have h2 : (t.takeWhile (· != 34)).length + (u.length + 1) = t.length := by rw [hu] at h1; have := congrArg List.length h1; simpa using this
          refine ⟨_, _, false, rfl, hr, hB, by omega, by omega, by omega, Lib.hid (Got.yes ?_)⟩
          show (if _ then _ else _) = _
          rw [if_neg hl]
          have h3 : s.drop (i + (t.takeWhile (· != 34)).length + 2) = u := by
            rw [show i + (t.takeWhile (· != 34)).length + 2 = i + (1 + ((t.takeWhile (· != 34)).length + 1)) by omega, ← List.drop_drop, hd, ← List.drop_drop]
            show (t.drop _) = u
            rw [← List.drop_drop, drop_tw, hu]; rfl
          rw [h3]
    · by_cases h39 : q = 39
      · subst h39
        have hval : L.value (39 :: t) = match t.dropWhile (· != 39) with | [] => none | _ :: u => if (10 : UInt8) ∈ t.takeWhile (· != 39) then none else some (t.takeWhile (· != 39), u) := rfl
        have hln := tw_le (· != 39) t
        rw [hval]
        cases hu : t.dropWhile (· != 39) with
        | nil =>
          refine (value39_open b s t i w hs hd hu hR).mono ?_
          rintro e w' ⟨rfl, hr, hB⟩
          exact ⟨[], i, true, rfl, hr, hB, Nat.le_refl _, hi, Nat.zero_le _, Lib.hid (Got.no rfl)⟩
        | cons r u =>
          by_cases hl : (10 : UInt8) ∈ t.takeWhile (· != 39)
          · refine (value39_line b s t i u r w hs hd hu hl hR).mono ?_
            rintro e w' ⟨rfl, hr, hB⟩
            exact ⟨[], i, true, rfl, hr, hB, Nat.le_refl _, hi, Nat.zero_le _, Lib.hid (Got.no (by show (if _ then _ else _) = _; rw [if_pos hl]))⟩
          · refine (value39_ok b s t i u r w hs hd hu hl hR).mono ?_
            rintro e w' ⟨rfl, hr, hB⟩
            have h1 := List.takeWhile_append_dropWhile (p := (· != 39)) (l := t)
            have h2 : (t.takeWhile (· != 39)).length + (u.length + 1) = t.length := by rw [hu] at h1; have := congrArg List.length h1; simpa using this
            refine ⟨_, _, false, rfl, hr, hB, by omega, by omega, by omega, Lib.hid (Got.yes ?_)⟩
            show (if _ then _ else _) = _
            rw [if_neg hl]
            have h3 : s.drop (i + (t.takeWhile (· != 39)).length + 2) = u := by
              rw [show i + (t.takeWhile (· != 39)).length + 2 = i + (1 + ((t.takeWhile (· != 39)).length + 1)) by omega, ← List.drop_drop, hd, ← List.drop_drop]
              show (t.drop _) = u
              rw [← List.drop_drop, drop_tw, hu]; rfl
            rw [h3]
      · have h := hnames (by rw [getD_drop hd]; exact ⟨h34, h39⟩)
        rw [hd] at h
        have hval : L.value (q :: t) = L.ident (q :: t) := by
          unfold L.value
          simp [h34, h39]
        rw [hval]
        exact h

/-- take, whatever the state. -/
def TakePost (b : Nat) (s p : List UInt8) (i : Nat) (bad : Bool) (w : World) (e : Ending) (w' : World) : Prop :=
  (e = .returned (.bool true) ∧ IsRdr b s (i + p.length) bad w' ∧ But b w w' ∧ Hid (bad = false ∧ p.isPrefixOf (s.drop i) = true)) ∨
  (e = .returned (.bool false) ∧ IsRdr b s i bad w' ∧ But b w w' ∧ Hid (bad = true ∨ p.isPrefixOf (s.drop i) = false))

theorem take_any (b : Nat) (s p : List UInt8) (i : Nat) (bad : Bool) (w : World) (hs : s.length ≤ 1000000) (hp : p.length ≤ 1000) (hi : i ≤ s.length) (hR : IsRdr b s i bad w) :
    Calls Tryd.prog 9 #[.pointer (some ⟨b, 0, none⟩), .string ⟨p.toArray⟩] w (TakePost b s p i bad w) := by
  cases bad with
  | true =>
    refine (take_bad b s p i w hR).mono ?_
    rintro e w' ⟨rfl, hr, hB⟩
    exact Or.inr ⟨rfl, hr, hB, Lib.hid (Or.inl rfl)⟩
  | false =>
    refine (take b s p i w hs hp hi hR).mono ?_
    rintro e w' ⟨rfl, hr, hB⟩
    cases hpr : p.isPrefixOf (s.drop i) with
    | true =>
      rw [hpr] at hr
      exact Or.inl ⟨rfl, hr, hB, Lib.hid ⟨rfl, hpr⟩⟩
    | false =>
      rw [hpr] at hr
      exact Or.inr ⟨rfl, hr, hB, Lib.hid (Or.inr hpr)⟩

theorem prefix_len {p s : List UInt8} (h : p.isPrefixOf s = true) : p.length ≤ s.length := by
  have := List.isPrefixOf_iff_prefix.1 h
  exact this.length_le

def NeedPost (b : Nat) (s p : List UInt8) (i : Nat) (bad : Bool) (w : World) (e : Ending) (w' : World) : Prop :=
  ∃ (j : Nat) (bad' : Bool), e = .returned (.tuple #[]) ∧ IsRdr b s j bad' w' ∧ But b w w' ∧ i ≤ j ∧ j ≤ s.length ∧ Hid ((bad = true → bad' = true) ∧ (bad = false → Got bad' (L.need p (s.drop i)) (s.drop j)))

theorem need_any (b : Nat) (s p : List UInt8) (i : Nat) (bad : Bool) (w : World) (hs : s.length ≤ 1000000) (hp : p.length ≤ 1000) (hi : i ≤ s.length) (hR : IsRdr b s i bad w) :
    Calls Tryd.prog 47 #[.pointer (some ⟨b, 0, none⟩), .string ⟨p.toArray⟩] w (NeedPost b s p i bad w) := by
  cases bad with
  | true =>
    refine (need_bad b s p i w hR).mono ?_
    rintro e w' ⟨rfl, hr, hB⟩
    exact ⟨i, true, rfl, hr, hB, Nat.le_refl _, hi, Lib.hid ⟨fun _ => rfl, fun h => by cases h⟩⟩
  | false =>
    refine (need b s p i w hs hp hi hR).mono ?_
    rintro e w' ⟨rfl, hr, hB⟩
    cases hpr : p.isPrefixOf (s.drop i) with
    | true =>
      have hl := prefix_len hpr
      rw [List.length_drop] at hl
      rw [hpr] at hr
      refine ⟨i + p.length, false, rfl, hr, hB, by omega, by omega, Lib.hid ⟨fun h => (by cases h), fun _ => Got.yes ?_⟩⟩
      unfold L.need; rw [if_pos hpr, List.drop_drop]
    | false =>
      rw [hpr] at hr
      refine ⟨i, true, rfl, hr, hB, Nat.le_refl _, hi, Lib.hid ⟨fun h => (by cases h), fun _ => Got.no ?_⟩⟩
      unfold L.need; rw [hpr]; rfl

/-- space, whatever the state. -/
def SpacePost (b : Nat) (s : List UInt8) (i : Nat) (bad : Bool) (w : World) (e : Ending) (w' : World) : Prop :=
  ∃ j, e = .returned (.bool (decide (i < j))) ∧ IsRdr b s j bad w' ∧ But b w w' ∧ i ≤ j ∧ j ≤ s.length ∧ Hid (s.drop j = L.space (s.drop i))

theorem space_any (b : Nat) (s : List UInt8) (i : Nat) (bad : Bool) (w : World) (hs : s.length ≤ 1000000) (hi : i ≤ s.length) (hR : IsRdr b s i bad w) :
    Calls Tryd.prog 10 #[.pointer (some ⟨b, 0, none⟩)] w (SpacePost b s i bad w) := by
  refine (space b s i bad w hs hi hR).mono ?_
  rintro e w' ⟨rfl, hr, hB⟩
  exact ⟨_, rfl, hr, hB, twEnd_ge _ _ _, twEnd_le hi, Lib.hid (twEnd_drop _ _ _)⟩

end K
end Go.Proofs.YtnmcgmbhkmfiaaaDoor
