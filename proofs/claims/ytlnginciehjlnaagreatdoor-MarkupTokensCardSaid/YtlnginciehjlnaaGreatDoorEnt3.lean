/- What entity.Lookup (a search by halving) comes to, where the table lies as its text lays it. -/
import Derived.Test.YtlnginciehjlnaaGreatDoorEnt2
set_option linter.unusedVariables false
set_option linter.unusedSimpArgs false
namespace Go.Proofs.YtlnginciehjlnaaGreatDoor
open Go.RowKit
namespace E

def less := Op.bytesLess

theorem less_irrefl : ∀ a : List UInt8, less a a = false
  | [] => rfl
  | c :: r => by
    have ih := less_irrefl r
    unfold less at ih ⊢
    simp [Op.bytesLess, ih]

theorem less_trans : ∀ a b c : List UInt8, less a b = true → less b c = true → less a c = true
  | _, [], _, h, _ => by unfold less at h; cases ‹List UInt8› <;> simp [Op.bytesLess] at h
  | _, _ :: _, [], _, h => by unfold less at h; simp [Op.bytesLess] at h
  | [], _ :: _, _ :: _, _, _ => by simp [less, Op.bytesLess]
  | a :: x, b :: y, c :: z, h1, h2 => by
    have ih := less_trans x y z
    unfold less at *
    simp only [Op.bytesLess, Bool.or_eq_true, Bool.and_eq_true, decide_eq_true_eq, beq_iff_eq] at h1 h2 ⊢
    rcases h1 with h1 | ⟨rfl, h1⟩
    · rcases h2 with h2 | ⟨rfl, h2⟩
      · left; rw [UInt8.lt_iff_toNat_lt] at *; omega
      · left; exact h1
    · rcases h2 with h2 | ⟨rfl, h2⟩
      · left; exact h2
      · right; exact ⟨rfl, ih h1 h2⟩

def nm (i : Nat) : List UInt8 := (tab.getD i ([], [])).1
def ch (i : Nat) : List UInt8 := (tab.getD i ([], [])).2

theorem sorted : ∀ i, i < 30 → ∀ j, j < 30 → i < j → less (nm i) (nm j) = true := by decide +kernel

theorem nm_lt {n : List UInt8} {lo : Nat} (hl : lo ≤ 30) (h : lo = 0 ∨ less (nm (lo - 1)) n = true) (i : Nat) (hi : i < lo) : less (nm i) n = true := by
  rcases h with h | h
  · omega
  · by_cases e : i = lo - 1
    · rw [e]; exact h
    · exact less_trans _ _ _ (sorted i (by omega) (lo - 1) (by omega) (by omega)) h

theorem tab_at (i : Nat) (h : i < 30) : tab[i]? = some (nm i, ch i) := by
  have hl : tab.length = 30 := by decide
  rw [List.getElem?_eq_getElem (by omega)]
  unfold nm ch
  simp [List.getD, List.getElem?_eq_getElem (show i < tab.length by omega)]

theorem find_yes {n : List UInt8} {i : Nat} (hi : i < 30) (h : nm i = n) : tab.find? (fun p => p.1 == n) = some (n, ch i) := by
  have hl : tab.length = 30 := by decide
  cases hf : tab.find? (fun p => p.1 == n) with
  | none =>
    rw [List.find?_eq_none] at hf
    have hm := List.mem_of_getElem? (tab_at i hi)
    have := hf _ hm
    simp [h] at this
  | some x =>
    have hx := List.find?_some hf
    have hm := List.mem_of_find?_eq_some hf
    obtain ⟨j, hj, hjx⟩ := List.getElem_of_mem hm
    have hj' := tab_at j (by omega)
    rw [List.getElem?_eq_getElem hj, hjx] at hj'
    have e := Option.some.inj hj'
    rw [e] at hx
    have hx' : nm j = n := by simpa using hx
    have : i = j := by
      rcases Nat.lt_trichotomy i j with h1 | h1 | h1
      · have := sorted i hi j (by omega) h1; rw [h, hx', less_irrefl] at this; cases this
      · exact h1
      · have := sorted j (by omega) i hi h1; rw [h, hx', less_irrefl] at this; cases this
    subst this
    rw [e, h]

theorem find_no {n : List UInt8} {lo : Nat} (hl : lo ≤ 30) (h1 : lo = 0 ∨ less (nm (lo - 1)) n = true) (h2 : lo = 30 ∨ less (nm lo) n = false) (hn : lo < 30 → nm lo ≠ n) : tab.find? (fun p => p.1 == n) = none := by
  have hlen : tab.length = 30 := by decide
  rw [List.find?_eq_none]
  intro x hm hx
  obtain ⟨j, hj, hjx⟩ := List.getElem_of_mem hm
  have hj' := tab_at j (by omega)
  rw [List.getElem?_eq_getElem hj, hjx] at hj'
  have e := Option.some.inj hj'
  rw [e] at hx
  have hx' : nm j = n := by simpa using hx
  rcases Nat.lt_trichotomy j lo with h | h | h
  · have := nm_lt hl h1 j h; rw [hx', less_irrefl] at this; cases this
  · subst h; exact hn (by omega) hx'
  · rcases h2 with h2 | h2
    · omega
    · have := sorted lo (by omega) j (by omega) h
      rw [hx', h2] at this; cases this
end E
namespace K

/-- The table of names lies as its text lays it. -/
def EntTab (w : World) : Prop := (∀ i, i < 30 → w.cell? ⟨5, i * 2, none⟩ = some (.string ⟨(E.nm i).toArray⟩) ∧ w.cell? ⟨5, i * 2 + 1, none⟩ = some (.string ⟨(E.ch i).toArray⟩)) ∧ 5 < w.heap.size

theorem EntTab.below {w w' : World} {B : Nat} (h : EntTab w) (b : Below B w w') (hB : 5 < B) : EntTab w' := by
  refine ⟨fun i hi => ⟨?_, ?_⟩, Nat.lt_of_lt_of_le h.2 b.size⟩
  · rw [b.cell (p := ⟨5, i * 2, none⟩) hB]; exact (h.1 i hi).1
  · rw [b.cell (p := ⟨5, i * 2 + 1, none⟩) hB]; exact (h.1 i hi).2

def lkV (o : Option (List UInt8 × List UInt8)) : Value := match o with
  | none => .tuple #[.string ⟨#[]⟩, .bool false]
  | some p => .tuple #[.string ⟨p.2.toArray⟩, .bool true]

def LkRel (n : List UInt8) (u v : Value) : Prop :=
  ∃ lo hi : Nat, u = .int .i64 lo ∧ v = .int .i64 hi ∧ lo ≤ hi ∧ hi ≤ 30 ∧ Hid ((lo = 0 ∨ E.less (E.nm (lo - 1)) n = true) ∧ (hi = 30 ∨ E.less (E.nm hi) n = false))

set_option maxHeartbeats 1000000 in
theorem Lookup (n : List UInt8) (w : World) (hT : EntTab w) :
    Calls Tryz.prog 130 #[.string ⟨n.toArray⟩] w fun e w' => e = .returned (lkV (E.tab.find? (fun p => p.1 == n))) ∧ w = w' := by
  have HT := Lib.hid hT
  clear hT
  go_enter Tryz.func130, Tryz.ntmps130
  go_wp2_with fail
  go_loop [4, 5] (fun u v => LkRel n u v) (fun u v => (intOf v).toNat - (intOf u).toNat)
  case atStart => exact ⟨0, 30, rfl, rfl, by omega, by omega, Lib.hid ⟨Or.inl rfl, Or.inl rfl⟩⟩
  case round =>
    obtain ⟨lo, hi, rfl, rfl, h1, h2, HI⟩ := hrel
    by_cases hlt : lo < hi
    · have hlt1 : (lo : Int) < (hi : Int) := by omega
      have hc := (HT.out.1 ((lo + hi) / 2) (by omega)).1
      have hm1 : lo ≤ (lo + hi) / 2 := by omega
      have hm2 : (lo + hi) / 2 < hi := by omega
      obtain ⟨m, hm⟩ : ∃ m, m = (lo + hi) / 2 := ⟨_, rfl⟩
      have hmz : ((lo : Int) + (hi : Int)) / 2 = (m : Int) := by omega
      rw [← hm] at hc hm1 hm2
      cases hl : E.less (E.nm m) n with
      | true =>
        have hl' : Op.bytesLess (E.nm m) n = true := hl
        have HR : Hid ((m + 1 = 0 ∨ E.less (E.nm (m + 1 - 1)) n = true) ∧ (hi = 30 ∨ E.less (E.nm hi) n = false)) := Lib.hid ⟨Or.inr (by rw [Nat.add_sub_cancel]; exact hl), HI.out.2⟩
        clear hl hm HI
        generalize E.nm m = x at hc hl'
        go_wp2_with fail
        go_round
        case rel => exact ⟨m + 1, hi, by go_num, rfl, by omega, h2, HR⟩
        case measure => simp [intOf]; omega
      | false =>
        have hl' : Op.bytesLess (E.nm m) n = false := hl
        have HR : Hid ((lo = 0 ∨ E.less (E.nm (lo - 1)) n = true) ∧ (m = 30 ∨ E.less (E.nm m) n = false)) := Lib.hid ⟨HI.out.1, Or.inr hl⟩
        clear hl hm HI
        generalize E.nm m = x at hc hl'
        go_wp2_with fail
        go_round
        case rel => exact ⟨lo, m, rfl, by rw [hmz], by omega, by omega, HR⟩
        case measure => simp [intOf]; omega
    · obtain rfl : lo = hi := by omega
      have hge1 : (lo : Int) ≤ (lo : Int) := by omega
      by_cases h30 : lo < 30
      · have h31 : (lo : Int) < 30 := by omega
        obtain ⟨hc, hc2⟩ := HT.out.1 lo h30
        by_cases he : E.nm lo = n
        · have HV := Lib.hid (E.find_yes h30 he)
          have heb : (E.nm lo == n) = true := by simpa using he
          clear he
          generalize E.ch lo = y at *
          generalize E.nm lo = x at *
          go_wp2_with fail
          go_ret2
          rw [HV.out]
          exact ⟨rfl, rfl⟩
        · have HV := Lib.hid (E.find_no (Nat.le_of_lt h30) HI.out.1 HI.out.2 (fun _ => he))
          have heb : (E.nm lo == n) = false := by simpa using he
          clear he
          generalize E.nm lo = x at *
          go_wp2_with fail
          go_ret2
          rw [HV.out]
          exact ⟨rfl, rfl⟩
      · have h31 : 30 ≤ (lo : Int) := by omega
        have HV := Lib.hid (E.find_no h2 HI.out.1 HI.out.2 (fun h => absurd h h30))
        go_wp2_with fail
        go_ret2
        rw [HV.out]
        exact ⟨rfl, rfl⟩

end K
end Go.Proofs.YtlnginciehjlnaaGreatDoor
