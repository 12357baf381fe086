/- What text.Fields comes to, owned; sides. -/
import Derived.Test.YtafkeolpadfjfaaGreatDoorSty10
set_option linter.unusedVariables false
set_option linter.unusedSimpArgs false
namespace Go.Proofs.YtafkeolpadfjfaaGreatDoor
open Go.RowKit Go.Sort
namespace Y
open H

def sCells (l : List (List UInt8)) : List Value := l.map fun x => .string ⟨x.toArray⟩
theorem flat_s : ∀ l : List (List UInt8), l.flatMap (fun a => cStr a (.bool false)) = sCells l
  | [] => rfl
  | a :: r => by rw [List.flatMap_cons, flat_s r]; rfl
theorem strs_own {base : Nat} {w : World} {v : Value} {l : List (List UInt8)} {T : TypeId} (h : w.ownsRow base T 1 v l.length (sCells l)) (hn : l.length = 0 → v = .slice none 0 0) : StrsAt (base ≤ ·) w v l := by
  refine ⟨l.map (fun d => (d, .bool false)), by rw [List.map_map]; exact List.map_id l, ?_, fun _ _ => trivial⟩
  have := RowAt.of_own (S := (base ≤ ·)) h hn (fun g _ hb => hb)
  rw [List.flatMap_map]
  rw [show l.flatMap (fun a => cStr a (.bool false)) = sCells l from flat_s l]
  exact this
theorem strs_lit (w : World) (l : List (List UInt8)) (T : TypeId) (hne : 0 < l.length) (hl : l.length ≤ 1000) : StrsAt (w.heap.size ≤ ·) (w.alloc (.cells (sCells l).toArray T)) (.slice (some ⟨w.heap.size, 0, none⟩) l.length l.length) l :=
  strs_own (by
    have := World.ownsRow_lit (e := T) (base := w.heap.size) (size := 1) w (sCells l).toArray l.length (Nat.le_refl _) (by unfold maxLen; omega) (by simp [sCells])
    simpa using this) (fun h => by omega)

/-- Words, in a row of the call's own. -/
def WordsPost (l : List (List UInt8)) (w : World) (e : Ending) (w' : World) : Prop :=
  ∃ A, e = .returned (.slice (some ⟨A, 0, none⟩) l.length l.length) ∧ w'.ownsRow w.heap.size 9 1 (.slice (some ⟨A, 0, none⟩) l.length l.length) l.length (sCells l) ∧ Below w.heap.size w w'

set_option maxHeartbeats 1000000 in
theorem fields (s : List UInt8) (w : World) (hs : s.length ≤ 1000000) :
    Calls Tryz.prog 101 #[.string ⟨s.toArray⟩] w (WordsPost (S.words s) w) := by
  have hp : PredGrows Tryz.prog 141 #[] T.spR w := fun W x hx hb => (T.FieldsFn x W hx).mono fun e w' ⟨he, hw⟩ => ⟨he, by subst hw; exact Below.refl _ _⟩
  have hc := Tryz.strings_FieldsFunc_grows 141 #[] T.fn_enters T.spR ⟨s.toArray⟩ w (by rw [bytes_size]; omega) hp
  rw [T.fields_eq, T.fields_length, bytes_toList] at hc
  have HC := Lib.hid hc
  clear hc hp
  unfold S.words
  generalize T.flds [] s = L at *
  go_enter Tryz.func101, Tryz.ntmps101
  go_wp2_with (go_at_call 116; refine HC.out.mono ?_)
  rintro e w1 ⟨A, rfl, hA, hown, hb⟩
  have HO := Lib.hid hown
  clear hown
  go_wp2_with fail
  go_ret
  exact ⟨A, rfl, HO.out, hb⟩

def SidesPost (o : Option (List (List UInt8))) (w : World) (e : Ending) (w' : World) : Prop :=
  Below w.heap.size w w' ∧ ((∃ l g, o = some l ∧ l.length = 4 ∧ e = .returned (.slice (some ⟨g, 0, none⟩) 4 4) ∧ StrsAt (w.heap.size ≤ ·) w' (.slice (some ⟨g, 0, none⟩) 4 4) l) ∨ (o = none ∧ e = .returned (.slice none 0 0)))

set_option maxHeartbeats 4000000 in
set_option maxRecDepth 100000 in
theorem sides (nm : List UInt8) (w : World) (hm : nm.length ≤ 1000000) : Calls Tryz.prog 103 #[.string ⟨nm.toArray⟩] w (SidesPost (S.sidesOf nm) w) := by
  have zn := bytes_size nm
  have hB : ∀ cs T, Below w.heap.size w (w.alloc (.cells cs T)) := fun cs T => (Below.refl _ w).alloc (Nat.le_refl _) _
  have HBl := Lib.hid hB
  clear hB
  by_cases hmp : nm = [109, 97, 114, 103, 105, 110] ∨ nm = [112, 97, 100, 100, 105, 110, 103]
  · have HO : Hid (S.sidesOf nm = some [nm ++ [45, 116, 111, 112], nm ++ [45, 114, 105, 103, 104, 116], nm ++ [45, 98, 111, 116, 116, 111, 109], nm ++ [45, 108, 101, 102, 116]]) := Lib.hid (by unfold S.sidesOf; rw [if_pos hmp])
    have a0 : (⟨nm.toArray⟩ : ByteArray) ++ ⟨#[45, 116, 111, 112]⟩ = ⟨(nm ++ [45, 116, 111, 112]).toArray⟩ := append_bytes nm [45, 116, 111, 112]
    have a1 : (⟨nm.toArray⟩ : ByteArray) ++ ⟨#[45, 114, 105, 103, 104, 116]⟩ = ⟨(nm ++ [45, 114, 105, 103, 104, 116]).toArray⟩ := append_bytes nm [45, 114, 105, 103, 104, 116]
    have a2 : (⟨nm.toArray⟩ : ByteArray) ++ ⟨#[45, 98, 111, 116, 116, 111, 109]⟩ = ⟨(nm ++ [45, 98, 111, 116, 116, 111, 109]).toArray⟩ := append_bytes nm [45, 98, 111, 116, 116, 111, 109]
    have a3 : (⟨nm.toArray⟩ : ByteArray) ++ ⟨#[45, 108, 101, 102, 116]⟩ = ⟨(nm ++ [45, 108, 101, 102, 116]).toArray⟩ := append_bytes nm [45, 108, 101, 102, 116]
    have hl : nm.length ≤ 20 := by rcases hmp with h | h <;> (rw [h]; decide)
    have hst := Lib.hid (strs_lit w [nm ++ [45, 116, 111, 112], nm ++ [45, 114, 105, 103, 104, 116], nm ++ [45, 98, 111, 116, 116, 111, 109], nm ++ [45, 108, 101, 102, 116]] 9 (by simp) (by simp))
    have hcs : ((nm == [109, 97, 114, 103, 105, 110]) = true) ∨ ((nm == [109, 97, 114, 103, 105, 110]) = false ∧ (nm == [112, 97, 100, 100, 105, 110, 103]) = true) := by
      by_cases h : nm = [109, 97, 114, 103, 105, 110]
      · exact Or.inl (by simpa using h)
      · exact Or.inr ⟨by simpa using h, by simpa using hmp.resolve_left h⟩
    clear hmp
    rcases hcs with h1 | ⟨h1, h2⟩
    all_goals
      go_enter Tryz.func103, Tryz.ntmps103
      go_wp2_with fail
      go_ret
      exact ⟨HBl.out _ _, Or.inl ⟨_, _, HO.out, rfl, rfl, hst.out⟩⟩
  · have g1 : (nm == [109, 97, 114, 103, 105, 110]) = false := by simpa using fun h => hmp (Or.inl h)
    have g2 : (nm == [112, 97, 100, 100, 105, 110, 103]) = false := by simpa using fun h => hmp (Or.inr h)
    by_cases hw : nm = [98, 111, 114, 100, 101, 114, 45, 119, 105, 100, 116, 104]
    · have HO : Hid (S.sidesOf nm = some [[98, 111, 114, 100, 101, 114, 45, 116, 111, 112, 45, 119, 105, 100, 116, 104], [98, 111, 114, 100, 101, 114, 45, 114, 105, 103, 104, 116, 45, 119, 105, 100, 116, 104], [98, 111, 114, 100, 101, 114, 45, 98, 111, 116, 116, 111, 109, 45, 119, 105, 100, 116, 104], [98, 111, 114, 100, 101, 114, 45, 108, 101, 102, 116, 45, 119, 105, 100, 116, 104]]) := Lib.hid (by unfold S.sidesOf; rw [if_neg hmp, if_pos hw])
      have g3 : (nm == [98, 111, 114, 100, 101, 114, 45, 119, 105, 100, 116, 104]) = true := by simpa using hw
      have hst := Lib.hid (strs_lit w [[98, 111, 114, 100, 101, 114, 45, 116, 111, 112, 45, 119, 105, 100, 116, 104], [98, 111, 114, 100, 101, 114, 45, 114, 105, 103, 104, 116, 45, 119, 105, 100, 116, 104], [98, 111, 114, 100, 101, 114, 45, 98, 111, 116, 116, 111, 109, 45, 119, 105, 100, 116, 104], [98, 111, 114, 100, 101, 114, 45, 108, 101, 102, 116, 45, 119, 105, 100, 116, 104]] 9 (by simp) (by simp))
      clear hmp hw
      go_enter Tryz.func103, Tryz.ntmps103
      go_wp2_with fail
      go_ret
      exact ⟨HBl.out _ _, Or.inl ⟨_, _, HO.out, rfl, rfl, hst.out⟩⟩
    · have HO : Hid (S.sidesOf nm = none) := Lib.hid (by unfold S.sidesOf; rw [if_neg hmp, if_neg hw])
      have g3 : (nm == [98, 111, 114, 100, 101, 114, 45, 119, 105, 100, 116, 104]) = false := by simpa using hw
      clear hmp hw
      go_enter Tryz.func103, Tryz.ntmps103
      go_wp2_with fail
      go_ret
      exact ⟨Below.refl _ _, Or.inr ⟨HO.out, rfl⟩⟩

end Y
end Go.Proofs.YtafkeolpadfjfaaGreatDoor
