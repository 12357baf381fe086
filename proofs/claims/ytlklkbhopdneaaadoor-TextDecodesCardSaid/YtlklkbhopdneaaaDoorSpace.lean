/- What text.IsSpace, text.Collapse and text.Len come to; the check at each statement's head. -/
import Derived.Test.YtlklkbhopdneaaaDoorBld
import Derived.Test.YtlklkbhopdneaaaDoorUtf
import Derived.Lib.Hide
set_option linter.unusedVariables false
set_option linter.unusedSimpArgs false
namespace Go.Proofs.YtlklkbhopdneaaaDoor
open Go.RowKit
namespace T

/-- White space. -/
def sp (b : UInt8) : Bool := b == 9 || b == 10 || b == 12 || b == 13 || b == 32

theorem sp_index (b : UInt8) : decide (0 ≤ Lib.indexByte [9, 10, 12, 13, 32] b) = sp b := by
  unfold sp
  simp only [Lib.indexByte]
  by_cases h1 : b = 9
  · subst h1; decide
  by_cases h2 : b = 10
  · subst h2; decide
  by_cases h3 : b = 12
  · subst h3; decide
  by_cases h4 : b = 13
  · subst h4; decide
  by_cases h5 : b = 32
  · subst h5; decide
  simp [h1, h2, h3, h4, h5, Ne.symm h1, Ne.symm h2, Ne.symm h3, Ne.symm h4, Ne.symm h5]

theorem toUInt8_toNat (b : UInt8) : ((b.toNat : Int).toNat).toUInt8 = b := by simp

set_option maxHeartbeats 400000 in
theorem IsSpace (b : UInt8) (w : World) :
    Calls Tryd.prog 23 #[.int .u8 b.toNat] w fun e w' => e = .returned (.bool (sp b)) ∧ w = w' := by
  go_enter Tryd.func23, Tryd.ntmps23
  go_wp2_with (go_at_call 39; refine (Tryd.strings_IndexByte _ _ _).mono ?_; rintro e w' ⟨rfl, rfl⟩)
  go_ret
  refine ⟨?_, rfl⟩
  rw [← sp_index]
  rfl

/-- Each run of white space becomes one space; 'ins': the byte before was white space. -/
def coll : Bool → List UInt8 → List UInt8
  | _, [] => []
  | ins, b :: r => if sp b then (if ins then coll true r else 32 :: coll true r) else b :: coll false r

theorem drop_cons (s : ByteArray) (k : Nat) (h : k < s.size) : s.data.toList.drop k = s[k] :: s.data.toList.drop (k + 1) := by
  have h' : k < s.data.toList.length := by simpa using h
  rw [List.drop_eq_getElem_cons h']
  rfl

theorem drop_end (s : ByteArray) (k : Nat) (h : ¬ k < s.size) : s.data.toList.drop k = [] := by
  apply List.drop_of_length_le
  simpa using h

def CollRel (s : ByteArray) (w : World) (ins i : Value) (wr : World) : Prop :=
  ∃ (k : Nat) (b : Bool) (acc : List UInt8), k ≤ s.size ∧ i = .int .i64 k ∧ ins = .bool b ∧ Lib.IsBuilderF 43 5 w.heap.size w.heap.size (Lib.byteCells acc) wr ∧ Below w.heap.size w wr ∧ acc ++ coll b (s.data.toList.drop k) = coll false s.data.toList ∧ acc.length ≤ k

set_option maxHeartbeats 1000000 in
set_option maxRecDepth 100000 in
theorem Collapse (s : ByteArray) (w : World) (hs : s.size ≤ 140737488351232) :
    Calls Tryd.prog 28 #[.string s] w fun e w' => e = .returned (.string ⟨(coll false s.data.toList).toArray⟩) ∧ Below w.heap.size w w' := by
  go_enter Tryd.func28, Tryd.ntmps28
  go_wp2_with fail
  go_loopw [4, 9] (fun ins i wr => CollRel s w ins i wr) (fun _ i _ => s.size - (intOf i).toNat)
  case atStart =>
    exact ⟨0, false, [], Nat.zero_le _, rfl, rfl, Lib.IsBuilderF.of (Lib.fresh_isBuilder _ _ w), (Below.refl _ w).alloc (Nat.le_refl _) _, rfl, Nat.zero_le _⟩
  case round =>
    obtain ⟨k, b, acc, hk, rfl, rfl, hI, hbw, hacc, hal⟩ := hrel
    have HA := Lib.hid hacc
    clear hacc
    have hsz := hbw.size
    by_cases hlt : k < s.size
    · have HD := Lib.hid (drop_cons s k hlt)
      by_cases hsp : sp s[k] = true
      · cases b with
        | true =>
          go_wp2_with (go_at_call 23; refine (IsSpace _ _).mono ?_; rintro e w' ⟨rfl, rfl⟩)
          go_roundw
          case rel => exact ⟨k + 1, true, acc, by omega, by go_num, by simp, hI, hbw, by rw [← HA.out, HD.out]; simp [coll, hsp], by omega⟩
          case measure => simp [intOf]; omega
        | false =>
          go_wp2_with (first | (go_at_call 23; refine (IsSpace _ _).mono ?_; rintro e w' ⟨rfl, rfl⟩) | (go_at_call 41; refine (Bld.WriteByte_k w.heap.size w.heap.size _ 32 _ hI (by rw [Lib.byteCells_length]; omega) hsz).mono ?_))
          rintro e W1 ⟨rfl, h1, b1, k1⟩
          go_wp2_with fail
          go_roundw
          case rel => exact ⟨k + 1, true, acc ++ [32], by omega, by go_num, by simp, by rw [Lib.byteCells_append]; exact Or.inr h1, hbw.trans b1, by rw [← HA.out, HD.out]; simp [coll, hsp], by simp; omega⟩
          case measure => simp [intOf]; omega
      · have hsp' : sp s[k] = false := by simpa using hsp
        clear hsp
        go_wp2_with (first | (go_at_call 23; refine (IsSpace _ _).mono ?_; rintro e w' ⟨rfl, rfl⟩) | (go_at_call 41; refine (Bld.WriteByte_k w.heap.size w.heap.size _ _ _ hI (by rw [Lib.byteCells_length]; omega) hsz).mono ?_))
        rintro e W1 ⟨rfl, h1, b1, k1⟩
        go_wp2_with fail
        go_roundw
        case rel => exact ⟨k + 1, false, acc ++ [s[k]], by omega, by go_num, by simp, by rw [Lib.byteCells_append]; exact Or.inr h1, hbw.trans b1, by rw [← HA.out, HD.out]; simp [coll, hsp'], by simp; omega⟩
        case measure => simp [intOf]; omega
    · go_wp2_with (go_at_call 33; refine (Tryd.Builder_String_any_k w.heap.size w.heap.size acc _ hI hsz).mono ?_)
      rintro e W1 ⟨rfl, _, b1, _⟩
      go_wp2_with fail
      go_ret
      have HX := HA.out
      rw [drop_end s k hlt] at HX
      simp [coll] at HX
      subst HX
      exact ⟨rfl, hbw.trans b1⟩

theorem runeCountFrom_eq (s : ByteArray) : ∀ (fuel pos : Nat), s.size ≤ pos + fuel → Lib.runeCountFrom s fuel pos = (U.pts (s.data.toList.drop pos)).length
  | 0, pos, h => by
    rw [drop_end s pos (by omega)]; rfl
  | f + 1, pos, h => by
    unfold Lib.runeCountFrom
    by_cases hp : pos < s.size
    · have hne : s.data.toList.drop pos ≠ [] := by rw [drop_cons s pos hp]; exact List.cons_ne_nil _ _
      have ha := U.adv_pos (s.data.toList.drop pos)
      rw [if_pos hp, U.decode_eq s pos hp, U.pts_cons _ hne, runeCountFrom_eq s f _ (by simp only []; omega), List.drop_drop, List.length_cons]
      dsimp only
      omega
    · rw [if_neg hp, drop_end s pos hp]; rfl

theorem runeCount_eq (s : ByteArray) : Lib.runeCount s = (U.pts s.data.toList).length := runeCountFrom_eq s s.size 0 (by omega)

set_option maxHeartbeats 400000 in
theorem Len (s : ByteArray) (w : World) (hs : s.size ≤ 140737488351232) :
    Calls Tryd.prog 16 #[.string s] w fun e w' => e = .returned (.int .i64 (U.pts s.data.toList).length) ∧ Below w.heap.size w w' := by
  rw [← runeCount_eq]
  go_enter Tryd.func16, Tryd.ntmps16
  go_wp2_with (go_at_call 34; refine (Tryd.utf8_RuneCountInString _ _ (by omega)).mono ?_)
  rintro e w' ⟨rfl, pos, rfl⟩
  go_wp2_with fail
  go_ret
  exact ⟨rfl, (Below.refl _ w).alloc (Nat.le_refl _) _⟩

set_option maxHeartbeats 400000 in
theorem awake (w : World) :
    Calls Tryd.prog 9 #[] w fun e w' => e = .returned (.bool true) ∧ Below w.heap.size w w' := by
  have c1 := fun W => Collapse ⟨#[97, 32, 32, 98]⟩ W (by decide)
  have e1 : coll false (⟨#[97, 32, 32, 98]⟩ : ByteArray).data.toList = [97, 32, 98] := by decide
  rw [e1] at c1
  have c2 := fun W => Len ⟨#[97, 98]⟩ W (by decide)
  have e2 : (U.pts (⟨#[97, 98]⟩ : ByteArray).data.toList).length = 2 := by decide
  rw [e2] at c2
  clear e1 e2
  have H1 := Lib.hid c1
  have H2 := Lib.hid c2
  clear c1 c2
  go_enter Tryd.func9, Tryd.ntmps9
  go_wp2_with (go_at_call 28; refine (H1.out _).mono ?_)
  rintro e w1 ⟨rfl, b1⟩
  go_wp2_with (go_at_call 16; refine (H2.out _).mono ?_)
  rintro e w2 ⟨rfl, b2⟩
  go_wp2_with fail
  go_ret
  exact ⟨rfl, b1.trans (b2.mono b1.size)⟩

end T
end Go.Proofs.YtlklkbhopdneaaaDoor
