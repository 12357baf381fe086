/- What text.IsSpace, text.Collapse and text.Len come to; the check at each statement's head. -/
import Derived.Test.YtafkeolpadfjfaaGreatDoorBld
import Derived.Test.YtafkeolpadfjfaaGreatDoorUtf
import Derived.Lib.Hide
set_option linter.unusedVariables false
set_option linter.unusedSimpArgs false
namespace Go.Proofs.YtafkeolpadfjfaaGreatDoor
open Go.RowKit
namespace T

/-- White space. -/
def sp (b : UInt8) : Bool := b == 9 || b == 10 || b == 12 || b == 13 || b == 32

theorem sp_index (b : UInt8) : decide (0 ≤ Lib.indexByte [9, 10, 12, 13, 32] b) = sp b := by
  unfold sp
  simp only [Lib.indexByte]
  by_cases h1 : b = 9
  · subst h1; decide
  by_cases h2 : b = 10
  · subst h2; decide
  by_cases h3 : b = 12
  · subst h3; decide
  by_cases h4 : b = 13
  · subst h4; decide
  by_cases h5 : b = 32
  · subst h5; decide
  simp [h1, h2, h3, h4, h5, Ne.symm h1, Ne.symm h2, Ne.symm h3, Ne.symm h4, Ne.symm h5]

theorem toUInt8_toNat (b : UInt8) : ((b.toNat : Int).toNat).toUInt8 = b := by simp

set_option maxHeartbeats 400000 in
theorem IsSpace (b : UInt8) (w : World) :
    Calls Tryz.prog 49 #[.int .u8 b.toNat] w fun e w' => e = .returned (.bool (sp b)) ∧ w = w' := by
  go_enter Tryz.func49, Tryz.ntmps49
  go_wp2_with (go_at_call 85; refine (Tryz.strings_IndexByte _ _ _).mono ?_; rintro e w' ⟨rfl, rfl⟩)
  go_ret
  refine ⟨?_, rfl⟩
  rw [← sp_index]
  rfl

/-- Each run of white space becomes one space; 'ins': the byte before was white space. -/
def coll : Bool → List UInt8 → List UInt8
  | _, [] => []
  | ins, b :: r => if sp b then (if ins then coll true r else 32 :: coll true r) else b :: coll false r

theorem drop_cons (s : ByteArray) (k : Nat) (h : k < s.size) : s.data.toList.drop k = s[k] :: s.data.toList.drop (k + 1) := by
  have h' : k < s.data.toList.length := by simpa using h
  rw [List.drop_eq_getElem_cons h']
  rfl

theorem drop_end (s : ByteArray) (k : Nat) (h : ¬ k < s.size) : s.data.toList.drop k = [] := by
  apply List.drop_of_length_le
  simpa using h

def CollRel (s : ByteArray) (w : World) (ins i : Value) (wr : World) : Prop :=
  ∃ (k : Nat) (b : Bool) (acc : List UInt8), k ≤ s.size ∧ i = .int .i64 k ∧ ins = .bool b ∧ Lib.IsBuilderF 109 5 w.heap.size w.heap.size (Lib.byteCells acc) wr ∧ Below w.heap.size w wr ∧ acc ++ coll b (s.data.toList.drop k) = coll false s.data.toList ∧ acc.length ≤ k

theorem runeCountFrom_eq (s : ByteArray) : ∀ (fuel pos : Nat), s.size ≤ pos + fuel → Lib.runeCountFrom s fuel pos = (U.pts (s.data.toList.drop pos)).length
  | 0, pos, h => by
    rw [drop_end s pos (by omega)]; rfl
  | f + 1, pos, h => by
    unfold Lib.runeCountFrom
    by_cases hp : pos < s.size
    · have hne : s.data.toList.drop pos ≠ [] := by rw [drop_cons s pos hp]; exact List.cons_ne_nil _ _
      have ha := U.adv_pos (s.data.toList.drop pos)
      rw [if_pos hp, U.decode_eq s pos hp, U.pts_cons _ hne, runeCountFrom_eq s f _ (by simp only []; omega), List.drop_drop, List.length_cons]
      dsimp only
      omega
    · rw [if_neg hp, drop_end s pos hp]; rfl

theorem runeCount_eq (s : ByteArray) : Lib.runeCount s = (U.pts s.data.toList).length := runeCountFrom_eq s s.size 0 (by omega)

end T
end Go.Proofs.YtafkeolpadfjfaaGreatDoor
