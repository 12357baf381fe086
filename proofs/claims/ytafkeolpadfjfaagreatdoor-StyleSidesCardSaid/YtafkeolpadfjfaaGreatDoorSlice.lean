/- What text.Slice comes to: the code points between two numbers, one after the other. -/
import Derived.Test.YtafkeolpadfjfaaGreatDoorTRepair
import Derived.WalkSpells
set_option linter.unusedVariables false
set_option linter.unusedSimpArgs false
namespace Go.Proofs.YtafkeolpadfjfaaGreatDoor
open Go.RowKit
namespace U

/-- The place of a code point among the bytes of the repaired form. -/
def off (L : List (List UInt8)) (k : Nat) : Nat := (L.take k).flatten.length

theorem take_off (L : List (List UInt8)) (k : Nat) : L.flatten.take (off L k) = (L.take k).flatten := by
  have e : L.flatten = (L.take k).flatten ++ (L.drop k).flatten := by rw [← List.flatten_append, List.take_append_drop]
  rw [e]; unfold off; rw [List.take_left]

theorem drop_off (L : List (List UInt8)) (k : Nat) : L.flatten.drop (off L k) = (L.drop k).flatten := by
  have e : L.flatten = (L.take k).flatten ++ (L.drop k).flatten := by rw [← List.flatten_append, List.take_append_drop]
  rw [e]; unfold off; rw [List.drop_left]

theorem off_le (L : List (List UInt8)) (k : Nat) : off L k ≤ L.flatten.length := by
  have := congrArg List.length (take_off L k)
  rw [List.length_take] at this
  unfold off at *
  omega

theorem off_all (L : List (List UInt8)) (k : Nat) (h : L.length ≤ k) : off L k = L.flatten.length := by
  unfold off; rw [List.take_of_length_le h]

theorem off_mono (L : List (List UInt8)) {j k : Nat} (h : j ≤ k) : off L j ≤ off L k := by
  unfold off
  have e : L.take k = L.take j ++ (L.take k).drop j := by
    have := (List.take_append_drop j (L.take k)).symm
    rw [List.take_take, Nat.min_eq_left h] at this
    exact this
  rw [e, List.flatten_append, List.length_append]
  omega

theorem off_succ (L : List (List UInt8)) (k : Nat) (h : k < L.length) : off L (k + 1) = off L k + L[k].length := by
  unfold off
  rw [List.take_succ_eq_append_getElem h, List.flatten_append]
  simp

/-- The code points between two numbers. -/
def sl (L : List (List UInt8)) (f t : Nat) : List UInt8 := ((L.take t).drop f).flatten

theorem sl_off (L : List (List UInt8)) (f t : Nat) (h : f ≤ t) : (L.flatten.drop (off L f)).take (off L t - off L f) = sl L f t := by
  have h1 := off_mono L h
  rw [← List.drop_take, take_off]
  unfold sl
  have e : off L f = off (L.take t) f := by unfold off; rw [List.take_take, Nat.min_eq_left h]
  rw [e, drop_off]

theorem sl_empty (L : List (List UInt8)) (f t : Nat) (h : t ≤ f) : sl L f t = [] := by
  unfold sl
  rw [List.drop_of_length_le (by rw [List.length_take]; omega)]
  rfl

/-- Reading on from a code point's place. -/
theorem at_off (l : List UInt8) (k : Nat) (h : k < (pts l).length) : (rep l).drop (off (pts l) k) = ((pts l).drop k).flatten ∧ adv ((rep l).drop (off (pts l) k)) = (pts l)[k].length := by
  have h1 := drop_off (pts l) k
  refine ⟨h1, ?_⟩
  have h2 : (rep l).drop (off (pts l) k) = ((pts l).drop k).flatten := h1
  rw [h2, List.drop_eq_getElem_cons h, List.flatten_cons]
  -- each code point is one that stands for a list
  have hc : ∃ x, x ≠ [] ∧ (pts l)[k] = chunk x := by
    have : ∀ (n : Nat) (l : List UInt8) (c : List UInt8), c ∈ chunks n l → ∃ x, x ≠ [] ∧ c = chunk x := by
      intro n
      induction n with
      | zero => intro l c hc; simp [chunks] at hc
      | succ n ih =>
        intro l c hc
        unfold chunks at hc
        split at hc
        · simp at hc
        · rename_i hl
          rcases List.mem_cons.1 hc with rfl | hc
          · exact ⟨l, hl, rfl⟩
          · exact ih _ _ hc
    exact this l.length l _ (List.getElem_mem h)
  obtain ⟨x, hx, e⟩ := hc
  rw [e]
  exact adv_chunk x _ hx

end U
namespace T

theorem ret_str {a b : ByteArray} (h : a = b) : Ending.returned (.string a) = .returned (.string b) := by rw [h]
theorem bytes_toList (l : List UInt8) : (⟨l.toArray⟩ : ByteArray).data.toList = l := by simp
theorem bytes_size (l : List UInt8) : (⟨l.toArray⟩ : ByteArray).size = l.length := by show l.toArray.size = _; simp

theorem off_lt (l : List UInt8) (k : Nat) (h : k < (U.pts l).length) : U.off (U.pts l) k < (U.rep l).length := by
  have h1 := U.off_succ (U.pts l) k h
  have h2 : U.off (U.pts l) (k + 1) ≤ (U.rep l).length := U.off_le (U.pts l) (k + 1)
  have h3 := (U.at_off l k h).2
  have h4 := U.adv_pos ((U.rep l).drop (U.off (U.pts l) k))
  omega

/-- The iterator over the repaired form stands at a code point's place. -/
theorem next_at (l : List UInt8) (wr : World) (b k : Nat) (h : k < (U.pts l).length) (hit : wr.heap[b]? = some (.stringIter ⟨(U.rep l).toArray⟩ (U.off (U.pts l) k))) :
    ∃ C : Nat, ∀ ty, (Instr.next (.pointer (some ⟨b, 0, none⟩)) true ty).run Tryz.prog wr = .ok (.tuple #[.bool true, .int .i64 (U.off (U.pts l) k : Nat), .int .i32 (C : Nat)]) (wr.iterAt b ⟨(U.rep l).toArray⟩ (U.off (U.pts l) (k + 1))) := by
  have hlt := off_lt l k h
  have hlt' : U.off (U.pts l) k < (⟨(U.rep l).toArray⟩ : ByteArray).size := by rw [bytes_size]; exact hlt
  refine ⟨(Utf8.decode ⟨(U.rep l).toArray⟩ (U.off (U.pts l) k)).1, fun ty => ?_⟩
  · rw [Lib.run_next_any_at wr b ⟨(U.rep l).toArray⟩ (U.off (U.pts l) k) ty hit hlt']
    have e : (Utf8.decode ⟨(U.rep l).toArray⟩ (U.off (U.pts l) k)).2 = (U.pts l)[k].length := by
      rw [U.decode_eq _ _ hlt', bytes_toList]
      exact (U.at_off l k h).2
    rw [e, U.off_succ _ _ h]

theorem next_end (l : List UInt8) (wr : World) (b k : Nat) (h : (U.pts l).length ≤ k) (hit : wr.heap[b]? = some (.stringIter ⟨(U.rep l).toArray⟩ (U.off (U.pts l) k))) :
    ∀ ty, (Instr.next (.pointer (some ⟨b, 0, none⟩)) true ty).run Tryz.prog wr = .ok (.tuple #[.bool false]) wr := fun ty => by
  refine Lib.run_next_end_at wr b ⟨(U.rep l).toArray⟩ (U.off (U.pts l) k) ty hit ?_
  rw [bytes_size, U.off_all _ _ h]
  exact Nat.lt_irrefl _

/-- Where the slice begins, when k code points have been passed. -/
def stOf (L : List (List UInt8)) (f k : Nat) : Nat := if f < k then U.off L f else L.flatten.length

def SlRel (l : List UInt8) (f t : Nat) (w1 : World) (st en n : Value) (wr : World) : Prop :=
  ∃ k : Nat, k ≤ (U.pts l).length ∧ k ≤ t ∧ st = .int .i64 (stOf (U.pts l) f k : Nat) ∧ en = .int .i64 ((U.rep l).length : Nat) ∧ n = .int .i64 (k : Nat) ∧
    wr.heap[w1.heap.size]? = some (.stringIter ⟨(U.rep l).toArray⟩ (U.off (U.pts l) k)) ∧ Below w1.heap.size w1 wr

theorem slice_str (R : List UInt8) (a b : Nat) (h : a ≤ b) (hb : b ≤ R.length) : (⟨R.toArray⟩ : ByteArray).extract a b = ⟨((R.drop a).take (b - a)).toArray⟩ := by
  have := extract_eq ⟨R.toArray⟩ a (b - a) (by rw [bytes_size]; omega)
  rw [bytes_toList, show a + (b - a) = b by omega] at this
  exact this

end T
end Go.Proofs.YtafkeolpadfjfaaGreatDoor
