/- What the reference's Join comes to: the strings from one index to another, one after the other; the statement TextSlices. -/
import Derived.Test.YtafkeolpadfjfaaGreatDoorSlice
set_option linter.unusedVariables false
set_option linter.unusedSimpArgs false
namespace Go.Proofs.YtafkeolpadfjfaaGreatDoor
open Go.RowKit
namespace T

theorem sl_snoc (L : List (List UInt8)) (f k : Nat) (hf : f ≤ k) (hk : k < L.length) : U.sl L f (k + 1) = U.sl L f k ++ L.getD k [] := by
  unfold U.sl
  rw [List.take_succ_eq_append_getElem hk, List.drop_append_of_le_length (by rw [List.length_take]; omega), List.flatten_append]
  simp [List.getD, hk]

theorem flat_drop_le (L : List (List UInt8)) (n : Nat) : (L.drop n).flatten.length ≤ L.flatten.length := by
  have e : L.flatten = (L.take n).flatten ++ (L.drop n).flatten := by rw [← List.flatten_append, List.take_append_drop]
  rw [e, List.length_append]; omega
theorem flat_take_le (L : List (List UInt8)) (n : Nat) : (L.take n).flatten.length ≤ L.flatten.length := by
  have e : L.flatten = (L.take n).flatten ++ (L.drop n).flatten := by rw [← List.flatten_append, List.take_append_drop]
  rw [e, List.length_append]; omega
theorem sl_length (L : List (List UInt8)) (f k : Nat) : (U.sl L f k).length ≤ L.flatten.length := by
  unfold U.sl
  exact Nat.le_trans (flat_drop_le _ _) (flat_take_le _ _)

theorem sl_all (L : List (List UInt8)) (f k : Nat) (h : L.length ≤ k) : U.sl L f k = U.sl L f L.length := by
  unfold U.sl
  rw [List.take_of_length_le h, List.take_of_length_le (Nat.le_refl _)]

/-- What is known of a slice of strings. -/
def StrRow (w : World) (ao : Option Addr) (L : List (List UInt8)) : Prop :=
  0 < L.length → ∃ g, ao = some ⟨g, 0, none⟩ ∧ g < w.heap.size ∧ ∀ j, j < L.length → w.cell? ⟨g, j, none⟩ = some (.string ⟨(L.getD j []).toArray⟩)

theorem StrRow.below {w w' : World} {ao : Option Addr} {L : List (List UInt8)} (h : StrRow w ao L) (b : Below w.heap.size w w') : StrRow w' ao L := fun hl => by
  obtain ⟨g, e, hg, hc⟩ := h hl
  exact ⟨g, e, Nat.lt_of_lt_of_le hg b.size, fun j hj => (b.cell (p := ⟨g, j, none⟩) hg).trans (hc j hj)⟩

theorem append_bytes (a b : List UInt8) : (⟨a.toArray⟩ : ByteArray) ++ ⟨b.toArray⟩ = ⟨(a ++ b).toArray⟩ := by
  have h : ((⟨a.toArray⟩ : ByteArray) ++ ⟨b.toArray⟩).data = a.toArray ++ b.toArray := by
    simp [ByteArray.data_append]
  cases hx : (⟨a.toArray⟩ : ByteArray) ++ ⟨b.toArray⟩ with
  | mk d => rw [hx] at h; simp at h; rw [h]

end T
end Go.Proofs.YtafkeolpadfjfaaGreatDoor
