/- The statement TextSlices: it returns true at every string and every two numbers, where Go's two tables of package utf8 lie as their texts lay them. -/
import Derived.Test.YtafkeolpadfjfaaGreatDoorJoin
set_option linter.unusedVariables false
set_option linter.unusedSimpArgs false
namespace Go.Proofs.YtafkeolpadfjfaaGreatDoor
open Go.RowKit
namespace T

/-- A row of strings that the call owns: its value, and its cells. -/
theorem str_form {W : World} {base : Nat} {v : Value} {L : List (List UInt8)} (h : W.ownsRow base 9 1 v L.length (strs L)) :
    ∃ ao cap, v = .slice ao L.length cap ∧ StrRow W ao L := by
  have h' := h
  rcases h.2 with ⟨rfl, h0⟩ | ⟨g, cap, cur, rfl, hb, hg, _, _, hcs, htk⟩
  · exact ⟨none, 0, by rw [h0], fun h => by omega⟩
  · refine ⟨some ⟨g, 0, none⟩, cap, rfl, fun _ => ⟨g, rfl, (Array.getElem?_eq_some_iff.1 hg).1, fun j hj => ?_⟩⟩
    rw [h'.cellAt j (by simpa using hj)]
    simp [strs, List.getD, hj]

end T
end Go.Proofs.YtafkeolpadfjfaaGreatDoor
