/- What the reference's Repair and Points come to: the repaired form and its code points. -/
import Derived.Test.YtnmcgmbhkmfiaaaDoorSize
import Derived.Lib.AppendStr
import Derived.Lib.BufferRead
import Derived.Laws.IdiomStrings
import Derived.Maps.AppendAt
import Derived.WalkSpells
set_option linter.unusedVariables false
set_option linter.unusedSimpArgs false
namespace Go.Proofs.YtnmcgmbhkmfiaaaDoor
open Go.RowKit
namespace T

/-- 'string(b)' of a row that the call owns. -/
theorem string_own {W : World} {base : Nat} {v : Value} {l : List UInt8} (h : W.ownsRow base 5 1 v l.length (Lib.byteCells l)) :
    (convert 57 9 v).run Tryd.prog W = .ok (.string ⟨l.toArray⟩) W := by
  rcases h.2 with ⟨rfl, h0⟩ | ⟨g, cap, cur, rfl, hb, hg, _, _, hcs, htk⟩
  · have : l = [] := List.eq_nil_of_length_eq_zero h0
    subst this
    exact Lib.run_convert_nil_bytes W 57 9 5 0 Tryd.underlying57 Tryd.underlying5 Tryd.underlying9
  · refine run_convert_bytes_back W 57 9 5 ⟨g, 0, none⟩ cap l Tryd.underlying57 Tryd.underlying5 Tryd.underlying9 (Lib.bytes_of_row (l := l) hg (by simpa using htk))

theorem extract_list (s : ByteArray) (k n : Nat) (h : k + n ≤ s.size) : (s.extract k (k + n)).data.toList = (s.data.toList.drop k).take n := by
  rw [Lib.extract_data, Nat.add_sub_cancel_left]

def RepRel (s : ByteArray) (w : World) (v i : Value) (wr : World) : Prop :=
  ∃ (k : Nat) (acc : List UInt8), k ≤ s.size ∧ i = .int .i64 k ∧ wr.ownsRow w.heap.size 5 1 v acc.length (Lib.byteCells acc) ∧ Below w.heap.size w wr ∧ Hid (acc ++ U.rep (s.data.toList.drop k) = U.rep s.data.toList) ∧ acc.length ≤ 3 * k

end T
end Go.Proofs.YtnmcgmbhkmfiaaaDoor
