/- What text.Repair and text.Valid come to, where Go's two tables of package utf8 lie as their texts lay them; the statement TextRepairs. -/
import Derived.Test.YtafkeolpadfjfaaGreatDoorUtfMore
import Derived.Test.YtafkeolpadfjfaaGreatDoorRune
import Derived.Test.YtafkeolpadfjfaaGreatDoorValid
import Derived.Lib.OthersKept
import Derived.BigCall
set_option linter.unusedVariables false
set_option linter.unusedSimpArgs false
namespace Go.Proofs.YtafkeolpadfjfaaGreatDoor
open Go.RowKit
namespace T

/-- Go's two tables of package utf8 lie as their texts lay them. -/
def Tabs (w : World) : Prop := Lib.Utf8Tabs 3 4 w ∧ 3 + 4 + 1 ≤ w.heap.size

theorem Tabs.below {w w' : World} (h : Tabs w) (b : Below w.heap.size w w') : Tabs w' := by
  have hz := h.2
  refine ⟨⟨fun c hc => ?_, fun i hi => ⟨?_, ?_⟩⟩, Nat.le_trans hz b.size⟩
  · rw [b.cell (p := ⟨3, c, none⟩) (by show (3 : Nat) < _; omega)]; exact h.1.1 c hc
  · rw [b.cell (p := ⟨4, 2 * i, none⟩) (by show (4 : Nat) < _; omega)]; exact (h.1.2 i hi).1
  · rw [b.cell (p := ⟨4, 2 * i + 1, none⟩) (by show (4 : Nat) < _; omega)]; exact (h.1.2 i hi).2

theorem ValidString (s : ByteArray) (w : World) (hs : s.size ≤ 140737488351232) (hT : Tabs w) :
    Calls Tryz.prog 107 #[.string s] w fun e w' => e = .returned (.bool (decide (U.rep s.data.toList = s.data.toList))) ∧ Below w.heap.size w w' := by
  rw [← U.valid_eq]
  exact Any.utf8_ValidString Tryz.lays196 s w (by omega) hT.1

set_option maxHeartbeats 400000 in
theorem Valid (s : ByteArray) (w : World) (hs : s.size ≤ 140737488351232) (hT : Tabs w) :
    Calls Tryz.prog 86 #[.string s] w fun e w' => e = .returned (.bool (decide (U.rep s.data.toList = s.data.toList))) ∧ Below w.heap.size w w' := by
  have hv := Lib.hid (ValidString s w hs hT)
  generalize decide (U.rep s.data.toList = s.data.toList) = V at *
  go_enter Tryz.func86, Tryz.ntmps86
  go_wp2_with (go_at_call 107; refine hv.out.mono ?_)
  rintro e w1 ⟨rfl, b1⟩
  go_wp2_with fail
  go_ret
  exact ⟨rfl, b1⟩

def TRRel (s : ByteArray) (w1 : World) (wr : World) : Prop :=
  ∃ (pos : Nat) (acc : List UInt8), pos ≤ s.size ∧ Lib.IsBuilderF 109 5 w1.heap.size w1.heap.size (Lib.byteCells acc) wr ∧ wr.heap[w1.heap.size + 1]? = some (.stringIter s pos) ∧ Below w1.heap.size w1 wr ∧ Hid (acc ++ U.rep (s.data.toList.drop pos) = U.rep s.data.toList) ∧ acc.length ≤ 4 * pos

set_option maxHeartbeats 4000000 in
set_option maxRecDepth 1000000 in
theorem Repair_bad (s : ByteArray) (w : World) (hs : s.size ≤ 1000000) (hT : Tabs w) (hv : U.rep s.data.toList ≠ s.data.toList) :
    Calls Tryz.prog 65 #[.string s] w fun e w' => e = .returned (.string ⟨(U.rep s.data.toList).toArray⟩) ∧ Below w.heap.size w w' := by
  have hc := ValidString s w (by omega) hT
  rw [decide_eq_false hv] at hc
  have HC := Lib.hid hc
  clear hc hv
  go_enter Tryz.func65, Tryz.ntmps65
  go_wp2_with (go_at_call 107; refine HC.out.mono ?_)
  rintro e w1 ⟨rfl, b1⟩
  have zw := b1.size
  go_wp2_with fail
  go_loopw [] (fun wr => TRRel s w1 wr) (fun wr => s.size - wr.iterPos (w1.heap.size + 1))
  case atStart =>
    refine ⟨0, [], Nat.zero_le _, (Lib.IsBuilderF.of (Lib.fresh_isBuilder 109 5 w1)).alloc _, ?_, ((Below.refl _ w1).alloc (Nat.le_refl _) _).alloc (by simp) _, Lib.hid rfl, by simp⟩
    have := World.iter_heap (w1.alloc (.cells #[.pointer none, .slice none 0 0] 109)) s 0
    simpa using this
  case round =>
    obtain ⟨pos, acc, hps, hI, hit, hbw, HA, hal⟩ := hrel
    have hsz : w1.heap.size + 1 < wr.heap.size := (Array.getElem?_eq_some_iff.1 hit).1
    by_cases hp : pos < s.size
    · have hne : s.data.toList.drop pos ≠ [] := by rw [drop_cons s pos hp]; exact List.cons_ne_nil _ _
      have HN := Lib.hid (U.rep_cons _ hne)
      have HE := Lib.hid (U.encode_chunk (s.data.toList.drop pos))
      have hal2 := U.adv_le _ hne
      rw [List.length_drop, U.list_size] at hal2
      have hpos := U.adv_pos (s.data.toList.drop pos)
      have hcl := code_lt (U.chunk (s.data.toList.drop pos))
      have hnx : ∀ ty, (Instr.next (.pointer (some ⟨w1.heap.size + 1, 0, none⟩)) true ty).run Tryz.prog wr = .ok (.tuple #[.bool true, .int .i64 pos, .int .i32 (U.code (U.chunk (s.data.toList.drop pos)) : Nat)]) (wr.iterAt (w1.heap.size + 1) s (pos + U.adv (s.data.toList.drop pos))) := fun ty => by
        rw [Lib.run_next_any_at wr (w1.heap.size + 1) s pos ty hit hp, U.decode_eq s pos hp]
      clear hne
      have hch4 : (U.chunk (s.data.toList.drop pos)).length ≤ 4 := by rw [← HE.out, ← Lib.runeCells_length]; exact (Lib.runeCells_le _).2
      generalize hcd : U.code (U.chunk (s.data.toList.drop pos)) = C at *
      have HCD := Lib.hid hcd
      clear hcd
      generalize hpp : pos + U.adv (s.data.toList.drop pos) = pos' at *
      have HPP := Lib.hid hpp
      have hpos' : pos' ≤ s.size := by omega
      have hpos2 : pos < pos' := by omega
      clear hpp
      have hI2 := hI.iterAt hit pos'
      have hit2 := Lib.iterAt_heap wr (w1.heap.size + 1) s pos pos' hit
      have hbw2 := Lib.below_iterAt hbw (k := w1.heap.size + 1) (by omega) s pos'
      have hsz2 : w1.heap.size ≤ (wr.iterAt (w1.heap.size + 1) s pos').heap.size := by rw [Lib.iterAt_size]; omega
      go_wp2_with (go_at_call 108; refine (Any.Builder_WriteRune_k Tryz.lays168 Tryz.Builder_Extra_168 w1.heap.size w1.heap.size _ (C : Int) (by omega) (by omega) _ hI2 (by rw [Lib.byteCells_length]; omega) hsz2).mono ?_)
      rintro e W1 ⟨rfl, h1, bb1, k1⟩
      go_wp2_with fail
      go_roundw
      case rel =>
        refine ⟨pos', acc ++ U.chunk (s.data.toList.drop pos), hpos', ?_, k1.iter hit2 (by omega), hbw2.trans bb1, Lib.hid ?_, by simp; omega⟩
        · rw [Lib.byteCells_append, ← HE.out, Lib.byteCells_encodeRune]; exact Or.inr h1
        · have h3 := HA.out
          rw [HN.out, List.drop_drop, HPP.out, ← List.append_assoc] at h3
          exact h3
      case measure =>
        simp only [World.iterPos, k1.iter hit2 (by omega), hit]
        omega
    · have hnx : ∀ ty, (Instr.next (.pointer (some ⟨w1.heap.size + 1, 0, none⟩)) true ty).run Tryz.prog wr = .ok (.tuple #[.bool false]) wr := fun ty => Lib.run_next_end_at wr (w1.heap.size + 1) s pos ty hit hp
      have h3 := HA.out
      rw [drop_end s pos hp, U.rep_nil, List.append_nil] at h3
      have H3 := Lib.hid h3
      clear h3
      go_wp2_with (go_at_call 60; refine (Tryz.Builder_String_any_k w1.heap.size w1.heap.size acc _ hI (by omega)).mono ?_)
      rintro e W1 ⟨rfl, _, bb1, _⟩
      go_wp2_with fail
      go_ret
      rw [H3.out]
      exact ⟨rfl, b1.trans ((hbw.trans bb1).mono (by omega))⟩

set_option maxHeartbeats 1000000 in
theorem Repair (s : ByteArray) (w : World) (hs : s.size ≤ 1000000) (hT : Tabs w) :
    Calls Tryz.prog 65 #[.string s] w fun e w' => e = .returned (.string ⟨(U.rep s.data.toList).toArray⟩) ∧ Below w.heap.size w w' := by
  by_cases hv : U.rep s.data.toList = s.data.toList
  · have hc := ValidString s w (by omega) hT
    rw [decide_eq_true hv] at hc
    have HC := Lib.hid hc
    clear hc
    rw [hv]
    clear hv
    go_enter Tryz.func65, Tryz.ntmps65
    go_wp2_with (go_at_call 107; refine HC.out.mono ?_)
    rintro e w1 ⟨rfl, b1⟩
    go_wp2_with fail
    go_ret
    exact ⟨rfl, b1⟩
  · exact Repair_bad s w hs hT hv

end T
end Go.Proofs.YtafkeolpadfjfaaGreatDoor
