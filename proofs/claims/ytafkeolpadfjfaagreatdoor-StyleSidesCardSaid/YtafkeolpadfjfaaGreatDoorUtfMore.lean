/- More plain facts on UTF-8: a string is valid where it is its own repaired form; the bytes of a code point's number are the code point. -/
import Derived.Test.YtafkeolpadfjfaaGreatDoorPts
import Derived.Lib.ValidLaws
set_option linter.unusedVariables false
set_option linter.unusedSimpArgs false
namespace Go.Proofs.YtafkeolpadfjfaaGreatDoor
namespace U

theorem decodeL_eq (l : List UInt8) (h : l ≠ []) : Lib.decodeL l = (code (chunk l), adv l) := by
  have hl : 0 < l.length := List.length_pos_iff.2 h
  have := decode_eq ⟨l.toArray⟩ 0 (by show 0 < l.toArray.size; simpa using hl)
  simpa [Lib.decodeL] using this

theorem rep_ge : ∀ (n : Nat) (l : List UInt8), l.length ≤ n → l.length ≤ (rep l).length
  | 0, l, h => by omega
  | n + 1, l, h => by
    by_cases hl : l = []
    · subst hl; simp
    · have ha := adv_pos l
      have hle := adv_le l hl
      have ih := rep_ge n (l.drop (adv l)) (by simp; omega)
      rw [rep_cons l hl, List.length_append]
      rw [List.length_drop] at ih
      have hc : adv l ≤ (chunk l).length := by
        have := sz_le l
        unfold chunk adv
        split
        · simp
        · simp; omega
      omega

theorem code_bad (l : List UInt8) (h : l ≠ []) : (code (chunk l) = 65533 ∧ adv l = 1) ↔ sz l = 0 := by
  constructor
  · rintro ⟨h1, h2⟩
    by_cases h0 : sz l = 0
    · exact h0
    · exfalso
      unfold adv at h2
      rw [if_neg h0] at h2
      rw [code_chunk, if_neg h0, code_take l h0, h2] at h1
      simp only [if_true] at h1
      have hb := (l.getD 0 0).toNat_lt
      omega
  · intro h0
    refine ⟨?_, ?_⟩
    · rw [code_chunk, if_pos h0]
    · unfold adv; rw [if_pos h0]

theorem valid_iff : ∀ (n : Nat) (l : List UInt8), l.length ≤ n → (Lib.validD l = true ↔ rep l = l)
  | 0, l, h => by
    have : l = [] := List.eq_nil_of_length_eq_zero (by omega)
    subst this; simp [Lib.validD_nil, rep_nil]
  | n + 1, l, h => by
    by_cases hl : l = []
    · subst hl; simp [Lib.validD_nil, rep_nil]
    · have ha := adv_pos l
      have hle := adv_le l hl
      rw [Lib.validD_step l hl, decodeL_eq l hl]
      by_cases h0 : sz l = 0
      · rw [if_pos ((code_bad l hl).2 h0)]
        constructor
        · intro e; simp at e
        · intro e
          exfalso
          have hg := rep_ge l.length (l.drop 1) (by simp)
          rw [rep_cons l hl] at e
          unfold chunk adv at e
          rw [if_pos h0, if_pos h0] at e
          have e' := congrArg List.length e
          rw [List.length_append] at e'
          rw [List.length_drop] at hg
          simp at e'
          simp at hg
          omega
      · rw [if_neg (fun h => h0 ((code_bad l hl).1 h))]
        have ih := valid_iff n (l.drop (adv l)) (by simp; omega)
        rw [ih, rep_cons l hl]
        have hch : chunk l = l.take (adv l) := by unfold chunk adv; rw [if_neg h0, if_neg h0]
        rw [hch]
        constructor
        · intro e; rw [e, List.take_append_drop]
        · intro e
          have e2 : l.take (adv l) ++ rep (l.drop (adv l)) = l.take (adv l) ++ l.drop (adv l) := by rw [List.take_append_drop]; exact e
          exact List.append_cancel_left e2

theorem valid_eq (l : List UInt8) : Lib.validD l = decide (rep l = l) := by
  rw [Bool.eq_iff_iff, valid_iff l.length l (Nat.le_refl _)]
  simp

theorem toUInt8_eq (a : UInt8) (n : Int) (h : n = a.toNat) : n.toNat.toUInt8 = a := by
  subst h; simp

/-- The bytes of a code point's number are the code point. -/
theorem encode_chunk (l : List UInt8) : Lib.encodeRune (code (chunk l) : Nat) = chunk l := by
  rw [code_chunk]
  have hc := sz_cases l
  rcases hc with ⟨e, hc⟩ | ⟨e, hc⟩ | ⟨e, hc⟩ | ⟨e, hc⟩ | ⟨e, _⟩
  · have ht : chunk l = [l.getD 0 0] := by
      unfold chunk; rw [e, if_neg (by omega), head_take l 1 (by have := sz_le l; omega)]; simp [List.range, List.range.loop]
    unfold one at hc
    rw [if_neg (by omega), code_take l (by omega), e, ht]
    simp only [if_true]
    unfold Lib.encodeRune
    rw [Lib.encodeRuneZ_one (by omega) (by omega)]
    simp
  · have ht : chunk l = [l.getD 0 0, l.getD 1 0] := by
      unfold chunk; rw [e, if_neg (by omega), head_take l 2 (by have := sz_le l; omega)]; simp [List.range, List.range.loop]
    unfold two at hc
    rw [if_neg (by omega), code_take l (by omega), e, ht]
    simp only [if_true, if_neg (by omega : ¬ (2 : Nat) = 1)]
    unfold Lib.encodeRune
    rw [Lib.encodeRuneZ_two (by omega) (by omega)]
    simp only [List.map_cons, List.map_nil]
    rw [toUInt8_eq (l.getD 0 0) _ (by omega), toUInt8_eq (l.getD 1 0) _ (by omega)]
  · have ht : chunk l = [l.getD 0 0, l.getD 1 0, l.getD 2 0] := by
      unfold chunk; rw [e, if_neg (by omega), head_take l 3 (by have := sz_le l; omega)]; simp [List.range, List.range.loop]
    unfold three sec at hc
    rw [if_neg (by omega), code_take l (by omega), e, ht]
    simp only [if_true, if_neg (by omega : ¬ (3 : Nat) = 1), if_neg (by omega : ¬ (3 : Nat) = 2)]
    unfold Lib.encodeRune
    rw [Lib.encodeRuneZ_three (by omega)]
    simp only [List.map_cons, List.map_nil]
    rw [toUInt8_eq (l.getD 0 0) _ (by omega), toUInt8_eq (l.getD 1 0) _ (by omega), toUInt8_eq (l.getD 2 0) _ (by omega)]
  · have ht : chunk l = [l.getD 0 0, l.getD 1 0, l.getD 2 0, l.getD 3 0] := by
      unfold chunk; rw [e, if_neg (by omega), head_take l 4 (by have := sz_le l; omega)]; simp [List.range, List.range.loop]
    unfold four sec at hc
    rw [if_neg (by omega), code_take l (by omega), e, ht]
    simp only [if_neg (by omega : ¬ (4 : Nat) = 1), if_neg (by omega : ¬ (4 : Nat) = 2), if_neg (by omega : ¬ (4 : Nat) = 3)]
    unfold Lib.encodeRune
    rw [Lib.encodeRuneZ_four (by omega) (by omega)]
    simp only [List.map_cons, List.map_nil]
    rw [toUInt8_eq (l.getD 0 0) _ (by omega), toUInt8_eq (l.getD 1 0) _ (by omega), toUInt8_eq (l.getD 2 0) _ (by omega), toUInt8_eq (l.getD 3 0) _ (by omega)]
  · rw [if_pos e]
    unfold chunk
    rw [if_pos e]
    decide

end U
namespace T
theorem code_lt (c : List UInt8) : U.code c < 2097152 := by
  unfold U.code
  split
  · rename_i a; have := a.toNat_lt; omega
  · omega
  · omega
  · omega
  · omega
end T
end Go.Proofs.YtafkeolpadfjfaaGreatDoor
