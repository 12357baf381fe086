/- What the reference's Points comes to: the code points of a repaired string, each as a string, in a row that the call owns. -/
import Derived.Test.YtafkeolpadfjfaaGreatDoorRepair
set_option linter.unusedVariables false
set_option linter.unusedSimpArgs false
namespace Go.Proofs.YtafkeolpadfjfaaGreatDoor
open Go.RowKit
namespace U

/-- The pieces by which a string is read. -/
def raws : Nat → List UInt8 → List (List UInt8)
  | 0, _ => []
  | n + 1, l => if l = [] then [] else l.take (adv l) :: raws n (l.drop (adv l))
def raw (l : List UInt8) : List (List UInt8) := raws l.length l

theorem raws_more : ∀ (n m : Nat) (l : List UInt8), l.length ≤ n → l.length ≤ m → raws n l = raws m l
  | 0, 0, _, _, _ => rfl
  | 0, m + 1, l, h, _ => by
    have : l = [] := List.eq_nil_of_length_eq_zero (by omega)
    simp [raws, this]
  | n + 1, 0, l, _, h => by
    have : l = [] := List.eq_nil_of_length_eq_zero (by omega)
    simp [raws, this]
  | n + 1, m + 1, l, h1, h2 => by
    unfold raws
    by_cases hl : l = []
    · simp [hl]
    · have ha := adv_pos l
      have hlen : 0 < l.length := List.length_pos_iff.2 hl
      rw [if_neg hl, if_neg hl, raws_more n m (l.drop (adv l)) (by simp; omega) (by simp; omega)]

theorem raw_nil : raw [] = [] := rfl
theorem raw_cons (l : List UInt8) (h : l ≠ []) : raw l = l.take (adv l) :: raw (l.drop (adv l)) := by
  have hl : 0 < l.length := List.length_pos_iff.2 h
  have ha := adv_pos l
  unfold raw
  obtain ⟨n, hn⟩ : ∃ n, l.length = n + 1 := ⟨l.length - 1, by omega⟩
  rw [hn]
  conv => lhs; unfold raws
  rw [if_neg h, raws_more n (l.drop (adv l)).length (l.drop (adv l)) (by simp; omega) (by simp)]

theorem raw_rep : ∀ (n : Nat) (l : List UInt8), l.length ≤ n → raw (rep l) = pts l
  | 0, l, h => by
    have : l = [] := List.eq_nil_of_length_eq_zero (by omega)
    subst this; rfl
  | n + 1, l, h => by
    by_cases hl : l = []
    · subst hl; rfl
    · have ha := adv_pos l
      rw [rep_cons l hl, raw_cons _ (ne_nil_chunk l _ hl), adv_chunk l _ hl, pts_cons l hl]
      rw [List.take_left, List.drop_left, raw_rep n _ (by simp; omega)]

theorem raw_of_rep (l : List UInt8) : raw (rep l) = pts l := raw_rep l.length l (Nat.le_refl _)

theorem raws_length : ∀ (n : Nat) (l : List UInt8), (raws n l).length ≤ n
  | 0, _ => by simp [raws]
  | n + 1, l => by
    unfold raws
    split
    · simp
    · have := raws_length n (l.drop (adv l)); simp; omega

theorem raw_length (l : List UInt8) : (raw l).length ≤ l.length := raws_length _ _

theorem chunks_length : ∀ (n : Nat) (l : List UInt8), (chunks n l).length ≤ n
  | 0, _ => by simp [chunks]
  | n + 1, l => by
    unfold chunks
    split
    · simp
    · have := chunks_length n (l.drop (adv l)); simp; omega
theorem pts_length (l : List UInt8) : (pts l).length ≤ l.length := chunks_length _ _

theorem rep_length : ∀ (n : Nat) (l : List UInt8), l.length ≤ n → (rep l).length ≤ 3 * l.length
  | 0, l, h => by
    have : l = [] := List.eq_nil_of_length_eq_zero (by omega)
    subst this; simp [rep_nil]
  | n + 1, l, h => by
    by_cases hl : l = []
    · subst hl; simp [rep_nil]
    · have ha := adv_pos l
      have hle := adv_le l hl
      have ih := rep_length n (l.drop (adv l)) (by simp; omega)
      rw [rep_cons l hl, List.length_append]
      rw [List.length_drop] at ih
      have hc : (chunk l).length ≤ 3 * adv l := by
        unfold chunk adv
        split
        · simp
        · rename_i h0; simp; omega
      omega
theorem rep_le (l : List UInt8) : (rep l).length ≤ 3 * l.length := rep_length l.length l (Nat.le_refl _)

end U
namespace T

theorem infoString : (Tryz.prog.info? 9).map (fun i => (i.zero, i.size, i.bytes)) = some (some (.string ByteArray.empty), 1, 16) := by kernel_rfl

/-- A list of byte strings, as values. -/
def strs (l : List (List UInt8)) : List Value := l.map fun c => .string ⟨c.toArray⟩
theorem strs_length (l : List (List UInt8)) : (strs l).length = l.length := by simp [strs]
theorem strs_snoc (l : List (List UInt8)) (c : List UInt8) : strs (l ++ [c]) = strs l ++ [.string ⟨c.toArray⟩] := by simp [strs]

theorem extract_eq (s : ByteArray) (k n : Nat) (h : k + n ≤ s.size) : s.extract k (k + n) = ⟨((s.data.toList.drop k).take n).toArray⟩ := by
  have := extract_list s k n h
  cases h2 : s.extract k (k + n) with
  | mk a => rw [h2] at this; simp at this; rw [← this]

def PtsRel (s : ByteArray) (w : World) (v i : Value) (wr : World) : Prop :=
  ∃ (k : Nat) (acc : List (List UInt8)), k ≤ s.size ∧ i = .int .i64 k ∧ wr.ownsRow w.heap.size 9 1 v acc.length (strs acc) ∧ Below w.heap.size w wr ∧ Hid (acc ++ U.raw (s.data.toList.drop k) = U.raw s.data.toList) ∧ acc.length ≤ k

end T
end Go.Proofs.YtafkeolpadfjfaaGreatDoor
