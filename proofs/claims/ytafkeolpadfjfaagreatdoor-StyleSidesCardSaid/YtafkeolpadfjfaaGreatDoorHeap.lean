/- Blocks that are kept, bytes of texts that are lists, and runs of bytes: what walks over memory ask for, of no package. -/
import Derived.Test.YtafkeolpadfjfaaGreatDoorUtf
import Derived.Test.YtafkeolpadfjfaaGreatDoorCases
import Derived.Deep.QuietTactic
import Derived.BigQuiet
import Derived.Below
import Derived.OneCell
import Derived.Lib.Hide
set_option linter.unusedVariables false
set_option linter.unusedSimpArgs false
namespace Go.Proofs.YtafkeolpadfjfaaGreatDoor
open Go.RowKit
namespace H

theorem append_bytes (a b : List UInt8) : (⟨a.toArray⟩ : ByteArray) ++ ⟨b.toArray⟩ = ⟨(a ++ b).toArray⟩ := by
  apply ByteArray.ext
  simp [ByteArray.data_append]
theorem bytes_toList (l : List UInt8) : (⟨l.toArray⟩ : ByteArray).data.toList = l := by simp
theorem bytes_size (l : List UInt8) : (⟨l.toArray⟩ : ByteArray).size = l.length := by show l.toArray.size = _; simp
theorem slice_str (R : List UInt8) (a b : Nat) (h : a ≤ b) (hb : b ≤ R.length) : (⟨R.toArray⟩ : ByteArray).extract a b = ⟨((R.drop a).take (b - a)).toArray⟩ := by
  apply ByteArray.ext
  simp [ByteArray.data_extract, List.extract_eq_take_drop]
theorem byte_eq (b : UInt8) (n : Nat) (h : n < 256) : ((b.toNat : Int) == (n : Int)) = (b == UInt8.ofNat n) := by
  rw [Bool.eq_iff_iff]
  simp only [beq_iff_eq]
  constructor
  · intro e
    have e' : b.toNat = n := by omega
    rw [← e']; simp
  · intro e; subst e; simp; omega
theorem byte_ne {c : UInt8} {n : Nat} (h : c ≠ UInt8.ofNat n) (hn : n < 256) : ((c.toNat : Int) == (n : Int)) = false := by
  rw [byte_eq c n hn]; simpa using h
theorem byte_is {c : UInt8} {n : Nat} (h : c = UInt8.ofNat n) (hn : n < 256) : ((c.toNat : Int) == (n : Int)) = true := by
  rw [byte_eq c n hn]; simpa using h
theorem ret_bool {a b : Bool} (h : a = b) : Ending.returned (.bool a) = .returned (.bool b) := by rw [h]
theorem ret_int {k : IntKind} {a b : Int} (h : a = b) : Ending.returned (.int k a) = .returned (.int k b) := by rw [h]

theorem lt_drop {s r : List UInt8} {i : Nat} {c : UInt8} (h : s.drop i = c :: r) : i < s.length := by
  rcases Nat.lt_or_ge i s.length with h' | h'
  · exact h'
  · rw [List.drop_eq_nil_of_le h'] at h; cases h
theorem at_drop {s r : List UInt8} {i : Nat} {c : UInt8} (h : s.drop i = c :: r) (hi : i < (⟨s.toArray⟩ : ByteArray).size) : (⟨s.toArray⟩ : ByteArray)[i] = c := by
  have hl : i < s.length := by rw [bytes_size] at hi; exact hi
  have h1 : (s.drop i)[0]? = some c := by rw [h]; rfl
  rw [List.getElem?_drop, Nat.add_zero, List.getElem?_eq_getElem hl] at h1
  have h2 : s[i] = c := by simpa using h1
  rw [← h2]; rfl
theorem drop_more {s r : List UInt8} {i : Nat} {c : UInt8} (h : s.drop i = c :: r) : s.drop (i + 1) = r := by
  rw [← List.drop_drop, h]; rfl
theorem drop_cons {s : List UInt8} {i : Nat} (h : i < s.length) : ∃ c r, s.drop i = c :: r := by
  cases hd : s.drop i with
  | nil => have := congrArg List.length hd; rw [List.length_drop] at this; simp at this; omega
  | cons c r => exact ⟨c, r, rfl⟩
theorem getD_drop {s r : List UInt8} {i : Nat} {c : UInt8} (h : s.drop i = c :: r) : s.getD i 0 = c := by
  have h1 : (s.drop i)[0]? = some c := by rw [h]; rfl
  rw [List.getElem?_drop, Nat.add_zero] at h1
  rw [List.getD_eq_getElem?_getD, h1]; rfl
theorem getD_past {s : List UInt8} {i : Nat} (h : s.length ≤ i) : s.getD i 0 = 0 := by
  rw [List.getD_eq_getElem?_getD, List.getElem?_eq_none h]; rfl
theorem drop_past {s : List UInt8} {i : Nat} (h : s.drop i = []) (hi : i ≤ s.length) : i = s.length := by
  have := congrArg List.length h; rw [List.length_drop] at this; simp at this; omega

theorem drop_tw (p : UInt8 → Bool) : ∀ l : List UInt8, l.drop (l.takeWhile p).length = l.dropWhile p
  | [] => rfl
  | c :: r => by
    by_cases h : p c = true
    · rw [List.takeWhile_cons_of_pos h, List.dropWhile_cons_of_pos h, List.length_cons, List.drop_succ_cons, drop_tw p r]
    · rw [List.takeWhile_cons_of_neg h, List.dropWhile_cons_of_neg h]; rfl
theorem take_tw (p : UInt8 → Bool) : ∀ l : List UInt8, l.take (l.takeWhile p).length = l.takeWhile p
  | [] => rfl
  | c :: r => by
    by_cases h : p c = true
    · rw [List.takeWhile_cons_of_pos h, List.length_cons, List.take_succ_cons, take_tw p r]
    · rw [List.takeWhile_cons_of_neg h]; rfl
theorem tw_le (p : UInt8 → Bool) : ∀ l : List UInt8, (l.takeWhile p).length ≤ l.length
  | [] => Nat.le_refl _
  | c :: r => by
    by_cases h : p c = true
    · rw [List.takeWhile_cons_of_pos h, List.length_cons, List.length_cons]; have := tw_le p r; omega
    · rw [List.takeWhile_cons_of_neg h]; exact Nat.zero_le _

/-- The end of the run of bytes with p from a place on. -/
def twEnd (p : UInt8 → Bool) (s : List UInt8) (i : Nat) : Nat := i + ((s.drop i).takeWhile p).length
theorem twEnd_step {p : UInt8 → Bool} {s r : List UInt8} {i : Nat} {c : UInt8} (h : s.drop i = c :: r) (hc : p c = true) : twEnd p s (i + 1) = twEnd p s i := by
  unfold twEnd
  rw [drop_more h, h, List.takeWhile_cons_of_pos hc, List.length_cons]; omega
theorem twEnd_stop {p : UInt8 → Bool} {s r : List UInt8} {i : Nat} {c : UInt8} (h : s.drop i = c :: r) (hc : p c = false) : twEnd p s i = i := by
  unfold twEnd
  rw [h, List.takeWhile_cons_of_neg (by rw [hc]; simp)]; rfl
theorem twEnd_past {p : UInt8 → Bool} {s : List UInt8} {i : Nat} (h : s.length ≤ i) : twEnd p s i = i := by
  unfold twEnd
  rw [List.drop_eq_nil_of_le h]; rfl
theorem twEnd_ge (p : UInt8 → Bool) (s : List UInt8) (i : Nat) : i ≤ twEnd p s i := Nat.le_add_right _ _
theorem twEnd_le {p : UInt8 → Bool} {s : List UInt8} {i : Nat} (h : i ≤ s.length) : twEnd p s i ≤ s.length := by
  have := tw_le p (s.drop i)
  rw [List.length_drop] at this
  unfold twEnd; omega
theorem twEnd_take (p : UInt8 → Bool) (s : List UInt8) (i : Nat) : (s.drop i).take (twEnd p s i - i) = (s.drop i).takeWhile p := by
  unfold twEnd
  rw [Nat.add_sub_cancel_left, take_tw]
theorem twEnd_drop (p : UInt8 → Bool) (s : List UInt8) (i : Nat) : s.drop (twEnd p s i) = (s.drop i).dropWhile p := by
  unfold twEnd
  rw [← List.drop_drop, drop_tw]

theorem bset {B b o : Nat} {a w : World} {v : Value} (h : Below B a w) (hb : B ≤ b) : Below B a (w.setCell ⟨b, o, none⟩ v) := h.setCell hb v
theorem cells_of {w : World} {b : Nat} {cs : Array Value} {t : TypeId} (h : w.heap[b]? = some (.cells cs t (0, 0))) : (∀ o, w.cell? ⟨b, o, none⟩ = cs[o]?) ∧ (∀ o, o < cs.size → w.frozen? ⟨b, o, none⟩ = false) := by
  refine ⟨fun o => by simp [World.cell?, h], fun o ho => by simp [World.frozen?, h]⟩

/-- All blocks but one are as they were. -/
structure But (b : Nat) (w w' : World) : Prop where
  os : w'.os = w.os
  tape : w'.tape = w.tape
  output : w'.output = w.output
  size : w.heap.size ≤ w'.heap.size
  block : ∀ k, k < w.heap.size → k ≠ b → w'.heap[k]? = w.heap[k]?

theorem But.refl (b : Nat) (w : World) : But b w w := ⟨rfl, rfl, rfl, Nat.le_refl _, fun _ _ _ => rfl⟩
theorem But.trans {b : Nat} {u v w : World} (h : But b u v) (k : But b v w) : But b u w :=
  ⟨k.os.trans h.os, k.tape.trans h.tape, k.output.trans h.output, Nat.le_trans h.size k.size, fun i hi hn => (k.block i (Nat.lt_of_lt_of_le hi h.size) hn).trans (h.block i hi hn)⟩
theorem But.of {b : Nat} {w w' : World} (h : Below w.heap.size w w') : But b w w' := ⟨h.os, h.tape, h.output, h.size, fun k hk _ => h.block k hk⟩
theorem But.set {b : Nat} (w : World) (o : Nat) (v : Value) : But b w (w.setCell ⟨b, o, none⟩ v) :=
  ⟨rfl, rfl, rfl, by simp [World.setCell], fun k hk hn => Below.heap_setCell _ _ _ _ hn⟩
theorem But.drewN {b : Nat} {w w' : World} (h : But b w w') (n : Nat) : But b w (w'.drewN n) := ⟨h.os, h.tape, h.output, h.size, h.block⟩
theorem But.below {b : Nat} {w w' : World} (h : But b w w') (hb : b < w.heap.size) : Below b w w' :=
  ⟨h.os, h.tape, h.output, h.size, fun k hk => h.block k (Nat.lt_trans hk hb) (Nat.ne_of_lt hk)⟩
theorem belowN {B : Nat} {w w' : World} (h : Below B w w') (n : Nat) : Below B w (w'.drewN n) := ⟨h.os, h.tape, h.output, h.size, h.block⟩

theorem block_set {w : World} {b o : Nat} {cs : Array Value} {t : TypeId} {f : Nat × Nat} {v : Value} (h : w.heap[b]? = some (.cells cs t f)) : (w.setCell ⟨b, o, none⟩ v).heap[b]? = some (.cells (cs.setIfInBounds o v) t f) := by
  have hlt := lt_of_block h
  have h' : w.heap[b] = .cells cs t f := by simpa [Array.getElem?_eq_getElem hlt] using h
  show (w.heap.modify b _)[b]? = _
  rw [Array.getElem?_eq_getElem (by simpa using hlt), Array.getElem_modify_self, h']
  rfl

/-- A callee's contract that only draws, behind draws. -/
theorem quietAdd {P : Program} {f : FuncId} {args : Array Value} {w : World} {n : Nat} {v : Value}
    (h : Calls P f args (w.drewN n) fun e w' => e = .returned v ∧ w.drewN n = w') : Calls P f args (w.drewN n) fun e w'' => e = .returned v ∧ ∃ m, w'' = w.drewN m :=
  h.mono fun _ _ hh => ⟨hh.1, n, hh.2.symm⟩

end H
end Go.Proofs.YtafkeolpadfjfaaGreatDoor
