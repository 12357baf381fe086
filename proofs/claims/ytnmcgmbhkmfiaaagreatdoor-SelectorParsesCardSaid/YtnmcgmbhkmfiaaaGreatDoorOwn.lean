/- Blocks that are kept, bytes of texts that are lists, and runs of bytes: what walks over memory ask for, of no package. Blocks whose cells are known, and what keeps them. Rows in memory: slices whose cells are known, what lies behind them, and what keeps them. A list that the call owns beside blocks of its own: its blocks are those of S. -/
import Derived.Test.YtnmcgmbhkmfiaaaGreatDoorUtf
import Derived.Test.YtnmcgmbhkmfiaaaGreatDoorCases
import Derived.Deep.QuietTactic
import Derived.BigQuiet
import Derived.Below
import Derived.OneCell
import Derived.Lib.Hide
import Derived.Deep.AppendLies
set_option linter.unusedVariables false
set_option linter.unusedSimpArgs false
namespace Go.Proofs.YtnmcgmbhkmfiaaaGreatDoor
open Go.RowKit
namespace H

theorem append_bytes (a b : List UInt8) : (⟨a.toArray⟩ : ByteArray) ++ ⟨b.toArray⟩ = ⟨(a ++ b).toArray⟩ := by
  apply ByteArray.ext
  simp [ByteArray.data_append]
theorem bytes_toList (l : List UInt8) : (⟨l.toArray⟩ : ByteArray).data.toList = l := by simp
theorem bytes_size (l : List UInt8) : (⟨l.toArray⟩ : ByteArray).size = l.length := by show l.toArray.size = _; simp
theorem slice_str (R : List UInt8) (a b : Nat) (h : a ≤ b) (hb : b ≤ R.length) : (⟨R.toArray⟩ : ByteArray).extract a b = ⟨((R.drop a).take (b - a)).toArray⟩ := by
  apply ByteArray.ext
  simp [ByteArray.data_extract, List.extract_eq_take_drop]
theorem byte_eq (b : UInt8) (n : Nat) (h : n < 256) : ((b.toNat : Int) == (n : Int)) = (b == UInt8.ofNat n) := by
  rw [Bool.eq_iff_iff]
  simp only [beq_iff_eq]
  constructor
  · intro e
    have e' : b.toNat = n := by omega
    rw [← e']; simp
  · intro e; subst e; simp; omega
theorem byte_ne {c : UInt8} {n : Nat} (h : c ≠ UInt8.ofNat n) (hn : n < 256) : ((c.toNat : Int) == (n : Int)) = false := by
  rw [byte_eq c n hn]; simpa using h
theorem byte_is {c : UInt8} {n : Nat} (h : c = UInt8.ofNat n) (hn : n < 256) : ((c.toNat : Int) == (n : Int)) = true := by
  rw [byte_eq c n hn]; simpa using h
theorem ret_bool {a b : Bool} (h : a = b) : Ending.returned (.bool a) = .returned (.bool b) := by rw [h]
theorem ret_int {k : IntKind} {a b : Int} (h : a = b) : Ending.returned (.int k a) = .returned (.int k b) := by rw [h]

theorem lt_drop {s r : List UInt8} {i : Nat} {c : UInt8} (h : s.drop i = c :: r) : i < s.length := by
  rcases Nat.lt_or_ge i s.length with h' | h'
  · exact h'
  · rw [List.drop_eq_nil_of_le h'] at h; cases h
theorem at_drop {s r : List UInt8} {i : Nat} {c : UInt8} (h : s.drop i = c :: r) (hi : i < (⟨s.toArray⟩ : ByteArray).size) : (⟨s.toArray⟩ : ByteArray)[i] = c := by
  have hl : i < s.length := by rw [bytes_size] at hi; exact hi
  have h1 : (s.drop i)[0]? = some c := by rw [h]; rfl
  rw [List.getElem?_drop, Nat.add_zero, List.getElem?_eq_getElem hl] at h1
  have h2 : s[i] = c := by simpa using h1
  rw [← h2]; rfl
theorem drop_more {s r : List UInt8} {i : Nat} {c : UInt8} (h : s.drop i = c :: r) : s.drop (i + 1) = r := by
  rw [← List.drop_drop, h]; rfl
theorem drop_cons {s : List UInt8} {i : Nat} (h : i < s.length) : ∃ c r, s.drop i = c :: r := by
  cases hd : s.drop i with
  | nil => have := congrArg List.length hd; rw [List.length_drop] at this; simp at this; omega
  | cons c r => exact ⟨c, r, rfl⟩
theorem getD_drop {s r : List UInt8} {i : Nat} {c : UInt8} (h : s.drop i = c :: r) : s.getD i 0 = c := by
  have h1 : (s.drop i)[0]? = some c := by rw [h]; rfl
  rw [List.getElem?_drop, Nat.add_zero] at h1
  rw [List.getD_eq_getElem?_getD, h1]; rfl
theorem getD_past {s : List UInt8} {i : Nat} (h : s.length ≤ i) : s.getD i 0 = 0 := by
  rw [List.getD_eq_getElem?_getD, List.getElem?_eq_none h]; rfl
theorem drop_past {s : List UInt8} {i : Nat} (h : s.drop i = []) (hi : i ≤ s.length) : i = s.length := by
  have := congrArg List.length h; rw [List.length_drop] at this; simp at this; omega

theorem drop_tw (p : UInt8 → Bool) : ∀ l : List UInt8, l.drop (l.takeWhile p).length = l.dropWhile p
  | [] => rfl
  | c :: r => by
    by_cases h : p c = true
    · rw [List.takeWhile_cons_of_pos h, List.dropWhile_cons_of_pos h, List.length_cons, List.drop_succ_cons, drop_tw p r]
    · rw [List.takeWhile_cons_of_neg h, List.dropWhile_cons_of_neg h]; rfl
theorem take_tw (p : UInt8 → Bool) : ∀ l : List UInt8, l.take (l.takeWhile p).length = l.takeWhile p
  | [] => rfl
  | c :: r => by
    by_cases h : p c = true
    · rw [List.takeWhile_cons_of_pos h, List.length_cons, List.take_succ_cons, take_tw p r]
    · rw [List.takeWhile_cons_of_neg h]; rfl
theorem tw_le (p : UInt8 → Bool) : ∀ l : List UInt8, (l.takeWhile p).length ≤ l.length
  | [] => Nat.le_refl _
  | c :: r => by
    by_cases h : p c = true
    · rw [List.takeWhile_cons_of_pos h, List.length_cons, List.length_cons]; have := tw_le p r; omega
    · rw [List.takeWhile_cons_of_neg h]; exact Nat.zero_le _

/-- The end of the run of bytes with p from a place on. -/
def twEnd (p : UInt8 → Bool) (s : List UInt8) (i : Nat) : Nat := i + ((s.drop i).takeWhile p).length
theorem twEnd_step {p : UInt8 → Bool} {s r : List UInt8} {i : Nat} {c : UInt8} (h : s.drop i = c :: r) (hc : p c = true) : twEnd p s (i + 1) = twEnd p s i := by
  unfold twEnd
  rw [drop_more h, h, List.takeWhile_cons_of_pos hc, List.length_cons]; omega
theorem twEnd_stop {p : UInt8 → Bool} {s r : List UInt8} {i : Nat} {c : UInt8} (h : s.drop i = c :: r) (hc : p c = false) : twEnd p s i = i := by
  unfold twEnd
  rw [h, List.takeWhile_cons_of_neg (by rw [hc]; simp)]; rfl
theorem twEnd_past {p : UInt8 → Bool} {s : List UInt8} {i : Nat} (h : s.length ≤ i) : twEnd p s i = i := by
  unfold twEnd
  rw [List.drop_eq_nil_of_le h]; rfl
theorem twEnd_ge (p : UInt8 → Bool) (s : List UInt8) (i : Nat) : i ≤ twEnd p s i := Nat.le_add_right _ _
theorem twEnd_le {p : UInt8 → Bool} {s : List UInt8} {i : Nat} (h : i ≤ s.length) : twEnd p s i ≤ s.length := by
  have := tw_le p (s.drop i)
  rw [List.length_drop] at this
  unfold twEnd; omega
theorem twEnd_take (p : UInt8 → Bool) (s : List UInt8) (i : Nat) : (s.drop i).take (twEnd p s i - i) = (s.drop i).takeWhile p := by
  unfold twEnd
  rw [Nat.add_sub_cancel_left, take_tw]
theorem twEnd_drop (p : UInt8 → Bool) (s : List UInt8) (i : Nat) : s.drop (twEnd p s i) = (s.drop i).dropWhile p := by
  unfold twEnd
  rw [← List.drop_drop, drop_tw]

theorem bset {B b o : Nat} {a w : World} {v : Value} (h : Below B a w) (hb : B ≤ b) : Below B a (w.setCell ⟨b, o, none⟩ v) := h.setCell hb v
theorem cells_of {w : World} {b : Nat} {cs : Array Value} {t : TypeId} (h : w.heap[b]? = some (.cells cs t (0, 0))) : (∀ o, w.cell? ⟨b, o, none⟩ = cs[o]?) ∧ (∀ o, o < cs.size → w.frozen? ⟨b, o, none⟩ = false) := by
  refine ⟨fun o => by simp [World.cell?, h], fun o ho => by simp [World.frozen?, h]⟩

/-- All blocks but one are as they were. -/
structure But (b : Nat) (w w' : World) : Prop where
  os : w'.os = w.os
  tape : w'.tape = w.tape
  output : w'.output = w.output
  size : w.heap.size ≤ w'.heap.size
  block : ∀ k, k < w.heap.size → k ≠ b → w'.heap[k]? = w.heap[k]?

theorem But.refl (b : Nat) (w : World) : But b w w := ⟨rfl, rfl, rfl, Nat.le_refl _, fun _ _ _ => rfl⟩
theorem But.trans {b : Nat} {u v w : World} (h : But b u v) (k : But b v w) : But b u w :=
  ⟨k.os.trans h.os, k.tape.trans h.tape, k.output.trans h.output, Nat.le_trans h.size k.size, fun i hi hn => (k.block i (Nat.lt_of_lt_of_le hi h.size) hn).trans (h.block i hi hn)⟩
theorem But.of {b : Nat} {w w' : World} (h : Below w.heap.size w w') : But b w w' := ⟨h.os, h.tape, h.output, h.size, fun k hk _ => h.block k hk⟩
theorem But.set {b : Nat} (w : World) (o : Nat) (v : Value) : But b w (w.setCell ⟨b, o, none⟩ v) :=
  ⟨rfl, rfl, rfl, by simp [World.setCell], fun k hk hn => Below.heap_setCell _ _ _ _ hn⟩
theorem But.drewN {b : Nat} {w w' : World} (h : But b w w') (n : Nat) : But b w (w'.drewN n) := ⟨h.os, h.tape, h.output, h.size, h.block⟩
theorem But.below {b : Nat} {w w' : World} (h : But b w w') (hb : b < w.heap.size) : Below b w w' :=
  ⟨h.os, h.tape, h.output, h.size, fun k hk => h.block k (Nat.lt_trans hk hb) (Nat.ne_of_lt hk)⟩
theorem belowN {B : Nat} {w w' : World} (h : Below B w w') (n : Nat) : Below B w (w'.drewN n) := ⟨h.os, h.tape, h.output, h.size, h.block⟩

theorem block_set {w : World} {b o : Nat} {cs : Array Value} {t : TypeId} {f : Nat × Nat} {v : Value} (h : w.heap[b]? = some (.cells cs t f)) : (w.setCell ⟨b, o, none⟩ v).heap[b]? = some (.cells (cs.setIfInBounds o v) t f) := by
  have hlt := lt_of_block h
  have h' : w.heap[b] = .cells cs t f := by simpa [Array.getElem?_eq_getElem hlt] using h
  show (w.heap.modify b _)[b]? = _
  rw [Array.getElem?_eq_getElem (by simpa using hlt), Array.getElem_modify_self, h']
  rfl

/-- A callee's contract that only draws, behind draws. -/
theorem quietAdd {P : Program} {f : FuncId} {args : Array Value} {w : World} {n : Nat} {v : Value}
    (h : Calls P f args (w.drewN n) fun e w' => e = .returned v ∧ w.drewN n = w') : Calls P f args (w.drewN n) fun e w'' => e = .returned v ∧ ∃ m, w'' = w.drewN m :=
  h.mono fun _ _ hh => ⟨hh.1, n, hh.2.symm⟩

end H
end Go.Proofs.YtnmcgmbhkmfiaaaGreatDoor

namespace Go.Proofs.YtnmcgmbhkmfiaaaGreatDoor
open Go.RowKit
namespace H

/-- A block whose cells are known, none of them frozen. -/
def Blk (g : Nat) (cs : Array Value) (t : TypeId) (w : World) : Prop := w.heap[g]? = some (.cells cs t (0, 0))

section
variable {g b : Nat} {cs : Array Value} {t : TypeId} {w w' : World}
theorem Blk.lt (h : Blk g cs t w) : g < w.heap.size := lt_of_block h
theorem Blk.but (h : Blk g cs t w) (hb : But b w w') (hne : g ≠ b) : Blk g cs t w' := (hb.block g (lt_of_block h) hne).trans h
theorem Blk.below (h : Blk g cs t w) (hb : Below w.heap.size w w') : Blk g cs t w' := (hb.block g (lt_of_block h)).trans h
theorem Blk.set (h : Blk g cs t w) (o : Nat) (v : Value) : Blk g (cs.setIfInBounds o v) t (w.setCell ⟨g, o, none⟩ v) := block_set h
theorem Blk.far (h : Blk g cs t w) {k : Nat} (hne : g ≠ k) (o : Nat) (v : Value) : Blk g cs t (w.setCell ⟨k, o, none⟩ v) := (Below.heap_setCell w ⟨k, o, none⟩ v g hne).trans h
theorem Blk.new (w : World) (cs : Array Value) (t : TypeId) : Blk w.heap.size cs t (w.alloc (.cells cs t)) := heap_alloc_new w _
theorem Blk.alloc (h : Blk g cs t w) (o : Obj) : Blk g cs t (w.alloc o) := (Below.heap_alloc w o g (lt_of_block h)).trans h
theorem Blk.drewN (h : Blk g cs t w) (n : Nat) : Blk g cs t (w.drewN n) := h
theorem But.alloc {u : World} (h : But b u w) (o : Obj) : But b u (w.alloc o) := h.trans (But.of ((Below.refl _ _).alloc (Nat.le_refl _) o))
theorem But.below_ {u : World} (h : But b u w) (k : Below w.heap.size w w') : But b u w' := h.trans (But.of k)
/-- A store to a block that is newer. -/
theorem But.late {u : World} (h : But b u w) {k : Nat} (hk : u.heap.size ≤ k) (o : Nat) (v : Value) : But b u (w.setCell ⟨k, o, none⟩ v) :=
  ⟨h.os, h.tape, h.output, by have := h.size; simpa [World.setCell] using this, fun g hg hn => (Below.heap_setCell w ⟨k, o, none⟩ v g (by show g ≠ k; omega)).trans (h.block g hg hn)⟩
end


end H
end Go.Proofs.YtnmcgmbhkmfiaaaGreatDoor

namespace Go.Proofs.YtnmcgmbhkmfiaaaGreatDoor
open Go.RowKit
namespace H

/-- The slice v has n elements, whose cells are xs; its block is one of S. -/
def RowAt (S : Nat → Prop) (w : World) (v : Value) (n : Nat) (xs : List Value) : Prop :=
  (v = .slice none 0 0 ∧ n = 0) ∨ ∃ g cap, v = .slice (some ⟨g, 0, none⟩) n cap ∧ 0 < n ∧ S g ∧ g < w.heap.size ∧ ∀ o, o < xs.length → w.cell? ⟨g, o, none⟩ = xs[o]?

/-- All blocks of S are as they were, and lie in S'. -/
def Kept (S S' : Nat → Prop) (w w' : World) : Prop := w.heap.size ≤ w'.heap.size ∧ ∀ g, S g → g < w.heap.size → S' g ∧ w'.heap[g]? = w.heap[g]?

theorem Kept.below {S : Nat → Prop} {w w' : World} (h : Below w.heap.size w w') : Kept S S w w' := ⟨h.size, fun g hg hlt => ⟨hg, h.block g hlt⟩⟩
theorem Kept.but {B b : Nat} {w w' : World} (h : But b w w') (hb : b < B) : Kept (B ≤ ·) (B ≤ ·) w w' := ⟨h.size, fun g hg hlt => ⟨hg, h.block g hlt (by omega)⟩⟩
theorem Kept.late {B B' : Nat} {w : World} (hB : B' ≤ B) : Kept (B ≤ ·) (B' ≤ ·) w w := ⟨Nat.le_refl _, fun g hg _ => ⟨by omega, rfl⟩⟩
theorem Kept.wide {S S' : Nat → Prop} {w : World} (h : ∀ g, S g → S' g) : Kept S S' w w := ⟨Nat.le_refl _, fun g hg _ => ⟨h g hg, rfl⟩⟩
theorem Kept.trans {S S' S'' : Nat → Prop} {u v w : World} (h : Kept S S' u v) (k : Kept S' S'' v w) : Kept S S'' u w :=
  ⟨Nat.le_trans h.1 k.1, fun g hg hlt => by
    obtain ⟨h1, h2⟩ := h.2 g hg hlt
    obtain ⟨k1, k2⟩ := k.2 g h1 (Nat.lt_of_lt_of_le hlt h.1)
    exact ⟨k1, k2.trans h2⟩⟩

theorem Kept.refl {S : Nat → Prop} (w : World) : Kept S S w w := ⟨Nat.le_refl _, fun g hg _ => ⟨hg, rfl⟩⟩
theorem Kept.alloc {S S' : Nat → Prop} {w w' : World} (h : Kept S S' w w') (o : Obj) : Kept S S' w (w'.alloc o) := h.trans (Kept.below ((Below.refl _ _).alloc (Nat.le_refl _) o))
theorem Kept.set {S S' : Nat → Prop} {w w' : World} (h : Kept S S' w w') {k : Nat} (hk : ¬ S' k) (o : Nat) (v : Value) : Kept S S' w (w'.setCell ⟨k, o, none⟩ v) :=
  h.trans ⟨by simp [World.setCell], fun g hg _ => ⟨hg, Below.heap_setCell w' ⟨k, o, none⟩ v g (fun he => hk (by have he : g = k := he; rw [← he]; exact hg))⟩⟩
theorem Kept.six {S S' : Nat → Prop} {w w' : World} (h : Kept S S' w w') {k : Nat} (hk : ¬ S' k) (v0 v1 v2 v3 v4 v5 : Value) :
    Kept S S' w ((((((w'.setCell ⟨k, 0, none⟩ v0).setCell ⟨k, 1, none⟩ v1).setCell ⟨k, 2, none⟩ v2).setCell ⟨k, 3, none⟩ v3).setCell ⟨k, 4, none⟩ v4).setCell ⟨k, 5, none⟩ v5) :=
  (((((h.set hk 0 v0).set hk 1 v1).set hk 2 v2).set hk 3 v3).set hk 4 v4).set hk 5 v5

theorem RowAt.keep {S S' : Nat → Prop} {w w' : World} {v : Value} {n : Nat} {xs : List Value} (h : RowAt S w v n xs) (k : Kept S S' w w') : RowAt S' w' v n xs := by
  rcases h with h | ⟨g, cap, rfl, hn, hS, hlt, hc⟩
  · exact Or.inl h
  · obtain ⟨k1, k2⟩ := k.2 g hS hlt
    exact Or.inr ⟨g, cap, rfl, hn, k1, Nat.lt_of_lt_of_le hlt k.1, fun o ho => (World.cell?_of_block k2).trans (hc o ho)⟩

theorem RowAt.of_own {S : Nat → Prop} {w : World} {base : Nat} {e : TypeId} {size : Nat} {v : Value} {n : Nat} {xs : List Value} (h : w.ownsRow base e size v n xs) (hn : n = 0 → v = .slice none 0 0) (hS : ∀ g, v.ownBlock = some g → base ≤ g → S g) : RowAt S w v n xs := by
  rcases h.2 with ⟨h1, h2⟩ | ⟨g, cap, cur, rfl, hb, hg, _⟩
  · exact Or.inl ⟨h1, h2⟩
  · refine Or.inr ⟨g, cap, rfl, Nat.pos_of_ne_zero (fun h0 => (by cases hn h0)), hS g rfl hb, lt_of_block hg, fun o ho => ?_⟩
    exact h.cellAt o (by rw [← h.1]; exact ho)

/-- A list in memory: each element's cells (c), and what lies behind its own slice (I). -/
def ListAt {α : Type} (c : α → Value → List Value) (I : (Nat → Prop) → World → Value → α → Prop) (S : Nat → Prop) (w : World) (v : Value) (l : List α) : Prop :=
  ∃ ps : List (α × Value), ps.map (·.1) = l ∧ RowAt S w v l.length (ps.flatMap fun p => c p.1 p.2) ∧ ∀ p ∈ ps, I S w p.2 p.1

/-- A list that the call owns, and goes on with. -/
def OwnAt {α : Type} (c : α → Value → List Value) (I : (Nat → Prop) → World → Value → α → Prop) (base : Nat) (e : TypeId) (size : Nat) (w : World) (v : Value) (l : List α) : Prop :=
  ∃ ps : List (α × Value), ps.map (·.1) = l ∧ w.ownsRow base e size v l.length (ps.flatMap fun p => c p.1 p.2) ∧ (∀ p ∈ ps, I (fun k => base ≤ k ∧ v.ownBlock ≠ some k) w p.2 p.1) ∧ (l.length = 0 → v = .slice none 0 0)

def Keeps {α : Type} (I : (Nat → Prop) → World → Value → α → Prop) : Prop := ∀ {S S' : Nat → Prop} {w w' : World} {v : Value} {x : α}, I S w v x → Kept S S' w w' → I S' w' v x

section
variable {α : Type} {c : α → Value → List Value} {I : (Nat → Prop) → World → Value → α → Prop} {S S' : Nat → Prop} {w w' : World} {v : Value} {l : List α} {base size : Nat} {e : TypeId}

theorem ListAt.keep (hI : Keeps I) (h : ListAt c I S w v l) (k : Kept S S' w w') : ListAt c I S' w' v l := by
  obtain ⟨ps, h1, h2, h3⟩ := h
  exact ⟨ps, h1, h2.keep k, fun p hp => hI (h3 p hp) k⟩

theorem ListAt.nil : ListAt c I S w (.slice none 0 0) [] := ⟨[], rfl, Or.inl ⟨rfl, rfl⟩, fun p hp => (by cases hp)⟩

theorem OwnAt.nil : OwnAt c I base e size w (.slice none 0 0) [] := ⟨[], rfl, World.ownsRow_nil _ _ _ _, fun p hp => (by cases hp), fun _ => rfl⟩

theorem OwnAt.list (hI : Keeps I) (h : OwnAt c I base e size w v l) : ListAt c I (base ≤ ·) w v l := by
  obtain ⟨ps, h1, h2, h3, h4⟩ := h
  exact ⟨ps, h1, RowAt.of_own h2 h4 (fun g _ hb => hb), fun p hp => hI (h3 p hp) (Kept.wide (fun g hg => hg.1))⟩

theorem OwnAt.keep (hI : Keeps I) (h : OwnAt c I base e size w v l) (k : Kept (base ≤ ·) (base ≤ ·) w w') : OwnAt c I base e size w' v l := by
  obtain ⟨ps, h1, h2, h3, h4⟩ := h
  refine ⟨ps, h1, ⟨h2.1, ?_⟩, fun p hp => hI (h3 p hp) ⟨k.1, fun g hg hlt => ⟨hg, (k.2 g hg.1 hlt).2⟩⟩, h4⟩
  rcases h2.2 with hn | ⟨g, cap, cur, rfl, hb, hgg, rest⟩
  · exact Or.inl hn
  · exact Or.inr ⟨g, cap, cur, rfl, hb, (k.2 g hb (lt_of_block hgg)).2.trans hgg, rest⟩

theorem OwnAt.form (h : OwnAt c I base e size w v l) : ∃ ao cap, v = .slice ao l.length cap := by
  obtain ⟨ps, h1, h2, h3⟩ := h
  rcases h2.2 with ⟨hv, hn⟩ | ⟨g, cap, cur, rfl, hb, hgg, rest⟩
  · exact ⟨none, 0, by rw [hv, hn]⟩
  · exact ⟨_, cap, rfl⟩

theorem ListAt.form (h : ListAt c I S w v l) : ∃ ao cap, v = .slice ao l.length cap := by
  obtain ⟨ps, h1, h2, h3⟩ := h
  rcases h2 with ⟨hv, hn⟩ | ⟨g, cap, rfl, _⟩
  · exact ⟨none, 0, by rw [hv, hn]⟩
  · exact ⟨_, cap, rfl⟩

/-- One more element, behind an append. -/
theorem OwnAt.append (hI : Keeps I) {g cap : Nat} {x : α} {vx : Value} {u : World} (h1 : ∃ ps : List (α × Value), ps.map (·.1) = l ∧ u.ownsRow base e size (.slice (some ⟨g, 0, none⟩) (l.length + 1) cap) (l.length + 1) ((ps.flatMap fun p => c p.1 p.2) ++ c x vx) ∧ ∀ p ∈ ps, I (fun k => base ≤ k ∧ v.ownBlock ≠ some k) w p.2 p.1)
    (hg : w.grownBy u v.ownBlock) (hat : v.ownBlock = some g ∨ w.heap.size ≤ g) (hx : I (fun k => base ≤ k ∧ v.ownBlock ≠ some k) w vx x) :
    OwnAt c I base e size u (.slice (some ⟨g, 0, none⟩) (l.length + 1) cap) (l ++ [x]) := by
  obtain ⟨ps, h1, h2, h3⟩ := h1
  have hk : Kept (fun k => base ≤ k ∧ v.ownBlock ≠ some k) (fun k => base ≤ k ∧ (Value.slice (some ⟨g, 0, none⟩) (l.length + 1) cap).ownBlock ≠ some k) w u := by
    refine ⟨hg.size, fun k hk hlt => ⟨⟨hk.1, ?_⟩, hg.block k hlt (fun h => hk.2 h.symm)⟩⟩
    intro he
    have he : g = k := by simpa [Value.ownBlock] using he
    subst he
    rcases hat with h | h
    · exact hk.2 h
    · omega
  refine ⟨ps ++ [(x, vx)], by rw [List.map_append, h1]; rfl, ?_, ?_, fun h0 => (by rw [List.length_append] at h0; simp at h0)⟩
  · rw [List.flatMap_append, List.length_append]
    simpa using h2
  · intro p hp
    rcases List.mem_append.1 hp with hp | hp
    · exact hI (h3 p hp) hk
    · obtain rfl : p = (x, vx) := by simpa using hp
      exact hI hx hk

theorem flat_at {β : Type} {f : β → List Value} {size : Nat} (hf : ∀ b, (f b).length = size) : ∀ (ps : List β) (k : Nat) (hk : k < ps.length) (o : Nat), o < size → (ps.flatMap f)[k * size + o]? = (f ps[k])[o]?
  | [], k, hk, o, ho => by simp at hk
  | p :: ps, 0, hk, o, ho => by
    rw [List.flatMap_cons, Nat.zero_mul, Nat.zero_add, List.getElem?_append_left (by rw [hf]; exact ho)]; rfl
  | p :: ps, k + 1, hk, o, ho => by
    have e : (k + 1) * size + o = size + (k * size + o) := by rw [Nat.succ_mul]; omega
    rw [List.flatMap_cons, e, List.getElem?_append_right (by rw [hf]; omega), hf, Nat.add_sub_cancel_left]
    exact flat_at hf ps k (by simpa using hk) o ho

theorem flat_len {β : Type} {f : β → List Value} {size : Nat} (hf : ∀ b, (f b).length = size) : ∀ (ps : List β), (ps.flatMap f).length = ps.length * size
  | [] => by simp
  | p :: ps => by rw [List.flatMap_cons, List.length_append, hf, flat_len hf ps, List.length_cons, Nat.succ_mul]; omega

/-- The cells of an element, and what lies behind it. -/
theorem ListAt.at_ {g n cap : Nat} (hc : ∀ x v, (c x v).length = size) (h : ListAt c I S w (.slice (some ⟨g, 0, none⟩) n cap) l) {k : Nat} (hk : k < l.length) :
    g < w.heap.size ∧ n = l.length ∧ S g ∧ ∃ vk, (∀ o, o < size → w.cell? ⟨g, k * size + o, none⟩ = (c l[k] vk)[o]?) ∧ I S w vk l[k] := by
  obtain ⟨ps, rfl, h2, h3⟩ := h
  have hk' : k < ps.length := by simpa using hk
  rcases h2 with ⟨hv, hn⟩ | ⟨g', cap', hv, hnn, hS, hlt, hcell⟩
  · cases hv
  · simp only [Value.slice.injEq, Option.some.injEq, Addr.mk.injEq, and_true, true_and] at hv
    obtain ⟨rfl, rfl, rfl⟩ := hv
    refine ⟨hlt, rfl, hS, ps[k].2, fun o ho => ?_, by simpa using h3 ps[k] (List.getElem_mem _)⟩
    have hf : ∀ b : α × Value, (c b.1 b.2).length = size := fun b => hc _ _
    rw [hcell _ (by
      rw [flat_len hf]
      have : (k + 1) * size ≤ ps.length * size := Nat.mul_le_mul_right _ hk'
      rw [Nat.succ_mul] at this
      omega), flat_at hf ps k hk' o ho]
    simp

theorem ListAt.none_ {n cap : Nat} (h : ListAt c I S w (.slice none n cap) l) : l = [] := by
  obtain ⟨ps, rfl, h2, h3⟩ := h
  rcases h2 with ⟨hv, hn⟩ | ⟨g', cap', hv, _⟩
  · exact List.eq_nil_of_length_eq_zero hn
  · cases hv

end

theorem keeps_list {α : Type} {c : α → Value → List Value} {I : (Nat → Prop) → World → Value → α → Prop} (hI : Keeps I) : Keeps (fun S w v l => ListAt c I S w v l) := fun h k => ListAt.keep hI h k
theorem keeps_true {α : Type} : Keeps (fun _ _ _ (_ : α) => True) := fun _ _ => trivial

end H
end Go.Proofs.YtnmcgmbhkmfiaaaGreatDoor

namespace Go.Proofs.YtnmcgmbhkmfiaaaGreatDoor
open Go.RowKit
namespace H

def OwnIn {α : Type} (c : α → Value → List Value) (I : (Nat → Prop) → World → Value → α → Prop) (S : Nat → Prop) (base : Nat) (e : TypeId) (size : Nat) (w : World) (v : Value) (l : List α) : Prop :=
  ∃ ps : List (α × Value), ps.map (·.1) = l ∧ w.ownsRow base e size v l.length (ps.flatMap fun p => c p.1 p.2) ∧ (∀ p ∈ ps, I (fun k => S k ∧ v.ownBlock ≠ some k) w p.2 p.1) ∧ (l.length = 0 → v = .slice none 0 0) ∧ ∀ g, v.ownBlock = some g → S g

section
variable {α : Type} {c : α → Value → List Value} {I : (Nat → Prop) → World → Value → α → Prop} {S S' : Nat → Prop} {w w' : World} {v : Value} {l : List α} {base size : Nat} {e : TypeId}

theorem OwnIn.nil : OwnIn c I S base e size w (.slice none 0 0) [] := ⟨[], rfl, World.ownsRow_nil _ _ _ _, fun p hp => (by cases hp), fun _ => rfl, fun g hg => (by cases hg)⟩

theorem OwnIn.list (hI : Keeps I) (h : OwnIn c I S base e size w v l) : ListAt c I S w v l := by
  obtain ⟨ps, h1, h2, h3, h4, h5⟩ := h
  exact ⟨ps, h1, RowAt.of_own h2 h4 (fun g hg _ => h5 g hg), fun p hp => hI (h3 p hp) (Kept.wide (fun g hg => hg.1))⟩

theorem OwnIn.keep (hI : Keeps I) (h : OwnIn c I S base e size w v l) (k : Kept S S w w') : OwnIn c I S base e size w' v l := by
  obtain ⟨ps, h1, h2, h3, h4, h5⟩ := h
  refine ⟨ps, h1, ⟨h2.1, ?_⟩, fun p hp => hI (h3 p hp) ⟨k.1, fun g hg hlt => ⟨hg, (k.2 g hg.1 hlt).2⟩⟩, h4, h5⟩
  rcases h2.2 with hn | ⟨g, cap, cur, rfl, hb, hgg, rest⟩
  · exact Or.inl hn
  · exact Or.inr ⟨g, cap, cur, rfl, hb, (k.2 g (h5 g rfl) (lt_of_block hgg)).2.trans hgg, rest⟩

theorem OwnIn.form (h : OwnIn c I S base e size w v l) : ∃ ao cap, v = .slice ao l.length cap := by
  obtain ⟨ps, h1, h2, h3⟩ := h
  rcases h2.2 with ⟨hv, hn⟩ | ⟨g, cap, cur, rfl, hb, hgg, rest⟩
  · exact ⟨none, 0, by rw [hv, hn]⟩
  · exact ⟨_, cap, rfl⟩

theorem OwnIn.lt (h : OwnIn c I S base e size w v l) {g : Nat} (hg : v.ownBlock = some g) : S g ∧ base ≤ g ∧ g < w.heap.size := by
  obtain ⟨ps, h1, h2, h3, h4, h5⟩ := h
  exact ⟨h5 g hg, h2.lt g hg⟩

/-- One more element, behind an append. -/
theorem OwnIn.append (hI : Keeps I) {g cap : Nat} {x : α} {vx : Value} {u : World} {ps : List (α × Value)} (h1 : ps.map (·.1) = l) (h2 : u.ownsRow base e size (.slice (some ⟨g, 0, none⟩) (l.length + 1) cap) (l.length + 1) ((ps.flatMap fun p => c p.1 p.2) ++ c x vx))
    (h3 : ∀ p ∈ ps, I (fun k => S k ∧ v.ownBlock ≠ some k) w p.2 p.1)
    (hg : w.grownBy u v.ownBlock) (hat : (v.ownBlock = some g ∧ S g) ∨ (w.heap.size ≤ g ∧ S g)) (hx : I (fun k => S k ∧ v.ownBlock ≠ some k) w vx x) :
    OwnIn c I S base e size u (.slice (some ⟨g, 0, none⟩) (l.length + 1) cap) (l ++ [x]) := by
  have hk : Kept (fun k => S k ∧ v.ownBlock ≠ some k) (fun k => S k ∧ (Value.slice (some ⟨g, 0, none⟩) (l.length + 1) cap).ownBlock ≠ some k) w u := by
    refine ⟨hg.size, fun k hk hlt => ⟨⟨hk.1, ?_⟩, hg.block k hlt (fun h => hk.2 h.symm)⟩⟩
    intro he
    have he : g = k := by simpa [Value.ownBlock] using he
    subst he
    rcases hat with h | h
    · exact hk.2 h.1
    · omega
  refine ⟨ps ++ [(x, vx)], by rw [List.map_append, h1]; rfl, ?_, ?_, fun h0 => (by rw [List.length_append] at h0; simp at h0), ?_⟩
  · rw [List.flatMap_append, List.length_append]
    simpa using h2
  · intro p hp
    rcases List.mem_append.1 hp with hp | hp
    · exact hI (h3 p hp) hk
    · obtain rfl : p = (x, vx) := by simpa using hp
      exact hI hx hk
  · intro k hk'
    have he : g = k := by simpa [Value.ownBlock] using hk'
    subst he
    exact hat.elim (·.2) (·.2)

/-- A row that is laid at once with one element. -/
theorem OwnIn.one (w : World) {x : α} {vx : Value} {S : Nat → Prop} (hb : base ≤ w.heap.size) (hs : (c x vx).length = size) (hS : S w.heap.size) (hI : Keeps I) (hx : I (fun k => S k ∧ k < w.heap.size) w vx x) :
    OwnIn c I S base e size (w.alloc (.cells (c x vx).toArray e)) (.slice (some ⟨w.heap.size, 0, none⟩) 1 1) [x] := by
  refine ⟨[(x, vx)], rfl, ?_, ?_, fun h => (by cases h), ?_⟩
  · have := World.ownsRow_lit (e := e) (base := base) (size := size) w (c x vx).toArray 1 hb (by unfold maxLen; omega) (by simpa using hs)
    simpa using this
  · intro p hp
    obtain rfl : p = (x, vx) := by simpa using hp
    refine hI hx ⟨by simp, fun g hg hlt => ⟨⟨hg.1, ?_⟩, Below.heap_alloc w _ g hlt⟩⟩
    intro he
    have he : w.heap.size = g := by simpa [Value.ownBlock] using he
    omega
  · intro g hg
    have he : w.heap.size = g := by simpa [Value.ownBlock] using hg
    rw [← he]; exact hS
end

end H
end Go.Proofs.YtnmcgmbhkmfiaaaGreatDoor
