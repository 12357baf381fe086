/- Rows in memory: slices whose cells are known, what lies behind them, and what keeps them. -/
import Derived.Test.YtafkeolpadfjfaaGreatDoorBlk
import Derived.Deep.AppendLies
set_option linter.unusedVariables false
set_option linter.unusedSimpArgs false
namespace Go.Proofs.YtafkeolpadfjfaaGreatDoor
open Go.RowKit
namespace H

/-- The slice v has n elements, whose cells are xs; its block is one of S. -/
def RowAt (S : Nat → Prop) (w : World) (v : Value) (n : Nat) (xs : List Value) : Prop :=
  (v = .slice none 0 0 ∧ n = 0) ∨ ∃ g cap, v = .slice (some ⟨g, 0, none⟩) n cap ∧ 0 < n ∧ S g ∧ g < w.heap.size ∧ ∀ o, o < xs.length → w.cell? ⟨g, o, none⟩ = xs[o]?

/-- All blocks of S are as they were, and lie in S'. -/
def Kept (S S' : Nat → Prop) (w w' : World) : Prop := w.heap.size ≤ w'.heap.size ∧ ∀ g, S g → g < w.heap.size → S' g ∧ w'.heap[g]? = w.heap[g]?

theorem Kept.below {S : Nat → Prop} {w w' : World} (h : Below w.heap.size w w') : Kept S S w w' := ⟨h.size, fun g hg hlt => ⟨hg, h.block g hlt⟩⟩
theorem Kept.but {B b : Nat} {w w' : World} (h : But b w w') (hb : b < B) : Kept (B ≤ ·) (B ≤ ·) w w' := ⟨h.size, fun g hg hlt => ⟨hg, h.block g hlt (by omega)⟩⟩
theorem Kept.late {B B' : Nat} {w : World} (hB : B' ≤ B) : Kept (B ≤ ·) (B' ≤ ·) w w := ⟨Nat.le_refl _, fun g hg _ => ⟨by omega, rfl⟩⟩
theorem Kept.wide {S S' : Nat → Prop} {w : World} (h : ∀ g, S g → S' g) : Kept S S' w w := ⟨Nat.le_refl _, fun g hg _ => ⟨h g hg, rfl⟩⟩
theorem Kept.trans {S S' S'' : Nat → Prop} {u v w : World} (h : Kept S S' u v) (k : Kept S' S'' v w) : Kept S S'' u w :=
  ⟨Nat.le_trans h.1 k.1, fun g hg hlt => by
    obtain ⟨h1, h2⟩ := h.2 g hg hlt
    obtain ⟨k1, k2⟩ := k.2 g h1 (Nat.lt_of_lt_of_le hlt h.1)
    exact ⟨k1, k2.trans h2⟩⟩

theorem Kept.refl {S : Nat → Prop} (w : World) : Kept S S w w := ⟨Nat.le_refl _, fun g hg _ => ⟨hg, rfl⟩⟩
theorem Kept.alloc {S S' : Nat → Prop} {w w' : World} (h : Kept S S' w w') (o : Obj) : Kept S S' w (w'.alloc o) := h.trans (Kept.below ((Below.refl _ _).alloc (Nat.le_refl _) o))
theorem Kept.set {S S' : Nat → Prop} {w w' : World} (h : Kept S S' w w') {k : Nat} (hk : ¬ S' k) (o : Nat) (v : Value) : Kept S S' w (w'.setCell ⟨k, o, none⟩ v) :=
  h.trans ⟨by simp [World.setCell], fun g hg _ => ⟨hg, Below.heap_setCell w' ⟨k, o, none⟩ v g (fun he => hk (by have he : g = k := he; rw [← he]; exact hg))⟩⟩
theorem Kept.six {S S' : Nat → Prop} {w w' : World} (h : Kept S S' w w') {k : Nat} (hk : ¬ S' k) (v0 v1 v2 v3 v4 v5 : Value) :
    Kept S S' w ((((((w'.setCell ⟨k, 0, none⟩ v0).setCell ⟨k, 1, none⟩ v1).setCell ⟨k, 2, none⟩ v2).setCell ⟨k, 3, none⟩ v3).setCell ⟨k, 4, none⟩ v4).setCell ⟨k, 5, none⟩ v5) :=
  (((((h.set hk 0 v0).set hk 1 v1).set hk 2 v2).set hk 3 v3).set hk 4 v4).set hk 5 v5

theorem RowAt.keep {S S' : Nat → Prop} {w w' : World} {v : Value} {n : Nat} {xs : List Value} (h : RowAt S w v n xs) (k : Kept S S' w w') : RowAt S' w' v n xs := by
  rcases h with h | ⟨g, cap, rfl, hn, hS, hlt, hc⟩
  · exact Or.inl h
  · obtain ⟨k1, k2⟩ := k.2 g hS hlt
    exact Or.inr ⟨g, cap, rfl, hn, k1, Nat.lt_of_lt_of_le hlt k.1, fun o ho => (World.cell?_of_block k2).trans (hc o ho)⟩

theorem RowAt.of_own {S : Nat → Prop} {w : World} {base : Nat} {e : TypeId} {size : Nat} {v : Value} {n : Nat} {xs : List Value} (h : w.ownsRow base e size v n xs) (hn : n = 0 → v = .slice none 0 0) (hS : ∀ g, v.ownBlock = some g → base ≤ g → S g) : RowAt S w v n xs := by
  rcases h.2 with ⟨h1, h2⟩ | ⟨g, cap, cur, rfl, hb, hg, _⟩
  · exact Or.inl ⟨h1, h2⟩
  · refine Or.inr ⟨g, cap, rfl, Nat.pos_of_ne_zero (fun h0 => (by cases hn h0)), hS g rfl hb, lt_of_block hg, fun o ho => ?_⟩
    exact h.cellAt o (by rw [← h.1]; exact ho)

/-- A list in memory: each element's cells (c), and what lies behind its own slice (I). -/
def ListAt {α : Type} (c : α → Value → List Value) (I : (Nat → Prop) → World → Value → α → Prop) (S : Nat → Prop) (w : World) (v : Value) (l : List α) : Prop :=
  ∃ ps : List (α × Value), ps.map (·.1) = l ∧ RowAt S w v l.length (ps.flatMap fun p => c p.1 p.2) ∧ ∀ p ∈ ps, I S w p.2 p.1

/-- A list that the call owns, and goes on with. -/
def OwnAt {α : Type} (c : α → Value → List Value) (I : (Nat → Prop) → World → Value → α → Prop) (base : Nat) (e : TypeId) (size : Nat) (w : World) (v : Value) (l : List α) : Prop :=
  ∃ ps : List (α × Value), ps.map (·.1) = l ∧ w.ownsRow base e size v l.length (ps.flatMap fun p => c p.1 p.2) ∧ (∀ p ∈ ps, I (fun k => base ≤ k ∧ v.ownBlock ≠ some k) w p.2 p.1) ∧ (l.length = 0 → v = .slice none 0 0)

def Keeps {α : Type} (I : (Nat → Prop) → World → Value → α → Prop) : Prop := ∀ {S S' : Nat → Prop} {w w' : World} {v : Value} {x : α}, I S w v x → Kept S S' w w' → I S' w' v x

section
variable {α : Type} {c : α → Value → List Value} {I : (Nat → Prop) → World → Value → α → Prop} {S S' : Nat → Prop} {w w' : World} {v : Value} {l : List α} {base size : Nat} {e : TypeId}

theorem ListAt.keep (hI : Keeps I) (h : ListAt c I S w v l) (k : Kept S S' w w') : ListAt c I S' w' v l := by
  obtain ⟨ps, h1, h2, h3⟩ := h
  exact ⟨ps, h1, h2.keep k, fun p hp => hI (h3 p hp) k⟩

theorem ListAt.nil : ListAt c I S w (.slice none 0 0) [] := ⟨[], rfl, Or.inl ⟨rfl, rfl⟩, fun p hp => (by cases hp)⟩

theorem OwnAt.nil : OwnAt c I base e size w (.slice none 0 0) [] := ⟨[], rfl, World.ownsRow_nil _ _ _ _, fun p hp => (by cases hp), fun _ => rfl⟩

theorem OwnAt.list (hI : Keeps I) (h : OwnAt c I base e size w v l) : ListAt c I (base ≤ ·) w v l := by
  obtain ⟨ps, h1, h2, h3, h4⟩ := h
  exact ⟨ps, h1, RowAt.of_own h2 h4 (fun g _ hb => hb), fun p hp => hI (h3 p hp) (Kept.wide (fun g hg => hg.1))⟩

theorem OwnAt.keep (hI : Keeps I) (h : OwnAt c I base e size w v l) (k : Kept (base ≤ ·) (base ≤ ·) w w') : OwnAt c I base e size w' v l := by
  obtain ⟨ps, h1, h2, h3, h4⟩ := h
  refine ⟨ps, h1, ⟨h2.1, ?_⟩, fun p hp => hI (h3 p hp) ⟨k.1, fun g hg hlt => ⟨hg, (k.2 g hg.1 hlt).2⟩⟩, h4⟩
  rcases h2.2 with hn | ⟨g, cap, cur, rfl, hb, hgg, rest⟩
  · exact Or.inl hn
  · exact Or.inr ⟨g, cap, cur, rfl, hb, (k.2 g hb (lt_of_block hgg)).2.trans hgg, rest⟩

theorem OwnAt.form (h : OwnAt c I base e size w v l) : ∃ ao cap, v = .slice ao l.length cap := by
  obtain ⟨ps, h1, h2, h3⟩ := h
  rcases h2.2 with ⟨hv, hn⟩ | ⟨g, cap, cur, rfl, hb, hgg, rest⟩
  · exact ⟨none, 0, by rw [hv, hn]⟩
  · exact ⟨_, cap, rfl⟩

theorem ListAt.form (h : ListAt c I S w v l) : ∃ ao cap, v = .slice ao l.length cap := by
  obtain ⟨ps, h1, h2, h3⟩ := h
  rcases h2 with ⟨hv, hn⟩ | ⟨g, cap, rfl, _⟩
  · exact ⟨none, 0, by rw [hv, hn]⟩
  · exact ⟨_, cap, rfl⟩

/-- One more element, behind an append. -/
theorem OwnAt.append (hI : Keeps I) {g cap : Nat} {x : α} {vx : Value} {u : World} (h1 : ∃ ps : List (α × Value), ps.map (·.1) = l ∧ u.ownsRow base e size (.slice (some ⟨g, 0, none⟩) (l.length + 1) cap) (l.length + 1) ((ps.flatMap fun p => c p.1 p.2) ++ c x vx) ∧ ∀ p ∈ ps, I (fun k => base ≤ k ∧ v.ownBlock ≠ some k) w p.2 p.1)
    (hg : w.grownBy u v.ownBlock) (hat : v.ownBlock = some g ∨ w.heap.size ≤ g) (hx : I (fun k => base ≤ k ∧ v.ownBlock ≠ some k) w vx x) :
    OwnAt c I base e size u (.slice (some ⟨g, 0, none⟩) (l.length + 1) cap) (l ++ [x]) := by
  obtain ⟨ps, h1, h2, h3⟩ := h1
  have hk : Kept (fun k => base ≤ k ∧ v.ownBlock ≠ some k) (fun k => base ≤ k ∧ (Value.slice (some ⟨g, 0, none⟩) (l.length + 1) cap).ownBlock ≠ some k) w u := by
    refine ⟨hg.size, fun k hk hlt => ⟨⟨hk.1, ?_⟩, hg.block k hlt (fun h => hk.2 h.symm)⟩⟩
    intro he
    have he : g = k := by simpa [Value.ownBlock] using he
    subst he
    rcases hat with h | h
    · exact hk.2 h
    · omega
  refine ⟨ps ++ [(x, vx)], by rw [List.map_append, h1]; rfl, ?_, ?_, fun h0 => (by rw [List.length_append] at h0; simp at h0)⟩
  · rw [List.flatMap_append, List.length_append]
    simpa using h2
  · intro p hp
    rcases List.mem_append.1 hp with hp | hp
    · exact hI (h3 p hp) hk
    · obtain rfl : p = (x, vx) := by simpa using hp
      exact hI hx hk

theorem flat_at {β : Type} {f : β → List Value} {size : Nat} (hf : ∀ b, (f b).length = size) : ∀ (ps : List β) (k : Nat) (hk : k < ps.length) (o : Nat), o < size → (ps.flatMap f)[k * size + o]? = (f ps[k])[o]?
  | [], k, hk, o, ho => by simp at hk
  | p :: ps, 0, hk, o, ho => by
    rw [List.flatMap_cons, Nat.zero_mul, Nat.zero_add, List.getElem?_append_left (by rw [hf]; exact ho)]; rfl
  | p :: ps, k + 1, hk, o, ho => by
    have e : (k + 1) * size + o = size + (k * size + o) := by rw [Nat.succ_mul]; omega
    rw [List.flatMap_cons, e, List.getElem?_append_right (by rw [hf]; omega), hf, Nat.add_sub_cancel_left]
    exact flat_at hf ps k (by simpa using hk) o ho

theorem flat_len {β : Type} {f : β → List Value} {size : Nat} (hf : ∀ b, (f b).length = size) : ∀ (ps : List β), (ps.flatMap f).length = ps.length * size
  | [] => by simp
  | p :: ps => by rw [List.flatMap_cons, List.length_append, hf, flat_len hf ps, List.length_cons, Nat.succ_mul]; omega

/-- The cells of an element, and what lies behind it. -/
theorem ListAt.at_ {g n cap : Nat} (hc : ∀ x v, (c x v).length = size) (h : ListAt c I S w (.slice (some ⟨g, 0, none⟩) n cap) l) {k : Nat} (hk : k < l.length) :
    g < w.heap.size ∧ n = l.length ∧ S g ∧ ∃ vk, (∀ o, o < size → w.cell? ⟨g, k * size + o, none⟩ = (c l[k] vk)[o]?) ∧ I S w vk l[k] := by
  obtain ⟨ps, rfl, h2, h3⟩ := h
  have hk' : k < ps.length := by simpa using hk
  rcases h2 with ⟨hv, hn⟩ | ⟨g', cap', hv, hnn, hS, hlt, hcell⟩
  · cases hv
  · simp only [Value.slice.injEq, Option.some.injEq, Addr.mk.injEq, and_true, true_and] at hv
    obtain ⟨rfl, rfl, rfl⟩ := hv
    refine ⟨hlt, rfl, hS, ps[k].2, fun o ho => ?_, by simpa using h3 ps[k] (List.getElem_mem _)⟩
    have hf : ∀ b : α × Value, (c b.1 b.2).length = size := fun b => hc _ _
    rw [hcell _ (by
      rw [flat_len hf]
      have : (k + 1) * size ≤ ps.length * size := Nat.mul_le_mul_right _ hk'
      rw [Nat.succ_mul] at this
      omega), flat_at hf ps k hk' o ho]
    simp

theorem ListAt.none_ {n cap : Nat} (h : ListAt c I S w (.slice none n cap) l) : l = [] := by
  obtain ⟨ps, rfl, h2, h3⟩ := h
  rcases h2 with ⟨hv, hn⟩ | ⟨g', cap', hv, _⟩
  · exact List.eq_nil_of_length_eq_zero hn
  · cases hv

end

theorem keeps_list {α : Type} {c : α → Value → List Value} {I : (Nat → Prop) → World → Value → α → Prop} (hI : Keeps I) : Keeps (fun S w v l => ListAt c I S w v l) := fun h k => ListAt.keep hI h k
theorem keeps_true {α : Type} : Keeps (fun _ _ _ (_ : α) => True) := fun _ _ => trivial

end H
end Go.Proofs.YtafkeolpadfjfaaGreatDoor
