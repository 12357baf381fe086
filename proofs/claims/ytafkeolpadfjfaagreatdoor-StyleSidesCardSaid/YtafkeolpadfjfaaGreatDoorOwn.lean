/- A list that the call owns beside blocks of its own: its blocks are those of S. -/
import Derived.Test.YtafkeolpadfjfaaGreatDoorRow
set_option linter.unusedVariables false
set_option linter.unusedSimpArgs false
namespace Go.Proofs.YtafkeolpadfjfaaGreatDoor
open Go.RowKit
namespace H

def OwnIn {α : Type} (c : α → Value → List Value) (I : (Nat → Prop) → World → Value → α → Prop) (S : Nat → Prop) (base : Nat) (e : TypeId) (size : Nat) (w : World) (v : Value) (l : List α) : Prop :=
  ∃ ps : List (α × Value), ps.map (·.1) = l ∧ w.ownsRow base e size v l.length (ps.flatMap fun p => c p.1 p.2) ∧ (∀ p ∈ ps, I (fun k => S k ∧ v.ownBlock ≠ some k) w p.2 p.1) ∧ (l.length = 0 → v = .slice none 0 0) ∧ ∀ g, v.ownBlock = some g → S g

section
variable {α : Type} {c : α → Value → List Value} {I : (Nat → Prop) → World → Value → α → Prop} {S S' : Nat → Prop} {w w' : World} {v : Value} {l : List α} {base size : Nat} {e : TypeId}

theorem OwnIn.nil : OwnIn c I S base e size w (.slice none 0 0) [] := ⟨[], rfl, World.ownsRow_nil _ _ _ _, fun p hp => (by cases hp), fun _ => rfl, fun g hg => (by cases hg)⟩

theorem OwnIn.list (hI : Keeps I) (h : OwnIn c I S base e size w v l) : ListAt c I S w v l := by
  obtain ⟨ps, h1, h2, h3, h4, h5⟩ := h
  exact ⟨ps, h1, RowAt.of_own h2 h4 (fun g hg _ => h5 g hg), fun p hp => hI (h3 p hp) (Kept.wide (fun g hg => hg.1))⟩

theorem OwnIn.keep (hI : Keeps I) (h : OwnIn c I S base e size w v l) (k : Kept S S w w') : OwnIn c I S base e size w' v l := by
  obtain ⟨ps, h1, h2, h3, h4, h5⟩ := h
  refine ⟨ps, h1, ⟨h2.1, ?_⟩, fun p hp => hI (h3 p hp) ⟨k.1, fun g hg hlt => ⟨hg, (k.2 g hg.1 hlt).2⟩⟩, h4, h5⟩
  rcases h2.2 with hn | ⟨g, cap, cur, rfl, hb, hgg, rest⟩
  · exact Or.inl hn
  · exact Or.inr ⟨g, cap, cur, rfl, hb, (k.2 g (h5 g rfl) (lt_of_block hgg)).2.trans hgg, rest⟩

theorem OwnIn.form (h : OwnIn c I S base e size w v l) : ∃ ao cap, v = .slice ao l.length cap := by
  obtain ⟨ps, h1, h2, h3⟩ := h
  rcases h2.2 with ⟨hv, hn⟩ | ⟨g, cap, cur, rfl, hb, hgg, rest⟩
  · exact ⟨none, 0, by rw [hv, hn]⟩
  · exact ⟨_, cap, rfl⟩

theorem OwnIn.lt (h : OwnIn c I S base e size w v l) {g : Nat} (hg : v.ownBlock = some g) : S g ∧ base ≤ g ∧ g < w.heap.size := by
  obtain ⟨ps, h1, h2, h3, h4, h5⟩ := h
  exact ⟨h5 g hg, h2.lt g hg⟩

/-- One more element, behind an append. -/
theorem OwnIn.append (hI : Keeps I) {g cap : Nat} {x : α} {vx : Value} {u : World} {ps : List (α × Value)} (h1 : ps.map (·.1) = l) (h2 : u.ownsRow base e size (.slice (some ⟨g, 0, none⟩) (l.length + 1) cap) (l.length + 1) ((ps.flatMap fun p => c p.1 p.2) ++ c x vx))
    (h3 : ∀ p ∈ ps, I (fun k => S k ∧ v.ownBlock ≠ some k) w p.2 p.1)
    (hg : w.grownBy u v.ownBlock) (hat : (v.ownBlock = some g ∧ S g) ∨ (w.heap.size ≤ g ∧ S g)) (hx : I (fun k => S k ∧ v.ownBlock ≠ some k) w vx x) :
    OwnIn c I S base e size u (.slice (some ⟨g, 0, none⟩) (l.length + 1) cap) (l ++ [x]) := by
  have hk : Kept (fun k => S k ∧ v.ownBlock ≠ some k) (fun k => S k ∧ (Value.slice (some ⟨g, 0, none⟩) (l.length + 1) cap).ownBlock ≠ some k) w u := by
    refine ⟨hg.size, fun k hk hlt => ⟨⟨hk.1, ?_⟩, hg.block k hlt (fun h => hk.2 h.symm)⟩⟩
    intro he
    have he : g = k := by simpa [Value.ownBlock] using he
    subst he
    rcases hat with h | h
    · exact hk.2 h.1
    · omega
  refine ⟨ps ++ [(x, vx)], by rw [List.map_append, h1]; rfl, ?_, ?_, fun h0 => (by rw [List.length_append] at h0; simp at h0), ?_⟩
  · rw [List.flatMap_append, List.length_append]
    simpa using h2
  · intro p hp
    rcases List.mem_append.1 hp with hp | hp
    · exact hI (h3 p hp) hk
    · obtain rfl : p = (x, vx) := by simpa using hp
      exact hI hx hk
  · intro k hk'
    have he : g = k := by simpa [Value.ownBlock] using hk'
    subst he
    exact hat.elim (·.2) (·.2)

/-- A row that is laid at once with one element. -/
theorem OwnIn.one (w : World) {x : α} {vx : Value} {S : Nat → Prop} (hb : base ≤ w.heap.size) (hs : (c x vx).length = size) (hS : S w.heap.size) (hI : Keeps I) (hx : I (fun k => S k ∧ k < w.heap.size) w vx x) :
    OwnIn c I S base e size (w.alloc (.cells (c x vx).toArray e)) (.slice (some ⟨w.heap.size, 0, none⟩) 1 1) [x] := by
  refine ⟨[(x, vx)], rfl, ?_, ?_, fun h => (by cases h), ?_⟩
  · have := World.ownsRow_lit (e := e) (base := base) (size := size) w (c x vx).toArray 1 hb (by unfold maxLen; omega) (by simpa using hs)
    simpa using this
  · intro p hp
    obtain rfl : p = (x, vx) := by simpa using hp
    refine hI hx ⟨by simp, fun g hg hlt => ⟨⟨hg.1, ?_⟩, Below.heap_alloc w _ g hlt⟩⟩
    intro he
    have he : w.heap.size = g := by simpa [Value.ownBlock] using he
    omega
  · intro g hg
    have he : w.heap.size = g := by simpa [Value.ownBlock] using hg
    rw [← he]; exact hS
end

end H
end Go.Proofs.YtafkeolpadfjfaaGreatDoor
