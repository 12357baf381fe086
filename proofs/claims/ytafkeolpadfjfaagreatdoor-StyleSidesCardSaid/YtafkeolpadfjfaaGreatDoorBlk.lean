/- Blocks whose cells are known, and what keeps them. -/
import Derived.Test.YtafkeolpadfjfaaGreatDoorHeap
set_option linter.unusedVariables false
namespace Go.Proofs.YtafkeolpadfjfaaGreatDoor
open Go.RowKit
namespace H

/-- A block whose cells are known, none of them frozen. -/
def Blk (g : Nat) (cs : Array Value) (t : TypeId) (w : World) : Prop := w.heap[g]? = some (.cells cs t (0, 0))

section
variable {g b : Nat} {cs : Array Value} {t : TypeId} {w w' : World}
theorem Blk.lt (h : Blk g cs t w) : g < w.heap.size := lt_of_block h
theorem Blk.but (h : Blk g cs t w) (hb : But b w w') (hne : g ≠ b) : Blk g cs t w' := (hb.block g (lt_of_block h) hne).trans h
theorem Blk.below (h : Blk g cs t w) (hb : Below w.heap.size w w') : Blk g cs t w' := (hb.block g (lt_of_block h)).trans h
theorem Blk.set (h : Blk g cs t w) (o : Nat) (v : Value) : Blk g (cs.setIfInBounds o v) t (w.setCell ⟨g, o, none⟩ v) := block_set h
theorem Blk.far (h : Blk g cs t w) {k : Nat} (hne : g ≠ k) (o : Nat) (v : Value) : Blk g cs t (w.setCell ⟨k, o, none⟩ v) := (Below.heap_setCell w ⟨k, o, none⟩ v g hne).trans h
theorem Blk.new (w : World) (cs : Array Value) (t : TypeId) : Blk w.heap.size cs t (w.alloc (.cells cs t)) := heap_alloc_new w _
theorem Blk.alloc (h : Blk g cs t w) (o : Obj) : Blk g cs t (w.alloc o) := (Below.heap_alloc w o g (lt_of_block h)).trans h
theorem Blk.drewN (h : Blk g cs t w) (n : Nat) : Blk g cs t (w.drewN n) := h
theorem But.alloc {u : World} (h : But b u w) (o : Obj) : But b u (w.alloc o) := h.trans (But.of ((Below.refl _ _).alloc (Nat.le_refl _) o))
theorem But.below_ {u : World} (h : But b u w) (k : Below w.heap.size w w') : But b u w' := h.trans (But.of k)
/-- A store to a block that is newer. -/
theorem But.late {u : World} (h : But b u w) {k : Nat} (hk : u.heap.size ≤ k) (o : Nat) (v : Value) : But b u (w.setCell ⟨k, o, none⟩ v) :=
  ⟨h.os, h.tape, h.output, by have := h.size; simpa [World.setCell] using this, fun g hg hn => (Below.heap_setCell w ⟨k, o, none⟩ v g (by show g ≠ k; omega)).trans (h.block g hg hn)⟩
end


end H
end Go.Proofs.YtafkeolpadfjfaaGreatDoor
