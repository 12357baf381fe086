/- A fact under a lid. -/
import Derived.Lib.Hide
namespace Go.Proofs.YtinphfpdfodkkaaGreatDoor
theorem bn_ {α : Type} [BEq α] [LawfulBEq α] {a b : α} (h : a ≠ b) : (a == b) = false := beq_eq_false_iff_ne.2 h
theorem nl_ {n : Nat} : n ≤ n := Nat.le_refl n
theorem br_ {B : Nat} {w : Go.World} : Go.RowKit.Below B w w := Go.RowKit.Below.refl _ _
def Hd (p : Prop) : Prop := p
theorem Hd.o {p : Prop} (h : Hd p) : p := h
theorem Hd.out {p : Prop} (h : Hd p) : p := h
theorem hi_ {p : Prop} (h : p) : Hd p := h
theorem bt_ {u w w' : World} (h : Hd (Go.RowKit.Below u.heap.size u w)) (k : Go.RowKit.Below w.heap.size w w') : Hd (Go.RowKit.Below u.heap.size u w') := hi_ (h.o.trans (k.mono h.o.size))
end Go.Proofs.YtinphfpdfodkkaaGreatDoor
