/- A fact under a lid. -/
import Derived.Lib.Hide
namespace Go.Proofs.YtinphfpdfodkkaaGreatDoor
theorem bn_ {α : Type} [BEq α] [LawfulBEq α] {a b : α} (h : a ≠ b) : (a == b) = false := beq_eq_false_iff_ne.2 h
theorem nl_ {n : Nat} : n ≤ n := Nat.le_refl n
theorem br_ {B : Nat} {w : Go.World} : Go.RowKit.Below B w w := Go.RowKit.Below.refl _ _
theorem hi_ {p : Prop} (h : p) : Go.RowKit.Hid p := Go.Lib.hid h
theorem bt_ {u w w' : World} (h : Go.RowKit.Hid (Go.RowKit.Below u.heap.size u w)) (k : Go.RowKit.Below w.heap.size w w') : Go.RowKit.Hid (Go.RowKit.Below u.heap.size u w') := hi_ (h.out.trans (k.mono h.out.size))
end Go.Proofs.YtinphfpdfodkkaaGreatDoor
