/- A fact under a lid. -/
import Derived.Lib.Hide
namespace Go.Proofs.YtinphfpdfodkkaaGreatDoor
theorem hi_ {p : Prop} (h : p) : Go.RowKit.Hid p := Go.Lib.hid h
theorem bt_ {u w w' : World} (h : Go.RowKit.Hid (Go.RowKit.Below u.heap.size u w)) (k : Go.RowKit.Below w.heap.size w w') : Go.RowKit.Hid (Go.RowKit.Below u.heap.size u w') := hi_ (h.out.trans (k.mono h.out.size))
end Go.Proofs.YtinphfpdfodkkaaGreatDoor
