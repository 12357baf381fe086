/- A fact under a lid. -/
import Derived.Lib.Hide
namespace Go.Proofs.YtinphfpdfodkkaaGreatDoor
theorem hi_ {p : Prop} (h : p) : Go.RowKit.Hid p := Go.Lib.hid h
end Go.Proofs.YtinphfpdfodkkaaGreatDoor
