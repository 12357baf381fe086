/- Texts. -/
import Derived.Test.YtinphfpdfodkkaaGreatDoorS25
import Derived.Test.YtinphfpdfodkkaaGreatDoorS08
set_option linter.unusedVariables false
set_option linter.unusedSimpArgs false
set_option maxHeartbeats 8000000
set_option maxRecDepth 100000
namespace Go.Proofs.YtinphfpdfodkkaaGreatDoor
section
open Go.RowKit Go.Sort
namespace R
open H G A
end R
end
end Go.Proofs.YtinphfpdfodkkaaGreatDoor
