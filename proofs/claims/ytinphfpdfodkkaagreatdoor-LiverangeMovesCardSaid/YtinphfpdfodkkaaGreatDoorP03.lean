/- Texts. -/
import Derived.Test.YtinphfpdfodkkaaGreatDoorP00
import Derived.Test.YtinphfpdfodkkaaGreatDoorProg
import Derived.Shelf.Strings.BuilderK
set_option linter.unusedVariables false
set_option linter.unusedSimpArgs false
set_option maxHeartbeats 8000000
set_option maxRecDepth 100000
namespace Go.Proofs
open Go.Shelf
end Go.Proofs
