/- What an argument's reading says of a sli. Conditions: those that each theorem names. -/
import Derived.Test.YtahdlpkncemmaaaW1
import Derived.OpenShut
set_option maxRecDepth 100000
set_option maxHeartbeats 8000000
set_option linter.unusedSimpArgs false
set_option linter.unusedVariables false
namespace Pg
open Go Go.RowKit
end Pg
