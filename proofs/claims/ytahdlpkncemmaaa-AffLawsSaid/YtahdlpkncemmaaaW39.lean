/- Walk. Conditions: those that each theorem names. -/
import Derived.Test.YtahdlpkncemmaaaW38
import Derived.Test.YtahdlpkncemmaaaW11
set_option maxRecDepth 100000
set_option maxHeartbeats 8000000
set_option linter.unusedSimpArgs false
set_option linter.unusedVariables false
namespace Go.Proofs.Ytahdlpkncemmaaa
open Go.RowKit Pg
end Go.Proofs.Ytahdlpkncemmaaa
