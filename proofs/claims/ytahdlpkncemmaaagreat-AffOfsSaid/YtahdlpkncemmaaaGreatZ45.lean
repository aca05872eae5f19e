/- Walk. Conditions: those that each theorem names. -/
import Derived.Test.YtahdlpkncemmaaaGreatZ44
import Derived.Test.YtahdlpkncemmaaaGreatZ11
namespace Go.Proofs.YtahdlpkncemmaaaGreat
open Go.RowKit Pg
end Go.Proofs.YtahdlpkncemmaaaGreat
