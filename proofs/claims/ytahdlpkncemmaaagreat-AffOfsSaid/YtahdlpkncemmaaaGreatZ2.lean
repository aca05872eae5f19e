/- What an argument's reading says of a sli. Conditions: those that each theorem names. -/
import Derived.Test.YtahdlpkncemmaaaGreatZ1
import Derived.OpenShut
namespace Pg
open Go Go.RowKit
end Pg
