/- Walks: nat.Add, nat.Mul. Conditions: rows of at most 2^30 limbs. -/
import Derived.Test.YtgehoflkbckgkaaWb
import Derived.Test.YtgehoflkbckgkaaAddP
import Derived.Deep.DeepCutAuto
namespace Go.Proofs.Ytgehoflkbckgkaa
open Go.RowKit Pg

end Go.Proofs.Ytgehoflkbckgkaa
