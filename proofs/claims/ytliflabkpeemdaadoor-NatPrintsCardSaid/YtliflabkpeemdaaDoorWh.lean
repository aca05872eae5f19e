/- Walks: nat.Cmp, pantographref1.Cmp. Conditions: rows of at most 2^30 limbs. -/
import Derived.Test.YtliflabkpeemdaaDoorWg
import Derived.Test.YtliflabkpeemdaaDoorCmpP
namespace Go.Proofs.YtliflabkpeemdaaDoor
open Go.RowKit Pg

end Go.Proofs.YtliflabkpeemdaaDoor
