/- Walks: pantographref1.Cmp. Conditions: rows of at most 2^30 limbs. -/
import Derived.Test.YtliflabkpeemdaaDoorWi
namespace Go.Proofs.YtliflabkpeemdaaDoor
open Go.RowKit Pg

end Go.Proofs.YtliflabkpeemdaaDoor
