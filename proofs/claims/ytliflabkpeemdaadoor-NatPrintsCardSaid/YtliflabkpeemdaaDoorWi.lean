/- Walks: math/bits.Sub32, Add32. Conditions: the types' own ranges. -/
import Derived.Test.YtliflabkpeemdaaDoorWh
import Derived.Test.YtliflabkpeemdaaDoorBitP
import Derived.Test.YtliflabkpeemdaaDoorWdv
namespace Go.Proofs.YtliflabkpeemdaaDoor
open Go.RowKit Pg

end Go.Proofs.YtliflabkpeemdaaDoor
