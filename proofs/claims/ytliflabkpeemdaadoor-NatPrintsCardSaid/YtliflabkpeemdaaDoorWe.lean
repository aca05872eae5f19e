/- Walk: nat.Shift. Conditions: rows of at most 2^30 limbs. -/
import Derived.Test.YtliflabkpeemdaaDoorWd
import Derived.Deep.RegionWith
import Derived.Laws.CopyOwn
namespace Go.Proofs.YtliflabkpeemdaaDoor
open Go.RowKit Pg

/-- How far a shift goes. -/
def clampD (d : Int) : Int := if 4096 < (if d < -4096 then -4096 else d) then 4096 else (if d < -4096 then -4096 else d)
theorem clampD_bd (d : Int) : -4096 ≤ clampD d ∧ clampD d ≤ 4096 := by unfold clampD; split <;> split at * <;> omega

theorem size32 : (Tryd.prog.info? 33).map (·.size) = some 1 := by kernel_rfl

end Go.Proofs.YtliflabkpeemdaaDoor
