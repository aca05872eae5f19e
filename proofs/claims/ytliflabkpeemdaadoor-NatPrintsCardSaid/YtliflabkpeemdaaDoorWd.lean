/- Walks: nat.left, nat.Shift. Conditions: rows of at most 2^30 limbs. -/
import Derived.Test.YtliflabkpeemdaaDoorWknown
import Derived.Test.YtliflabkpeemdaaDoorShP
namespace Go.Proofs.YtliflabkpeemdaaDoor
open Go.RowKit Pg

/-- A new block holds the limbs cs; nothing that was there has turned. -/
def Made (w : World) (t : TypeId) (N : Nat) (P : List Nat → Prop) (e : Ending) (w' : World) : Prop :=
  ∃ g cs, e = .returned (.slice (some ⟨g, 0, none⟩) N N) ∧ Hid (cs.length = N) ∧ P cs ∧ Blk w' g t cs ∧ w.heap.size ≤ g ∧ Below w.heap.size w w'

end Go.Proofs.YtliflabkpeemdaaDoor
