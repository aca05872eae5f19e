/- Walk. Conditions: those that each theorem names. -/
import Derived.Test.YtahdlpkncemmaaaW6
import Derived.Test.YtahdlpkncemmaaaW22
import Derived.Test.YtahdlpkncemmaaaW1
import Derived.Test.YtahdlpkncemmaaaW26
set_option maxRecDepth 100000
set_option maxHeartbeats 8000000
set_option linter.unusedSimpArgs false
set_option linter.unusedVariables false
namespace Go.Proofs.Ytahdlpkncemmaaa
open Go.RowKit Pg
theorem isEmpty_of (s : ByteArray) (h : 0 < s.size) : s.toList.isEmpty = false := by
 rw [Lib.toList_data]
 cases hh : s.data.toList with
 | nil => have := Lib.size_eq s; rw [hh, List.length_nil] at this; omega
 | cons _ _ => rfl
end Go.Proofs.Ytahdlpkncemmaaa
