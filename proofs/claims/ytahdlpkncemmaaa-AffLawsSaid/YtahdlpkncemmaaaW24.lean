/- Walk. Conditions: those that each theorem names. -/
import Derived.Test.YtahdlpkncemmaaaW15
import Derived.Test.YtahdlpkncemmaaaW1
import Derived.Test.YtahdlpkncemmaaaW22
import Derived.Laws.IdiomStrings
set_option maxRecDepth 100000
set_option maxHeartbeats 8000000
set_option linter.unusedSimpArgs false
set_option linter.unusedVariables false
namespace Go.Proofs.Ytahdlpkncemmaaa
open Go.RowKit Pg
def str (l : List UInt8) : ByteArray := ⟨l.toArray⟩
theorem str_size (l : List UInt8) : (str l).size = l.length := by show l.toArray.size = _; simp
theorem add_text (a b : List UInt8) (h : a.length + b.length ≤ 9223372036854775807) (W : World) : (Op.stringOp .add (str a) (str b)).run Try.prog W = .ok (.string (str (a ++ b))) W := by
 rw [run_string_add_sum W _ _ (by rw [str_size, str_size]; exact h)]
 show Result.ok (Value.string (ByteArray.mk a.toArray ++ ByteArray.mk b.toArray)) W = _
 rw [ByteArray.mk_append_mk]; rfl
end Go.Proofs.Ytahdlpkncemmaaa
