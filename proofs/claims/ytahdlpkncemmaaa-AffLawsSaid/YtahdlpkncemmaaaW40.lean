/- Walks. Conditions: those that each theorem names. -/
import Derived.Test.YtahdlpkncemmaaaW28
import Derived.Test.YtahdlpkncemmaaaW39
set_option maxRecDepth 100000
set_option maxHeartbeats 8000000
set_option linter.unusedSimpArgs false
set_option linter.unusedVariables false
namespace Go.Proofs.Ytahdlpkncemmaaa
open Go.RowKit Pg
theorem index_str (l : List UInt8) (j : Nat) (c : UInt8) (h : l[j]? = some c) (z : Int) (hz : z = (j : Int)) (W : World) : (Instr.index 9 (.string (str l)) (.int .i64 z)).run Try.prog W = .ok (.int .u8 (c.toNat : Int)) W := by
 subst hz
 have hj := (List.getElem?_eq_some_iff.1 h).1
 rw [run_index_string W _ _ _ _ Try.underlying9]
 have hs := str_size l
 have hc : l[j] = c := by rw [List.getElem?_eq_getElem hj] at h; exact Option.some.inj h
 have : (str l)[j]'(by omega) = c := by rw [← hc]; rfl
 simp [hs, hj, this]
end Go.Proofs.Ytahdlpkncemmaaa
