/- Rationals rounded to so many digits, and. Conditions: those that each theorem names. -/
import Derived.Test.YtahdlpkncemmaaaW18
import Derived.Test.YtahdlpkncemmaaaW0
import Derived.Test.YtahdlpkncemmaaaW22
set_option maxRecDepth 100000
set_option maxHeartbeats 8000000
set_option linter.unusedSimpArgs false
set_option linter.unusedVariables false
namespace Pg
def pad (k : Nat) (l : List UInt8) : List UInt8 := List.replicate (k + 1 - l.length) 48 ++ l
theorem pad_length (k : Nat) (l : List UInt8) : k < (pad k l).length := by
 unfold pad; rw [List.length_append, List.length_replicate]; omega
def stext (b : Bool) : List UInt8 := if b then [45] else []
theorem ten_lt (k : Nat) : 10 ^ k ≤ 4294967296 ^ k := Nat.pow_le_pow_left (by omega) k
theorem length_dtext_pos (N : Nat) : 0 < (dtext N).length := by
 by_cases h : N = 0
 ·subst h; decide
 ·rw [dtext_pos h, List.length_reverse, List.length_map]
  exact List.length_pos_iff.2 (dig_ne_nil h)
end Pg
