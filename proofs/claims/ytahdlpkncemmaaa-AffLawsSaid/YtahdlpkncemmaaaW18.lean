/- The nearest number of 64 bits · The nearest number of 64 bits, by the tw. Conditions: those that each theorem names. -/
import Derived.Test.YtahdlpkncemmaaaW12
import Ieee.Arith
set_option maxRecDepth 100000
set_option maxHeartbeats 8000000
set_option linter.unusedSimpArgs false
set_option linter.unusedVariables false
namespace Pg
def rnd (n d : Nat) : Nat := n / d + (if d < 2 * (n % d) ∨ (d = 2 * (n % d) ∧ n / d % 2 = 1) then 1 else 0)
def fk (n D : Nat) : Nat := if n / D < 9007199254740992 then 0 else blen (n / D) - 53
def frung (N D : Nat) : Nat := min (fk (N * 2 ^ 1074) D * 4503599627370496 + rnd (N * 2 ^ 1074) (D * 2 ^ fk (N * 2 ^ 1074) D)) 9218868437227405312
end Pg
namespace Pg
structure Place (N D k u : Nat) : Prop where
 q_lt : N * 2 ^ (1074 - k) / (D * 2 ^ (k - 1074)) < 9007199254740992
 u_le : u ≤ 9007199254740992
 norm : k = 0 ∨ 4503599627370496 ≤ N * 2 ^ (1074 - k) / (D * 2 ^ (k - 1074))
 unorm : k = 0 ∨ 4503599627370496 ≤ u
 kept : u = rnd (N * 2 ^ (1074 - k)) (D * 2 ^ (k - 1074))
 rung : frung N D = min (k * 4503599627370496 + u) 9218868437227405312
end Pg
