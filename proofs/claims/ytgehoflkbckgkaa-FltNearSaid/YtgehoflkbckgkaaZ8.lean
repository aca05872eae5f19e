/- Walks: nat.Add, nat.Mul · Walk: the laws' known. Conditions: those that each theorem names. -/
import Derived.Test.YtgehoflkbckgkaaZ7
import Derived.Test.YtgehoflkbckgkaaZ1
import Derived.Deep.DeepCutAuto
namespace Go.Proofs.Ytgehoflkbckgkaa
open Go.RowKit Pg

end Go.Proofs.Ytgehoflkbckgkaa
namespace Go.Proofs.Ytgehoflkbckgkaa
open Go.RowKit Pg

theorem known_num : limbs (val [4294967295] * val [2]) = [4294967294, 1] := by
  have h := limbs_val (xs := [4294967294, 1]) (ok_cons.2 ⟨by omega, ok_cons.2 ⟨by omega, ok_nil⟩⟩) (by simp [Trimmed])
  rw [← h]
  rfl

/-! The contracts with their numbers by name: for rows of calls. -/
theorem limbs_le {N k : Nat} (hN : N < 4294967296 ^ k) (hk : k ≤ 1073741824) : (limbs N).length ≤ 1073741824 := Nat.le_trans (length_limbs_le hN) hk
theorem val_lt_of {w : World} {A : Option Addr} {n c : Nat} {xs : List Nat} (h : Row w A n c xs) {k : Nat} (hk : n ≤ k) : val xs < 4294967296 ^ k :=
  Nat.lt_of_lt_of_le (val_lt h.ok) (by rw [h.len]; exact Nat.pow_le_pow_right (by omega) hk)
theorem mul_lt_pow {a b i j : Nat} (ha : a < 4294967296 ^ i) (hb : b < 4294967296 ^ j) : a * b < 4294967296 ^ (i + j) := by
  rw [Nat.pow_add]
  exact Nat.mul_lt_mul_of_lt_of_le ha (Nat.le_of_lt hb) (by omega)
theorem add_lt_pow {a b i : Nat} (ha : a < 4294967296 ^ i) (hb : b < 4294967296 ^ i) : a + b < 4294967296 ^ (i + 1) := by
  rw [Nat.pow_succ]; omega
end Go.Proofs.Ytgehoflkbckgkaa
