/- Division bit by bit: plain mathematics of the loop. Conditions: none. -/
import Derived.Test.YtgehoflkbckgkaaLongP
namespace Pg
open Go

/-- One bit of a division. -/
theorem bit_step {x b k : Nat} (hb : 0 < b) (t : Nat) (ht : t = 2 * (x / 2 ^ (k + 1) % b) + x / 2 ^ k % 2) :
    t < 2 * b ∧ (t < b → x / 2 ^ k % b = t ∧ x / 2 ^ k / b = 2 * (x / 2 ^ (k + 1) / b)) ∧ (b ≤ t → x / 2 ^ k % b = t - b ∧ x / 2 ^ k / b = 2 * (x / 2 ^ (k + 1) / b) + 1) := by
  have e1 : x / 2 ^ (k + 1) = x / 2 ^ k / 2 := by rw [Nat.pow_succ, Nat.div_div_eq_div_mul]
  rw [e1] at ht ⊢
  generalize x / 2 ^ k = X at *
  have hr := Nat.mod_lt (X / 2) hb
  have hd := Nat.div_add_mod (X / 2) b
  generalize X / 2 % b = r at *
  generalize X / 2 / b = Q at *
  have hX : X = b * (2 * Q) + t := by
    have : b * (2 * Q) = 2 * (b * Q) := by rw [← Nat.mul_assoc, Nat.mul_comm b 2, Nat.mul_assoc]
    omega
  refine ⟨by omega, fun h => ?_, fun h => ?_⟩
  · rw [hX]
    exact ⟨by rw [Nat.mul_add_mod, Nat.mod_eq_of_lt h], by rw [Nat.mul_add_div hb, Nat.div_eq_of_lt h, Nat.add_zero]⟩
  · have hX2 : X = b * (2 * Q + 1) + (t - b) := by rw [Nat.mul_add, Nat.mul_one]; omega
    rw [hX2]
    have h2 : t - b < b := by omega
    exact ⟨by rw [Nat.mul_add_mod, Nat.mod_eq_of_lt h2], by rw [Nat.mul_add_div hb, Nat.div_eq_of_lt h2, Nat.add_zero]⟩

theorem limbs_double {R b t : Nat} (h : R < b) (ht : t ≤ 2 * R + 1) : (limbs t).length ≤ (limbs b).length + 1 :=
  length_limbs_le (by rw [Nat.pow_succ]; have := lt_pow_length b; omega)

theorem pow_split {i : Nat} : 2 ^ i = 4294967296 ^ (i / 32) * 2 ^ (i % 32) := by
  rw [base_pow, ← Nat.pow_add]; congr 1; omega

/-- A bit of a number, out of its limb. -/
theorem bit_limb {xs : List Nat} (h : Ok xs) (i : Nat) : lim xs (i / 32) / 2 ^ (i % 32) % 2 = val xs / 2 ^ i % 2 := by
  have hs : i % 32 < 32 := Nat.mod_lt _ (by omega)
  rw [pow_split (i := i), ← Nat.div_div_eq_div_mul, val_div_pow h, val_drop_cons]
  generalize i % 32 = s at *
  generalize lim xs (i / 32) = l
  generalize val (xs.drop (i / 32 + 1)) = v
  have e : 4294967296 = 2 ^ s * (2 * 2 ^ (31 - s)) := by
    rw [← Nat.mul_assoc, Nat.mul_comm (2 ^ s) 2, Nat.mul_assoc, ← Nat.pow_add, show s + (31 - s) = 31 by omega]
  rw [e, Nat.mul_assoc, Nat.add_mul_div_left _ _ (Nat.two_pow_pos s), Nat.mul_assoc, Nat.add_mul_mod_self_left]

/-- What the quotient's bits keep: so many low bits are nought. -/
theorem or_bit {cs : List Nat} (h : Ok cs) {i Q : Nat} (hv : val cs = Q * 2 ^ (i + 1)) (hi : i / 32 < cs.length) :
    (lim cs (i / 32) ||| 2 ^ (i % 32)) = lim cs (i / 32) + 2 ^ (i % 32) ∧ lim cs (i / 32) + 2 ^ (i % 32) < 4294967296 ∧
      val (cs.set (i / 32) (lim cs (i / 32) + 2 ^ (i % 32))) = (2 * Q + 1) * 2 ^ i := by
  have hs : i % 32 < 32 := Nat.mod_lt _ (by omega)
  have hl := lim_lt h (i / 32)
  have hd : lim cs (i / 32) % 2 ^ (i % 32 + 1) = 0 := by
    have e0 := val_div_pow h (i / 32)
    have e1 : 2 ^ (i + 1) = 4294967296 ^ (i / 32) * 2 ^ (i % 32 + 1) := by
      rw [base_pow, ← Nat.pow_add]; congr 1; omega
    have e2 : val cs / 4294967296 ^ (i / 32) = 2 ^ (i % 32 + 1) * Q := by
      rw [hv, e1]
      rw [show Q * (4294967296 ^ (i / 32) * 2 ^ (i % 32 + 1)) = 4294967296 ^ (i / 32) * (2 ^ (i % 32 + 1) * Q) by ac_rfl]
      exact Nat.mul_div_cancel_left _ (Nat.pow_pos (by omega))
    rw [e2, val_drop_cons] at e0
    have e3 : 4294967296 = 2 ^ (i % 32 + 1) * 2 ^ (31 - i % 32) := by
      rw [← Nat.pow_add, show i % 32 + 1 + (31 - i % 32) = 32 by omega]
    have e4 : (2 ^ (i % 32 + 1) * Q) % 2 ^ (i % 32 + 1) = 0 := Nat.mul_mod_right _ _
    rw [e0] at e4
    generalize val (cs.drop (i / 32 + 1)) = v at e4
    rw [show 4294967296 * v = 2 ^ (i % 32 + 1) * (2 ^ (31 - i % 32) * v) by rw [← Nat.mul_assoc, ← e3], Nat.add_mul_mod_self_left] at e4
    exact e4
  have hm := Nat.div_add_mod (lim cs (i / 32)) (2 ^ (i % 32 + 1))
  rw [hd, Nat.add_zero] at hm
  have hp : 2 ^ (i % 32) < 2 ^ (i % 32 + 1) := by rw [Nat.pow_succ]; have := Nat.two_pow_pos (i % 32); omega
  have hor : (lim cs (i / 32) ||| 2 ^ (i % 32)) = lim cs (i / 32) + 2 ^ (i % 32) := by
    have := Nat.shiftLeft_add_eq_or_of_lt hp (lim cs (i / 32) / 2 ^ (i % 32 + 1))
    rw [Nat.shiftLeft_eq, Nat.mul_comm, hm] at this
    exact this.symm
  refine ⟨hor, ?_, ?_⟩
  · rw [← hor]
    exact Nat.or_lt_two_pow (n := 32) hl (Nat.pow_lt_pow_right (by omega) hs)
  · have e5 := val_set' (lim cs (i / 32) + 2 ^ (i % 32)) hi
    have e6 : (2 * Q + 1) * 2 ^ i = Q * 2 ^ (i + 1) + 2 ^ i := by rw [Nat.pow_succ, Nat.add_mul, Nat.one_mul]; congr 1; ac_rfl
    rw [Nat.mul_add, hv] at e5
    rw [e6, pow_split (i := i)]
    rw [pow_split (i := i + 1)] at e5 ⊢
    omega
end Pg
