/- Rationals rounded to so many digits, and as text with a point: plain. Conditions: those that each theorem names. -/
import Derived.Test.YtbhieajpodnfpaaGreatZ20
import Derived.Test.YtbhieajpodnfpaaGreatZ0
import Derived.Test.YtbhieajpodnfpaaGreatZ25
namespace Pg
/-- The nearest whole number of units of 10^-k, without a sign; half to even. -/
def unitsN (q : Rat) (k : Nat) : Nat := rnd (rnum q * 10 ^ k) q.den
/-- The nearest number of k digits behind the point. -/
def roundQ (q : Rat) (k : Nat) : Rat := rv (rneg q) (unitsN q k) (10 ^ k)
/-- Digits, at least k and one. -/
def pad (k : Nat) (l : List UInt8) : List UInt8 := List.replicate (k + 1 - l.length) 48 ++ l
theorem pad_length (k : Nat) (l : List UInt8) : k < (pad k l).length := by
  unfold pad; rw [List.length_append, List.length_replicate]; omega
/-- A whole number of units of 10^-k, with a point. -/
def ptext (N k : Nat) : List UInt8 := if k = 0 then dtext N else (pad k (dtext N)).take ((pad k (dtext N)).length - k) ++ 46 :: (pad k (dtext N)).drop ((pad k (dtext N)).length - k)
def stext (b : Bool) : List UInt8 := if b then [45] else []
/-- The text of a rational with just k digits behind the point. -/
def fixedT (q : Rat) (k : Nat) : List UInt8 := stext (rneg q && decide (0 < unitsN q k)) ++ ptext (unitsN q k) k
theorem pad_zero (l : List UInt8) (h : 0 < l.length) : pad 0 l = l := by
  unfold pad; rw [show 0 + 1 - l.length = 0 by omega]; rfl
theorem roundQ_neg (q : Rat) (k : Nat) : rneg (roundQ q k) = (rneg q && decide (0 < unitsN q k)) := by
  unfold roundQ
  have hp : 10 ^ k ≠ 0 := Nat.pos_iff_ne_zero.1 (Nat.pow_pos (by omega))
  by_cases h : unitsN q k = 0
  · rw [h, rv_zero (.inl rfl), rneg_zero, decide_eq_false (by omega), Bool.and_false]
  · rw [rv_neg h hp, decide_eq_true (by omega), Bool.and_true]
theorem ten_lt (k : Nat) : 10 ^ k ≤ 4294967296 ^ k := Nat.pow_le_pow_left (by omega) k
theorem unitsN_le (q : Rat) (k : Nat) : unitsN q k ≤ rnum q * 10 ^ k + 1 := by
  unfold unitsN
  have := (rnd_le (rnum q * 10 ^ k) q.den).2
  have h2 := Nat.div_le_self (rnum q * 10 ^ k) q.den
  omega
theorem length_dtext_pos (N : Nat) : 0 < (dtext N).length := by
  by_cases h : N = 0
  · subst h; decide
  · rw [dtext_pos h, List.length_reverse, List.length_map]
    exact List.length_pos_iff.2 (dig_ne_nil h)
/-- What stands ahead of the point and behind it, as numbers. -/
theorem all_isDg_replicate (n : Nat) : (List.replicate n (48 : UInt8)).all isDg = true := by
  rw [List.all_replicate]; split <;> first | rfl | decide
theorem pval_replicate_append (n : Nat) (l : List UInt8) : pval (List.replicate n 48 ++ l) = pval l := by
  induction n with
  | zero => rfl
  | succ n ih =>
    rw [List.replicate_succ, List.cons_append]
    unfold pval at ih ⊢
    rw [List.foldl_cons]
    exact ih
theorem pval_pad (k N : Nat) : pval (pad k (dtext N)) = N := by
  unfold pad; rw [pval_replicate_append, pval_dtext]
theorem all_pad (k N : Nat) : (pad k (dtext N)).all isDg = true := by
  unfold pad; rw [List.all_append, all_isDg_replicate, all_dtext]; rfl
theorem foldl_dec (m : List UInt8) : ∀ a : Nat, m.foldl (fun a c => a * 10 + (c.toNat - 48)) a = a * 10 ^ m.length + pval m := by
  induction m with
  | nil => intro a; simp [pval]
  | cons c m ih =>
    intro a
    unfold pval at ih ⊢
    rw [List.foldl_cons, List.foldl_cons, ih, ih (0 * 10 + (c.toNat - 48)), List.length_cons, Nat.pow_succ, Nat.add_mul, Nat.zero_mul, Nat.zero_add, Nat.mul_assoc, Nat.mul_comm 10, Nat.add_assoc]
theorem pval_append (l m : List UInt8) : pval (l ++ m) = pval l * 10 ^ m.length + pval m := by
  have h : pval (l ++ m) = m.foldl (fun a c => a * 10 + (c.toNat - 48)) (pval l) := by unfold pval; rw [List.foldl_append]
  rw [h, foldl_dec]
end Pg
