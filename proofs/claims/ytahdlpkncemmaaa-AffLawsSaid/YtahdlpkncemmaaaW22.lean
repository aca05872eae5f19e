/- Decimal digits of numbers. Conditions: those that each theorem names. -/
import Derived.Test.YtahdlpkncemmaaaW0
import Derived.Lib.SlTrimSet
set_option maxRecDepth 100000
set_option maxHeartbeats 8000000
set_option linter.unusedSimpArgs false
set_option linter.unusedVariables false
namespace Pg
def val10 : List Nat → Nat
 | [] => 0
 | x :: xs => x + 10 * val10 xs
def Dg (xs : List Nat) : Prop := ∀ x ∈ xs, x < 10
theorem dg_nil : Dg [] := by intro x hx; cases hx
theorem dg_cons {x : Nat} {xs : List Nat} : Dg (x :: xs) ↔ x < 10 ∧ Dg xs := by unfold Dg; simp
theorem dg_append {xs ys : List Nat} : Dg (xs ++ ys) ↔ Dg xs ∧ Dg ys := by
 unfold Dg; simp only [List.mem_append]
 exact ⟨fun h => ⟨fun x hx => h x (.inl hx), fun x hx => h x (.inr hx)⟩, fun h x hx => hx.elim (h.1 x) (h.2 x)⟩
theorem Dg.take {xs : List Nat} (h : Dg xs) (k : Nat) : Dg (xs.take k) := fun x hx => h x (List.mem_of_mem_take hx)
def digF : Nat → Nat → List Nat
 | 0, _ => []
 | f + 1, n => if n = 0 then [] else n % 10 :: digF f (n / 10)
def dig (n : Nat) : List Nat := digF n n
theorem digF_more : ∀ (f n : Nat), n ≤ f → digF f n = digF n n := by
 intro f
 induction f using Nat.strongRecOn with
 | ind f ih =>
  intro n hn
  cases f with
  | zero =>
   have : n = 0 := by omega
   subst this; rfl
  | succ f =>
   cases n with
   | zero => simp [digF]
   | succ n =>
    simp only [digF]
    have h : (n + 1) / 10 ≤ n := by omega
    rw [ih f (by omega) _ (by omega), ih n (by omega) _ h]
theorem dig_zero : dig 0 = [] := rfl
theorem dig_pos {n : Nat} (h : n ≠ 0) : dig n = n % 10 :: dig (n / 10) := by
 unfold dig
 cases n with
 | zero => exact absurd rfl h
 | succ n =>
  simp only [digF]
  rw [if_neg (by omega), digF_more n _ (by omega)]
theorem dig_ne_nil {n : Nat} (h : n ≠ 0) : dig n ≠ [] := by rw [dig_pos h]; simp
theorem val10_append (xs ys : List Nat) : val10 (xs ++ ys) = val10 xs + 10 ^ xs.length * val10 ys := by
 induction xs with
 | nil => simp [val10]
 | cons x xs ih =>
  simp only [List.cons_append, val10, ih, List.length_cons, Nat.pow_succ]
  rw [Nat.mul_add, Nat.mul_comm (10 ^ xs.length) 10, Nat.mul_assoc]; omega
theorem val10_pos {xs : List Nat} (h : xs.getLast? ≠ some 0) (hn : xs ≠ []) : 0 < val10 xs := by
 induction xs with
 | nil => exact absurd rfl hn
 | cons x xs ih =>
  cases xs with
  | nil => simp [val10] at h ⊢; omega
  | cons y ys =>
   rw [List.getLast?_cons_cons] at h
   have := ih h (by simp)
   simp only [val10] at this ⊢; omega
theorem dig_val10 {xs : List Nat} (h : Dg xs) (ht : xs.getLast? ≠ some 0) : dig (val10 xs) = xs := by
 induction xs with
 | nil => rfl
 | cons x xs ih =>
  have ⟨hx, hxs⟩ := dg_cons.1 h
  have hp := val10_pos ht (by simp)
  rw [dig_pos (by omega)]
  have e1 : val10 (x :: xs) % 10 = x := by simp only [val10]; omega
  have e2 : val10 (x :: xs) / 10 = val10 xs := by simp only [val10]; omega
  have h3 : xs.getLast? ≠ some 0 := by
   cases xs with
   | nil => simp
   | cons y ys => rwa [List.getLast?_cons_cons] at ht
  rw [e1, e2, ih hxs h3]
theorem length_dig_le {n k : Nat} (h : n < 10 ^ k) : (dig n).length ≤ k := by
 induction k generalizing n with
 | zero =>
  have : n = 0 := by simpa using h
  subst this; simp [dig_zero]
 | succ k ih =>
  rcases Nat.eq_zero_or_pos n with h0 | h0
  ·subst h0; simp [dig_zero]
  ·rw [dig_pos (by omega)]
   have : n / 10 < 10 ^ k := by
    rw [Nat.pow_succ] at h
    exact Nat.div_lt_of_lt_mul (by rw [Nat.mul_comm]; exact h)
   have := ih this
   simp; omega
def chr (d : Nat) : UInt8 := UInt8.ofNat (48 + d)
theorem chr_nat {d : Nat} (h : d < 10) : (chr d).toNat = 48 + d := by
 unfold chr
 rw [UInt8.toNat_ofNat']
 exact Nat.mod_eq_of_lt (by omega)
def dtext (n : Nat) : List UInt8 := if n = 0 then [48] else ((dig n).map chr).reverse
theorem dtext_zero : dtext 0 = [48] := rfl
theorem dtext_pos {n : Nat} (h : n ≠ 0) : dtext n = ((dig n).map chr).reverse := if_neg h
end Pg
