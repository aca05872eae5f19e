/- Walk: the laws' known. Conditions: none. -/
import Derived.Test.YtliflabkpeemdaaDoorWc
namespace Go.Proofs.YtliflabkpeemdaaDoor
open Go.RowKit Pg

theorem known_num : limbs (val [4294967295] * val [2]) = [4294967294, 1] := by
  have h := limbs_val (xs := [4294967294, 1]) (ok_cons.2 ⟨by omega, ok_cons.2 ⟨by omega, ok_nil⟩⟩) (by simp [Trimmed])
  rw [← h]
  rfl

set_option maxHeartbeats 400000 in
theorem known_any (w : World) : Calls Tryd.prog 10 #[] w fun e w' => e = .returned (.bool true) ∧ Below w.heap.size w w' := by
  go_enter Tryd.func10, Tryd.ntmps10
  go_wp2_with (first | (go_at_call 14; refine (Mul_any _ _ _ _ _ _ [4294967295] [2] _ ((Row.one _ _ _ _ _ rfl (by rfl) (by omega)).alloc _) (Row.one _ _ _ _ _ (by simp) (by rfl) (by omega)) (by omega) (by omega)).mono ?_; rintro e w1 ⟨A1, c1, rfl, hr1, hb1⟩) | (go_at_call 9; refine (limbs_any _ _ _ _ _ _ _ [4294967294, 1] _ (hr1.alloc _) (Row.two _ _ _ _ _ _ _ rfl (by rfl) (by rfl) (by omega) (by omega))).mono ?_; rintro e w2 ⟨rfl, hb2⟩))
  go_ret
  refine ⟨by rw [eqB_true known_num]; rfl, ?_⟩
  repeat first | exact Below.refl _ _ | refine Pg.Below.then_ ?_ (by assumption) | refine Pg.Below.new_ ?_ _

/-! The contracts with their numbers by name: for rows of calls. -/
theorem Add_N (A A' : Option Addr) (n c n' c' : Nat) (xs ys : List Nat) (w : World) (a b : Nat) (h : Row w A n c xs) (h' : Row w A' n' c' ys) (ea : val xs = a) (eb : val ys = b) (hb : n ≤ 1073741824) (hb' : n' ≤ 1073741824) :
    Calls Tryd.prog 13 #[.slice A n c, .slice A' n' c'] w (Ret w (a + b)) := by
  subst ea eb; exact Add_any A A' n c n' c' xs ys w h h' hb hb'
theorem Mul_N (A A' : Option Addr) (n c n' c' : Nat) (xs ys : List Nat) (w : World) (a b : Nat) (h : Row w A n c xs) (h' : Row w A' n' c' ys) (ea : val xs = a) (eb : val ys = b) (hb : n ≤ 1073741824) (hb' : n' ≤ 1073741824) :
    Calls Tryd.prog 14 #[.slice A n c, .slice A' n' c'] w (Ret w (a * b)) := by
  subst ea eb; exact Mul_any A A' n c n' c' xs ys w h h' hb hb'
theorem limbs_T (A A' : Option Addr) (n c n' c' : Nat) (xs ys : List Nat) (w : World) (h : Row w A n c xs) (h' : Row w A' n' c' ys) (e : xs = ys) :
    Calls Tryd.prog 9 #[.slice A n c, .slice A' n' c'] w fun e w' => e = .returned (.bool true) ∧ Below w.heap.size w w' := by
  have := limbs_any A A' n c n' c' xs ys w h h'
  rwa [eqB_true e] at this
theorem limbs_le {N k : Nat} (hN : N < 4294967296 ^ k) (hk : k ≤ 1073741824) : (limbs N).length ≤ 1073741824 := Nat.le_trans (length_limbs_le hN) hk
theorem val_lt_of {w : World} {A : Option Addr} {n c : Nat} {xs : List Nat} (h : Row w A n c xs) {k : Nat} (hk : n ≤ k) : val xs < 4294967296 ^ k :=
  Nat.lt_of_lt_of_le (val_lt h.ok) (by rw [h.len]; exact Nat.pow_le_pow_right (by omega) hk)
theorem mul_lt_pow {a b i j : Nat} (ha : a < 4294967296 ^ i) (hb : b < 4294967296 ^ j) : a * b < 4294967296 ^ (i + j) := by
  rw [Nat.pow_add]
  exact Nat.mul_lt_mul_of_lt_of_le ha (Nat.le_of_lt hb) (by omega)
theorem add_lt_pow {a b i : Nat} (ha : a < 4294967296 ^ i) (hb : b < 4294967296 ^ i) : a + b < 4294967296 ^ (i + 1) := by
  rw [Nat.pow_succ]; omega
end Go.Proofs.YtliflabkpeemdaaDoor
