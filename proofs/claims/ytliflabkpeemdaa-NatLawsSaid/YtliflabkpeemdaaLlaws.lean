/- Walk: the law NatLaws. Conditions: none. -/
import Derived.Test.YtliflabkpeemdaaWknown
namespace Go.Proofs.Ytliflabkpeemdaa
open Go.RowKit Pg

set_option maxHeartbeats 1000000 in
theorem law_NatLaws (A0 A1 A2 : Option Addr) (n0 c0 n1 c1 n2 c2 : Nat) (x y z : List Nat) (w : World) (h0 : Row w A0 n0 c0 x) (h1 : Row w A1 n1 c1 y) (h2 : Row w A2 n2 c2 z) :
    Calls Try.prog 3 #[.slice A0 n0 c0, .slice A1 n1 c1, .slice A2 n2 c2] w fun e w' => e = .returned (.bool true) ∧ Below w.heap.size w w' := by
  have b0 := h0.nc
  have b0' := h0.cm
  have b1 := h1.nc
  have b1' := h1.cm
  have b2 := h2.nc
  have b2' := h2.cm
  by_cases g0 : 20 < n0
  · have d0 : decide ((20 : Int) < (n0 : Int)) = true := by simp; omega
    go_enter Try.func3, Try.ntmps3
    go_wp2_with fail
    go_ret
    exact ⟨rfl, Below.refl _ _⟩
  have d0 : decide ((20 : Int) < (n0 : Int)) = false := by simp; omega
  by_cases g1 : 20 < n1
  · have d1 : decide ((20 : Int) < (n1 : Int)) = true := by simp; omega
    go_enter Try.func3, Try.ntmps3
    go_wp2_with fail
    go_ret
    exact ⟨rfl, Below.refl _ _⟩
  have d1 : decide ((20 : Int) < (n1 : Int)) = false := by simp; omega
  by_cases g2 : 20 < n2
  · have d2 : decide ((20 : Int) < (n2 : Int)) = true := by simp; omega
    go_enter Try.func3, Try.ntmps3
    go_wp2_with fail
    go_ret
    exact ⟨rfl, Below.refl _ _⟩
  have d2 : decide ((20 : Int) < (n2 : Int)) = false := by simp; omega
  go_enter Try.func3, Try.ntmps3
  have v0 := val_lt_of h0 (k := 20) (by omega)
  have v1 := val_lt_of h1 (k := 20) (by omega)
  have v2 := val_lt_of h2 (k := 20) (by omega)
  have l1 := limbs_le (add_lt_pow v0 v1) (by omega)
  have l2 := limbs_le (mul_lt_pow v0 v2) (by omega)
  have l3 := limbs_le (mul_lt_pow v1 v2) (by omega)
  have l4 := limbs_le (mul_lt_pow v0 v1) (by omega)
  clear v0 v1 v2
  go_wp2_with (first
    | (go_at_call 12; refine (Add_N _ _ _ _ _ _ _ _ _ _ _ (by repeat first | assumption | apply Row.below (hb := by assumption)) (by repeat first | assumption | apply Row.below (hb := by assumption)) (by first | exact val_limbs _ | rfl) (by first | exact val_limbs _ | rfl) (by first | omega | assumption) (by first | omega | assumption)).mono ?_; rintro e w1 ⟨A, c, rfl, hr, hb⟩)
    | (go_at_call 11; refine (Mul_N _ _ _ _ _ _ _ _ _ _ _ (by repeat first | assumption | apply Row.below (hb := by assumption)) (by repeat first | assumption | apply Row.below (hb := by assumption)) (by first | exact val_limbs _ | rfl) (by first | exact val_limbs _ | rfl) (by first | omega | assumption) (by first | omega | assumption)).mono ?_; rintro e w1 ⟨A, c, rfl, hr, hb⟩)
    | (go_at_call 13; refine (limbs_T _ _ _ _ _ _ _ _ _ (by repeat first | assumption | apply Row.below (hb := by assumption)) (by repeat first | assumption | apply Row.below (hb := by assumption)) (by first | exact congrArg limbs (Nat.add_comm _ _) | exact congrArg limbs (Nat.mul_comm _ _) | exact congrArg limbs (Nat.add_mul _ _ _) | exact congrArg limbs (Nat.mul_assoc _ _ _))).mono ?_; rintro e w1 ⟨rfl, hb⟩)
    | (go_at_call 14; refine (known_any _).mono ?_; rintro e w1 ⟨rfl, hb⟩))
  go_ret
  exact ⟨rfl, by repeat first | exact Below.refl _ _ | refine Pg.Below.then_ ?_ (by assumption)⟩
end Go.Proofs.Ytliflabkpeemdaa
