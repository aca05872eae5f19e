/- Walk: the law NatBack. Conditions: none. -/
import Derived.Test.YtliflabkpeemdaaWt
namespace Go.Proofs.Ytliflabkpeemdaa
open Go.RowKit Pg

theorem isT_limbs (N : Nat) : isT (limbs N) = true := isT_true (by unfold tl; rw [val_limbs])

set_option maxHeartbeats 2000000 in
theorem law_NatBack (A0 A1 : Option Addr) (n0 c0 n1 c1 : Nat) (x y : List Nat) (w : World) (h0 : Row w A0 n0 c0 x) (h1 : Row w A1 n1 c1 y) :
    Calls Try.prog 7 #[.slice A0 n0 c0, .slice A1 n1 c1] w fun e w' => e = .returned (.bool true) ∧ Below w.heap.size w w' := by
  have b0 := h0.nc
  have b0' := h0.cm
  have b1 := h1.nc
  have b1' := h1.cm
  by_cases g0 : 40 < n0
  · have d0 : decide ((40 : Int) < (n0 : Int)) = true := by simp; omega
    go_enter Try.func7, Try.ntmps7
    go_wp2_with fail
    go_ret
    exact ⟨rfl, Below.refl _ _⟩
  have d0 : decide ((40 : Int) < (n0 : Int)) = false := by simp; omega
  by_cases g1 : 40 < n1
  · have d1 : decide ((40 : Int) < (n1 : Int)) = true := by simp; omega
    go_enter Try.func7, Try.ntmps7
    go_wp2_with fail
    go_ret
    exact ⟨rfl, Below.refl _ _⟩
  have d1 : decide ((40 : Int) < (n1 : Int)) = false := by simp; omega
  have hD := DivMod_any _ _ _ _ _ _ _ _ w h0 h1 (by omega) (by omega)
  have v0 := val_lt_of h0 (k := 40) (by omega)
  have v1 := val_lt_of h1 (k := 40) (by omega)
  by_cases hz : val y = 0
  · rw [hz] at hD
    rw [show val x / 0 = 0 by simp, show dmr (val x) 0 = 0 by rfl, show dmb 0 = false by rfl] at hD
    have HD := hid hD
    clear hD v0 v1
    go_enter Try.func7, Try.ntmps7
    go_wp2_with (first
      | (go_at_call 32; refine (HD.out).mono ?_; rintro e w1 ⟨A2, c2, A3, c3, rfl, hr2, hr3, hb⟩)
      | (go_at_call 17; refine (rTrim_N _ _ _ _ _ _ (by repeat first | assumption | apply Pg.Row.below (hb := by assumption) | apply Pg.Row.alloc | apply Pg.Row.drewN) hz (by first | omega | assumption)).mono ?_; rintro e w1 ⟨A, c, rfl, hr, hb⟩)
      | (go_at_call 14; refine (known_any _).mono ?_; rintro e w1 ⟨rfl, hb⟩))
    go_ret
    exact ⟨rfl, (by repeat first | exact Below.refl _ _ | assumption | refine Pg.Below.then_ ?_ (by assumption) | refine Pg.Below.new_ ?_ _ | refine Pg.Below.drewN_ ?_ _)⟩
  · have hlt : val x % val y < val y := Nat.mod_lt _ (by omega)
    have hle : val x / val y ≤ val x := Nat.div_le_self _ _
    have heq : val x / val y * val y + val x % val y = val x := Nat.div_add_mod' _ _
    rw [show dmr (val x) (val y) = val x % val y by simp [dmr, hz], show dmb (val y) = true by simp [dmb, hz]] at hD
    generalize val x / val y = N at *
    generalize val x % val y = R at *
    have l1 := limbs_le (N := N) (k := 40) (by omega) (by omega)
    have l2 := limbs_le (N := R) (k := 40) (by omega) (by omega)
    have l3 := limbs_le (N := N * val y) (mul_lt_pow (i := 40) (j := 40) (by omega) (by omega)) (by omega)
    have l4 := limbs_le (N := N * val y + R) (k := 40) (by rw [heq]; exact v0) (by omega)
    have cv1 : cmpv R (val y) = -1 := cmpv_lt hlt
    have cv2 : cmpv (N * val y + R) (val x) = 0 := cmpv_eq heq
    have i1 := isT_limbs N
    have i2 := isT_limbs R
    have HD := hid hD
    clear hD v0 v1 hlt hle heq hz
    go_enter Try.func7, Try.ntmps7
    go_wp2_with (first
      | (go_at_call 32; refine (HD.out).mono ?_; rintro e w1 ⟨A2, c2, A3, c3, rfl, hr2, hr3, hb⟩)
      | (go_at_call 26; refine (is_any _ _ _ _ _ (by repeat first | assumption | apply Pg.Row.below (hb := by assumption) | apply Pg.Row.alloc | apply Pg.Row.drewN)).mono ?_; rintro e w1 ⟨rfl, rfl⟩)
      | (go_at_call 22; refine (rCmp_N _ _ _ _ _ _ _ _ _ _ _ (by repeat first | assumption | apply Pg.Row.below (hb := by assumption) | apply Pg.Row.alloc | apply Pg.Row.drewN) (by repeat first | assumption | apply Pg.Row.below (hb := by assumption) | apply Pg.Row.alloc | apply Pg.Row.drewN) (by first | exact val_limbs _ | rfl) (by first | exact val_limbs _ | rfl) (by first | omega | assumption) (by first | omega | assumption)).mono ?_; rintro e w1 ⟨rfl, hb⟩) | (go_at_call 15; refine (rMul_N _ _ _ _ _ _ _ _ _ _ _ (by repeat first | assumption | apply Pg.Row.below (hb := by assumption) | apply Pg.Row.alloc | apply Pg.Row.drewN) (by repeat first | assumption | apply Pg.Row.below (hb := by assumption) | apply Pg.Row.alloc | apply Pg.Row.drewN) (by first | exact val_limbs _ | rfl) (by first | exact val_limbs _ | rfl) (by first | omega | assumption) (by first | omega | assumption)).mono ?_; rintro e w1 ⟨A, c, rfl, hr, hb⟩) | (go_at_call 20; refine (rAdd_N _ _ _ _ _ _ _ _ _ _ _ (by repeat first | assumption | apply Pg.Row.below (hb := by assumption) | apply Pg.Row.alloc | apply Pg.Row.drewN) (by repeat first | assumption | apply Pg.Row.below (hb := by assumption) | apply Pg.Row.alloc | apply Pg.Row.drewN) (by first | exact val_limbs _ | rfl) (by first | exact val_limbs _ | rfl) (by first | omega | assumption) (by first | omega | assumption)).mono ?_; rintro e w1 ⟨A, c, rfl, hr, hb⟩) | (go_at_call 14; refine (known_any _).mono ?_; rintro e w1 ⟨rfl, hb⟩))
    go_ret
    exact ⟨rfl, (by repeat first | exact Below.refl _ _ | assumption | refine Pg.Below.then_ ?_ (by assumption) | refine Pg.Below.new_ ?_ _ | refine Pg.Below.drewN_ ?_ _)⟩
end Go.Proofs.Ytliflabkpeemdaa
