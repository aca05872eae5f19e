/- Walk: the law NatAdds. Conditions: none. -/
import Derived.Test.YtliflabkpeemdaaWm
namespace Go.Proofs.Ytliflabkpeemdaa
open Go.RowKit Pg

set_option maxHeartbeats 1000000 in
theorem law_NatAdds (A0 A1 : Option Addr) (n0 c0 n1 c1 : Nat) (x y : List Nat) (w : World) (h0 : Row w A0 n0 c0 x) (h1 : Row w A1 n1 c1 y) :
    Calls Try.prog 5 #[.slice A0 n0 c0, .slice A1 n1 c1] w fun e w' => e = .returned (.bool true) ∧ Below w.heap.size w w' := by
  have b0 := h0.nc
  have b0' := h0.cm
  have b1 := h1.nc
  have b1' := h1.cm
  by_cases g0 : 20 < n0
  · have d0 : decide ((20 : Int) < (n0 : Int)) = true := by simp; omega
    go_enter Try.func5, Try.ntmps5
    go_wp2_with fail
    go_ret
    exact ⟨rfl, Below.refl _ _⟩
  have d0 : decide ((20 : Int) < (n0 : Int)) = false := by simp; omega
  by_cases g1 : 20 < n1
  · have d1 : decide ((20 : Int) < (n1 : Int)) = true := by simp; omega
    go_enter Try.func5, Try.ntmps5
    go_wp2_with fail
    go_ret
    exact ⟨rfl, Below.refl _ _⟩
  have d1 : decide ((20 : Int) < (n1 : Int)) = false := by simp; omega
  go_enter Try.func5, Try.ntmps5
  go_wp2_with (first | (go_at_call 18; refine (Sub_N _ _ _ _ _ _ _ _ _ _ _ (by repeat first | assumption | apply Pg.Row.below (hb := by assumption) | apply Pg.Row.alloc | apply Pg.Row.drewN) (by repeat first | assumption | apply Pg.Row.below (hb := by assumption) | apply Pg.Row.alloc | apply Pg.Row.drewN) (by first | exact val_limbs _ | rfl) (by first | exact val_limbs _ | rfl) (by first | omega | assumption) (by first | omega | assumption)).mono ?_; rintro e w1 ⟨A, c, rfl, hr, hb⟩) | (go_at_call 19; refine (rSub_N _ _ _ _ _ _ _ _ _ _ _ (by repeat first | assumption | apply Pg.Row.below (hb := by assumption) | apply Pg.Row.alloc | apply Pg.Row.drewN) (by repeat first | assumption | apply Pg.Row.below (hb := by assumption) | apply Pg.Row.alloc | apply Pg.Row.drewN) (by first | exact val_limbs _ | rfl) (by first | exact val_limbs _ | rfl) (by first | omega | assumption) (by first | omega | assumption)).mono ?_; rintro e w1 ⟨A, c, rfl, hr, hb⟩) | (go_at_call 12; refine (Add_N _ _ _ _ _ _ _ _ _ _ _ (by repeat first | assumption | apply Pg.Row.below (hb := by assumption) | apply Pg.Row.alloc | apply Pg.Row.drewN) (by repeat first | assumption | apply Pg.Row.below (hb := by assumption) | apply Pg.Row.alloc | apply Pg.Row.drewN) (by first | exact val_limbs _ | rfl) (by first | exact val_limbs _ | rfl) (by first | omega | assumption) (by first | omega | assumption)).mono ?_; rintro e w1 ⟨A, c, rfl, hr, hb⟩) | (go_at_call 20; refine (rAdd_N _ _ _ _ _ _ _ _ _ _ _ (by repeat first | assumption | apply Pg.Row.below (hb := by assumption) | apply Pg.Row.alloc | apply Pg.Row.drewN) (by repeat first | assumption | apply Pg.Row.below (hb := by assumption) | apply Pg.Row.alloc | apply Pg.Row.drewN) (by first | exact val_limbs _ | rfl) (by first | exact val_limbs _ | rfl) (by first | omega | assumption) (by first | omega | assumption)).mono ?_; rintro e w1 ⟨A, c, rfl, hr, hb⟩) | (go_at_call 11; refine (Mul_N _ _ _ _ _ _ _ _ _ _ _ (by repeat first | assumption | apply Pg.Row.below (hb := by assumption) | apply Pg.Row.alloc | apply Pg.Row.drewN) (by repeat first | assumption | apply Pg.Row.below (hb := by assumption) | apply Pg.Row.alloc | apply Pg.Row.drewN) (by first | exact val_limbs _ | rfl) (by first | exact val_limbs _ | rfl) (by first | omega | assumption) (by first | omega | assumption)).mono ?_; rintro e w1 ⟨A, c, rfl, hr, hb⟩) | (go_at_call 15; refine (rMul_N _ _ _ _ _ _ _ _ _ _ _ (by repeat first | assumption | apply Pg.Row.below (hb := by assumption) | apply Pg.Row.alloc | apply Pg.Row.drewN) (by repeat first | assumption | apply Pg.Row.below (hb := by assumption) | apply Pg.Row.alloc | apply Pg.Row.drewN) (by first | exact val_limbs _ | rfl) (by first | exact val_limbs _ | rfl) (by first | omega | assumption) (by first | omega | assumption)).mono ?_; rintro e w1 ⟨A, c, rfl, hr, hb⟩) | (go_at_call 21; refine (Cmp_N _ _ _ _ _ _ _ _ _ _ _ (by repeat first | assumption | apply Pg.Row.below (hb := by assumption) | apply Pg.Row.alloc | apply Pg.Row.drewN) (by repeat first | assumption | apply Pg.Row.below (hb := by assumption) | apply Pg.Row.alloc | apply Pg.Row.drewN) (by first | exact val_limbs _ | rfl) (by first | exact val_limbs _ | rfl) (by first | omega | assumption) (by first | omega | assumption)).mono ?_; rintro e w1 ⟨rfl, hb⟩) | (go_at_call 22; refine (rCmp_N _ _ _ _ _ _ _ _ _ _ _ (by repeat first | assumption | apply Pg.Row.below (hb := by assumption) | apply Pg.Row.alloc | apply Pg.Row.drewN) (by repeat first | assumption | apply Pg.Row.below (hb := by assumption) | apply Pg.Row.alloc | apply Pg.Row.drewN) (by first | exact val_limbs _ | rfl) (by first | exact val_limbs _ | rfl) (by first | omega | assumption) (by first | omega | assumption)).mono ?_; rintro e w1 ⟨rfl, hb⟩) | (go_at_call 13; refine (limbs_T _ _ _ _ _ _ _ _ _ (by repeat first | assumption | apply Pg.Row.below (hb := by assumption) | apply Pg.Row.alloc | apply Pg.Row.drewN) (by repeat first | assumption | apply Pg.Row.below (hb := by assumption) | apply Pg.Row.alloc | apply Pg.Row.drewN) rfl).mono ?_; rintro e w1 ⟨rfl, hb⟩) | (go_at_call 14; refine (known_any _).mono ?_; rintro e w1 ⟨rfl, hb⟩))
  go_ret
  exact ⟨rfl, (by repeat first | exact Below.refl _ _ | assumption | refine Pg.Below.then_ ?_ (by assumption) | refine Pg.Below.new_ ?_ _ | refine Pg.Below.drewN_ ?_ _)⟩
end Go.Proofs.Ytliflabkpeemdaa
