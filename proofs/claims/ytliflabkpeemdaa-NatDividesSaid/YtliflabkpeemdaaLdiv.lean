/- Walk: the law NatDivides. Conditions: none. -/
import Derived.Test.YtliflabkpeemdaaWu
import Derived.Test.YtliflabkpeemdaaWz
namespace Go.Proofs.Ytliflabkpeemdaa
open Go.RowKit Pg

set_option maxHeartbeats 2000000 in
theorem law_NatDivides (A0 A1 : Option Addr) (n0 c0 n1 c1 : Nat) (x y : List Nat) (w : World) (h0 : Row w A0 n0 c0 x) (h1 : Row w A1 n1 c1 y) :
    Calls Try.prog 8 #[.slice A0 n0 c0, .slice A1 n1 c1] w fun e w' => e = .returned (.bool true) ∧ Below w.heap.size w w' := by
  have b0 := h0.nc
  have b0' := h0.cm
  have b1 := h1.nc
  have b1' := h1.cm
  by_cases g0 : 8 < n0
  · have d0 : decide ((8 : Int) < (n0 : Int)) = true := by simp; omega
    go_enter Try.func8, Try.ntmps8
    go_wp2_with fail
    go_ret
    exact ⟨rfl, Below.refl _ _⟩
  have d0 : decide ((8 : Int) < (n0 : Int)) = false := by simp; omega
  by_cases g1 : 8 < n1
  · have d1 : decide ((8 : Int) < (n1 : Int)) = true := by simp; omega
    go_enter Try.func8, Try.ntmps8
    go_wp2_with fail
    go_ret
    exact ⟨rfl, Below.refl _ _⟩
  have d1 : decide ((8 : Int) < (n1 : Int)) = false := by simp; omega
  have HD : Hid (Calls Try.prog 32 #[.slice A0 n0 c0, .slice A1 n1 c1] w (Ret3 w (val x / val y) (dmr (val x) (val y)) (dmb (val y)))) := hid (DivMod_any _ _ _ _ _ _ _ _ w h0 h1 (by omega) (by omega))
  have HR : Hid (∀ W, Below w.heap.size w W → Calls Try.prog 33 #[.slice A0 n0 c0, .slice A1 n1 c1] W (Ret3 W (val x / val y) (dmr (val x) (val y)) (dmb (val y)))) := hid fun W hW => rDivMod_any _ _ _ _ _ _ _ _ W (h0.below hW) (h1.below hW) (by omega) (by omega)
  have HG : Hid (∀ W, Below w.heap.size w W → Calls Try.prog 34 #[.slice A0 n0 c0, .slice A1 n1 c1] W (Ret W (Nat.gcd (val x) (val y)))) := hid fun W hW => Gcd_any _ _ _ _ _ _ _ _ W (h0.below hW) (h1.below hW) (by omega) (by omega)
  have HK : Hid (∀ W, Below w.heap.size w W → Calls Try.prog 35 #[.slice A0 n0 c0, .slice A1 n1 c1] W (Ret W (Nat.gcd (val x) (val y)))) := hid fun W hW => rGcd_any _ _ _ _ _ _ _ _ W (h0.below hW) (h1.below hW) (by omega) (by omega)
  generalize val x / val y = Q at *
  generalize dmr (val x) (val y) = R at *
  generalize dmb (val y) = B at *
  generalize Nat.gcd (val x) (val y) = G at *
  go_enter Try.func8, Try.ntmps8
  go_wp2_with (first
    | (go_at_call 32; refine (HD.out).mono ?_; rintro e w1 ⟨A2, c2, A3, c3, rfl, hr2, hr3, hb⟩)
    | (go_at_call 33; refine (HR.out _ (by repeat first | exact Below.refl _ _ | assumption | refine Pg.Below.then_ ?_ (by assumption) | refine Pg.Below.new_ ?_ _ | refine Pg.Below.drewN_ ?_ _)).mono ?_; rintro e w2 ⟨A4, c4, A5, c5, rfl, hr4, hr5, hb2⟩)
    | (go_at_call 34; refine (HG.out _ (by repeat first | exact Below.refl _ _ | assumption | refine Pg.Below.then_ ?_ (by assumption) | refine Pg.Below.new_ ?_ _ | refine Pg.Below.drewN_ ?_ _)).mono ?_; rintro e w3 ⟨A6, c6, rfl, hr6, hb6⟩)
    | (go_at_call 35; refine (HK.out _ (by repeat first | exact Below.refl _ _ | assumption | refine Pg.Below.then_ ?_ (by assumption) | refine Pg.Below.new_ ?_ _ | refine Pg.Below.drewN_ ?_ _)).mono ?_; rintro e w4 ⟨A7, c7, rfl, hr7, hb7⟩)
    | (go_at_call 13; refine (limbs_T _ _ _ _ _ _ _ _ _ (by repeat first | assumption | apply Pg.Row.below (hb := by assumption) | apply Pg.Row.alloc | apply Pg.Row.drewN) (by repeat first | assumption | apply Pg.Row.below (hb := by assumption) | apply Pg.Row.alloc | apply Pg.Row.drewN) rfl).mono ?_; rintro e w1 ⟨rfl, hb⟩) | (go_at_call 14; refine (known_any _).mono ?_; rintro e w1 ⟨rfl, hb⟩))
  go_ret
  exact ⟨rfl, (by repeat first | exact Below.refl _ _ | assumption | refine Pg.Below.then_ ?_ (by assumption) | refine Pg.Below.new_ ?_ _ | refine Pg.Below.drewN_ ?_ _)⟩
end Go.Proofs.Ytliflabkpeemdaa
