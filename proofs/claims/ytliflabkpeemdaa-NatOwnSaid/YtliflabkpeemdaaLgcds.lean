/- Walk: the law NatGcds. Conditions: none. -/
import Derived.Test.YtliflabkpeemdaaWu
namespace Go.Proofs.Ytliflabkpeemdaa
open Go.RowKit Pg

/-- The contracts of DivMod and Gcd, their numbers by name. -/
theorem DivMod_E (A A' : Option Addr) (n c n' c' : Nat) (xs ys : List Nat) (w : World) (a b N M : Nat) (B : Bool) (h : Row w A n c xs) (h' : Row w A' n' c' ys) (ea : val xs = a) (eb : val ys = b) (hb : n ≤ 1073741824) (hb' : n' ≤ 1073741824)
    (eN : a / b = N) (eM : dmr a b = M) (eB : dmb b = B) : Calls Try.prog 32 #[.slice A n c, .slice A' n' c'] w (Ret3 w N M B) := by
  subst ea eb eN eM eB; exact DivMod_any A A' n c n' c' xs ys w h h' hb hb'
theorem Gcd_E (A A' : Option Addr) (n c n' c' : Nat) (xs ys : List Nat) (w : World) (a b G : Nat) (h : Row w A n c xs) (h' : Row w A' n' c' ys) (ea : val xs = a) (eb : val ys = b) (hb : n ≤ 1073741824) (hb' : n' ≤ 1073741824)
    (eG : Nat.gcd a b = G) : Calls Try.prog 34 #[.slice A n c, .slice A' n' c'] w (Ret w G) := by
  subst ea eb eG; exact Gcd_any A A' n c n' c' xs ys w h h' hb hb'

set_option maxHeartbeats 2000000 in
theorem law_NatGcds (A0 A1 : Option Addr) (n0 c0 n1 c1 : Nat) (x y : List Nat) (w : World) (h0 : Row w A0 n0 c0 x) (h1 : Row w A1 n1 c1 y) :
    Calls Try.prog 9 #[.slice A0 n0 c0, .slice A1 n1 c1] w fun e w' => e = .returned (.bool true) ∧ Below w.heap.size w w' := by
  have b0 := h0.nc
  have b0' := h0.cm
  have b1 := h1.nc
  have b1' := h1.cm
  by_cases g0 : 8 < n0
  · have d0 : decide ((8 : Int) < (n0 : Int)) = true := by simp; omega
    go_enter Try.func9, Try.ntmps9
    go_wp2_with fail
    go_ret
    exact ⟨rfl, Below.refl _ _⟩
  have d0 : decide ((8 : Int) < (n0 : Int)) = false := by simp; omega
  by_cases g1 : 8 < n1
  · have d1 : decide ((8 : Int) < (n1 : Int)) = true := by simp; omega
    go_enter Try.func9, Try.ntmps9
    go_wp2_with fail
    go_ret
    exact ⟨rfl, Below.refl _ _⟩
  have d1 : decide ((8 : Int) < (n1 : Int)) = false := by simp; omega
  have v0 := val_lt_of h0 (k := 8) (by omega)
  have v1 := val_lt_of h1 (k := 8) (by omega)
  obtain ⟨a, ha⟩ : ∃ a, val x = a := ⟨_, rfl⟩
  obtain ⟨b, hb⟩ : ∃ b, val y = b := ⟨_, rfl⟩
  have HA := hid ha
  have HB := hid hb
  rw [ha] at v0
  rw [hb] at v1
  clear ha hb
  by_cases hz0 : a = 0
  · subst hz0
    have e0 : (limbs 0).length = 0 := rfl
    go_enter Try.func9, Try.ntmps9
    go_wp2_with (go_at_call 17; ((with_reducible refine (rTrim_N A0 _ _ _ _ 0 h0 HA.out (by first | omega | assumption)).mono ?_)); rintro e w1 ⟨A, c, rfl, hr, hb⟩)
    go_ret
    exact ⟨rfl, (by repeat first | exact Below.refl _ _ | assumption | refine Pg.Below.then_ ?_ (by assumption) | refine Pg.Below.new_ ?_ _ | refine Pg.Below.drewN_ ?_ _)⟩
  have la : (((limbs a).length : Int) == 0) = false := by have := (tl_top hz0).1; exact beq_eq_false_iff_ne.2 (by omega)
  by_cases hz1 : b = 0
  · subst hz1
    have e0 : (limbs 0).length = 0 := rfl
    go_enter Try.func9, Try.ntmps9
    go_wp2_with (first
      | (go_at_call 17; ((with_reducible refine (rTrim_N A0 _ _ _ _ a h0 HA.out (by first | omega | assumption)).mono ?_)); rintro e w1 ⟨A, c, rfl, hr, hb⟩)
      | (go_at_call 17; ((with_reducible refine (rTrim_N A1 _ _ _ _ 0 (h1.below hb) HB.out (by first | omega | assumption)).mono ?_)); rintro e w1 ⟨A', c', rfl, hr', hb'⟩))
    go_ret
    exact ⟨rfl, (by repeat first | exact Below.refl _ _ | assumption | refine Pg.Below.then_ ?_ (by assumption) | refine Pg.Below.new_ ?_ _ | refine Pg.Below.drewN_ ?_ _)⟩
  have lb : (((limbs b).length : Int) == 0) = false := by have := (tl_top hz1).1; exact beq_eq_false_iff_ne.2 (by omega)
  obtain ⟨G, hG⟩ : ∃ G, Nat.gcd a b = G := ⟨_, rfl⟩
  have hGp : 0 < G := by rw [← hG]; exact Nat.gcd_pos_of_pos_left _ (by omega)
  have hGa : G ≤ a := by rw [← hG]; exact Nat.gcd_le_left _ (by omega)
  have hGb : G ≤ b := by rw [← hG]; exact Nat.gcd_le_right _ (by omega)
  have lG := limbs_le (N := G) (k := 8) (by omega) (by omega)
  obtain ⟨X, hX⟩ : ∃ X, a / G = X := ⟨_, rfl⟩
  obtain ⟨Y, hY⟩ : ∃ Y, b / G = Y := ⟨_, rfl⟩
  have lX := limbs_le (N := X) (k := 8) (by rw [← hX]; have := Nat.div_le_self a G; omega) (by omega)
  have lY := limbs_le (N := Y) (k := 8) (by rw [← hY]; have := Nat.div_le_self b G; omega) (by omega)
  have E1 : Hid (dmr a G = 0) := hid (by unfold dmr; rw [if_neg (by omega), ← hG]; exact Nat.mod_eq_zero_of_dvd (Nat.gcd_dvd_left _ _))
  have E2 : Hid (dmr b G = 0) := hid (by unfold dmr; rw [if_neg (by omega), ← hG]; exact Nat.mod_eq_zero_of_dvd (Nat.gcd_dvd_right _ _))
  have E3 : Hid (dmb G = true) := hid (by simp [dmb]; omega)
  have E4 : Hid (Nat.gcd X Y = 1) := hid (by
    rw [← hX, ← hY, ← hG]
    exact Nat.coprime_div_gcd_div_gcd (by rw [hG]; exact hGp))
  have HG := hid hG
  have HX := hid hX
  have HY := hid hY
  clear hG hX hY v0 v1 hGp hGa hGb
  have e0 : (limbs 0).length = 0 := rfl
  go_enter Try.func9, Try.ntmps9
  go_wp2_with (first
    | (go_at_call 17; ((with_reducible refine (rTrim_N A0 _ _ _ _ a (by repeat first | assumption | apply Pg.Row.below (hb := by assumption) | apply Pg.Row.alloc | apply Pg.Row.drewN) HA.out (by first | omega | assumption)).mono ?_)); rintro e w1 ⟨A, c, rfl, hr, hb⟩)
    | (go_at_call 17; ((with_reducible refine (rTrim_N A1 _ _ _ _ b (by repeat first | assumption | apply Pg.Row.below (hb := by assumption) | apply Pg.Row.alloc | apply Pg.Row.drewN) HB.out (by first | omega | assumption)).mono ?_)); rintro e w1 ⟨A', c', rfl, hr', hb'⟩)
    | (go_at_call 34; ((with_reducible refine (Gcd_E A0 A1 n0 c0 n1 c1 x y _ a b G (by repeat first | assumption | apply Pg.Row.below (hb := by assumption) | apply Pg.Row.alloc | apply Pg.Row.drewN) (by repeat first | assumption | apply Pg.Row.below (hb := by assumption) | apply Pg.Row.alloc | apply Pg.Row.drewN) HA.out HB.out (by first | omega | assumption) (by first | omega | assumption) HG.out).mono ?_)); rintro e w1 ⟨Ag, cg, rfl, hrg, hbg⟩)
    | (go_at_call 32; ((with_reducible refine (DivMod_E A0 Ag n0 c0 _ cg x _ _ a G X 0 true (by repeat first | assumption | apply Pg.Row.below (hb := by assumption) | apply Pg.Row.alloc | apply Pg.Row.drewN) hrg HA.out (val_limbs _) (by first | omega | assumption) (by first | omega | assumption) HX.out E1.out E3.out).mono ?_)); rintro e w1 ⟨A2, c2, A3, c3, rfl, hr2, hr3, hb2⟩)
    | (go_at_call 32; ((with_reducible refine (DivMod_E A1 Ag n1 c1 _ cg y _ _ b G Y 0 true (by repeat first | assumption | apply Pg.Row.below (hb := by assumption) | apply Pg.Row.alloc | apply Pg.Row.drewN) (hrg.below hb2) HB.out (val_limbs _) (by first | omega | assumption) (by first | omega | assumption) HY.out E2.out E3.out).mono ?_)); rintro e w1 ⟨A4, c4, A5, c5, rfl, hr4, hr5, hb4⟩)
    | (go_at_call 34; ((with_reducible refine (Gcd_E A2 A4 _ c2 _ c4 _ _ _ X Y 1 (hr2.below hb4) hr4 (val_limbs _) (val_limbs _) (by first | omega | assumption) (by first | omega | assumption) E4.out).mono ?_)); rintro e w1 ⟨A6, c6, rfl, hr6, hb6⟩)
    | (go_at_call 13; refine (limbs_T _ _ _ _ _ _ _ [1] _ (hr6.alloc _) (Row.one _ _ _ _ _ rfl (by rfl) (by omega)) limbs_one).mono ?_; rintro e w1 ⟨rfl, hb7⟩)
    | (go_at_call 14; refine (known_any _).mono ?_; rintro e w1 ⟨rfl, hb⟩))
  go_ret
  exact ⟨rfl, (by repeat first | exact Below.refl _ _ | assumption | refine Pg.Below.then_ ?_ (by assumption) | refine Pg.Below.new_ ?_ _ | refine Pg.Below.drewN_ ?_ _)⟩
end Go.Proofs.Ytliflabkpeemdaa
