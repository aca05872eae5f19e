/- Walk: the law NatShifts. Conditions: none. -/
import Derived.Test.YtliflabkpeemdaaWg
namespace Go.Proofs.Ytliflabkpeemdaa
open Go.RowKit Pg

theorem one_limbs : [1] = limbs 1 := by
  have h := limbs_val (xs := [1]) (ok_cons.2 ⟨by omega, ok_nil⟩) (by simp [Trimmed])
  rw [val_one] at h; exact h.symm
theorem two_pow_lt {N : Nat} (h : N ≤ 200) : 2 ^ N < 4294967296 ^ 7 := by
  rw [base_pow]; exact Nat.pow_lt_pow_right (by omega) (by omega)

set_option maxHeartbeats 1000000 in
theorem law_NatShifts (A0 : Option Addr) (n0 c0 : Nat) (x : List Nat) (n : Int) (w : World) (h0 : Row w A0 n0 c0 x) :
    Calls Try.prog 4 #[.slice A0 n0 c0, .int .i64 n] w fun e w' => e = .returned (.bool true) ∧ Below w.heap.size w w' := by
  have b0 := h0.nc
  have b0' := h0.cm
  by_cases g0 : 20 < n0
  · have d0 : decide ((20 : Int) < (n0 : Int)) = true := by simp; omega
    go_enter Try.func4, Try.ntmps4
    go_wp2_with fail
    go_ret
    exact ⟨rfl, Below.refl _ _⟩
  have d0 : decide ((20 : Int) < (n0 : Int)) = false := by simp; omega
  by_cases g1 : n < 0
  · have d1 : decide (n < 0) = true := by simp; omega
    go_enter Try.func4, Try.ntmps4
    go_wp2_with fail
    go_ret
    exact ⟨rfl, Below.refl _ _⟩
  have d1 : decide (n < 0) = false := by simp; omega
  by_cases g2 : 200 < n
  · have d2 : decide (200 < n) = true := by simp; omega
    go_enter Try.func4, Try.ntmps4
    go_wp2_with fail
    go_ret
    exact ⟨rfl, Below.refl _ _⟩
  have d2 : decide (200 < n) = false := by simp; omega
  obtain ⟨N, rfl⟩ := Int.eq_ofNat_of_zero_le (show 0 ≤ n by omega)
  go_enter Try.func4, Try.ntmps4
  go_wp2_with fail
  have hN : N ≤ 200 := by omega
  go_loopw [5, 6] (fun two i wr => ∃ k A m c, k ≤ N ∧ i = .int .i64 ((k : Nat) : Int) ∧ two = .slice A m c ∧ Row wr A m c (limbs (2 ^ k)) ∧ m ≤ 1073741824 ∧ Below w.heap.size w wr) (fun _ i _ => N - (intOf i).toNat)
  case atStart =>
    refine ⟨0, _, _, _, by omega, rfl, rfl, ?_, by omega, Below.alloc (Below.refl _ _) (Nat.le_refl _) _⟩
    have := Row.one w 27 1 1 _ rfl rfl (by omega)
    rw [one_limbs] at this
    exact this
  case round =>
    obtain ⟨k, A, m, c, hk, rfl, rfl, hr, hm, hbel⟩ := hrel
    by_cases hlt : k < N
    · have hl := limbs_le (two_pow_lt (N := k + 1) (by omega)) (by omega)
      go_wp2_with (go_at_call 15; refine (rMul_N _ _ _ _ _ _ (limbs (2 ^ k)) [2] _ _ _ (hr.alloc _) (Row.one _ _ _ _ _ rfl (by rfl) (by omega)) (val_limbs _) (val_one _) hm (by omega)).mono ?_; rintro e w1 ⟨A1, c1, rfl, hr1, hb1⟩)
      go_roundw
      case rel => exact ⟨k + 1, _, _, _, by omega, by go_num, rfl, hr1, hl, (by repeat first | exact Below.refl _ _ | assumption | refine Pg.Below.then_ ?_ (by assumption) | refine Pg.Below.new_ ?_ _)⟩
      case measure => simp [intOf]; omega
    · obtain rfl : k = N := by omega
      have hx := h0.below hbel
      have v0 := val_lt_of h0 (k := 20) (by omega)
      have l1 := limbs_le (mul_lt_pow v0 (two_pow_lt hN)) (by omega)
      have hE := hid (Nat.mul_div_cancel (val x) (Nat.two_pow_pos k))
      clear v0 h0
      go_wp2_with (first
        | (go_at_call 16; refine (Shift_L _ _ _ _ _ _ _ k (by repeat first | assumption | apply Pg.Row.below (hb := by assumption) | apply Pg.Row.alloc) (by first | exact val_limbs _ | rfl) (by rfl) (by omega) (by first | omega | assumption)).mono ?_; rintro e w1 ⟨A, c, rfl, hr, hb⟩)
        | (go_at_call 16; refine (Shift_R _ _ _ _ _ _ _ k (by repeat first | assumption | apply Pg.Row.below (hb := by assumption) | apply Pg.Row.alloc) (by first | exact val_limbs _ | rfl) (by rfl) (by omega) (by first | omega | assumption)).mono ?_; rintro e w1 ⟨A, c, rfl, hr, hb⟩)
        | (go_at_call 11; refine (Mul_N _ _ _ _ _ _ _ _ _ _ _ (by repeat first | assumption | apply Pg.Row.below (hb := by assumption) | apply Pg.Row.alloc) (by repeat first | assumption | apply Pg.Row.below (hb := by assumption) | apply Pg.Row.alloc) (by first | exact val_limbs _ | rfl) (by first | exact val_limbs _ | rfl) (by first | omega | assumption) (by first | omega | assumption)).mono ?_; rintro e w1 ⟨A, c, rfl, hr, hb⟩) | (go_at_call 17; refine (rTrim_N _ _ _ _ _ _ (by repeat first | assumption | apply Pg.Row.below (hb := by assumption) | apply Pg.Row.alloc) (by first | exact val_limbs _ | rfl) (by first | omega | assumption)).mono ?_; rintro e w1 ⟨A, c, rfl, hr, hb⟩) | (go_at_call 14; refine (known_any _).mono ?_; rintro e w1 ⟨rfl, hb⟩)
        | (go_at_call 13; refine (limbs_T _ _ _ _ _ _ _ _ _ (by repeat first | assumption | apply Pg.Row.below (hb := by assumption) | apply Pg.Row.alloc) (by repeat first | assumption | apply Pg.Row.below (hb := by assumption) | apply Pg.Row.alloc) (by first | exact congrArg limbs hE.out | rfl)).mono ?_; rintro e w1 ⟨rfl, hb⟩))
      go_ret
      exact ⟨rfl, (by repeat first | exact Below.refl _ _ | assumption | refine Pg.Below.then_ ?_ (by assumption) | refine Pg.Below.new_ ?_ _)⟩
end Go.Proofs.Ytliflabkpeemdaa
