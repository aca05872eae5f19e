/- Walk: the law NatLooks. Conditions: none. -/
import Derived.Test.YtliflabkpeemdaaWo
import Derived.OpenShut
namespace Go.Proofs.Ytliflabkpeemdaa
open Go.RowKit Pg

theorem Bits_N (A : Option Addr) (n c : Nat) (xs : List Nat) (w : World) (a : Nat) (h : Row w A n c xs) (ea : val xs = a) (hb : n ≤ 1073741824) :
    Calls Try.prog 27 #[.slice A n c] w fun e w' => e = .returned (.int .i64 ((blen a : Nat) : Int)) ∧ w = w' := by
  subst ea; exact Bits_any A n c xs w h hb
theorem rBits_N (A : Option Addr) (n c : Nat) (xs : List Nat) (w : World) (a : Nat) (h : Row w A n c xs) (ea : val xs = a) (hb : n ≤ 1073741824) :
    Calls Try.prog 28 #[.slice A n c] w fun e w' => e = .returned (.int .i64 ((blen a : Nat) : Int)) ∧ Below w.heap.size w w' := by
  subst ea; exact rBits_any A n c xs w h hb
theorem To_N (A : Option Addr) (n c : Nat) (xs : List Nat) (w : World) (a : Nat) (h : Row w A n c xs) (ea : val xs = a) (hb : n ≤ 1073741824) :
    Calls Try.prog 23 #[.slice A n c] w fun e w' => e = .returned (.tuple #[.int .u64 ((to64 a : Nat) : Int), .bool (is64 a)]) ∧ w = w' := by
  subst ea; exact To_any A n c xs w h hb
theorem rTo_N (A : Option Addr) (n c : Nat) (xs : List Nat) (w : World) (a : Nat) (h : Row w A n c xs) (ea : val xs = a) (hb : n ≤ 1073741824) :
    Calls Try.prog 24 #[.slice A n c] w fun e w' => e = .returned (.tuple #[.int .u64 ((to64 a : Nat) : Int), .bool (is64 a)]) ∧ Below w.heap.size w w' := by
  subst ea; exact rTo_any A n c xs w h hb
theorem Shift_N (A : Option Addr) (n c : Nat) (d : Int) (xs : List Nat) (w : World) (a : Nat) (h : Row w A n c xs) (ea : val xs = a) (hn : n ≤ 1073741824) :
    Calls Try.prog 16 #[.slice A n c, .int .i64 d] w (Ret w (shv a (clampD d))) := by
  subst ea; exact Shift_any A n c d xs w h hn
theorem rShift_N (A : Option Addr) (n c : Nat) (d : Int) (xs : List Nat) (w : World) (a : Nat) (h : Row w A n c xs) (ea : val xs = a) (hn : n ≤ 1073741824) :
    Calls Try.prog 31 #[.slice A n c, .int .i64 d] w (Ret w (shv a (clampD d))) := by
  subst ea; exact rShift_any A n c d xs w h hn

set_option maxHeartbeats 2000000 in
theorem law_NatLooks (A0 : Option Addr) (n0 c0 : Nat) (x : List Nat) (n d : Int) (w : World) (h0 : Row w A0 n0 c0 x) (w1 : (Lit.int .u64 n).wf = true) :
    Calls Try.prog 6 #[.slice A0 n0 c0, .int .u64 n, .int .i64 d] w fun e w' => e = .returned (.bool true) ∧ Below w.heap.size w w' := by
  have b0 := h0.nc
  have b0' := h0.cm
  by_cases g0 : 20 < n0
  · have d0 : decide ((20 : Int) < (n0 : Int)) = true := by simp; omega
    go_enter Try.func6, Try.ntmps6
    go_wp2_with fail
    go_ret
    exact ⟨rfl, Below.refl _ _⟩
  have d0 : decide ((20 : Int) < (n0 : Int)) = false := by simp; omega
  have hbn := bounds_u64 w1
  obtain ⟨N, rfl⟩ := Int.eq_ofNat_of_zero_le hbn.1
  have hN : N < 18446744073709551616 := by omega
  clear hbn w1
  have hIs : (isT x == ((n0 : Int) == ((limbs (val x)).length : Int))) = true := by
    have hl := h0.len
    have ht := tl_le h0.ok
    by_cases h : tl x = n0
    · rw [isT_true (by rw [hl]; exact h)]
      have : (((n0 : Int)) == ((limbs (val x)).length : Int)) = true := by
        have h' : (limbs (val x)).length = n0 := h
        rw [h']; simp
      rw [this]; rfl
    · rw [isT_false (by omega)]
      have : (((n0 : Int)) == ((limbs (val x)).length : Int)) = false := by
        have h' : (limbs (val x)).length ≠ n0 := h
        simp; omega
      rw [this]; rfl
  go_enter Try.func6, Try.ntmps6
  go_wp2_with (first
    | (go_at_call 17; refine (rTrim_N _ _ _ _ _ _ (by repeat first | assumption | apply Pg.Row.below (hb := by assumption) | apply Pg.Row.alloc | apply Pg.Row.drewN) (by first | exact val_limbs _ | rfl) (by first | omega | assumption)).mono ?_; rintro e w1 ⟨A, c, rfl, hr, hb⟩) | (go_at_call 25; refine (Trim_N _ _ _ _ _ _ (by repeat first | assumption | apply Pg.Row.below (hb := by assumption) | apply Pg.Row.alloc | apply Pg.Row.drewN) (by first | exact val_limbs _ | rfl) (by first | omega | assumption)).mono ?_; rintro e w1 ⟨A, c, rfl, hr, hb⟩) | (go_at_call 13; refine (limbs_T _ _ _ _ _ _ _ _ _ (by repeat first | assumption | apply Pg.Row.below (hb := by assumption) | apply Pg.Row.alloc | apply Pg.Row.drewN) (by repeat first | assumption | apply Pg.Row.below (hb := by assumption) | apply Pg.Row.alloc | apply Pg.Row.drewN) rfl).mono ?_; rintro e w1 ⟨rfl, hb⟩) | (go_at_call 14; refine (known_any _).mono ?_; rintro e w1 ⟨rfl, hb⟩)
    | (go_at_call 23; refine (To_N _ _ _ _ _ _ (by repeat first | assumption | apply Pg.Row.below (hb := by assumption) | apply Pg.Row.alloc | apply Pg.Row.drewN) (by first | exact val_limbs _ | rfl) (by first | omega | assumption)).mono ?_; rintro e w1 ⟨rfl, rfl⟩)
    | (go_at_call 24; refine (rTo_N _ _ _ _ _ _ (by repeat first | assumption | apply Pg.Row.below (hb := by assumption) | apply Pg.Row.alloc | apply Pg.Row.drewN) (by first | exact val_limbs _ | rfl) (by first | omega | assumption)).mono ?_; rintro e w1 ⟨rfl, hb⟩)
    | (go_at_call 27; refine (Bits_N _ _ _ _ _ _ (by repeat first | assumption | apply Pg.Row.below (hb := by assumption) | apply Pg.Row.alloc | apply Pg.Row.drewN) (by first | exact val_limbs _ | rfl) (by first | omega | assumption)).mono ?_; rintro e w1 ⟨rfl, rfl⟩)
    | (go_at_call 28; refine (rBits_N _ _ _ _ _ _ (by repeat first | assumption | apply Pg.Row.below (hb := by assumption) | apply Pg.Row.alloc | apply Pg.Row.drewN) (by first | exact val_limbs _ | rfl) (by first | omega | assumption)).mono ?_; rintro e w1 ⟨rfl, hb⟩)
    | (go_at_call 26; refine (is_any _ _ _ _ _ (by repeat first | assumption | apply Pg.Row.below (hb := by assumption) | apply Pg.Row.alloc | apply Pg.Row.drewN)).mono ?_; rintro e w1 ⟨rfl, rfl⟩)
    | (go_at_call 29; refine (Of_any N _ hN).mono ?_; rintro e w1 ⟨A, c, rfl, hr, hb⟩)
    | (go_at_call 30; refine (rOf_any N _ hN).mono ?_; rintro e w1 ⟨A, c, rfl, hr, hb⟩)
    | (go_at_call 16; refine (Shift_N _ _ _ _ _ _ _ (by repeat first | assumption | apply Pg.Row.below (hb := by assumption) | apply Pg.Row.alloc | apply Pg.Row.drewN) (by first | exact val_limbs _ | rfl) (by first | omega | assumption)).mono ?_; rintro e w1 ⟨A, c, rfl, hr, hb⟩)
    | (go_at_call 31; refine (rShift_N _ _ _ _ _ _ _ (by repeat first | assumption | apply Pg.Row.below (hb := by assumption) | apply Pg.Row.alloc | apply Pg.Row.drewN) (by first | exact val_limbs _ | rfl) (by first | omega | assumption)).mono ?_; rintro e w1 ⟨A, c, rfl, hr, hb⟩))
  go_ret
  exact ⟨rfl, (by repeat first | exact Below.refl _ _ | assumption | refine Pg.Below.then_ ?_ (by assumption) | refine Pg.Below.new_ ?_ _ | refine Pg.Below.drewN_ ?_ _)⟩
end Go.Proofs.Ytliflabkpeemdaa
