/- Walks: Bits and Kind of flt and of the reference. Conditions: none. -/
import Derived.Test.YtgehoflkbckgkaaRc
namespace Pg
open Go Go.RowKit
/-- A word of 64 bits: its sign, exponent and fraction. -/
def fNeg (u : Nat) : Bool := decide (9223372036854775808 ≤ u)
def fExp (u : Nat) : Nat := u / 4503599627370496 % 2048
def fFrac (u : Nat) : Nat := u % 4503599627370496
/-- What a word is. -/
def fKind (u : Nat) : Nat := if fExp u = 2047 then (if fFrac u = 0 then (if fNeg u = true then 4 else 3) else 5) else if fExp u = 0 then (if fFrac u = 0 then (if fNeg u = true then 2 else 1) else 0) else 0
theorem fExp_lt (u : Nat) : fExp u < 2048 := Nat.mod_lt _ (by omega)
theorem fFrac_lt (u : Nat) : fFrac u < 4503599627370496 := Nat.mod_lt _ (by omega)
theorem and_low (a k m : Nat) (hm : m = 2 ^ k - 1) (ha : a < 18446744073709551616) (hk : m < 18446744073709551616) : bits .and .u64 (a : Int) (m : Int) = ((a % 2 ^ k : Nat) : Int) := by
  subst hm
  rw [u64_and_nat _ _ ha hk, Nat.and_two_pow_sub_one_eq_mod]
theorem bits_exp (u : Nat) (hu : u < 18446744073709551616) : bits .and .u64 ((u : Int) / 4503599627370496) 2047 = ((fExp u : Nat) : Int) := by
  have e : (u : Int) / 4503599627370496 = ((u / 4503599627370496 : Nat) : Int) := by omega
  rw [e]
  exact and_low _ 11 2047 (by decide) (by omega) (by omega)
theorem bits_frac (u : Nat) (hu : u < 18446744073709551616) : bits .and .u64 (u : Int) 4503599627370495 = ((fFrac u : Nat) : Int) :=
  and_low u 52 4503599627370495 (by decide) hu (by omega)
theorem bits_neg (u : Nat) (hu : u < 18446744073709551616) : ((u : Int) / 9223372036854775808 == 1) = fNeg u := by
  rw [Bool.eq_iff_iff]
  simp only [beq_iff_eq, fNeg, decide_eq_true_eq]
  omega
end Pg
namespace Go.Proofs.Ytgehoflkbckgkaa
open Go.RowKit Pg

theorem run_f64bits (u : Nat) (W : World) : (callFunc 26 #[.float .f64 u]).run Try.prog W = .ok (.value (.int .u64 (u : Int))) W := by kernel_rfl
theorem run_f64from (n : Int) (u : Nat) (h : n = (u : Int)) (W : World) : (callFunc 11 #[.int .u64 n]).run Try.prog W = .ok (.value (.float .f64 u)) W := by
  have : (callFunc 11 #[.int .u64 n]).run Try.prog W = .ok (.value (.float .f64 n.toNat)) W := by kernel_rfl
  rw [this, h]; rfl

set_option maxHeartbeats 400000 in
theorem fltBits_any (u : Nat) (w : World) (hu : u < 18446744073709551616) :
    Calls Try.prog 15 #[.float .f64 u] w fun e w' => e = .returned (.tuple #[.bool (fNeg u), .int .i64 (fExp u : Int), .int .u64 (fFrac u : Int)]) ∧ w = w' := by
  have q := run_f64bits u
  have e1 := bits_exp u hu
  have e2 := bits_frac u hu
  have e3 := bits_neg u hu
  have h1 := fExp_lt u
  have h2 : (fExp u : Int) ≤ 2047 := by omega
  generalize fExp u = E at *
  generalize fFrac u = F at *
  generalize fNeg u = S at *
  go_enter Try.func15, Try.ntmps15
  go_wp2_with fail
  go_ret3
  exact ⟨rfl, rfl⟩

set_option maxHeartbeats 1000000 in
theorem fltKind_any (u : Nat) (w : World) (hu : u < 18446744073709551616) :
    Calls Try.prog 19 #[.float .f64 u] w fun e w' => e = .returned (.int .i64 (fKind u : Int)) ∧ w = w' := by
  have HB := hid (fltBits_any u w hu)
  have HK : Hid (fKind u = if fExp u = 2047 then (if fFrac u = 0 then (if fNeg u = true then 4 else 3) else 5) else if fExp u = 0 then (if fFrac u = 0 then (if fNeg u = true then 2 else 1) else 0) else 0) := hid rfl
  generalize fKind u = R at *
  generalize fExp u = E at *
  generalize fFrac u = F at *
  generalize fNeg u = S at *
  by_cases c1 : E = 2047
  · have d1 : ((E : Int) == 2047) = true := by simp; omega
    by_cases c2 : F = 0
    · have d2 : ((F : Int) != 0) = false := by simp; omega
      have hR : R = if S = true then 4 else 3 := by rw [HK.out, if_pos c1, if_pos c2]
      have HR := hid hR
      clear HK hR c1 c2
      rcases S with _ | _
      all_goals
        go_enter Try.func19, Try.ntmps19
        go_wp2_with (go_at_call 15; refine (HB.out).mono ?_; rintro e w1 ⟨rfl, rfl⟩)
        go_ret
        exact ⟨by rw [HR.out]; rfl, rfl⟩
    · have d2 : ((F : Int) != 0) = true := by simp; omega
      have HR := hid (show R = 5 by rw [HK.out, if_pos c1, if_neg c2])
      clear HK c1 c2
      go_enter Try.func19, Try.ntmps19
      go_wp2_with (go_at_call 15; refine (HB.out).mono ?_; rintro e w1 ⟨rfl, rfl⟩)
      go_ret
      exact ⟨by rw [HR.out]; rfl, rfl⟩
  · have d1 : ((E : Int) == 2047) = false := by simp; omega
    by_cases c3 : E = 0
    · have d3 : ((E : Int) == 0) = true := by simp; omega
      by_cases c2 : F = 0
      · have d2 : ((F : Int) == 0) = true := by simp; omega
        have HR := hid (show R = if S = true then 2 else 1 by rw [HK.out, if_neg c1, if_pos c3, if_pos c2])
        clear HK c1 c2 c3
        rcases S with _ | _
        all_goals
          go_enter Try.func19, Try.ntmps19
          go_wp2_with (go_at_call 15; refine (HB.out).mono ?_; rintro e w1 ⟨rfl, rfl⟩)
          go_ret
          exact ⟨by rw [HR.out]; rfl, rfl⟩
      · have d2 : ((F : Int) == 0) = false := by simp; omega
        have HR := hid (show R = 0 by rw [HK.out, if_neg c1, if_pos c3, if_neg c2])
        clear HK c1 c2 c3
        go_enter Try.func19, Try.ntmps19
        go_wp2_with (go_at_call 15; refine (HB.out).mono ?_; rintro e w1 ⟨rfl, rfl⟩)
        go_ret
        exact ⟨by rw [HR.out]; rfl, rfl⟩
    · have d3 : ((E : Int) == 0) = false := by simp; omega
      have HR := hid (show R = 0 by rw [HK.out, if_neg c1, if_neg c3])
      clear HK c1 c3
      go_enter Try.func19, Try.ntmps19
      go_wp2_with (go_at_call 15; refine (HB.out).mono ?_; rintro e w1 ⟨rfl, rfl⟩)
      go_ret
      exact ⟨by rw [HR.out]; rfl, rfl⟩

set_option maxHeartbeats 400000 in
theorem r4Bits_any (u : Nat) (w : World) (hu : u < 18446744073709551616) :
    Calls Try.prog 16 #[.float .f64 u] w fun e w' => e = .returned (.tuple #[.bool (fNeg u), .int .i64 (fExp u : Int), .int .u64 (fFrac u : Int)]) ∧ w = w' := by
  have q := run_f64bits u
  have e1 := bits_exp u hu
  have e2 := bits_frac u hu
  have e3 := bits_neg u hu
  have h1 := fExp_lt u
  have h2 : (fExp u : Int) ≤ 2047 := by omega
  generalize fExp u = E at *
  generalize fFrac u = F at *
  generalize fNeg u = S at *
  go_enter Try.func16, Try.ntmps16
  go_wp2_with fail
  go_ret3
  exact ⟨rfl, rfl⟩

set_option maxHeartbeats 1000000 in
theorem r4Kind_any (u : Nat) (w : World) (hu : u < 18446744073709551616) :
    Calls Try.prog 20 #[.float .f64 u] w fun e w' => e = .returned (.int .i64 (fKind u : Int)) ∧ w = w' := by
  have HB := hid (r4Bits_any u w hu)
  have HK : Hid (fKind u = if fExp u = 2047 then (if fFrac u = 0 then (if fNeg u = true then 4 else 3) else 5) else if fExp u = 0 then (if fFrac u = 0 then (if fNeg u = true then 2 else 1) else 0) else 0) := hid rfl
  generalize fKind u = R at *
  generalize fExp u = E at *
  generalize fFrac u = F at *
  generalize fNeg u = S at *
  by_cases c1 : E = 2047
  · have d1 : ((E : Int) == 2047) = true := by simp; omega
    by_cases c2 : F = 0
    · have d2 : ((F : Int) != 0) = false := by simp; omega
      have hR : R = if S = true then 4 else 3 := by rw [HK.out, if_pos c1, if_pos c2]
      have HR := hid hR
      clear HK hR c1 c2
      rcases S with _ | _
      all_goals
        go_enter Try.func20, Try.ntmps20
        go_wp2_with (go_at_call 16; refine (HB.out).mono ?_; rintro e w1 ⟨rfl, rfl⟩)
        go_ret
        exact ⟨by rw [HR.out]; rfl, rfl⟩
    · have d2 : ((F : Int) != 0) = true := by simp; omega
      have HR := hid (show R = 5 by rw [HK.out, if_pos c1, if_neg c2])
      clear HK c1 c2
      go_enter Try.func20, Try.ntmps20
      go_wp2_with (go_at_call 16; refine (HB.out).mono ?_; rintro e w1 ⟨rfl, rfl⟩)
      go_ret
      exact ⟨by rw [HR.out]; rfl, rfl⟩
  · have d1 : ((E : Int) == 2047) = false := by simp; omega
    by_cases c3 : E = 0
    · have d3 : ((E : Int) == 0) = true := by simp; omega
      by_cases c2 : F = 0
      · have d2 : ((F : Int) == 0) = true := by simp; omega
        have HR := hid (show R = if S = true then 2 else 1 by rw [HK.out, if_neg c1, if_pos c3, if_pos c2])
        clear HK c1 c2 c3
        rcases S with _ | _
        all_goals
          go_enter Try.func20, Try.ntmps20
          go_wp2_with (go_at_call 16; refine (HB.out).mono ?_; rintro e w1 ⟨rfl, rfl⟩)
          go_ret
          exact ⟨by rw [HR.out]; rfl, rfl⟩
      · have d2 : ((F : Int) == 0) = false := by simp; omega
        have HR := hid (show R = 0 by rw [HK.out, if_neg c1, if_pos c3, if_neg c2])
        clear HK c1 c2 c3
        go_enter Try.func20, Try.ntmps20
        go_wp2_with (go_at_call 16; refine (HB.out).mono ?_; rintro e w1 ⟨rfl, rfl⟩)
        go_ret
        exact ⟨by rw [HR.out]; rfl, rfl⟩
    · have d3 : ((E : Int) == 0) = false := by simp; omega
      have HR := hid (show R = 0 by rw [HK.out, if_neg c1, if_neg c3])
      clear HK c1 c3
      go_enter Try.func20, Try.ntmps20
      go_wp2_with (go_at_call 16; refine (HB.out).mono ?_; rintro e w1 ⟨rfl, rfl⟩)
      go_ret
      exact ⟨by rw [HR.out]; rfl, rfl⟩
end Go.Proofs.Ytgehoflkbckgkaa
