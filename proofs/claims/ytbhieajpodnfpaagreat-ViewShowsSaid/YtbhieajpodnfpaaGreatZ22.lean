/- Walks: math.Ldexp and what it calls, at a number without a sign · Walks: pantographref4.near, sign · Walks: pantographref2.Neg, Add, Sub, Cmp, by rationals · Walk: pantographref2.Cmp, by rationals · Walks: flt.scaled, flt.To · The nearest number of 64 bits of what is one, of a number and its multiple, of what is far or low. Plain · Walk: the law FltBack · Walks: pantographref4.sign, To · Walk: pantographlaw4.shifted; what lies far, what is low · The nearest number of 64 bits rises with the number; how words stand; the sign. Plain · Whole numbers in 64 bits; what a word's number is. Plain. Conditions: those that each theorem names. -/
import Derived.Test.YtbhieajpodnfpaaGreatZ15
import Derived.Test.YtbhieajpodnfpaaGreatZ21
import Derived.Test.YtbhieajpodnfpaaGreatZ20
namespace Pg
open Go Go.RowKit
theorem andNot_sign (x : Nat) (h : x < 9223372036854775808) : bits .andNot .u64 (x : Int) 9223372036854775808 = (x : Int) := by
  have := u64_andNot_nat x 9223372036854775808 (by omega) (by omega)
  rw [show (18446744073709551615 - 9223372036854775808 : Nat) = 2 ^ 63 - 1 by decide, Nat.and_two_pow_sub_one_eq_mod, Nat.mod_eq_of_lt (by omega)] at this
  exact this
theorem andNot_exp (x : Nat) (h : x < 9223372036854775808) : bits .andNot .u64 (x : Int) 9218868437227405312 = ((x % 4503599627370496 : Nat) : Int) := by
  have := u64_andNot_nat x 9218868437227405312 (by omega) (by omega)
  have e : x &&& (18446744073709551615 - 9218868437227405312) = x % 4503599627370496 := by
    have h1 : x = x &&& (2 ^ 63 - 1) := by rw [Nat.and_two_pow_sub_one_eq_mod, Nat.mod_eq_of_lt (by omega)]
    have h2 : x &&& (2 ^ 63 - 1) &&& (18446744073709551615 - 9218868437227405312) = x &&& (2 ^ 52 - 1) := by
      rw [Nat.and_assoc, show ((2 ^ 63 - 1) &&& (18446744073709551615 - 9218868437227405312) : Nat) = 2 ^ 52 - 1 by decide]
    rw [← h1, Nat.and_two_pow_sub_one_eq_mod] at h2
    exact h2
  rw [e] at this
  exact this
theorem or_exp (F e : Nat) (hF : F < 4503599627370496) (he : e < 2048) : bits .or .u64 (F : Int) ((e : Int) * 4503599627370496) = ((e * 4503599627370496 + F : Nat) : Int) := by
  have h := u64_or_nat F (e * 4503599627370496) (by omega) (by omega)
  have j : F ||| e * 4503599627370496 = e * 4503599627370496 + F := by
    rw [Nat.or_comm, Nat.mul_comm]
    exact (Nat.two_pow_add_eq_or_of_lt (i := 52) (b := F) (by omega) e).symm
  rw [j] at h
  rw [show ((e * 4503599627370496 : Nat) : Int) = (e : Int) * 4503599627370496 by omega] at h
  exact h
theorem i64_and2047 (n : Nat) (h : n < 4096) : bits .and .i64 (n : Int) 2047 = ((n % 2048 : Nat) : Int) := by
  have h127 : (BitVec.ofInt 64 2047).toNat = 2 ^ 11 - 1 := by decide
  have key : (BitVec.ofInt 64 (n : Int) &&& BitVec.ofInt 64 2047).toNat = ((n : Int) % ((2 ^ 64 : Nat) : Int)).toNat % 2 ^ 11 := by
    rw [BitVec.toNat_and, BitVec.toNat_ofInt, h127, Nat.and_two_pow_sub_one_eq_mod]
  show IntKind.i64.wrap ((BitVec.ofInt 64 (n : Int) &&& BitVec.ofInt 64 2047).toNat : Nat) = _
  rw [key, IntKind.wrap_i64]
  omega
end Pg
namespace Go.Proofs.YtbhieajpodnfpaaGreat
open Go.RowKit Pg

set_option maxHeartbeats 400000 in
theorem Abs_any (x : Nat) (w : World) (hx : x < 9223372036854775808) : Calls Tryz.prog 109 #[.float .f64 x] w fun e w' => e = .returned (.float .f64 x) ∧ w = w' := by
  have q := run_f64bits x
  have e1 := andNot_sign x hx
  have q2 := run_f64from x x rfl
  go_enter Tryz.func109, Tryz.ntmps109
  go_wp2_with fail
  go_ret
  exact ⟨rfl, rfl⟩
set_option maxHeartbeats 400000 in
theorem IsNaN_any (x : Nat) (w : World) (hx : x < 9218868437227405312) : Calls Tryz.prog 99 #[.float .f64 x] w fun e w' => e = .returned (.bool false) ∧ w = w' := by
  have ho : FloatKind.f64.format.order x x = some .eq := by
    have := order_pos hx hx
    rw [Nat.compare_eq_eq.2 rfl] at this
    exact this
  go_enter Tryz.func99, Tryz.ntmps99
  go_wp2_with fail
  go_ret
  exact ⟨by first | rfl | (rw [ho]; rfl), rfl⟩
set_option maxHeartbeats 400000 in
theorem IsInf_any (x : Nat) (w : World) (hx : x < 9218868437227405312) : Calls Tryz.prog 98 #[.float .f64 x, .int .i64 0] w fun e w' => e = .returned (.bool false) ∧ w = w' := by
  have HA := hid fun W => Abs_any x W (by omega)
  have ho : (FloatKind.f64.format.order x 9218868437227405311 == some .gt) = false := by
    have := order_pos hx (show 9218868437227405311 < 9218868437227405312 by omega)
    rw [show FloatKind.f64.format = Ieee.double from rfl, this]
    rcases Nat.lt_or_eq_of_le (show x ≤ 9218868437227405311 by omega) with h | h
    · rw [Nat.compare_eq_lt.2 h]; rfl
    · rw [Nat.compare_eq_eq.2 h]; rfl
  go_enter Tryz.func98, Tryz.ntmps98
  go_wp2_with (go_at_call 109; refine (HA.out _).mono ?_; rintro e w1 ⟨rfl, rfl⟩)
  go_ret
  exact ⟨by first | rfl | (rw [ho]), rfl⟩
set_option maxHeartbeats 400000 in
theorem normalize_any (x : Nat) (w : World) (h1 : 4503599627370496 ≤ x) (hx : x < 9218868437227405312) : Calls Tryz.prog 100 #[.float .f64 x] w fun e w' => e = .returned (.tuple #[.float .f64 x, .int .i64 0]) ∧ w = w' := by
  have HA := hid fun W => Abs_any x W (by omega)
  have ho : (FloatKind.f64.format.order x 4503599627370496 == some .lt) = false := by
    have := order_pos hx (show 4503599627370496 < 9218868437227405312 by omega)
    rw [show FloatKind.f64.format = Ieee.double from rfl, this]
    rcases Nat.lt_or_eq_of_le h1 with h | h
    · rw [Nat.compare_eq_gt.2 h]; rfl
    · rw [Nat.compare_eq_eq.2 h.symm]; rfl
  go_enter Tryz.func100, Tryz.ntmps100
  go_wp2_with (go_at_call 109; refine (HA.out _).mono ?_; rintro e w1 ⟨rfl, rfl⟩)
  go_ret2
  exact ⟨rfl, rfl⟩
theorem Inf_any (neg : Bool) (w : World) : Calls Tryz.prog 55 #[.int .i64 (if neg then -1 else 1)] w fun e w' => e = .returned (.float .f64 (if neg then 18442240474082181120 else 9218868437227405312)) ∧ w = w' := by
  have q1 := run_f64from 9218868437227405312 9218868437227405312 rfl
  have q2 := run_f64from 18442240474082181120 18442240474082181120 rfl
  rcases neg with _ | _
  all_goals
    go_enter Tryz.func55, Tryz.ntmps55
    go_wp2_with fail
    go_ret
    exact ⟨rfl, rfl⟩

set_option maxHeartbeats 1000000 in
/-- ldexp, at a normal number: l is its exponent, z its digits. -/
theorem ldexp_big (X l z : Nat) (e : Int) (w : World) (hX : X = (l + 1022) * 4503599627370496 + z) (h1 : 4503599627370496 ≤ z) (h2 : z < 9007199254740992) (hl : l ≤ 53) (he0 : -1074 ≤ e) (he : e ≤ 2048) (hb : 1023 < e + l) :
    Calls Tryz.prog 80 #[.float .f64 X, .int .i64 e] w fun e w' => e = .returned (.float .f64 9218868437227405312) ∧ w = w' := by
  have hXl : X < 9218868437227405312 := by omega
  have hX0 : 4503599627370496 ≤ X := by omega
  have HI := hid fun W => IsInf_any X W hXl
  have HN := hid fun W => IsNaN_any X W hXl
  have HZ := hid fun W => normalize_any X W hX0 hXl
  have HF := hid fun W => Inf_any false W
  have ho : (FloatKind.f64.format.order X 0) = some .gt := by
    have := order_pos hXl (show 0 < 9218868437227405312 by omega)
    rw [show FloatKind.f64.format = Ieee.double from rfl, this, Nat.compare_eq_gt.2 (by omega)]
  have q := run_f64bits X
  have hd : (X : Int) / 4503599627370496 = ((l + 1023 : Nat) : Int) := by omega
  have ha : bits .and .i64 ((l + 1023 : Nat) : Int) 2047 = ((l + 1023 : Nat) : Int) := by
    rw [i64_and2047 _ (by omega)]; omega
  obtain ⟨L, hL⟩ : ∃ L, L = l + 1023 := ⟨_, rfl⟩
  rw [← hL] at hd ha
  have hb' : 2046 < e + L := by omega
  have hL1 : 1023 ≤ L := by omega
  have hL2 : L ≤ 1076 := by omega
  clear hL hb hX h1 h2 hl hX0 hXl
  go_enter Tryz.func80, Tryz.ntmps80
  go_wp2_with (first
    | (go_at_call 98; refine (HI.out _).mono ?_; rintro e w1 ⟨rfl, rfl⟩)
    | (go_at_call 99; refine (HN.out _).mono ?_; rintro e w1 ⟨rfl, rfl⟩)
    | (go_at_call 100; refine (HZ.out _).mono ?_; rintro e w1 ⟨rfl, rfl⟩)
    | (go_at_call 55; refine (HF.out _).mono ?_; rintro e w1 ⟨rfl, rfl⟩))
  all_goals
    go_ret
    exact ⟨rfl, rfl⟩

set_option maxHeartbeats 1000000 in
theorem ldexp_norm (X l z : Nat) (e : Int) (w : World) (hX : X = (l + 1022) * 4503599627370496 + z) (h1 : 4503599627370496 ≤ z) (h2 : z < 9007199254740992) (hl : l ≤ 53) (he0 : -1074 ≤ e) (he : e ≤ 2048) (hb : e + l ≤ 1023) (hb2 : -1022 ≤ e + l) (R : Nat) (hR : (R : Int) = (e + l + 1022) * 4503599627370496 + z) :
    Calls Tryz.prog 80 #[.float .f64 X, .int .i64 e] w fun e w' => e = .returned (.float .f64 R) ∧ w = w' := by
  have hXl : X < 9218868437227405312 := by omega
  have hX0 : 4503599627370496 ≤ X := by omega
  have HI := hid fun W => IsInf_any X W hXl
  have HN := hid fun W => IsNaN_any X W hXl
  have HZ := hid fun W => normalize_any X W hX0 hXl
  have ho : (FloatKind.f64.format.order X 0) = some .gt := by
    have := order_pos hXl (show 0 < 9218868437227405312 by omega)
    rw [show FloatKind.f64.format = Ieee.double from rfl, this, Nat.compare_eq_gt.2 (by omega)]
  have q := run_f64bits X
  have hd : (X : Int) / 4503599627370496 = ((l + 1023 : Nat) : Int) := by omega
  have ha : bits .and .i64 ((l + 1023 : Nat) : Int) 2047 = ((l + 1023 : Nat) : Int) := by
    rw [i64_and2047 _ (by omega)]; omega
  have hm : bits .andNot .u64 (X : Int) 9218868437227405312 = ((z - 4503599627370496 : Nat) : Int) := by
    rw [andNot_exp X (by omega)]; omega
  obtain ⟨E, hE⟩ : ∃ E : Nat, (E : Int) = e + l + 1023 := ⟨(e + l + 1023).toNat, by omega⟩
  have hor := or_exp (z - 4503599627370496) E (by omega) (by omega)
  have hRn : E * 4503599627370496 + (z - 4503599627370496) = R := by omega
  rw [hRn] at hor
  have hR1 : 4503599627370496 ≤ R := by omega
  have hR2 : R < 9218868437227405312 := by omega
  have q2 := run_f64from (R : Int) R rfl
  have hmul : ∀ (t : TypeId) (w : World), (binOp .mul t (.float .f64 4607182418800017408) (.float .f64 R)).run Tryz.prog w = .ok (.float .f64 R) w := fun t w => run_float_arith w .mul t .f64 4607182418800017408 R R (mul_one hR1 hR2)
  obtain ⟨L, hL⟩ : ∃ L, L = l + 1023 := ⟨_, rfl⟩
  rw [← hL] at hd ha
  have hb' : e + L ≤ 2046 := by omega
  have hb2' : 1 ≤ e + L := by omega
  rw [show (E : Int) = e + ((L : Int) - 1023) + 1023 by omega] at hor
  have hL1 : 1023 ≤ L := by omega
  have hL2 : L ≤ 1076 := by omega
  generalize z - 4503599627370496 = F at *
  clear hL hb hX h1 h2 hl hX0 hXl hE hb2 hRn hR
  go_enter Tryz.func80, Tryz.ntmps80
  go_wp2_with (first
    | (go_at_call 98; refine (HI.out _).mono ?_; rintro e w1 ⟨rfl, rfl⟩)
    | (go_at_call 99; refine (HN.out _).mono ?_; rintro e w1 ⟨rfl, rfl⟩)
    | (go_at_call 100; refine (HZ.out _).mono ?_; rintro e w1 ⟨rfl, rfl⟩))
  all_goals
    go_ret
    exact ⟨rfl, rfl⟩

set_option maxHeartbeats 1000000 in
theorem ldexp_tiny (X l z : Nat) (e : Int) (w : World) (hX : X = (l + 1022) * 4503599627370496 + z) (h1 : 4503599627370496 ≤ z) (h2 : z < 9007199254740992) (hl : l ≤ 51) (he0 : e = -1074) (u : Nat) (hz : z = u * 2 ^ (52 - l)) (hu1 : 2 ^ l ≤ u) (hu2 : u < 2 ^ (l + 1)) :
    Calls Tryz.prog 80 #[.float .f64 X, .int .i64 e] w fun e w' => e = .returned (.float .f64 u) ∧ w = w' := by
  have hXl : X < 9218868437227405312 := by omega
  have hX0 : 4503599627370496 ≤ X := by omega
  have HI := hid fun W => IsInf_any X W hXl
  have HN := hid fun W => IsNaN_any X W hXl
  have HZ := hid fun W => normalize_any X W hX0 hXl
  have ho : (FloatKind.f64.format.order X 0) = some .gt := by
    have := order_pos hXl (show 0 < 9218868437227405312 by omega)
    rw [show FloatKind.f64.format = Ieee.double from rfl, this, Nat.compare_eq_gt.2 (by omega)]
  have q := run_f64bits X
  have hd : (X : Int) / 4503599627370496 = ((l + 1023 : Nat) : Int) := by omega
  have ha : bits .and .i64 ((l + 1023 : Nat) : Int) 2047 = ((l + 1023 : Nat) : Int) := by
    rw [i64_and2047 _ (by omega)]; omega
  have hm : bits .andNot .u64 (X : Int) 9218868437227405312 = ((z - 4503599627370496 : Nat) : Int) := by
    rw [andNot_exp X (by omega)]; omega
  obtain ⟨E, hE⟩ : ∃ E : Nat, E = l + 2 := ⟨_, rfl⟩
  obtain ⟨R, hR⟩ : ∃ R, R = (l + 1) * 4503599627370496 + z := ⟨_, rfl⟩
  have hor := or_exp (z - 4503599627370496) E (by omega) (by omega)
  have hRn : E * 4503599627370496 + (z - 4503599627370496) = R := by omega
  rw [hRn] at hor
  have q2 := run_f64from (R : Int) R rfl
  have hm0 := mul_tiny hu1 hu2 hl
  rw [← hz, ← hR] at hm0
  have hmul : ∀ (t : TypeId) (w : World), (binOp .mul t (.float .f64 4368491638549381120) (.float .f64 R)).run Tryz.prog w = .ok (.float .f64 u) w := fun t w => run_float_arith w .mul t .f64 4368491638549381120 R u hm0
  obtain ⟨L, hL⟩ : ∃ L, L = l + 1023 := ⟨_, rfl⟩
  rw [← hL] at hd ha
  rw [show (E : Int) = -1074 + ((L : Int) - 1023) + 53 + 1023 by omega] at hor
  have hL1 : 1023 ≤ L := by omega
  have hL2 : L ≤ 1074 := by omega
  generalize z - 4503599627370496 = F at *
  subst he0
  clear hL hX h1 h2 hl hX0 hXl hE hRn hR hz hu1 hu2 hm0
  go_enter Tryz.func80, Tryz.ntmps80
  go_wp2_with (first
    | (go_at_call 98; refine (HI.out _).mono ?_; rintro e w1 ⟨rfl, rfl⟩)
    | (go_at_call 99; refine (HN.out _).mono ?_; rintro e w1 ⟨rfl, rfl⟩)
    | (go_at_call 100; refine (HZ.out _).mono ?_; rintro e w1 ⟨rfl, rfl⟩))
  all_goals
    go_ret
    exact ⟨rfl, rfl⟩

/-- ldexp, of a whole number: u so often 2^e. -/
theorem ldexp_any (u k : Nat) (e : Int) (w : World) (hu : u ≠ 0) (hu2 : u ≤ 9007199254740992) (hk : k = 0 ∨ 4503599627370496 ≤ u) (hk2 : k ≤ 3122) (he : e = (k : Int) - 1074) :
    Calls Tryz.prog 80 #[.float .f64 (floatOfInt .f64 (u : Int)), .int .i64 e] w fun e w' => e = .returned (.float .f64 (min (k * 4503599627370496 + u) 9218868437227405312)) ∧ w = w' := by
  by_cases ht : u = 9007199254740992
  · rw [show ((u : Nat) : Int) = 9007199254740992 by omega, float_top]
    by_cases hb : 1023 < e + ((53 : Nat) : Int)
    · rw [Nat.min_eq_right (by omega)]
      exact ldexp_big 4845873199050653696 53 4503599627370496 e w (by omega) (by omega) (by omega) (by omega) (by omega) (by omega) hb
    · rw [Nat.min_eq_left (by omega)]
      exact ldexp_norm 4845873199050653696 53 4503599627370496 e w (by omega) (by omega) (by omega) (by omega) (by omega) (by omega) (by omega) (by omega) _ (by omega)
  · obtain ⟨l, hl⟩ : ∃ l, l = u.log2 := ⟨_, rfl⟩
    have h1 : 2 ^ l ≤ u := by rw [hl]; exact Nat.log2_self_le hu
    have h2 : u < 2 ^ (l + 1) := by rw [hl]; exact Nat.lt_log2_self
    have hl52 : l ≤ 52 := by
      have : u.log2 < 53 := (Nat.log2_lt hu).2 (by omega)
      omega
    have hkl : k = 0 ∨ l = 52 := by
      rcases hk with h | h
      · exact .inl h
      · right
        have : 52 ≤ u.log2 := (Nat.le_log2 hu).2 (by omega)
        omega
    have e1 : 4503599627370496 ≤ u * 2 ^ (52 - l) := by
      have := Nat.mul_le_mul_right (2 ^ (52 - l)) h1
      rw [← Nat.pow_add, show l + (52 - l) = 52 by omega] at this
      exact this
    have e2 : u * 2 ^ (52 - l) < 9007199254740992 := by
      have := Nat.mul_lt_mul_of_pos_right h2 (Nat.two_pow_pos (52 - l))
      rw [← Nat.pow_add, show l + 1 + (52 - l) = 53 by omega] at this
      exact this
    rw [float_nat h1 h2 hl52]
    by_cases hb : 1023 < e + (l : Int)
    · rw [Nat.min_eq_right (by omega)]
      exact ldexp_big _ l _ e w rfl e1 e2 (by omega) (by omega) (by omega) hb
    by_cases hb2 : -1022 ≤ e + (l : Int)
    · rw [Nat.min_eq_left (by omega)]
      refine ldexp_norm _ l _ e w rfl e1 e2 (by omega) (by omega) (by omega) (by omega) hb2 _ ?_
      have : l = 52 := by omega
      subst this
      rw [show 52 - 52 = 0 by omega, Nat.pow_zero, Nat.mul_one]
      omega
    · have : k = 0 := by omega
      subst this
      rw [Nat.zero_mul, Nat.zero_add, Nat.min_eq_left (by omega)]
      exact ldexp_tiny _ l _ e w rfl e1 e2 (by omega) (by omega) u rfl h1 h2

set_option maxHeartbeats 400000 in
theorem Ldexp_of (X R : Nat) (e : Int) (w : World) (HL : Hid (∀ W, Calls Tryz.prog 80 #[.float .f64 X, .int .i64 e] W fun e w' => e = .returned (.float .f64 R) ∧ W = w')) :
    Calls Tryz.prog 51 #[.float .f64 X, .int .i64 e] w fun e w' => e = .returned (.float .f64 R) ∧ w = w' := by
  go_enter Tryz.func51, Tryz.ntmps51
  go_wp2_with (go_at_call 80; refine (HL.out _).mono ?_; rintro e w1 ⟨rfl, rfl⟩)
  go_ret
  exact ⟨rfl, rfl⟩
/-- Ldexp. -/
theorem Ldexp_any (u k : Nat) (e : Int) (w : World) (hu : u ≠ 0) (hu2 : u ≤ 9007199254740992) (hk : k = 0 ∨ 4503599627370496 ≤ u) (hk2 : k ≤ 3122) (he : e = (k : Int) - 1074) :
    Calls Tryz.prog 51 #[.float .f64 (floatOfInt .f64 (u : Int)), .int .i64 e] w fun e w' => e = .returned (.float .f64 (min (k * 4503599627370496 + u) 9218868437227405312)) ∧ w = w' :=
  Ldexp_of _ _ e w (hid fun W => ldexp_any u k e W hu hu2 hk hk2 he)
end Go.Proofs.YtbhieajpodnfpaaGreat
namespace Pg
theorem rnd_casesR {n d q r u : Nat} (hq : n / d = q) (hr : n % d = r) (hu : u = rnd n d) :
    (cmpv (r + r) d = 1 ∧ u = q + 1) ∨ (cmpv (r + r) d = 0 ∧ q % 2 = 1 ∧ u = q + 1) ∨ (cmpv (r + r) d = 0 ∧ q % 2 = 0 ∧ u = q) ∨ (cmpv (r + r) d = -1 ∧ u = q) := by
  unfold rnd at hu
  rw [hq, hr] at hu
  rcases Nat.lt_trichotomy (r + r) d with h | h | h
  · refine .inr (.inr (.inr ⟨cmpv_lt h, ?_⟩))
    rw [if_neg (by omega)] at hu; omega
  · rcases Nat.mod_two_eq_zero_or_one q with hm | hm
    · refine .inr (.inr (.inl ⟨cmpv_eq h, hm, ?_⟩))
      rw [if_neg (by omega)] at hu; omega
    · refine .inr (.inl ⟨cmpv_eq h, hm, ?_⟩)
      rw [if_pos (by omega)] at hu; omega
  · refine .inl ⟨cmpv_gt h, ?_⟩
    rw [if_pos (by omega)] at hu; omega
theorem bits32_one (q : Nat) (h : q < 4294967296) : Go.bits .and .u32 (q : Int) 1 = ((q % 2 : Nat) : Int) := by
  have := Go.u32_and_nat q 1 h (by omega)
  rw [show q &&& 1 = q % 2 from Nat.and_one_is_mod q] at this
  exact this
end Pg
namespace Go.Proofs.YtbhieajpodnfpaaGreat
open Go.RowKit Pg
theorem rCmpE (A A' : Option Addr) (n c n' c' : Nat) (xs ys : List Nat) (w : World) (a b : Nat) (r : Int) (h : Row w A n c xs) (h' : Row w A' n' c' ys) (ea : val xs = a) (eb : val ys = b) (hb : n ≤ 1073741824) (hb' : n' ≤ 1073741824) (er : cmpv a b = r) :
    Calls Tryz.prog 53 #[.slice A n c, .slice A' n' c'] w (fun e w' => e = .returned (.int .i64 r) ∧ Below w.heap.size w w') := by
  subst ea eb er; exact rCmp_any A A' n c n' c' xs ys w h h' hb hb'
theorem rAddE (A A' : Option Addr) (n c n' c' : Nat) (xs ys : List Nat) (w : World) (a b s : Nat) (h : Row w A n c xs) (h' : Row w A' n' c' ys) (ea : val xs = a) (eb : val ys = b) (hb : n ≤ 1073741824) (hb' : n' ≤ 1073741824) (es : a + b = s) :
    Calls Tryz.prog 74 #[.slice A n c, .slice A' n' c'] w (Ret w s) := by
  subst ea eb es; exact rAdd_any A A' n c n' c' xs ys w h h' hb hb'

set_option maxRecDepth 100000 in
set_option maxHeartbeats 2000000 in
/-- pantographref4.near. -/
theorem near_any (A A' : Option Addr) (m c m' c' : Nat) (xs ys : List Nat) (w : World) (n d u : Nat) (h : Row w A m c xs) (h' : Row w A' m' c' ys) (ea : val xs = n) (eb : val ys = d) (hb : m ≤ 1048576) (hb' : m' ≤ 1048576) (hd : d ≠ 0) (hn : (limbs n).length ≤ 1048570) (_hdl : (limbs d).length ≤ 1048570) (hu : u = rnd n d) :
    Calls Tryz.prog 58 #[.slice A m c, .slice A' m' c'] w (Ret w u) := by
  obtain ⟨q, eq⟩ : ∃ x, n / d = x := ⟨_, rfl⟩
  obtain ⟨r, er'⟩ : ∃ x, n % d = x := ⟨_, rfl⟩
  have er : dmr n d = r := by unfold dmr; rw [if_neg hd]; exact er'
  have ebd : dmb d = true := by simp [dmb, hd]
  have lq := Nat.le_trans (limbs_mono (show q ≤ n by rw [← eq]; exact Nat.div_le_self _ _)) hn
  have lr := Nat.le_trans (limbs_mono (show r ≤ n by rw [← er']; exact Nat.mod_le _ _)) hn
  have lrr : (limbs (r + r)).length ≤ 1048576 := by
    have h1 := lt_pow_length r
    refine Nat.le_trans (length_limbs_le (k := (limbs r).length + 1) ?_) (by omega)
    rw [Nat.pow_succ]; omega
  have hcs := rnd_casesR eq er' hu
  obtain ⟨b, hub, hcs⟩ : ∃ b : Bool, Hid (u = if b then q + 1 else q) ∧ ((cmpv (r + r) d = 1 ∧ b = true) ∨ (cmpv (r + r) d = 0 ∧ q % 2 = 1 ∧ b = true) ∨ (cmpv (r + r) d = 0 ∧ q % 2 = 0 ∧ b = false) ∨ (cmpv (r + r) d = -1 ∧ b = false)) := by
    rcases hcs with ⟨h1, h2⟩ | ⟨h1, h2, h3⟩ | ⟨h1, h2, h3⟩ | ⟨h1, h2⟩
    · exact ⟨true, hid h2, .inl ⟨h1, rfl⟩⟩
    · exact ⟨true, hid h3, .inr (.inl ⟨h1, h2, rfl⟩)⟩
    · exact ⟨false, hid h3, .inr (.inr (.inl ⟨h1, h2, rfl⟩))⟩
    · exact ⟨false, hid h2, .inr (.inr (.inr ⟨h1, rfl⟩))⟩
  obtain ⟨cm, hcm⟩ : ∃ cm, Hid (cm = cmpv (r + r) d) := ⟨_, hid rfl⟩
  rw [← hcm.out] at hcs
  have HD := hid fun W (hW : Below w.heap.size w W) => rDivMod_E A A' m c m' c' xs ys W n d q r true (h.below hW) (h'.below hW) ea eb hb hb' eq er ebd
  have HR' := hid fun W (hW : Below w.heap.size w W) => h'.below hW
  clear hu eq er' er ebd hn h h' ea hd
  go_enter Tryz.func58, Tryz.ntmps58
  go_upto_region 3 with (first
    | (go_at_call 72; refine (HD.out _ (by repeat first | exact Below.refl _ _ | assumption | refine Pg.Below.then_ ?_ (by assumption) | refine Pg.Below.new_ ?_ _ | refine Pg.Below.drewN_ ?_ _)).mono ?_; rintro e w1 ⟨A1, c1, A2, c2, rfl, h1, h2, hb1⟩)
    | (go_at_call 53; refine (rCmpE _ _ _ _ _ _ _ ys _ (r + r) d _ (by repeat first | assumption | apply Pg.Row.below (hb := by assumption) | apply Pg.Row.alloc | apply Pg.Row.drewN) (HR'.out _ (by repeat first | exact Below.refl _ _ | assumption | refine Pg.Below.then_ ?_ (by assumption) | refine Pg.Below.new_ ?_ _ | refine Pg.Below.drewN_ ?_ _)) (val_limbs _) eb (by first | omega | assumption) (by first | omega | assumption) hcm.out.symm).mono ?_; rintro e w3 ⟨rfl, hb3⟩)
    | (go_at_call 74; (with_reducible refine (rAddE _ _ _ _ _ _ (limbs r) (limbs r) _ r r (r + r) (by repeat first | assumption | apply Pg.Row.below (hb := by assumption) | apply Pg.Row.alloc | apply Pg.Row.drewN) (by repeat first | assumption | apply Pg.Row.below (hb := by assumption) | apply Pg.Row.alloc | apply Pg.Row.drewN) (val_limbs _) (val_limbs _) (by first | omega | assumption) (by first | omega | assumption) (by omega)).mono ?_); rintro e w2 ⟨A3, c3, rfl, h3, hb2⟩))
  have hbf : Below w.heap.size w w3 := (by repeat first | exact Below.refl _ _ | assumption | refine Pg.Below.then_ ?_ (by assumption) | refine Pg.Below.new_ ?_ _ | refine Pg.Below.drewN_ ?_ _)
  have hq := (h1.below hb2).below hb3
  clear h1 h2 h3 hb1 hb2 hb3
  go_cut [38] (fun s38 wd => s38 = .bool b ∧ wd = w3)
  case first =>
    by_cases hq0 : q = 0
    · have hl0 : (((limbs q).length : Int)) = 0 := by rw [hq0]; rfl
      rcases hcs with ⟨rfl, rfl⟩ | ⟨rfl, hm, rfl⟩ | ⟨rfl, hm, rfl⟩ | ⟨rfl, rfl⟩
      all_goals
        first
        | (exfalso; omega)
        | (clear hq0
           go_wp2_with fail
           go_meet
           exact ⟨rfl, rfl⟩)
    · have hlp := (tl_top hq0).1
      obtain ⟨bq, oq, rfl, hcq⟩ := hq.at_ hlp
      have hc0 := hcq 0 hlp
      rw [Nat.add_zero, show lim (limbs q) 0 = q % 4294967296 by rw [limbs_pos hq0]; rfl] at hc0
      have hbo := bits32_one (q % 4294967296) (Nat.mod_lt _ (by decide))
      rw [show q % 4294967296 % 2 = q % 2 by omega] at hbo
      clear hcq hq0 hq
      generalize q % 4294967296 = q0 at *
      rcases hcs with ⟨rfl, rfl⟩ | ⟨rfl, hm, rfl⟩ | ⟨rfl, hm, rfl⟩ | ⟨rfl, rfl⟩
      all_goals
        try rw [hm] at hbo
        go_wp2_with fail
        go_meet
        exact ⟨rfl, rfl⟩
  case rest =>
    obtain ⟨rfl, rfl⟩ := hcut
    clear hcs hcm
    rcases b with _ | _
    · have hub' := hub.out
      simp only [Bool.false_eq_true, if_false] at hub'
      subst hub'
      go_wp2_with fail
      go_ret
      exact ⟨_, _, rfl, hq, hbf⟩
    · have hub' := hub.out
      simp only [if_true] at hub'
      subst hub'
      go_wp2_with (go_at_call 74; (with_reducible refine (rAddE _ _ _ _ _ _ (limbs q) [1] _ q 1 (q + 1) (by repeat first | assumption | exact Pg.Row.one _ _ _ _ _ (by simp) (by first | rfl | omega) (by omega) | apply Pg.Row.drew | apply Pg.Row.below (hb := by assumption) | apply Pg.Row.alloc) (by repeat first | assumption | exact Pg.Row.one _ _ _ _ _ (by simp) (by first | rfl | omega) (by omega) | apply Pg.Row.drew | apply Pg.Row.below (hb := by assumption) | apply Pg.Row.alloc) (val_limbs _) (val_one 1) (by first | omega | assumption) (by first | omega | assumption) (by omega)).mono ?_); rintro e w5 ⟨A5, c5, rfl, h5, hb5⟩)
      go_ret
      exact ⟨_, _, rfl, h5, (by repeat first | exact Below.refl _ _ | assumption | refine Pg.Below.then_ ?_ (by assumption) | refine Pg.Below.new_ ?_ _ | refine Pg.Below.drewN_ ?_ _)⟩
end Go.Proofs.YtbhieajpodnfpaaGreat
namespace Go.Proofs.YtbhieajpodnfpaaGreat
open Go.RowKit Pg
theorem B3.set0 {w : World} {g : Nat} {t : TypeId} {v0 v1 v2 : Value} (h : B3 w g t v0 v1 v2) (u0 : Value) : B3 (w.setCell ⟨g, 0, none⟩ u0) g t u0 v1 v2 := by
  have h1 := heap_setCell_same w g 0 _ t u0 h
  unfold B3
  rw [h1]; rfl
theorem B3.setOther {w : World} {g h : Nat} {t : TypeId} {v0 v1 v2 : Value} (hB : B3 w g t v0 v1 v2) (hne : g ≠ h) (o : Nat) (u : Value) : B3 (w.setCell ⟨h, o, none⟩ u) g t v0 v1 v2 := by
  unfold B3
  rw [heap_setCell_other _ ⟨h, o, none⟩ g u hne]
  exact hB

theorem rMul_E (A A' : Option Addr) (n c n' c' : Nat) (xs ys : List Nat) (w : World) (a b r : Nat) (h : Row w A n c xs) (h' : Row w A' n' c' ys) (ea : val xs = a) (eb : val ys = b) (hb : n ≤ 1073741824) (hb' : n' ≤ 1073741824) (er : a * b = r) :
    Calls Tryz.prog 73 #[.slice A n c, .slice A' n' c'] w (Ret w r) := by
  subst er; exact rMul_N A A' n c n' c' xs ys w a b h h' ea eb hb hb'
theorem Short.neg {q : Rat} {k : Nat} (h : Short q k) : Short (-q) k := by unfold Short at h ⊢; rw [rnum_neg, rden_neg]; exact h

end Go.Proofs.YtbhieajpodnfpaaGreat
namespace Go.Proofs.YtbhieajpodnfpaaGreat
open Go.RowKit Pg

end Go.Proofs.YtbhieajpodnfpaaGreat
namespace Pg
theorem fword_zero (s : Bool) {D : Nat} (_hD : D ≠ 0) : fword s 0 D = 0 := by
  have h : frung 0 D = 0 := by
    unfold frung fk rnd
    simp only [Nat.zero_mul, Nat.zero_div, Nat.zero_mod, Nat.mul_zero]
    rw [if_pos (by omega), Nat.pow_zero, Nat.mul_one, if_neg (by omega)]
    rfl
  unfold fword
  rw [if_pos h]
theorem rnd_cases {n d q r u : Nat} (_hd : 0 < d) (hq : n / d = q) (hr : n % d = r) (hu : u = rnd n d) :
    (cmpv (r * 2) d = 1 ∧ u = q + 1) ∨ (cmpv (r * 2) d = 0 ∧ q % 2 = 1 ∧ u = q + 1) ∨ (cmpv (r * 2) d = 0 ∧ q % 2 = 0 ∧ u = q) ∨ (cmpv (r * 2) d = -1 ∧ u = q) := by
  unfold rnd at hu
  rw [hq, hr] at hu
  rcases Nat.lt_trichotomy (r * 2) d with h | h | h
  · refine .inr (.inr (.inr ⟨cmpv_lt h, ?_⟩))
    rw [if_neg (by omega)] at hu; omega
  · rcases Nat.mod_two_eq_zero_or_one q with hm | hm
    · refine .inr (.inr (.inl ⟨cmpv_eq h, hm, ?_⟩))
      rw [if_neg (by omega)] at hu; omega
    · refine .inr (.inl ⟨cmpv_eq h, hm, ?_⟩)
      rw [if_pos (by omega)] at hu; omega
  · refine .inl ⟨cmpv_gt h, ?_⟩
    rw [if_pos (by omega)] at hu; omega
theorem bits_one (q : Nat) (h : q < 18446744073709551616) : Go.bits .and .u64 (q : Int) 1 = ((q % 2 : Nat) : Int) := by
  have := Go.u64_and_nat q 1 h (by omega)
  rw [show q &&& 1 = q % 2 from Nat.and_one_is_mod q] at this
  exact this
theorem neg_word (R : Nat) (h : R ≤ 9218868437227405312) : Go.Op.negFloat .f64 R = 9223372036854775808 + R := by
  show R ^^^ 2 ^ 63 = 2 ^ 63 + R
  apply Nat.eq_of_testBit_eq
  intro i
  rw [Nat.testBit_xor, Nat.testBit_two_pow]
  rcases Nat.lt_trichotomy i 63 with hi | hi | hi
  · rw [Nat.testBit_two_pow_add_gt hi, show decide (63 = i) = false by simp; omega, Bool.xor_false]
  · subst hi
    rw [Nat.testBit_two_pow_add_eq, Nat.testBit_lt_two_pow (by omega)]; rfl
  · have h1 : R < 2 ^ i := Nat.lt_of_lt_of_le (show R < 2 ^ 63 by omega) (Nat.pow_le_pow_right (by omega) (by omega))
    have h2 : 2 ^ 63 + R < 2 ^ i := Nat.lt_of_lt_of_le (show 2 ^ 63 + R < 2 ^ 64 by omega) (Nat.pow_le_pow_right (by omega) (by omega))
    rw [Nat.testBit_lt_two_pow h1, Nat.testBit_lt_two_pow h2, show decide (63 = i) = false by simp; omega]; rfl
theorem blen_upto {q k : Nat} (h : q < 2 ^ k) : blen q ≤ k := by
  by_cases h0 : q = 0
  · subst h0; rw [show blen 0 = 0 from rfl]; omega
  · have := (blen_bounds h0).2.1
    have h2 : 2 ^ (blen q - 1) < 2 ^ k := Nat.lt_of_le_of_lt this h
    have := (Nat.pow_lt_pow_iff_right (a := 2) (by omega)).1 h2
    omega
theorem blen_gt {q k : Nat} (h : 2 ^ k ≤ q) : k < blen q := by
  rcases Nat.lt_or_ge k (blen q) with h1 | h1
  · exact h1
  · have hp := Nat.two_pow_pos k
    have := (blen_bounds (n := q) (by omega)).2.2
    have h2 : 2 ^ blen q ≤ 2 ^ k := Nat.pow_le_pow_right (by omega) h1
    omega
theorem blen_shl (N k : Nat) : blen (N * 2 ^ k) ≤ blen N + k := by
  by_cases h0 : N = 0
  · subst h0; rw [Nat.zero_mul, show blen 0 = 0 from rfl]; omega
  · refine blen_upto ?_
    rw [Nat.pow_add]
    exact Nat.mul_lt_mul_of_pos_right (blen_bounds h0).2.2 (Nat.two_pow_pos k)
theorem blen_mono {a b : Nat} (h : a ≤ b) : blen a ≤ blen b := by
  by_cases h0 : b = 0
  · rw [show a = 0 by omega, h0]; omega
  · exact blen_upto (Nat.lt_of_le_of_lt h (blen_bounds h0).2.2)
end Pg
namespace Go.Proofs.YtbhieajpodnfpaaGreat
open Go.RowKit Pg

set_option maxHeartbeats 1000000 in
theorem scaled_any (A : Option Addr) (n c : Nat) (d : Int) (xs : List Nat) (w : World) (a N P : Nat) (h : Row w A n c xs) (ea : val xs = a) (ed : d = (N : Int)) (hN : N ≤ 4096) (hn : n ≤ 1073741824) (eP : a * 2 ^ N = P) :
    Calls Tryz.prog 46 #[.slice A n c, .int .i64 d] w (Ret w P) := by
  have HS := hid fun W (hW : Below w.heap.size w W) => Shift_LN A n c d xs W a N P (h.below hW) ea ed hN hn eP
  have hd : d ≤ 4096 := by omega
  clear ed hN eP ea h
  go_enter Tryz.func46, Tryz.ntmps46
  go_wp2_with fail
  refine wp_loop_once ?_
  go_wp2_with (go_at_call 50; refine (HS.out _ (by repeat first | exact Below.refl _ _ | assumption | refine Pg.Below.then_ ?_ (by assumption) | refine Pg.Below.new_ ?_ _ | refine Pg.Below.drewN_ ?_ _)).mono ?_; rintro e w1 ⟨A1, c1, rfl, hr1, hb1⟩)
  go_ret
  exact ⟨_, _, rfl, hr1, (by repeat first | exact Below.refl _ _ | assumption | refine Pg.Below.then_ ?_ (by assumption) | refine Pg.Below.new_ ?_ _ | refine Pg.Below.drewN_ ?_ _)⟩
theorem BitsN (A : Option Addr) (n c : Nat) (xs : List Nat) (w : World) (a : Nat) (h : Row w A n c xs) (ea : val xs = a) (hb : n ≤ 1073741824) :
    Calls Tryz.prog 45 #[.slice A n c] w fun e w' => e = .returned (.int .i64 ((blen a : Nat) : Int)) ∧ w = w' := by
  subst ea; exact Bits_any A n c xs w h hb
theorem limbs_len {N k : Nat} (h : blen N ≤ k) (hk : k ≤ 30000000) : (limbs N).length ≤ 1048576 := by
  by_cases h0 : N = 0
  · subst h0; rw [limbs_zero]; simp
  · have hb := (blen_bounds h0).2.2
    exact limbs_small (k := k / 32 + 1) (Nat.lt_of_lt_of_le hb (Nat.pow_le_pow_right (by omega) (by omega))) (by omega)

theorem ToN (A : Option Addr) (n c : Nat) (xs : List Nat) (w : World) (a : Nat) (h : Row w A n c xs) (ea : val xs = a) (hb : n ≤ 1073741824) (ha : a < 9007199254740992) :
    Calls Tryz.prog 48 #[.slice A n c] w fun e w' => e = .returned (.tuple #[.int .u64 (a : Int), .bool true]) ∧ w = w' := by
  subst ea
  have := To_any A n c xs w h hb
  unfold to64 is64 at this
  rw [if_pos (by omega), show decide (val xs < 18446744073709551616) = true by simp; omega] at this
  exact this
theorem CmpE (A A' : Option Addr) (n c n' c' : Nat) (xs ys : List Nat) (w : World) (a b : Nat) (r : Int) (h : Row w A n c xs) (h' : Row w A' n' c' ys) (ea : val xs = a) (eb : val ys = b) (er : cmpv a b = r) :
    Calls Tryz.prog 49 #[.slice A n c, .slice A' n' c'] w (fun e w' => e = .returned (.int .i64 r) ∧ Below w.heap.size w w') := by
  subst ea eb er; exact Cmp_any A A' n c n' c' xs ys w h h'
theorem LdexpE (X u k R : Nat) (e : Int) (w : World) (hX : X = floatOfInt .f64 (u : Int)) (hu : u ≠ 0) (hu2 : u ≤ 9007199254740992) (hk : k = 0 ∨ 4503599627370496 ≤ u) (he : e = min ((k : Int) - 1074) 2048) (hR : R = min (k * 4503599627370496 + u) 9218868437227405312) :
    Calls Tryz.prog 51 #[.float .f64 X, .int .i64 e] w fun e w' => e = .returned (.float .f64 R) ∧ w = w' := by
  have := Ldexp_any u (min k 3122) e w hu hu2 (by omega) (by omega) (by omega)
  rw [← hX] at this
  have hR' : min (min k 3122 * 4503599627370496 + u) 9218868437227405312 = R := by
    rw [hR]
    rcases Nat.le_total k 3122 with h | h
    · rw [Nat.min_eq_left h]
    · rw [Nat.min_eq_right h, Nat.min_eq_right (by omega), Nat.min_eq_right (by omega)]
  rw [hR'] at this
  exact this

/-- What stands behind the division: the place, the divisor, the quotient, the rest. -/
def ToMid (w2 : World) (N D : Nat) (s3 s5 s6 s7 : Value) (wc : World) : Prop :=
  ∃ (kk n d q r : Nat) (A5 : Option Addr) (c5 : Nat) (A6 : Option Addr) (c6 : Nat) (A7 : Option Addr) (c7 : Nat), s3 = .int .i64 ((kk : Int) - 1074) ∧ s5 = .slice A5 (limbs d).length c5 ∧ s6 = .slice A6 (limbs q).length c6 ∧ s7 = .slice A7 (limbs r).length c7 ∧
    Row wc A5 (limbs d).length c5 (limbs d) ∧ Row wc A6 (limbs q).length c6 (limbs q) ∧ Row wc A7 (limbs r).length c7 (limbs r) ∧ Below w2.heap.size w2 wc ∧ Pg.Place N D kk (rnd n d) ∧ n / d = q ∧ n % d = r ∧ d ≠ 0 ∧ kk ≤ 5022 ∧ (limbs d).length ≤ 1048576 ∧ (limbs q).length ≤ 1048576 ∧ (limbs r).length ≤ 1048576 ∧ q < 9007199254740992
/-- What stands behind the rounding. -/
def ToU (w2 : World) (u : Nat) (s9 : Value) (wc : World) : Prop := s9 = .int .u64 (u : Int) ∧ Below w2.heap.size w2 wc

set_option maxRecDepth 100000 in
set_option maxHeartbeats 8000000 in
/-- flt.To. -/
theorem fltTo_F (F : Nat) (neg : Bool) (A A' : Option Addr) (n c n' c' : Nat) (xs ys : List Nat) (w : World) (h : Row w A n c xs) (h' : Row w A' n' c' ys) (hb : n ≤ 1048576) (hb' : n' ≤ 1048576) (q : Rat) (hq : rv neg (val xs) (val ys) = q)
    (hN : blen (rnum q) ≤ 4000) (hD : blen q.den ≤ 4000) (hF : F = fword (rneg q) (rnum q) q.den) :
    Calls Tryz.prog 27 #[.agg #[.bool neg, .slice A n c, .slice A' n' c']] w fun e w' => e = .returned (.float .f64 F) ∧ Below w.heap.size w w' := by
  have HB := hid (B3.new w 53 (.bool neg) (.slice A n c) (.slice A' n' c'))
  have hO := fun W (hW : Below w.heap.size w W) => Rnorm_any neg A A' n c n' c' xs ys W (h.below hW) (h'.below hW) hb hb'
  rw [hq] at hO
  have HO := hid hO
  clear hO h h' hb hb' hq
  have hD0 : q.den ≠ 0 := q.den_nz
  have l1 := limbs_len hN (by omega)
  have l2 := limbs_len hD (by omega)
  obtain ⟨k0, k1, k2, _, _, _⟩ := HB.out.cells
  go_enter Tryz.func27, Tryz.ntmps27
  go_upto_region 2 with (go_at_call 30; refine (HO.out _ (by repeat first | exact Below.refl _ _ | assumption | refine Pg.Below.then_ ?_ (by assumption) | refine Pg.Below.new_ ?_ _ | refine Pg.Below.drewN_ ?_ _)).mono ?_; rintro e w1 ⟨A1, c1, A2, c2, rfl, hr1, hr2, hb1⟩; have hBr := HB.out.below hb1; clear k0 k1 k2; obtain ⟨k0, k1, k2, f0, f1, f2⟩ := hBr.cells)
  have hw1 : Below w.heap.size w w1 := (by repeat first | exact Below.refl _ _ | assumption | refine Pg.Below.then_ ?_ (by assumption) | refine Pg.Below.new_ ?_ _ | refine Pg.Below.drewN_ ?_ _)
  have hB2 := hBr.set (.bool (rneg q)) (.slice A1 (limbs (rnum q)).length c1) (.slice A2 (limbs q.den).length c2)
  have hs1 := hBr.row hr1 (.bool (rneg q)) (.slice A1 (limbs (rnum q)).length c1) (.slice A2 (limbs q.den).length c2)
  have hs2 := hBr.row hr2 (.bool (rneg q)) (.slice A1 (limbs (rnum q)).length c1) (.slice A2 (limbs q.den).length c2)
  have hbs := B3.belowSet hw1 (Nat.le_refl _) (.bool (rneg q)) (.slice A1 (limbs (rnum q)).length c1) (.slice A2 (limbs q.den).length c2)
  generalize ((w1.setCell ⟨w.heap.size, 0, none⟩ (.bool (rneg q))).setCell ⟨w.heap.size, 1, none⟩ (.slice A1 (limbs (rnum q)).length c1)).setCell ⟨w.heap.size, 2, none⟩ (.slice A2 (limbs q.den).length c2) = w2 at *
  clear hBr hr1 hr2 hb1 hw1 HB HO k0 k1 k2 f0 f1 f2
  obtain ⟨k0, k1, k2, _, _, _⟩ := hB2.cells
  generalize rnum q = N at *
  generalize q.den = D at *
  generalize rneg q = S at *
  by_cases h0 : N = 0
  · subst h0
    have e0 : (limbs 0).length = 0 := rfl
    have HF0 := hid (hF.trans (fword_zero S hD0))
    clear hF hN hD hs1 hs2 l1 l2 hB2
    go_wp2_with fail
    go_ret
    exact ⟨by first | rfl | (rw [HF0.out]; rfl), hbs⟩
  have hlz : (((limbs N).length : Int) == 0) = false := beq_eq_false_iff_ne.2 (by
    intro e
    exact h0 (limbs_eq_nil.1 (List.length_eq_zero_iff.1 (by omega))))
  go_upto_region 4 with fail
  refine draw_list [19, 20, 21, 22, 23, 24, 25, 26, 27, 28, 3] [.is (.pointer (some ⟨w.heap.size, 1, none⟩)), .is (.slice A1 (limbs N).length c1), .is (.int .i64 (blen N : Int)), .is (.pointer (some ⟨w.heap.size, 2, none⟩)), .is (.slice A2 (limbs D).length c2), .is (.int .i64 (blen D : Int)), .is (.int .i64 ((blen N : Int) - (blen D : Int))), .is (.int .i64 ((blen N : Int) - (blen D : Int) - 52)), .is (.int .i64 ((blen N : Int) - (blen D : Int) - 52 - 1)), .is (.int .i64 (((blen N + 1021 - blen D : Nat) : Int) - 1074)), .is (.int .i64 (((blen N + 1021 - blen D : Nat) : Int) - 1074))]
    (by kernel_rfl) (by kernel_rfl) (by kernel_rfl) (by decide) (by kernel_rfl) (by kernel_rfl) (by kernel_rfl) ?_ ?_
  · refine ⟨?_, ?_, ?_, ?_, ?_, ?_, ?_, ?_, ?_, ?_, ?_, trivial⟩
    · intro a w3 hA K hK
      have t1 := hA.old 1 _ rfl rfl
      go_simp
      exact hK _ _ rfl (Below.refl _ _)
    · intro a w3 hA K hK
      have t1 := at_is hA 0 19 rfl rfl (by kernel_rfl)
      obtain ⟨k0, k1, k2, _, _, _⟩ := (hB2.below hA.below).cells
      go_simp
      exact hK _ _ rfl (Below.refl _ _)
    · intro a w3 hA K hK
      have t1 := at_is hA 1 20 rfl rfl (by kernel_rfl)
      have hC := BitsN A1 _ c1 _ w3 N (hs1.below hA.below) (val_limbs _) (by omega)
      go_simp
      refine hC.mono ?_
      rintro e w4 ⟨rfl, rfl⟩
      exact hK _ _ rfl (Below.refl _ _)
    · intro a w3 hA K hK
      have t1 := hA.old 1 _ rfl rfl
      go_simp
      exact hK _ _ rfl (Below.refl _ _)
    · intro a w3 hA K hK
      have t1 := at_is hA 3 22 rfl rfl (by kernel_rfl)
      obtain ⟨k0, k1, k2, _, _, _⟩ := (hB2.below hA.below).cells
      go_simp
      exact hK _ _ rfl (Below.refl _ _)
    · intro a w3 hA K hK
      have t1 := at_is hA 4 23 rfl rfl (by kernel_rfl)
      have hC := BitsN A2 _ c2 _ w3 D (hs2.below hA.below) (val_limbs _) (by omega)
      go_simp
      refine hC.mono ?_
      rintro e w4 ⟨rfl, rfl⟩
      exact hK _ _ rfl (Below.refl _ _)
    · intro a w3 hA K hK
      have t1 := at_is hA 2 21 rfl rfl (by kernel_rfl)
      have t2 := at_is hA 5 24 rfl rfl (by kernel_rfl)
      go_simp
      exact hK _ _ (congrArg _ (by rw [IntKind.wrap_i64]; omega)) (Below.refl _ _)
    · intro a w3 hA K hK
      have t1 := at_is hA 6 25 rfl rfl (by kernel_rfl)
      go_simp
      exact hK _ _ (congrArg _ (by rw [IntKind.wrap_i64]; omega)) (Below.refl _ _)
    · intro a w3 hA K hK
      have t1 := at_is hA 7 26 rfl rfl (by kernel_rfl)
      go_simp
      exact hK _ _ (congrArg _ (by rw [IntKind.wrap_i64]; omega)) (Below.refl _ _)
    · intro a w3 hA K hK
      have t1 := at_is hA 8 27 rfl rfl (by kernel_rfl)
      go_simp
      exact hK _ _ (congrArg _ (by omega)) (Below.refl _ _)
    · intro a w3 hA K hK
      have t1 := at_is hA 9 28 rfl rfl (by kernel_rfl)
      go_simp
      exact hK _ _ rfl (Below.refl _ _)
  rintro vs w3 hV hb3
  have hV' := hV.is_
  clear hV
  obtain ⟨_, rfl, hV⟩ := hV'
  have hV' := hV.is_
  clear hV
  obtain ⟨_, rfl, hV⟩ := hV'
  have hV' := hV.is_
  clear hV
  obtain ⟨_, rfl, hV⟩ := hV'
  have hV' := hV.is_
  clear hV
  obtain ⟨_, rfl, hV⟩ := hV'
  have hV' := hV.is_
  clear hV
  obtain ⟨_, rfl, hV⟩ := hV'
  have hV' := hV.is_
  clear hV
  obtain ⟨_, rfl, hV⟩ := hV'
  have hV' := hV.is_
  clear hV
  obtain ⟨_, rfl, hV⟩ := hV'
  have hV' := hV.is_
  clear hV
  obtain ⟨_, rfl, hV⟩ := hV'
  have hV' := hV.is_
  clear hV
  obtain ⟨_, rfl, hV⟩ := hV'
  have hV' := hV.is_
  clear hV
  obtain ⟨_, rfl, hV⟩ := hV'
  have hV' := hV.is_
  clear hV
  obtain ⟨_, rfl, hV⟩ := hV'
  obtain rfl := hV.nil_
  clear hV
  simp only [puts]
  go_simp
  obtain ⟨k, hk, q54, plA, plB⟩ := to_plan h0 hD0
  rw [← hk]
  have hk4 : k ≤ 5021 := by omega
  clear hk k0 k1 k2
  obtain ⟨n0, hn0⟩ : ∃ x, N * 2 ^ (1074 - k) = x := ⟨_, rfl⟩
  obtain ⟨d0, hd0⟩ : ∃ x, D * 2 ^ (k - 1074) = x := ⟨_, rfl⟩
  obtain ⟨q0, eqq0⟩ : ∃ x, n0 / d0 = x := ⟨_, rfl⟩
  obtain ⟨r0, err0'⟩ : ∃ x, n0 % d0 = x := ⟨_, rfl⟩
  have hd00 : d0 ≠ 0 := by rw [← hd0]; exact Nat.mul_ne_zero hD0 (Nat.pos_iff_ne_zero.1 (Nat.two_pow_pos _))
  have err0 : dmr n0 d0 = r0 := by unfold dmr; rw [if_neg hd00]; exact err0'
  have ebd0 : dmb d0 = true := by simp [dmb, hd00]
  have ln0 := limbs_len (show blen n0 ≤ 10000 by have := blen_shl N (1074 - k); rw [hn0] at this; omega) (by omega)
  have ld0 := limbs_len (show blen d0 ≤ 10000 by have := blen_shl D (k - 1074); rw [hd0] at this; omega) (by omega)
  have lq0 := Nat.le_trans (limbs_mono (show q0 ≤ n0 by rw [← eqq0]; exact Nat.div_le_self _ _)) ln0
  have lr0 := Nat.le_trans (limbs_mono (show r0 ≤ n0 by rw [← err0']; exact Nat.mod_le _ _)) ln0
  rw [hn0, hd0, eqq0] at q54 plA plB
  have Hn0 := hid hn0
  have Hd0 := hid hd0
  clear hn0 hd0
  go_upto_region 5 with fail
  refine draw_list [29, 30, 31, 32, 33, 34, 35, 36, 37, 38, 39, 4, 5] [.is (.pointer (some ⟨w.heap.size, 1, none⟩)), .is (.slice A1 (limbs N).length c1), .is (.int .i64 ((k : Int) - 1074)), .is (.int .i64 (-(((k : Int) - 1074)))), .is (.int .i64 ((1074 - k : Nat) : Int)), .row n0, .is (.pointer (some ⟨w.heap.size, 2, none⟩)), .is (.slice A2 (limbs D).length c2), .is (.int .i64 ((k : Int) - 1074)), .is (.int .i64 ((k - 1074 : Nat) : Int)), .row d0, .row n0, .row d0]
    (by kernel_rfl) (by kernel_rfl) (by kernel_rfl) (by decide) (by kernel_rfl) (by kernel_rfl) (by kernel_rfl) ?_ ?_
  · refine ⟨?_, ?_, ?_, ?_, ?_, ?_, ?_, ?_, ?_, ?_, ?_, ?_, ?_, trivial⟩
    · intro a w3 hA K hK
      have t1 := hA.old 1 _ rfl rfl
      go_simp
      exact hK _ _ rfl (Below.refl _ _)
    · intro a w3 hA K hK
      have t1 := at_is hA 0 29 rfl rfl (by kernel_rfl)
      obtain ⟨k0, k1, k2, _, _, _⟩ := (hB2.below (Below.then_ hb3 hA.below)).cells
      go_simp
      exact hK _ _ rfl (Below.refl _ _)
    · intro a w3 hA K hK
      have t1 := hA.old 3 _ rfl rfl
      go_simp
      exact hK _ _ rfl (Below.refl _ _)
    · intro a w3 hA K hK
      have t1 := at_is hA 2 31 rfl rfl (by kernel_rfl)
      go_simp
      exact hK _ _ (congrArg _ (by first | omega | (rw [IntKind.wrap_i64]; omega))) (Below.refl _ _)
    · intro a w3 hA K hK
      have t1 := at_is hA 3 32 rfl rfl (by kernel_rfl)
      go_simp
      exact hK _ _ (congrArg _ (by omega)) (Below.refl _ _)
    · intro a w3 hA K hK
      have t1 := at_is hA 1 30 rfl rfl (by kernel_rfl)
      have t2 := at_is hA 4 33 rfl rfl (by kernel_rfl)
      have hC := scaled_any A1 _ c1 _ _ w3 N (1074 - k) n0 (hs1.below (Below.then_ hb3 hA.below)) (val_limbs _) rfl (by omega) (by omega) Hn0.out
      go_simp
      refine hC.mono ?_
      rintro e w4 ⟨A3, c3, rfl, hr, hb⟩
      exact hK _ _ ⟨_, _, rfl, hr⟩ hb
    · intro a w3 hA K hK
      have t1 := hA.old 1 _ rfl rfl
      go_simp
      exact hK _ _ rfl (Below.refl _ _)
    · intro a w3 hA K hK
      have t1 := at_is hA 6 35 rfl rfl (by kernel_rfl)
      obtain ⟨k0, k1, k2, _, _, _⟩ := (hB2.below (Below.then_ hb3 hA.below)).cells
      go_simp
      exact hK _ _ rfl (Below.refl _ _)
    · intro a w3 hA K hK
      have t1 := hA.old 3 _ rfl rfl
      go_simp
      exact hK _ _ rfl (Below.refl _ _)
    · intro a w3 hA K hK
      have t1 := at_is hA 8 37 rfl rfl (by kernel_rfl)
      go_simp
      exact hK _ _ (congrArg _ (by omega)) (Below.refl _ _)
    · intro a w3 hA K hK
      have t1 := at_is hA 7 36 rfl rfl (by kernel_rfl)
      have t2 := at_is hA 9 38 rfl rfl (by kernel_rfl)
      have hC := scaled_any A2 _ c2 _ _ w3 D (k - 1074) d0 (hs2.below (Below.then_ hb3 hA.below)) (val_limbs _) rfl (by omega) (by omega) Hd0.out
      go_simp
      refine hC.mono ?_
      rintro e w4 ⟨A3, c3, rfl, hr, hb⟩
      exact hK _ _ ⟨_, _, rfl, hr⟩ hb
    · intro a w3 hA K hK
      obtain ⟨A3, c3, t1, hr⟩ := at_row hA 5 34 rfl rfl (by kernel_rfl)
      go_simp
      exact hK _ _ ⟨_, _, rfl, hr⟩ (Below.refl _ _)
    · intro a w3 hA K hK
      obtain ⟨A3, c3, t1, hr⟩ := at_row hA 10 39 rfl rfl (by kernel_rfl)
      go_simp
      exact hK _ _ ⟨_, _, rfl, hr⟩ (Below.refl _ _)
  rintro vs w4 hV hb4
  have hV' := hV.is_
  clear hV
  obtain ⟨_, rfl, hV⟩ := hV'
  have hV' := hV.is_
  clear hV
  obtain ⟨_, rfl, hV⟩ := hV'
  have hV' := hV.is_
  clear hV
  obtain ⟨_, rfl, hV⟩ := hV'
  have hV' := hV.is_
  clear hV
  obtain ⟨_, rfl, hV⟩ := hV'
  have hV' := hV.is_
  clear hV
  obtain ⟨_, rfl, hV⟩ := hV'
  have hV' := hV.row_
  clear hV
  obtain ⟨pA, pc, _, rfl, ph, hV⟩ := hV'
  have hV' := hV.is_
  clear hV
  obtain ⟨_, rfl, hV⟩ := hV'
  have hV' := hV.is_
  clear hV
  obtain ⟨_, rfl, hV⟩ := hV'
  have hV' := hV.is_
  clear hV
  obtain ⟨_, rfl, hV⟩ := hV'
  have hV' := hV.is_
  clear hV
  obtain ⟨_, rfl, hV⟩ := hV'
  have hV' := hV.row_
  clear hV
  obtain ⟨sA, sc, _, rfl, sh, hV⟩ := hV'
  have hV' := hV.row_
  clear hV
  obtain ⟨xA, xc, _, rfl, xh, hV⟩ := hV'
  have hV' := hV.row_
  clear hV
  obtain ⟨yA, yc, _, rfl, yh, hV⟩ := hV'
  obtain rfl := hV.nil_
  clear hV
  simp only [puts]
  go_simp
  go_upto_if 49 with (first | (go_at_call 47; (with_reducible refine (DivMod_E _ _ _ _ _ _ (limbs n0) (limbs d0) _ n0 d0 q0 r0 true (by repeat first | assumption | apply Pg.Row.below (hb := by assumption) | apply Pg.Row.alloc | apply Pg.Row.drewN) (by repeat first | assumption | apply Pg.Row.below (hb := by assumption) | apply Pg.Row.alloc | apply Pg.Row.drewN) (val_limbs _) (val_limbs _) (by first | assumption | omega) (by first | assumption | omega) eqq0 err0 ebd0).mono ?_); rintro e w5 ⟨Aq0, cq0, Ar0, cr0, rfl, hq0, hr0, hbw5⟩) | (go_at_call 45; (with_reducible refine (BitsN _ _ _ (limbs q0) _ q0 (by repeat first | assumption | apply Pg.Row.below (hb := by assumption) | apply Pg.Row.alloc | apply Pg.Row.drewN) (val_limbs _) (by first | assumption | omega)).mono ?_); rintro e w' ⟨rfl, rfl⟩))
  have hV5 : Below w2.heap.size w2 w5 := (by repeat first | exact Below.refl _ _ | assumption | refine Pg.Below.then_ ?_ (by assumption) | refine Pg.Below.new_ ?_ _ | refine Pg.Below.drewN_ ?_ _)
  go_cut [3, 5, 6, 7] (fun s3 s5 s6 s7 wc => ToMid w2 N D s3 s5 s6 s7 wc)
  case first =>
    by_cases cq : q0 < 9007199254740992
    · have hp := plA cq
      have hbq : blen q0 ≤ 53 := blen_upto (k := 53) cq
      clear plA plB
      go_wp2_with fail
      go_meet
      exact ⟨k, n0, d0, q0, r0, _, _, _, _, _, _, rfl, rfl, rfl, rfl, yh.below hbw5, hq0, hr0, hV5, hp, eqq0, err0', hd00, by omega, ld0, lq0, lr0, cq⟩
    · have hp := plB (by omega)
      have hbq : 53 < blen q0 := blen_gt (k := 53) (by omega)
      clear plA plB
      go_upto_region 9 with fail
      obtain ⟨kk, hkk⟩ : ∃ x, x = k + 1 := ⟨_, rfl⟩
      rw [← hkk] at hp
      have hkk1 : kk ≤ k + 1 := by omega
      have hkk2 : k + 1 ≤ kk := by omega
      clear hkk
      obtain ⟨n1, hn1⟩ : ∃ x, N * 2 ^ (1074 - kk) = x := ⟨_, rfl⟩
      obtain ⟨d1, hd1⟩ : ∃ x, D * 2 ^ (kk - 1074) = x := ⟨_, rfl⟩
      obtain ⟨q1, eqq1⟩ : ∃ x, n1 / d1 = x := ⟨_, rfl⟩
      obtain ⟨r1, err1'⟩ : ∃ x, n1 % d1 = x := ⟨_, rfl⟩
      have hd10 : d1 ≠ 0 := by rw [← hd1]; exact Nat.mul_ne_zero hD0 (Nat.pos_iff_ne_zero.1 (Nat.two_pow_pos _))
      have err1 : dmr n1 d1 = r1 := by unfold dmr; rw [if_neg hd10]; exact err1'
      have ebd1 : dmb d1 = true := by simp [dmb, hd10]
      have ln1 := limbs_len (show blen n1 ≤ 10000 by have := blen_shl N (1074 - kk); rw [hn1] at this; omega) (by omega)
      have ld1 := limbs_len (show blen d1 ≤ 10000 by have := blen_shl D (kk - 1074); rw [hd1] at this; omega) (by omega)
      have lq1 := Nat.le_trans (limbs_mono (show q1 ≤ n1 by rw [← eqq1]; exact Nat.div_le_self _ _)) ln1
      have lr1 := Nat.le_trans (limbs_mono (show r1 ≤ n1 by rw [← err1']; exact Nat.mod_le _ _)) ln1
      have hqlt := hp.q_lt
      rw [hn1, hd1] at hp
      rw [hn1, hd1, eqq1] at hqlt
      have Hn1 := hid hn1
      have Hd1 := hid hd1
      have Hp := hid hp
      clear hn1 hd1 eqq0 err0' err0 ebd0 hbq q54 cq hp
      refine draw_list [52, 53, 54, 55, 56, 57, 58, 59, 60, 61, 62, 4, 5] [.is (.pointer (some ⟨w.heap.size, 1, none⟩)), .is (.slice A1 (limbs N).length c1), .is (.int .i64 ((k : Int) - 1074 + 1)), .is (.int .i64 (-(((k : Int) - 1074 + 1)))), .is (.int .i64 ((1074 - kk : Nat) : Int)), .row n1, .is (.pointer (some ⟨w.heap.size, 2, none⟩)), .is (.slice A2 (limbs D).length c2), .is (.int .i64 ((k : Int) - 1074 + 1)), .is (.int .i64 ((kk - 1074 : Nat) : Int)), .row d1, .row n1, .row d1]
        (by kernel_rfl) (by kernel_rfl) (by kernel_rfl) (by decide) (by kernel_rfl) (by kernel_rfl) (by kernel_rfl) ?_ ?_
      · refine ⟨?_, ?_, ?_, ?_, ?_, ?_, ?_, ?_, ?_, ?_, ?_, ?_, ?_, trivial⟩
        · intro a w3 hA K hK
          have t1 := hA.old 1 _ rfl rfl
          go_simp
          exact hK _ _ rfl (Below.refl _ _)
        · intro a w3 hA K hK
          have t1 := at_is hA 0 52 rfl rfl (by kernel_rfl)
          obtain ⟨k0, k1, k2, _, _, _⟩ := (hB2.below (Below.then_ hV5 hA.below)).cells
          go_simp
          exact hK _ _ rfl (Below.refl _ _)
        · intro a w3 hA K hK
          have t1 := hA.old 3 _ rfl rfl
          go_simp
          exact hK _ _ rfl (Below.refl _ _)
        · intro a w3 hA K hK
          have t1 := at_is hA 2 54 rfl rfl (by kernel_rfl)
          go_simp
          exact hK _ _ (congrArg _ (by first | omega | (rw [IntKind.wrap_i64]; omega))) (Below.refl _ _)
        · intro a w3 hA K hK
          have t1 := at_is hA 3 55 rfl rfl (by kernel_rfl)
          go_simp
          exact hK _ _ (congrArg _ (by omega)) (Below.refl _ _)
        · intro a w3 hA K hK
          have t1 := at_is hA 1 53 rfl rfl (by kernel_rfl)
          have t2 := at_is hA 4 56 rfl rfl (by kernel_rfl)
          have hC := scaled_any A1 _ c1 _ _ w3 N (1074 - kk) n1 (hs1.below (Below.then_ hV5 hA.below)) (val_limbs _) rfl (by omega) (by omega) Hn1.out
          go_simp
          refine hC.mono ?_
          rintro e w4 ⟨A3, c3, rfl, hr, hb⟩
          exact hK _ _ ⟨_, _, rfl, hr⟩ hb
        · intro a w3 hA K hK
          have t1 := hA.old 1 _ rfl rfl
          go_simp
          exact hK _ _ rfl (Below.refl _ _)
        · intro a w3 hA K hK
          have t1 := at_is hA 6 58 rfl rfl (by kernel_rfl)
          obtain ⟨k0, k1, k2, _, _, _⟩ := (hB2.below (Below.then_ hV5 hA.below)).cells
          go_simp
          exact hK _ _ rfl (Below.refl _ _)
        · intro a w3 hA K hK
          have t1 := hA.old 3 _ rfl rfl
          go_simp
          exact hK _ _ rfl (Below.refl _ _)
        · intro a w3 hA K hK
          have t1 := at_is hA 8 60 rfl rfl (by kernel_rfl)
          go_simp
          exact hK _ _ (congrArg _ (by omega)) (Below.refl _ _)
        · intro a w3 hA K hK
          have t1 := at_is hA 7 59 rfl rfl (by kernel_rfl)
          have t2 := at_is hA 9 61 rfl rfl (by kernel_rfl)
          have hC := scaled_any A2 _ c2 _ _ w3 D (kk - 1074) d1 (hs2.below (Below.then_ hV5 hA.below)) (val_limbs _) rfl (by omega) (by omega) Hd1.out
          go_simp
          refine hC.mono ?_
          rintro e w4 ⟨A3, c3, rfl, hr, hb⟩
          exact hK _ _ ⟨_, _, rfl, hr⟩ hb
        · intro a w3 hA K hK
          obtain ⟨A3, c3, t1, hr⟩ := at_row hA 5 57 rfl rfl (by kernel_rfl)
          go_simp
          exact hK _ _ ⟨_, _, rfl, hr⟩ (Below.refl _ _)
        · intro a w3 hA K hK
          obtain ⟨A3, c3, t1, hr⟩ := at_row hA 10 62 rfl rfl (by kernel_rfl)
          go_simp
          exact hK _ _ ⟨_, _, rfl, hr⟩ (Below.refl _ _)
      rintro vs w6 hV hb6
      have hV' := hV.is_
      clear hV
      obtain ⟨_, rfl, hV⟩ := hV'
      have hV' := hV.is_
      clear hV
      obtain ⟨_, rfl, hV⟩ := hV'
      have hV' := hV.is_
      clear hV
      obtain ⟨_, rfl, hV⟩ := hV'
      have hV' := hV.is_
      clear hV
      obtain ⟨_, rfl, hV⟩ := hV'
      have hV' := hV.is_
      clear hV
      obtain ⟨_, rfl, hV⟩ := hV'
      have hV' := hV.row_
      clear hV
      obtain ⟨p'A, p'c, _, rfl, p'h, hV⟩ := hV'
      have hV' := hV.is_
      clear hV
      obtain ⟨_, rfl, hV⟩ := hV'
      have hV' := hV.is_
      clear hV
      obtain ⟨_, rfl, hV⟩ := hV'
      have hV' := hV.is_
      clear hV
      obtain ⟨_, rfl, hV⟩ := hV'
      have hV' := hV.is_
      clear hV
      obtain ⟨_, rfl, hV⟩ := hV'
      have hV' := hV.row_
      clear hV
      obtain ⟨s'A, s'c, _, rfl, s'h, hV⟩ := hV'
      have hV' := hV.row_
      clear hV
      obtain ⟨x'A, x'c, _, rfl, x'h, hV⟩ := hV'
      have hV' := hV.row_
      clear hV
      obtain ⟨y'A, y'c, _, rfl, y'h, hV⟩ := hV'
      obtain rfl := hV.nil_
      clear hV
      simp only [puts]
      go_simp
      go_wp2_with (first | (go_at_call 47; (with_reducible refine (DivMod_E _ _ _ _ _ _ (limbs n1) (limbs d1) _ n1 d1 q1 r1 true (by repeat first | assumption | apply Pg.Row.below (hb := by assumption) | apply Pg.Row.alloc | apply Pg.Row.drewN) (by repeat first | assumption | apply Pg.Row.below (hb := by assumption) | apply Pg.Row.alloc | apply Pg.Row.drewN) (val_limbs _) (val_limbs _) (by first | assumption | omega) (by first | assumption | omega) eqq1 err1 ebd1).mono ?_); rintro e w7 ⟨Aq1, cq1, Ar1, cr1, rfl, hq1, hr1, hbw7⟩))
      go_meet
      exact ⟨kk, n1, d1, q1, r1, _, _, _, _, _, _, congrArg _ (by omega), rfl, rfl, rfl, y'h.below hbw7, hq1, hr1, (by repeat first | exact Below.refl _ _ | assumption | refine Pg.Below.then_ ?_ (by assumption) | refine Pg.Below.new_ ?_ _ | refine Pg.Below.drewN_ ?_ _), Hp.out, eqq1, err1', hd10, by omega, ld1, lq1, lr1, hqlt⟩
  case rest =>
    obtain ⟨kk, n, d, q, r, A5, c5, A6, c6, A7, c7, rfl, rfl, rfl, rfl, h5, h6, h7, hbm, hp, eqq, erq, hd0, hkk, ld, lq, lr, hq53⟩ := hcut
    clear hb3 hb4
    have hR := hp.rung
    have hun := hp.unorm
    have hule := hp.u_le
    obtain ⟨u, hu0'⟩ : ∃ u, u = rnd n d := ⟨_, rfl⟩
    rw [← hu0'] at hR hun hule
    have hcs := rnd_cases (Nat.pos_of_ne_zero hd0) eqq erq hu0'
    have hbo := bits_one q (by omega)
    clear hu0' hp eqq erq hd0
    obtain ⟨b, hub, hcs⟩ : ∃ b : Bool, Hid (u = if b then q + 1 else q) ∧ ((cmpv (r * 2) d = 1 ∧ b = true) ∨ (cmpv (r * 2) d = 0 ∧ q % 2 = 1 ∧ b = true) ∨ (cmpv (r * 2) d = 0 ∧ q % 2 = 0 ∧ b = false) ∨ (cmpv (r * 2) d = -1 ∧ b = false)) := by
      rcases hcs with ⟨h1, h2⟩ | ⟨h1, h2, h3⟩ | ⟨h1, h2, h3⟩ | ⟨h1, h2⟩
      · exact ⟨true, hid h2, .inl ⟨h1, rfl⟩⟩
      · exact ⟨true, hid h3, .inr (.inl ⟨h1, h2, rfl⟩)⟩
      · exact ⟨false, hid h3, .inr (.inr (.inl ⟨h1, h2, rfl⟩))⟩
      · exact ⟨false, hid h2, .inr (.inr (.inr ⟨h1, rfl⟩))⟩
    obtain ⟨cm, hcm⟩ : ∃ cm, Hid (cm = cmpv (r * 2) d) := ⟨_, hid rfl⟩
    rw [← hcm.out] at hcs
    go_upto_region 13 with (first
      | (go_at_call 48; (with_reducible refine (ToN _ _ _ (limbs q) _ q (by repeat first | assumption | apply Pg.Row.below (hb := by assumption) | apply Pg.Row.alloc | apply Pg.Row.drewN) (val_limbs _) (by first | omega | assumption) (by first | omega | assumption)).mono ?_); rintro e w' ⟨rfl, rfl⟩)
      | (go_at_call 50; (with_reducible refine (Shift_LN _ _ _ _ (limbs r) _ r 1 (r * 2) (by repeat first | assumption | apply Pg.Row.below (hb := by assumption) | apply Pg.Row.alloc | apply Pg.Row.drewN) (val_limbs _) (by omega) (by omega) (by first | omega | assumption) (by omega)).mono ?_); rintro e ws ⟨As, cs, rfl, hrs, hbs'⟩)
      | (go_at_call 49; (with_reducible refine (CmpE _ _ _ _ _ _ (limbs (r * 2)) (limbs d) _ (r * 2) d _ (by repeat first | assumption | apply Pg.Row.below (hb := by assumption) | apply Pg.Row.alloc | apply Pg.Row.drewN) (by repeat first | assumption | apply Pg.Row.below (hb := by assumption) | apply Pg.Row.alloc | apply Pg.Row.drewN) (val_limbs _) (val_limbs _) hcm.out.symm).mono ?_); rintro e wc ⟨rfl, hbc⟩))
    have hbf : Below w2.heap.size w2 wc := (by repeat first | exact Below.refl _ _ | assumption | refine Pg.Below.then_ ?_ (by assumption) | refine Pg.Below.new_ ?_ _ | refine Pg.Below.drewN_ ?_ _)
    clear hbm hbs' hrs hbc h5 h6 h7
    go_cut [89] (fun s89 wd => s89 = .bool b ∧ wd = wc)
    case first =>
      rcases hcs with ⟨rfl, rfl⟩ | ⟨rfl, hm, rfl⟩ | ⟨rfl, hm, rfl⟩ | ⟨rfl, rfl⟩
      all_goals
        try rw [hm] at hbo
        go_wp2_with fail
        go_meet
        exact ⟨rfl, rfl⟩
    case rest =>
      obtain ⟨rfl, rfl⟩ := hcut
      clear hcs hbo
      have hfz : u = 0 → frung N D = 0 := fun e => by rw [hR, e, show kk = 0 by omega]; rfl
      have hfn : u ≠ 0 → frung N D ≠ 0 := fun e => by rw [hR]; exact Nat.pos_iff_ne_zero.1 (Nat.lt_min.2 ⟨by omega, by decide⟩)
      have hfl : frung N D ≤ 9218868437227405312 := by rw [hR]; exact Nat.min_le_right _ _
      unfold fword at hF
      generalize frung N D = R at *
      obtain ⟨k0, k1, k2, _, _, _⟩ := (hB2.below hbf).cells
      have hneg : Op.unary .neg (.float .f64 R) = pure (.float .f64 (9223372036854775808 + R)) := by
        show pure (Value.float .f64 (Op.negFloat .f64 R)) = _
        rw [neg_word R hfl]
      rcases b with _ | _
      all_goals
        have hub' := hub.out
        simp only [Bool.false_eq_true, if_false, if_true] at hub'
        clear hub
        by_cases hu0 : u = 0
        · first
          | (exfalso; omega)
          | (rw [if_pos (hfz hu0)] at hF
             have hF := hid hF
             have hq0 : q = 0 := by omega
             subst hq0
             clear hR hfz hfn hub' hu0
             go_wp2_with fail
             go_ret
             exact ⟨by first | rfl | (rw [hF.out]; rfl), hbs.trans (hbf.mono (by have := hbs.size; omega))⟩)
        · rw [if_neg (hfn hu0)] at hF
          try have hz : ((q : Int) == 0) = false := beq_eq_false_iff_ne.2 (by omega)
          have Hu := hid hub'
          have HR := hid hR
          clear hR hub' hfz hfn
          rcases S with _ | _
          · rw [if_neg (by decide)] at hF
            subst hF
            go_wp2_with (go_at_call 51; (with_reducible refine (LdexpE _ u kk _ _ _ (by rw [Hu.out]; first | done | rfl | (congr 1; omega)) hu0 hule hun (by omega) HR.out).mono ?_); rintro e w' ⟨rfl, rfl⟩)
            go_ret
            exact ⟨rfl, (by repeat first | exact Below.refl _ _ | assumption | refine Pg.Below.then_ ?_ (by assumption) | refine Pg.Below.new_ ?_ _ | refine Pg.Below.drewN_ ?_ _)⟩
          · rw [if_pos rfl] at hF
            subst hF
            go_wp2_with (go_at_call 51; (with_reducible refine (LdexpE _ u kk _ _ _ (by rw [Hu.out]; first | done | rfl | (congr 1; omega)) hu0 hule hun (by omega) HR.out).mono ?_); rintro e w' ⟨rfl, rfl⟩)
            go_ret
            exact ⟨rfl, (by repeat first | exact Below.refl _ _ | assumption | refine Pg.Below.then_ ?_ (by assumption) | refine Pg.Below.new_ ?_ _ | refine Pg.Below.drewN_ ?_ _)⟩

/-- flt.To: the nearest number. -/
theorem fltTo_any (neg : Bool) (A A' : Option Addr) (n c n' c' : Nat) (xs ys : List Nat) (w : World) (h : Row w A n c xs) (h' : Row w A' n' c' ys) (hb : n ≤ 1048576) (hb' : n' ≤ 1048576) (q : Rat) (hq : rv neg (val xs) (val ys) = q)
    (hN : blen (rnum q) ≤ 4000) (hD : blen q.den ≤ 4000) :
    Calls Tryz.prog 27 #[.agg #[.bool neg, .slice A n c, .slice A' n' c']] w fun e w' => e = .returned (.float .f64 (fword (rneg q) (rnum q) q.den)) ∧ Below w.heap.size w w' :=
  fltTo_F _ neg A A' n c n' c' xs ys w h h' hb hb' q hq hN hD rfl
end Go.Proofs.YtbhieajpodnfpaaGreat
namespace Pg
/-- The word of a rational's nearest number. -/
def fw (q : Rat) : Nat := fword (rneg q) (rnum q) q.den
theorem fk_scale (n D : Nat) {c : Nat} (hc : 0 < c) : fk (n * c) (D * c) = fk n D := by
  unfold fk; rw [Nat.mul_div_mul_right _ _ hc]
theorem frung_scale (N D : Nat) {c : Nat} (hc : 0 < c) : frung (N * c) (D * c) = frung N D := by
  unfold frung
  have e : N * c * 2 ^ 1074 = N * 2 ^ 1074 * c := Nat.mul_right_comm _ _ _
  rw [e, fk_scale _ _ hc]
  have e2 : D * c * 2 ^ fk (N * 2 ^ 1074) D = D * 2 ^ fk (N * 2 ^ 1074) D * c := Nat.mul_right_comm _ _ _
  rw [e2, rnd_scale _ _ hc]
theorem frung_exact {N D M k : Nat} (hD : 0 < D) (h : N * 2 ^ 1074 = M * 2 ^ k * D) (hM : M < 9007199254740992) (hk : k = 0 ∨ 4503599627370496 ≤ M) : frung N D = min (k * 4503599627370496 + M) 9218868437227405312 := by
  have hp := Nat.two_pow_pos k
  have e : fk (N * 2 ^ 1074) D = k := by
    refine fk_eq hD ?_ (hk.imp id fun hk => ?_)
    · rw [h]
      exact Nat.mul_lt_mul_of_pos_right (Nat.mul_lt_mul_of_pos_right hM hp) hD
    · rw [h]
      exact Nat.mul_le_mul_right _ (Nat.mul_le_mul_right _ hk)
  unfold frung
  rw [e, rnd_exact (m := M) (Nat.mul_pos hD hp) (by rw [h, Nat.mul_assoc, Nat.mul_comm D])]
theorem pow_join {a b c : Nat} (h : a + b = c) : 2 ^ a * 2 ^ b = 2 ^ c := by rw [← Nat.pow_add, h]
/-- Of a sign and two numbers. -/
theorem fw_rv (s : Bool) {N D : Nat} (hD : D ≠ 0) : fw (rv s N D) = fword s N D := by
  unfold fw
  by_cases hN : N = 0
  · subst hN
    rw [rv_zero (.inl rfl), fword_zero _ hD]
    exact fword_zero _ (Rat.den_nz _)
  · rw [rv_neg hN hD, rv_num s N hD, rv_den s N hD]
    have hg : 0 < Nat.gcd N D := Nat.gcd_pos_of_pos_left _ (by omega)
    have h1 : N / Nat.gcd N D * Nat.gcd N D = N := Nat.div_mul_cancel (Nat.gcd_dvd_left _ _)
    have h2 : D / Nat.gcd N D * Nat.gcd N D = D := Nat.div_mul_cancel (Nat.gcd_dvd_right _ _)
    have h3 := frung_scale (N / Nat.gcd N D) (D / Nat.gcd N D) hg
    rw [h1, h2] at h3
    unfold fword
    rw [h3]
/-- A finite word without its sign, as a place and a whole number. -/
theorem word_parts (u : Nat) : u % 9223372036854775808 = fExp u * 4503599627370496 + fFrac u := by
  unfold fExp fFrac; omega
theorem frung_fM {u N D : Nat} (hD : 0 < D) (he : fExp u ≠ 2047) (h : N * 2 ^ 1074 = fM u * 2 ^ (fE u - 1) * D) : frung N D = u % 9223372036854775808 := by
  have hf := fFrac_lt u
  have hx := fExp_lt u
  rw [word_parts]
  have hM : fM u < 9007199254740992 := by unfold fM; split <;> omega
  rw [frung_exact hD h hM]
  · unfold fM fE
    by_cases c : fExp u = 0
    · rw [if_pos c, if_pos c, c]; omega
    · rw [if_neg c, if_neg c]; omega
  · unfold fM fE
    by_cases c : fExp u = 0
    · rw [if_pos c]; exact .inl rfl
    · right; rw [if_neg c]; omega
theorem fE_pos (u : Nat) : 1 ≤ fE u := by unfold fE; split <;> omega
theorem fw_fQ {u : Nat} (hu : u < 18446744073709551616) (he : fExp u ≠ 2047) : fw (fQ u) = if u % 9223372036854775808 = 0 then 0 else u := by
  have hneg : fNeg u = decide (9223372036854775808 ≤ u) := rfl
  have key : ∀ (N D : Nat), D ≠ 0 → N * 2 ^ 1074 = fM u * 2 ^ (fE u - 1) * D → fword (fNeg u) N D = if u % 9223372036854775808 = 0 then 0 else u := by
    intro N D hD h
    unfold fword
    rw [frung_fM (by omega) he h]
    by_cases h0 : u % 9223372036854775808 = 0
    · rw [if_pos h0, if_pos h0]
    · rw [if_neg h0, if_neg h0, hneg]
      by_cases c : 9223372036854775808 ≤ u
      · rw [if_pos (by simpa using c)]; omega
      · rw [if_neg (by simpa using c)]; omega
  have h1 := fE_pos u
  unfold fQ
  by_cases c : 1075 ≤ fE u
  · rw [if_pos c, fw_rv _ (by omega)]
    refine key _ _ (by omega) ?_
    obtain ⟨L, hL⟩ : ∃ L, L = 1074 := ⟨_, rfl⟩
    rw [← hL, Nat.mul_one, Nat.mul_assoc, pow_join (a := fE u - 1075) (b := L) (c := fE u - 1) (by omega)]
  · have hp := Nat.two_pow_pos (1075 - fE u)
    rw [if_neg c, fw_rv _ (by omega)]
    refine key _ _ (by omega) ?_
    obtain ⟨L, hL⟩ : ∃ L, L = 1074 := ⟨_, rfl⟩
    rw [← hL, Nat.mul_assoc, pow_join (a := fE u - 1) (b := 1075 - fE u) (c := L) (by omega)]
theorem blen_fQ (u : Nat) : blen (rnum (fQ u)) ≤ 4000 ∧ blen (fQ u).den ≤ 4000 := by
  have hf := fFrac_lt u
  have hx := fExp_lt u
  have hM : fM u < 2 ^ 53 := by unfold fM; split <;> omega
  have hE : fE u ≤ 2047 := by unfold fE; split <;> omega
  have key : ∀ (s : Bool) (N D : Nat), D ≠ 0 → blen N ≤ 4000 → blen D ≤ 4000 → blen (rnum (rv s N D)) ≤ 4000 ∧ blen (rv s N D).den ≤ 4000 := fun s N D hD h1 h2 => by
    rw [rv_num s N hD, rv_den s N hD]
    exact ⟨Nat.le_trans (blen_mono (Nat.div_le_self _ _)) h1, Nat.le_trans (blen_mono (Nat.div_le_self _ _)) h2⟩
  have hm := blen_upto hM
  have hp1 : ∀ D, D ≤ 1075 → blen (2 ^ D) ≤ 4000 := fun D hD => by
    have := blen_shl 1 D
    rw [Nat.one_mul] at this
    have h1 : blen 1 ≤ 1 := blen_upto (by omega)
    omega
  unfold fQ
  split
  · exact key _ _ _ (by omega) (by have := blen_shl (fM u) (fE u - 1075); omega) (Nat.le_trans (blen_upto (k := 1) (by omega)) (by omega))
  · exact key _ _ _ (Nat.pos_iff_ne_zero.1 (Nat.two_pow_pos _)) (by omega) (hp1 _ (by omega))
theorem fErr_zero_iff (u : Nat) : fErr u = 0 ↔ fExp u ≠ 2047 := by
  unfold fErr fKind
  by_cases h : fExp u = 2047
  · rw [if_pos h]
    constructor
    · intro h2
      exfalso
      revert h2
      repeat' split
      all_goals simp_all
    · intro h2; exact absurd h h2
  · rw [if_neg h]
    constructor
    · intro _; exact h
    · intro _
      repeat' split
      all_goals simp_all
end Pg
namespace Pg
theorem kind_two {u : Nat} (hu : u < 18446744073709551616) : fKind u = 2 ↔ u = 9223372036854775808 := by
  have e := word_parts u
  have hf := fFrac_lt u
  have hn : fNeg u = decide (9223372036854775808 ≤ u) := rfl
  unfold fKind
  constructor
  · intro h
    by_cases c : fExp u = 2047
    · rw [if_pos c] at h
      revert h
      repeat' split
      all_goals (intro h; omega)
    · rw [if_neg c] at h
      by_cases c0 : fExp u = 0
      · rw [if_pos c0] at h
        by_cases c1 : fFrac u = 0
        · rw [if_pos c1] at h
          by_cases c2 : fNeg u = true
          · rw [hn] at c2
            have c3 : 9223372036854775808 ≤ u := by simpa using c2
            omega
          · rw [if_neg c2] at h; omega
        · rw [if_neg c1] at h; omega
      · rw [if_neg c0] at h; omega
  · rintro rfl
    decide
theorem kind_err {u : Nat} (h : fErr u ≠ 0) : 3 ≤ fKind u := by
  unfold fErr at h
  by_cases c : fKind u = 5
  · omega
  · rw [if_neg c] at h
    by_cases c2 : fKind u = 3 ∨ fKind u = 4
    · omega
    · rw [if_neg c2] at h; exact absurd rfl h
theorem fw_back {u : Nat} (hu : u < 18446744073709551616) (h : fErr u = 0) : fw (fQ u) = if fKind u = 2 then 0 else u := by
  rw [fw_fQ hu ((fErr_zero_iff u).1 h)]
  by_cases c : fKind u = 2
  · rw [if_pos c]
    have := (kind_two hu).1 c
    rw [if_pos (by omega)]
  · rw [if_neg c]
    have : u ≠ 9223372036854775808 := fun e => c ((kind_two hu).2 e)
    split <;> omega
end Pg
namespace Go.Proofs.YtbhieajpodnfpaaGreat
open Go.RowKit Pg
/-- flt.To, of a normal row of three. -/
theorem fltTo_Q (q : Rat) (A A' : Option Addr) (c c' : Nat) (w : World) (h : Row w A (limbs (rnum q)).length c (limbs (rnum q))) (h' : Row w A' (limbs q.den).length c' (limbs q.den)) (hN : blen (rnum q) ≤ 4000) (hD : blen q.den ≤ 4000) :
    Calls Tryz.prog 27 #[.agg #[.bool (rneg q), .slice A (limbs (rnum q)).length c, .slice A' (limbs q.den).length c']] w fun e w' => e = .returned (.float .f64 (fw q)) ∧ Below w.heap.size w w' :=
  fltTo_any _ _ _ _ _ _ _ _ _ w h h' (limbs_len hN (by omega)) (limbs_len hD (by omega)) q (rv_isQ q) hN hD

end Go.Proofs.YtbhieajpodnfpaaGreat
namespace Pg
theorem or_sign (R : Nat) (h : R < 9223372036854775808) : Go.bits .or .u64 (R : Int) 9223372036854775808 = ((9223372036854775808 + R : Nat) : Int) := by
  have h1 := Go.u64_or_nat R 9223372036854775808 (by omega) (by omega)
  have j : R ||| 9223372036854775808 = 9223372036854775808 + R := by
    rw [Nat.or_comm]
    have := (Nat.two_pow_add_eq_or_of_lt (i := 63) (b := R) (by omega) 1).symm
    simpa using this
  rw [j] at h1
  exact h1
theorem fword_of {N D k u : Nat} (s : Bool) (hp : Place N D k u) : fword s N D = if u = 0 then 0 else if s then 9223372036854775808 + min (k * 4503599627370496 + u) 9218868437227405312 else min (k * 4503599627370496 + u) 9218868437227405312 := by
  unfold fword
  rw [hp.rung]
  have := hp.unorm
  by_cases h : u = 0
  · rw [if_pos h, if_pos]; rw [h, show k = 0 by omega]; rfl
  · rw [if_neg h, if_neg]; omega
theorem limbs_len2 {N k : Nat} (h : blen N ≤ k) (hk : k ≤ 30000000) : (limbs N).length ≤ 1048570 := by
  by_cases h0 : N = 0
  · subst h0; rw [limbs_zero]; simp
  · have hb := (blen_bounds h0).2.2
    refine Nat.le_trans (length_limbs_le (k := k / 32 + 1) (Nat.lt_of_lt_of_le hb ?_)) (by omega)
    rw [show (4294967296 : Nat) = 2 ^ 32 from rfl, ← Nat.pow_mul]
    exact Nat.pow_le_pow_right (by omega) (by omega)
end Pg
namespace Go.Proofs.YtbhieajpodnfpaaGreat
open Go.RowKit Pg
theorem sign_any (s : Bool) (w : World) : Calls Tryz.prog 56 #[.bool s] w fun e w' => e = .returned (.int .i64 (if s then -1 else 1)) ∧ w = w' := by
  rcases s with _ | _
  all_goals
    go_enter Tryz.func56, Tryz.ntmps56
    go_wp2_with fail
    go_ret
    exact ⟨rfl, rfl⟩
theorem sign_f (w : World) : Calls Tryz.prog 56 #[.bool false] w fun e w' => e = .returned (.int .i64 1) ∧ w = w' := sign_any false w
theorem sign_t (w : World) : Calls Tryz.prog 56 #[.bool true] w fun e w' => e = .returned (.int .i64 (-1)) ∧ w = w' := sign_any true w
theorem Inf_f (w : World) : Calls Tryz.prog 55 #[.int .i64 1] w fun e w' => e = .returned (.float .f64 9218868437227405312) ∧ w = w' := Inf_any false w
theorem Inf_t (w : World) : Calls Tryz.prog 55 #[.int .i64 (-1)] w fun e w' => e = .returned (.float .f64 18442240474082181120) ∧ w = w' := Inf_any true w
theorem rBitsN (A : Option Addr) (n c : Nat) (xs : List Nat) (w : World) (a : Nat) (h : Row w A n c xs) (ea : val xs = a) (hb : n ≤ 1073741824) :
    Calls Tryz.prog 52 #[.slice A n c] w fun e w' => e = .returned (.int .i64 ((blen a : Nat) : Int)) ∧ Below w.heap.size w w' := by
  subst ea; exact rBits_any A n c xs w h hb
theorem rToN (A : Option Addr) (n c : Nat) (xs : List Nat) (w : World) (a : Nat) (h : Row w A n c xs) (ea : val xs = a) (hb : n ≤ 1073741824) (ha : a ≤ 9007199254740992) :
    Calls Tryz.prog 57 #[.slice A n c] w fun e w' => e = .returned (.tuple #[.int .u64 (a : Int), .bool true]) ∧ Below w.heap.size w w' := by
  subst ea
  have := rTo_any A n c xs w h hb
  unfold to64 is64 at this
  rw [if_pos (by omega), show decide (val xs < 18446744073709551616) = true by simp; omega] at this
  exact this
/-- What stands behind the first estimate. -/
def RMid (w2 : World) (e : Int) (s4 : Value) (wc : World) : Prop := s4 = .int .i64 e ∧ Below w2.heap.size w2 wc

set_option maxRecDepth 100000 in
set_option maxHeartbeats 4000000 in
/-- pantographref4.To. -/
theorem r4To_F (F : Nat) (neg : Bool) (A A' : Option Addr) (n c n' c' : Nat) (xs ys : List Nat) (w : World) (h : Row w A n c xs) (h' : Row w A' n' c' ys) (hb : n ≤ 1048576) (hb' : n' ≤ 1048576) (q : Rat) (hq : rv neg (val xs) (val ys) = q)
    (hN : blen (rnum q) ≤ 4000) (hD : blen q.den ≤ 4000) (hF : F = fword (rneg q) (rnum q) q.den) :
    Calls Tryz.prog 28 #[.agg #[.bool neg, .slice A n c, .slice A' n' c']] w fun e w' => e = .returned (.float .f64 F) ∧ Below w.heap.size w w' := by
  have HB := hid (B3.new w 53 (.bool neg) (.slice A n c) (.slice A' n' c'))
  have hO := fun W (hW : Below w.heap.size w W) => r2Norm_any neg A A' n c n' c' xs ys W (h.below hW) (h'.below hW) hb hb'
  rw [hq] at hO
  have HO := hid hO
  clear hO h h' hb hb' hq
  have hD0 : q.den ≠ 0 := q.den_nz
  have l1 := limbs_len hN (by omega)
  have l2 := limbs_len hD (by omega)
  obtain ⟨k0, k1, k2, _, _, _⟩ := HB.out.cells
  go_enter Tryz.func28, Tryz.ntmps28
  go_upto_region 2 with (go_at_call 40; refine (HO.out _ (by repeat first | exact Below.refl _ _ | assumption | refine Pg.Below.then_ ?_ (by assumption) | refine Pg.Below.new_ ?_ _ | refine Pg.Below.drewN_ ?_ _)).mono ?_; rintro e w1 ⟨A1, c1, A2, c2, rfl, hr1, hr2, hb1⟩; clear k0 k1 k2)
  have hB2 := B3.new w1 53 (.bool (rneg q)) (.slice A1 (limbs (rnum q)).length c1) (.slice A2 (limbs q.den).length c2)
  have hs1 := hr1.alloc (.cells #[.bool (rneg q), .slice A1 (limbs (rnum q)).length c1, .slice A2 (limbs q.den).length c2] 53)
  have hs2 := hr2.alloc (.cells #[.bool (rneg q), .slice A1 (limbs (rnum q)).length c1, .slice A2 (limbs q.den).length c2] 53)
  have hbs : Below w.heap.size w (w1.alloc (.cells #[.bool (rneg q), .slice A1 (limbs (rnum q)).length c1, .slice A2 (limbs q.den).length c2] 53)) := (by repeat first | exact Below.refl _ _ | assumption | refine Pg.Below.then_ ?_ (by assumption) | refine Pg.Below.new_ ?_ _ | refine Pg.Below.drewN_ ?_ _)
  generalize w1.alloc (.cells #[.bool (rneg q), .slice A1 (limbs (rnum q)).length c1, .slice A2 (limbs q.den).length c2] 53) = w2 at *
  generalize w1.heap.size = g at *
  clear hr1 hr2 hb1 HB HO
  obtain ⟨k0, k1, k2, _, _, _⟩ := hB2.cells
  generalize rnum q = N at *
  generalize q.den = D at *
  generalize rneg q = S at *
  by_cases h0 : N = 0
  · subst h0
    have e0 : (limbs 0).length = 0 := rfl
    have HF0 := hid (hF.trans (fword_zero S hD0))
    clear hF hN hD hs1 hs2 l1 l2 hB2
    go_wp2_with fail
    go_ret
    exact ⟨by first | rfl | (rw [HF0.out]; rfl), hbs⟩
  have hlz : (((limbs N).length : Int) == 0) = false := beq_eq_false_iff_ne.2 (by
    intro e
    exact h0 (limbs_eq_nil.1 (List.length_eq_zero_iff.1 (by omega))))
  go_upto_region 4 with fail
  refine draw_hd [16, 17, 18, 19, 20, 21, 22, 4] [.is (.pointer (some ⟨g, 1, none⟩)), .is (.slice A1 (limbs N).length c1), .is (.int .i64 (blen N : Int)), .is (.pointer (some ⟨g, 2, none⟩)), .is (.slice A2 (limbs D).length c2), .is (.int .i64 (blen D : Int)), .is (.int .i64 ((blen N : Int) - (blen D : Int))), .is (.int .i64 ((blen N : Int) - (blen D : Int)))]
    (by kernel_rfl) (by kernel_rfl) (by kernel_rfl) (by decide) (by kernel_rfl) (by kernel_rfl) ?_ ?_
  · refine ⟨?_, ?_, ?_, ?_, ?_, ?_, ?_, ?_, trivial⟩
    · intro a w3 hA K hK
      have t3 := hA.old 3 _ rfl rfl
      go_simp
      exact hK _ _ (by first | rfl | exact congrArg _ (by first | rfl | omega | (rw [IntKind.wrap_i64]; omega))) (Below.refl _ _)
    · intro a w3 hA K hK
      have t16 := bt_is hA 0 16 rfl rfl (by kernel_rfl)
      obtain ⟨k0, k1, k2, _, _, _⟩ := (hB2.below hA.below).cells
      go_simp
      exact hK _ _ (by first | rfl | exact congrArg _ (by first | rfl | omega | (rw [IntKind.wrap_i64]; omega))) (Below.refl _ _)
    · intro a w3 hA K hK
      have t17 := bt_is hA 1 17 rfl rfl (by kernel_rfl)
      have hC := rBitsN A1 _ c1 _ w3 N (hs1.below hA.below) (val_limbs _) (by omega)
      go_simp
      refine hC.mono ?_
      rintro e w4 ⟨rfl, hb⟩
      exact hK _ _ rfl hb
    · intro a w3 hA K hK
      have t3 := hA.old 3 _ rfl rfl
      go_simp
      exact hK _ _ (by first | rfl | exact congrArg _ (by first | rfl | omega | (rw [IntKind.wrap_i64]; omega))) (Below.refl _ _)
    · intro a w3 hA K hK
      have t19 := bt_is hA 3 19 rfl rfl (by kernel_rfl)
      obtain ⟨k0, k1, k2, _, _, _⟩ := (hB2.below hA.below).cells
      go_simp
      exact hK _ _ (by first | rfl | exact congrArg _ (by first | rfl | omega | (rw [IntKind.wrap_i64]; omega))) (Below.refl _ _)
    · intro a w3 hA K hK
      have t20 := bt_is hA 4 20 rfl rfl (by kernel_rfl)
      have hC := rBitsN A2 _ c2 _ w3 D (hs2.below hA.below) (val_limbs _) (by omega)
      go_simp
      refine hC.mono ?_
      rintro e w4 ⟨rfl, hb⟩
      exact hK _ _ rfl hb
    · intro a w3 hA K hK
      have t18 := bt_is hA 2 18 rfl rfl (by kernel_rfl)
      have t21 := bt_is hA 5 21 rfl rfl (by kernel_rfl)
      go_simp
      exact hK _ _ (by first | rfl | exact congrArg _ (by first | rfl | omega | (rw [IntKind.wrap_i64]; omega))) (Below.refl _ _)
    · intro a w3 hA K hK
      have t22 := bt_is hA 6 22 rfl rfl (by kernel_rfl)
      go_simp
      exact hK _ _ (by first | rfl | exact congrArg _ (by first | rfl | omega | (rw [IntKind.wrap_i64]; omega))) (Below.refl _ _)
  rintro vs w3 hV hb3 act hact
  have hV' := hV.is_
  clear hV
  obtain ⟨_, rfl, hV⟩ := hV'
  have hV' := hV.is_
  clear hV
  obtain ⟨_, rfl, hV⟩ := hV'
  have hV' := hV.is_
  clear hV
  obtain ⟨_, rfl, hV⟩ := hV'
  have hV' := hV.is_
  clear hV
  obtain ⟨_, rfl, hV⟩ := hV'
  have hV' := hV.is_
  clear hV
  obtain ⟨_, rfl, hV⟩ := hV'
  have hV' := hV.is_
  clear hV
  obtain ⟨_, rfl, hV⟩ := hV'
  have hV' := hV.is_
  clear hV
  obtain ⟨_, rfl, hV⟩ := hV'
  have hV' := hV.is_
  clear hV
  obtain ⟨_, rfl, hV⟩ := hV'
  obtain rfl := hV.nil_
  clear hV
  simp only [puts] at hact
  subst hact

  go_simp
  obtain ⟨nx, hnx⟩ : ∃ x, N * 2 ^ (blen D - blen N) = x := ⟨_, rfl⟩
  obtain ⟨dx, hdx⟩ : ∃ x, D * 2 ^ (blen N - blen D) = x := ⟨_, rfl⟩
  obtain ⟨cm, hcm⟩ : ∃ x, cmpv nx dx = x := ⟨_, rfl⟩
  obtain ⟨b, hb⟩ : ∃ b, b = if nx < dx then 1 else 0 := ⟨_, rfl⟩
  have lnx := limbs_len (show blen nx ≤ 10000 by have := blen_shl N (blen D - blen N); rw [hnx] at this; omega) (by omega)
  have ldx := limbs_len (show blen dx ≤ 10000 by have := blen_shl D (blen N - blen D); rw [hdx] at this; omega) (by omega)
  have hbc : (b = 1 ∧ cm = -1) ∨ (b = 0 ∧ 0 ≤ cm) := by
    rcases Nat.lt_trichotomy nx dx with hl | hl | hl
    · rw [if_pos hl] at hb; rw [cmpv_lt hl] at hcm; exact .inl ⟨hb, hcm.symm⟩
    · rw [if_neg (by omega)] at hb; rw [cmpv_eq hl] at hcm; exact .inr ⟨hb, by omega⟩
    · rw [if_neg (by omega)] at hb; rw [cmpv_gt hl] at hcm; exact .inr ⟨hb, by omega⟩
  obtain ⟨k, hk⟩ : ∃ k, k = blen N + 1022 - blen D - b := ⟨_, rfl⟩
  have hp := ref_plan h0 hD0 (x := blen N - blen D) (y := blen D - blen N) rfl rfl b (by rw [hnx, hdx]; exact hb) hk
  have Hnx := hid hnx
  have Hdx := hid hdx
  have Hcm := hid hcm
  have Hp := hid hp
  clear hnx hdx hcm hb hp k0 k1 k2 h0 hlz
  go_upto_region 5 with fail
  refine draw_hd [23, 24, 25, 26, 27, 28, 29, 30, 31, 32, 33, 34, 5] [.is (.pointer (some ⟨g, 1, none⟩)), .is (.slice A1 (limbs N).length c1), .is (.int .i64 ((blen N : Int) - (blen D : Int))), .is (.int .i64 (-((blen N : Int) - (blen D : Int)))), .is (.int .i64 ((blen D - blen N : Nat) : Int)), .row nx, .is (.pointer (some ⟨g, 2, none⟩)), .is (.slice A2 (limbs D).length c2), .is (.int .i64 ((blen N : Int) - (blen D : Int))), .is (.int .i64 ((blen N - blen D : Nat) : Int)), .row dx, .is (.int .i64 cm), .is (.int .i64 cm)]
    (by kernel_rfl) (by kernel_rfl) (by kernel_rfl) (by decide) (by kernel_rfl) (by kernel_rfl) ?_ ?_
  · refine ⟨?_, ?_, ?_, ?_, ?_, ?_, ?_, ?_, ?_, ?_, ?_, ?_, ?_, trivial⟩
    · intro a w3 hA K hK
      have t3 := hA.old 3 _ rfl rfl
      go_simp
      exact hK _ _ (by first | rfl | exact congrArg _ (by first | rfl | omega | (rw [IntKind.wrap_i64]; omega))) (Below.refl _ _)
    · intro a w3 hA K hK
      have t23 := bt_is hA 0 23 rfl rfl (by kernel_rfl)
      obtain ⟨k0, k1, k2, _, _, _⟩ := (hB2.below (Below.then_ hb3 hA.below)).cells
      go_simp
      exact hK _ _ (by first | rfl | exact congrArg _ (by first | rfl | omega | (rw [IntKind.wrap_i64]; omega))) (Below.refl _ _)
    · intro a w3 hA K hK
      have t4 := hA.old 4 _ rfl rfl
      go_simp
      exact hK _ _ (by first | rfl | exact congrArg _ (by first | rfl | omega | (rw [IntKind.wrap_i64]; omega))) (Below.refl _ _)
    · intro a w3 hA K hK
      have t25 := bt_is hA 2 25 rfl rfl (by kernel_rfl)
      go_simp
      exact hK _ _ (by first | rfl | exact congrArg _ (by first | rfl | omega | (rw [IntKind.wrap_i64]; omega))) (Below.refl _ _)
    · intro a w3 hA K hK
      have t26 := bt_is hA 3 26 rfl rfl (by kernel_rfl)
      go_simp
      exact hK _ _ (by first | rfl | exact congrArg _ (by first | rfl | omega | (rw [IntKind.wrap_i64]; omega))) (Below.refl _ _)
    · intro a w3 hA K hK
      have t24 := bt_is hA 1 24 rfl rfl (by kernel_rfl)
      have t27 := bt_is hA 4 27 rfl rfl (by kernel_rfl)
      have hC := rShift_LN A1 _ c1 _ _ w3 N (blen D - blen N) nx (hs1.below (Below.then_ hb3 hA.below)) (val_limbs _) rfl (by omega) (by omega) Hnx.out
      go_simp
      refine hC.mono ?_
      rintro e w4 ⟨A3, c3, rfl, hr, hb⟩
      exact hK _ _ ⟨_, _, rfl, hr⟩ hb
    · intro a w3 hA K hK
      have t3 := hA.old 3 _ rfl rfl
      go_simp
      exact hK _ _ (by first | rfl | exact congrArg _ (by first | rfl | omega | (rw [IntKind.wrap_i64]; omega))) (Below.refl _ _)
    · intro a w3 hA K hK
      have t29 := bt_is hA 6 29 rfl rfl (by kernel_rfl)
      obtain ⟨k0, k1, k2, _, _, _⟩ := (hB2.below (Below.then_ hb3 hA.below)).cells
      go_simp
      exact hK _ _ (by first | rfl | exact congrArg _ (by first | rfl | omega | (rw [IntKind.wrap_i64]; omega))) (Below.refl _ _)
    · intro a w3 hA K hK
      have t4 := hA.old 4 _ rfl rfl
      go_simp
      exact hK _ _ (by first | rfl | exact congrArg _ (by first | rfl | omega | (rw [IntKind.wrap_i64]; omega))) (Below.refl _ _)
    · intro a w3 hA K hK
      have t31 := bt_is hA 8 31 rfl rfl (by kernel_rfl)
      go_simp
      exact hK _ _ (by first | rfl | exact congrArg _ (by first | rfl | omega | (rw [IntKind.wrap_i64]; omega))) (Below.refl _ _)
    · intro a w3 hA K hK
      have t30 := bt_is hA 7 30 rfl rfl (by kernel_rfl)
      have t32 := bt_is hA 9 32 rfl rfl (by kernel_rfl)
      have hC := rShift_LN A2 _ c2 _ _ w3 D (blen N - blen D) dx (hs2.below (Below.then_ hb3 hA.below)) (val_limbs _) rfl (by omega) (by omega) Hdx.out
      go_simp
      refine hC.mono ?_
      rintro e w4 ⟨A3, c3, rfl, hr, hb⟩
      exact hK _ _ ⟨_, _, rfl, hr⟩ hb
    · intro a w3 hA K hK
      obtain ⟨A28, c28, t28, r28⟩ := bt_row hA 5 28 rfl rfl (by kernel_rfl)
      obtain ⟨A33, c33, t33, r33⟩ := bt_row hA 10 33 rfl rfl (by kernel_rfl)
      have hC := rCmpE A28 A33 _ c28 _ c33 _ _ w3 nx dx cm r28 r33 (val_limbs _) (val_limbs _) (by omega) (by omega) Hcm.out
      go_simp
      refine hC.mono ?_
      rintro e w4 ⟨rfl, hb⟩
      exact hK _ _ rfl hb
    · intro a w3 hA K hK
      have t34 := bt_is hA 11 34 rfl rfl (by kernel_rfl)
      go_simp
      exact hK _ _ (by first | rfl | exact congrArg _ (by first | rfl | omega | (rw [IntKind.wrap_i64]; omega))) (Below.refl _ _)
  rintro vs w4 hV hb4 act hact
  have hV' := hV.is_
  clear hV
  obtain ⟨_, rfl, hV⟩ := hV'
  have hV' := hV.is_
  clear hV
  obtain ⟨_, rfl, hV⟩ := hV'
  have hV' := hV.is_
  clear hV
  obtain ⟨_, rfl, hV⟩ := hV'
  have hV' := hV.is_
  clear hV
  obtain ⟨_, rfl, hV⟩ := hV'
  have hV' := hV.is_
  clear hV
  obtain ⟨_, rfl, hV⟩ := hV'
  have hV' := hV.row_
  clear hV
  obtain ⟨A28, c28, _, rfl, r28, hV⟩ := hV'
  have hV' := hV.is_
  clear hV
  obtain ⟨_, rfl, hV⟩ := hV'
  have hV' := hV.is_
  clear hV
  obtain ⟨_, rfl, hV⟩ := hV'
  have hV' := hV.is_
  clear hV
  obtain ⟨_, rfl, hV⟩ := hV'
  have hV' := hV.is_
  clear hV
  obtain ⟨_, rfl, hV⟩ := hV'
  have hV' := hV.row_
  clear hV
  obtain ⟨A33, c33, _, rfl, r33, hV⟩ := hV'
  have hV' := hV.is_
  clear hV
  obtain ⟨_, rfl, hV⟩ := hV'
  have hV' := hV.is_
  clear hV
  obtain ⟨_, rfl, hV⟩ := hV'
  obtain rfl := hV.nil_
  clear hV
  simp only [puts] at hact
  subst hact

  go_simp
  have hX5 : Below w2.heap.size w2 w4 := (by repeat first | exact Below.refl _ _ | assumption | refine Pg.Below.then_ ?_ (by assumption) | refine Pg.Below.new_ ?_ _ | refine Pg.Below.drewN_ ?_ _)
  go_upto_if 36 with fail
  go_cut [4] (fun s4 wc => RMid w2 ((blen N : Int) - (blen D : Int) - (b : Int)) s4 wc)
  case first =>
    rcases hbc with ⟨rfl, rfl⟩ | ⟨rfl, h1⟩
    · go_wp2_with fail
      go_meet
      exact ⟨congrArg _ (by first | rfl | omega | (rw [IntKind.wrap_i64]; omega)), hX5⟩
    · go_wp2_with fail
      go_meet
      exact ⟨congrArg _ (by first | rfl | omega | (rw [IntKind.wrap_i64]; omega)), hX5⟩
  case rest =>
    obtain ⟨rfl, hbm⟩ := hcut
    clear hb3 hb4 hX5
    obtain ⟨k0, k1, k2, _, _, _⟩ := (hB2.below hbm).cells
    by_cases hbig : 1023 < (blen N : Int) - (blen D : Int) - (b : Int)
    · have hk2 : 2046 ≤ k := by omega
      have hp := Hp.out
      have hu : 4503599627370496 ≤ rnd (N * 2 ^ (1074 - k)) (D * 2 ^ (k - 1074)) := by have := hp.unorm; omega
      have hF2 : F = if S then 18442240474082181120 else 9218868437227405312 := by
        rw [hF, fword_of S hp, if_neg (by omega), Nat.min_eq_right (by omega)]
      have HF := hid hF2
      clear hF hF2 hp hu hk Hp
      rcases S with _ | _
      all_goals
        go_wp2_with (first | (go_at_call 56; refine (sign_f _).mono ?_; rintro e w' ⟨rfl, rfl⟩) | (go_at_call 56; refine (sign_t _).mono ?_; rintro e w' ⟨rfl, rfl⟩) | (go_at_call 55; refine (Inf_f _).mono ?_; rintro e w' ⟨rfl, rfl⟩) | (go_at_call 55; refine (Inf_t _).mono ?_; rintro e w' ⟨rfl, rfl⟩))
        go_ret
        exact ⟨by rw [HF.out]; rfl, hbs.trans (hbm.mono (by have := hbs.size; omega))⟩
    · have hk2 : k ≤ 2045 := by omega
      have hku : ((k : Int) - 1074) = max ((blen N : Int) - (blen D : Int) - (b : Int)) (-1022) - 52 := by omega
      obtain ⟨n0, hn0⟩ : ∃ x, N * 2 ^ (1074 - k) = x := ⟨_, rfl⟩
      obtain ⟨d0, hd0⟩ : ∃ x, D * 2 ^ (k - 1074) = x := ⟨_, rfl⟩
      obtain ⟨u, hu⟩ : ∃ x, x = rnd n0 d0 := ⟨_, rfl⟩
      have hd00 : d0 ≠ 0 := by rw [← hd0]; exact Nat.mul_ne_zero hD0 (Nat.pos_iff_ne_zero.1 (Nat.two_pow_pos _))
      have ln0 := limbs_len2 (show blen n0 ≤ 10000 by have := blen_shl N (1074 - k); rw [hn0] at this; omega) (by omega)
      have ld0 := limbs_len2 (show blen d0 ≤ 10000 by have := blen_shl D (k - 1074); rw [hd0] at this; omega) (by omega)
      have hp := Hp.out
      rw [hn0, hd0, ← hu] at hp
      have hule := hp.u_le
      have hun := hp.unorm
      have hF2 := hF.trans (fword_of S hp)
      have lu : (limbs u).length ≤ 1073741824 := Nat.le_trans (limbs_len (k := 60) (blen_upto (by omega)) (by omega)) (by omega)
      have Hn0 := hid hn0
      have Hd0 := hid hd0
      have Hu := hid hu
      have HF := hid hF2
      have HKU := hid hku
      clear hF hF2 hp hu hn0 hd0 Hp hku hk
      go_upto_region 11 with fail
      clear k0 k1 k2
      refine draw_hd [49, 50, 51, 52, 53, 54, 55, 56, 57, 58, 59, 60, 61, 48, 62, 63, 7, 8] [.is (.pointer (some ⟨g, 1, none⟩)), .is (.slice A1 (limbs N).length c1), .is (.int .i64 ((k : Int) - 1074)), .is (.int .i64 (-((k : Int) - 1074))), .is (.int .i64 ((1074 - k : Nat) : Int)), .row n0, .is (.pointer (some ⟨g, 2, none⟩)), .is (.slice A2 (limbs D).length c2), .is (.int .i64 ((k : Int) - 1074)), .is (.int .i64 ((k - 1074 : Nat) : Int)), .row d0, .row u, .is (.tuple #[.int .u64 (u : Int), .bool true]), .is (.tuple #[.int .u64 (u : Int), .bool true]), .is (.int .u64 (u : Int)), .is (.bool true), .is (.int .u64 (u : Int)), .is (.bool true)]
        (by kernel_rfl) (by kernel_rfl) (by kernel_rfl) (by decide) (by kernel_rfl) (by kernel_rfl) ?_ ?_
      · refine ⟨?_, ?_, ?_, ?_, ?_, ?_, ?_, ?_, ?_, ?_, ?_, ?_, ?_, ?_, ?_, ?_, ?_, ?_, trivial⟩
        · intro a w3 hA K hK
          have t3 := hA.old 3 _ rfl rfl
          go_simp
          exact hK _ _ (by first | rfl | exact congrArg _ (by first | rfl | omega | (rw [IntKind.wrap_i64]; omega))) (Below.refl _ _)
        · intro a w3 hA K hK
          have t49 := bt_is hA 0 49 rfl rfl (by kernel_rfl)
          obtain ⟨k0, k1, k2, _, _, _⟩ := (hB2.below (Below.then_ hbm hA.below)).cells
          go_simp
          exact hK _ _ (by first | rfl | exact congrArg _ (by first | rfl | omega | (rw [IntKind.wrap_i64]; omega))) (Below.refl _ _)
        · intro a w3 hA K hK
          have t6 := hA.old 6 _ rfl rfl
          go_simp
          exact hK _ _ (congrArg _ (by have := HKU.out; omega)) (Below.refl _ _)
        · intro a w3 hA K hK
          have t51 := bt_is hA 2 51 rfl rfl (by kernel_rfl)
          go_simp
          exact hK _ _ (by first | rfl | exact congrArg _ (by first | rfl | omega | (rw [IntKind.wrap_i64]; omega))) (Below.refl _ _)
        · intro a w3 hA K hK
          have t52 := bt_is hA 3 52 rfl rfl (by kernel_rfl)
          go_simp
          exact hK _ _ (by first | rfl | exact congrArg _ (by first | rfl | omega | (rw [IntKind.wrap_i64]; omega))) (Below.refl _ _)
        · intro a w3 hA K hK
          have t50 := bt_is hA 1 50 rfl rfl (by kernel_rfl)
          have t53 := bt_is hA 4 53 rfl rfl (by kernel_rfl)
          have hC := rShift_LN A1 _ c1 _ _ w3 N (1074 - k) n0 (hs1.below (Below.then_ hbm hA.below)) (val_limbs _) rfl (by omega) (by omega) Hn0.out
          go_simp
          refine hC.mono ?_
          rintro e w4 ⟨A3, c3, rfl, hr, hb⟩
          exact hK _ _ ⟨_, _, rfl, hr⟩ hb
        · intro a w3 hA K hK
          have t3 := hA.old 3 _ rfl rfl
          go_simp
          exact hK _ _ (by first | rfl | exact congrArg _ (by first | rfl | omega | (rw [IntKind.wrap_i64]; omega))) (Below.refl _ _)
        · intro a w3 hA K hK
          have t55 := bt_is hA 6 55 rfl rfl (by kernel_rfl)
          obtain ⟨k0, k1, k2, _, _, _⟩ := (hB2.below (Below.then_ hbm hA.below)).cells
          go_simp
          exact hK _ _ (by first | rfl | exact congrArg _ (by first | rfl | omega | (rw [IntKind.wrap_i64]; omega))) (Below.refl _ _)
        · intro a w3 hA K hK
          have t6 := hA.old 6 _ rfl rfl
          go_simp
          exact hK _ _ (congrArg _ (by have := HKU.out; omega)) (Below.refl _ _)
        · intro a w3 hA K hK
          have t57 := bt_is hA 8 57 rfl rfl (by kernel_rfl)
          go_simp
          exact hK _ _ (by first | rfl | exact congrArg _ (by first | rfl | omega | (rw [IntKind.wrap_i64]; omega))) (Below.refl _ _)
        · intro a w3 hA K hK
          have t56 := bt_is hA 7 56 rfl rfl (by kernel_rfl)
          have t58 := bt_is hA 9 58 rfl rfl (by kernel_rfl)
          have hC := rShift_LN A2 _ c2 _ _ w3 D (k - 1074) d0 (hs2.below (Below.then_ hbm hA.below)) (val_limbs _) rfl (by omega) (by omega) Hd0.out
          go_simp
          refine hC.mono ?_
          rintro e w4 ⟨A3, c3, rfl, hr, hb⟩
          exact hK _ _ ⟨_, _, rfl, hr⟩ hb
        · intro a w3 hA K hK
          obtain ⟨A54, c54, t54, r54⟩ := bt_row hA 5 54 rfl rfl (by kernel_rfl)
          obtain ⟨A59, c59, t59, r59⟩ := bt_row hA 10 59 rfl rfl (by kernel_rfl)
          have hC := near_any A54 A59 _ c54 _ c59 _ _ w3 n0 d0 u r54 r59 (val_limbs _) (val_limbs _) (by omega) (by omega) hd00 (by omega) (by omega) Hu.out
          go_simp
          refine hC.mono ?_
          rintro e w4 ⟨A3, c3, rfl, hr, hb⟩
          exact hK _ _ ⟨_, _, rfl, hr⟩ hb
        · intro a w3 hA K hK
          obtain ⟨A60, c60, t60, r60⟩ := bt_row hA 11 60 rfl rfl (by kernel_rfl)
          have hC := rToN A60 _ c60 _ w3 u r60 (val_limbs _) lu hule
          go_simp
          refine hC.mono ?_
          rintro e w4 ⟨rfl, hb⟩
          exact hK _ _ rfl hb
        · intro a w3 hA K hK
          have t61 := bt_is hA 12 61 rfl rfl (by kernel_rfl)
          go_simp
          exact hK _ _ (by first | rfl | exact congrArg _ (by first | rfl | omega | (rw [IntKind.wrap_i64]; omega))) (Below.refl _ _)
        · intro a w3 hA K hK
          have t48 := bt_is hA 13 48 rfl rfl (by kernel_rfl)
          go_simp
          exact hK _ _ (by first | rfl | exact congrArg _ (by first | rfl | omega | (rw [IntKind.wrap_i64]; omega))) (Below.refl _ _)
        · intro a w3 hA K hK
          have t48 := bt_is hA 13 48 rfl rfl (by kernel_rfl)
          go_simp
          exact hK _ _ (by first | rfl | exact congrArg _ (by first | rfl | omega | (rw [IntKind.wrap_i64]; omega))) (Below.refl _ _)
        · intro a w3 hA K hK
          have t62 := bt_is hA 14 62 rfl rfl (by kernel_rfl)
          go_simp
          exact hK _ _ (by first | rfl | exact congrArg _ (by first | rfl | omega | (rw [IntKind.wrap_i64]; omega))) (Below.refl _ _)
        · intro a w3 hA K hK
          have t63 := bt_is hA 15 63 rfl rfl (by kernel_rfl)
          go_simp
          exact hK _ _ (by first | rfl | exact congrArg _ (by first | rfl | omega | (rw [IntKind.wrap_i64]; omega))) (Below.refl _ _)
      rintro vs w5 hV hb5 act hact
      have hV' := hV.is_
      clear hV
      obtain ⟨_, rfl, hV⟩ := hV'
      have hV' := hV.is_
      clear hV
      obtain ⟨_, rfl, hV⟩ := hV'
      have hV' := hV.is_
      clear hV
      obtain ⟨_, rfl, hV⟩ := hV'
      have hV' := hV.is_
      clear hV
      obtain ⟨_, rfl, hV⟩ := hV'
      have hV' := hV.is_
      clear hV
      obtain ⟨_, rfl, hV⟩ := hV'
      have hV' := hV.row_
      clear hV
      obtain ⟨A54, c54, _, rfl, r54, hV⟩ := hV'
      have hV' := hV.is_
      clear hV
      obtain ⟨_, rfl, hV⟩ := hV'
      have hV' := hV.is_
      clear hV
      obtain ⟨_, rfl, hV⟩ := hV'
      have hV' := hV.is_
      clear hV
      obtain ⟨_, rfl, hV⟩ := hV'
      have hV' := hV.is_
      clear hV
      obtain ⟨_, rfl, hV⟩ := hV'
      have hV' := hV.row_
      clear hV
      obtain ⟨A59, c59, _, rfl, r59, hV⟩ := hV'
      have hV' := hV.row_
      clear hV
      obtain ⟨A60, c60, _, rfl, r60, hV⟩ := hV'
      have hV' := hV.is_
      clear hV
      obtain ⟨_, rfl, hV⟩ := hV'
      have hV' := hV.is_
      clear hV
      obtain ⟨_, rfl, hV⟩ := hV'
      have hV' := hV.is_
      clear hV
      obtain ⟨_, rfl, hV⟩ := hV'
      have hV' := hV.is_
      clear hV
      obtain ⟨_, rfl, hV⟩ := hV'
      have hV' := hV.is_
      clear hV
      obtain ⟨_, rfl, hV⟩ := hV'
      have hV' := hV.is_
      clear hV
      obtain ⟨_, rfl, hV⟩ := hV'
      obtain rfl := hV.nil_
      clear hV
      simp only [puts] at hact
      subst hact

      go_simp
      have hw5 := Below.then_ hbm hb5
      rw [← HKU.out]
      clear hbm hb5 r54 r59 r60 Hn0 Hd0 Hu HKU hbig
      obtain ⟨k0, k1, k2, _, _, _⟩ := (hB2.below hw5).cells
      obtain ⟨z, hzu⟩ : ∃ z : Int, (u : Int) = z := ⟨_, rfl⟩
      rw [hzu]
      have HZ := hid hzu
      clear hzu
      by_cases hu0 : u = 0
      · have HF0 : Hid (F = 0) := hid (by rw [HF.out, if_pos hu0])
        have hz0 : z = 0 := by have := HZ.out; omega
        subst hz0
        clear HF hun hule hu0
        go_wp2_with fail
        go_ret
        exact ⟨by first | rfl | (rw [HF0.out]; rfl), hbs.trans (hw5.mono (by have := hbs.size; omega))⟩
      · have hz : (z == 0) = false := beq_eq_false_iff_ne.2 (by have := HZ.out; omega)
        have hz1 : 0 ≤ z := by have := HZ.out; omega
        have hz2 : z ≤ 9007199254740992 := by have := HZ.out; omega
        obtain ⟨T, hT⟩ : ∃ T, T = k * 4503599627370496 + u := ⟨_, rfl⟩
        obtain ⟨t, ht⟩ : ∃ t : Int, t = (T : Int) := ⟨_, rfl⟩
        have HF1 : Hid (F = if S then 9223372036854775808 + min T 9218868437227405312 else min T 9218868437227405312) := hid (by rw [HF.out, if_neg hu0, hT])
        have HT := hid (show T = k * 4503599627370496 + u ∧ t = (T : Int) from ⟨hT, ht⟩)
        have HU := hid hun
        clear HF hT ht hun hule hu0
        go_upto_if 68 with fail
        go_cut [9] (fun s9 wd => s9 = .int .u64 t ∧ wd = w5)
        case first =>
          by_cases h52 : 4503599627370496 ≤ z
          · go_wp2_with fail
            go_meet
            exact ⟨congrArg _ (by have := HT.out; have := HZ.out; first | omega | (simp only [IntKind.wrap_u64]; omega)), rfl⟩
          · have hk0 : k = 0 := by have := HU.out; have := HZ.out; omega
            subst hk0
            go_wp2_with fail
            go_meet
            exact ⟨congrArg _ (by have := HT.out; have := HZ.out; omega), rfl⟩
        case rest =>
          obtain ⟨rfl, rfl⟩ := hcut
          have ht1 : 0 ≤ t := by have := HT.out; omega
          have ht2 : t ≤ 9223372036854775807 := by have := HT.out; have := HZ.out; omega
          have HT2 := hid HT.out.2
          clear HT hz hz1 hz2 HU HZ
          by_cases hTi : 9218868437227405312 ≤ t
          · have HF2 : Hid (F = if S then 18442240474082181120 else 9218868437227405312) := hid (by rw [HF1.out, Nat.min_eq_right (by have := HT2.out; omega)])
            clear HF1
            rcases S with _ | _
            all_goals
              go_wp2_with (first | (go_at_call 56; refine (sign_f _).mono ?_; rintro e w' ⟨rfl, rfl⟩) | (go_at_call 56; refine (sign_t _).mono ?_; rintro e w' ⟨rfl, rfl⟩) | (go_at_call 55; refine (Inf_f _).mono ?_; rintro e w' ⟨rfl, rfl⟩) | (go_at_call 55; refine (Inf_t _).mono ?_; rintro e w' ⟨rfl, rfl⟩))
              go_ret
              exact ⟨by rw [HF2.out]; rfl, hbs.trans (hw5.mono (by have := hbs.size; omega))⟩
          · have HF2 : Hid (F = if S then 9223372036854775808 + T else T) := hid (by rw [HF1.out, Nat.min_eq_left (by have := HT2.out; omega)])
            clear HF1
            have hor : bits .or .u64 t 9223372036854775808 = ((9223372036854775808 + T : Nat) : Int) := by rw [HT2.out]; exact or_sign T (by have := HT2.out; omega)
            have q1 := run_f64from t T HT2.out
            have q2 := run_f64from ((9223372036854775808 + T : Nat) : Int) (9223372036854775808 + T) rfl
            obtain ⟨v, hv⟩ : ∃ v : Int, ((9223372036854775808 + T : Nat) : Int) = v := ⟨_, rfl⟩
            rw [hv] at hor q2
            have hv1 : 0 ≤ v := by omega
            clear hv
            rcases S with _ | _
            · go_wp2_with fail
              go_ret
              exact ⟨by rw [HF2.out]; rfl, hbs.trans (hw5.mono (by have := hbs.size; omega))⟩
            · go_wp2_with fail
              go_ret
              exact ⟨by rw [HF2.out]; rfl, hbs.trans (hw5.mono (by have := hbs.size; omega))⟩

/-- pantographref4.To: the nearest number. -/
theorem r4To_any (neg : Bool) (A A' : Option Addr) (n c n' c' : Nat) (xs ys : List Nat) (w : World) (h : Row w A n c xs) (h' : Row w A' n' c' ys) (hb : n ≤ 1048576) (hb' : n' ≤ 1048576) (q : Rat) (hq : rv neg (val xs) (val ys) = q)
    (hN : blen (rnum q) ≤ 4000) (hD : blen q.den ≤ 4000) :
    Calls Tryz.prog 28 #[.agg #[.bool neg, .slice A n c, .slice A' n' c']] w fun e w' => e = .returned (.float .f64 (fword (rneg q) (rnum q) q.den)) ∧ Below w.heap.size w w' :=
  r4To_F _ neg A A' n c n' c' xs ys w h h' hb hb' q hq hN hD rfl
end Go.Proofs.YtbhieajpodnfpaaGreat
namespace Pg
theorem val_shifted_pow : ∀ (n : Nat), val (List.replicate n 0 ++ [1]) = 4294967296 ^ n
  | 0 => rfl
  | n + 1 => by
    have e1 : val (0 :: (List.replicate n 0 ++ [1])) = 0 + 4294967296 * val (List.replicate n 0 ++ [1]) := rfl
    rw [List.replicate_succ, List.cons_append, e1, val_shifted_pow n, Nat.pow_succ, Nat.zero_add, Nat.mul_comm]
theorem val_shifted (n : Nat) : val (List.replicate n 0 ++ [1]) = 2 ^ (32 * n) := by
  rw [val_shifted_pow, show (4294967296 : Nat) = 2 ^ 32 from rfl, ← Nat.pow_mul]
theorem ok_shifted : ∀ (n : Nat), Ok (List.replicate n 0 ++ [1])
  | 0 => ok_cons.2 ⟨by omega, ok_nil⟩
  | n + 1 => by rw [List.replicate_succ, List.cons_append]; exact ok_cons.2 ⟨by omega, ok_shifted n⟩
theorem limbs_shifted (n : Nat) : limbs (2 ^ (32 * n)) = List.replicate n 0 ++ [1] := by
  rw [← val_shifted n]
  refine limbs_val (ok_shifted n) ?_
  unfold Trimmed
  rw [List.getLast?_append]; simp
theorem frung_far {N D T : Nat} (hT : T = 1024) (hD : 0 < D) (h : 2 ^ T * D ≤ N) : frung N D = 9218868437227405312 := by
  obtain ⟨L, hL⟩ : ∃ L, L = 1074 := ⟨_, rfl⟩
  have hpL := Nat.two_pow_pos L
  unfold frung
  rw [← hL]
  obtain ⟨s1, s2⟩ := fk_spec (n := N * 2 ^ L) hD
  generalize fk (N * 2 ^ L) D = k at *
  have hpk := Nat.two_pow_pos k
  have h1 : 2 ^ T * D * 2 ^ L ≤ N * 2 ^ L := Nat.mul_le_mul_right _ h
  have h2 : 2 ^ (T + L) * D < 2 ^ (53 + k) * D := by
    have e1 : 2 ^ (T + L) * D = 2 ^ T * D * 2 ^ L := by rw [Nat.pow_add]; exact Nat.mul_right_comm _ _ _
    have e2 : 2 ^ (53 + k) * D = 9007199254740992 * 2 ^ k * D := by rw [Nat.pow_add]
    rw [e1, e2]; exact Nat.lt_of_le_of_lt h1 s1
  have h3 : T + L < 53 + k := (Nat.pow_lt_pow_iff_right (a := 2) (by decide)).1 (Nat.lt_of_mul_lt_mul_right h2)
  have hk : 2046 ≤ k := by clear s1 s2 h h1 h2 hpL hpk; omega
  clear h h1 h2 h3 hT
  clear hL
  have hr := (rnd_le (N * 2 ^ L) (D * 2 ^ k)).1
  have hq : 4503599627370496 ≤ N * 2 ^ L / (D * 2 ^ k) := by
    rcases s2 with s2 | s2
    · omega
    · exact (Nat.le_div_iff_mul_le (Nat.mul_pos hD hpk)).2 (by rw [Nat.mul_comm D, ← Nat.mul_assoc]; exact s2)
  omega
theorem frung_low {N D T : Nat} (hT : T = 1075) (h : N * 2 ^ T < D) : frung N D = 0 := by
  obtain ⟨L, hL⟩ : ∃ L, L = 1074 := ⟨_, rfl⟩
  have h' : 2 * (N * 2 ^ L) < D := by
    have e : 2 ^ T = 2 ^ L * 2 := by rw [← Nat.pow_succ, show T = L.succ by omega]
    rw [e] at h
    have e2 : N * (2 ^ L * 2) = 2 * (N * 2 ^ L) := by rw [← Nat.mul_assoc, Nat.mul_comm]
    rw [e2] at h
    exact h
  unfold frung
  rw [← hL]
  clear h hL
  have hq : N * 2 ^ L / D = 0 := Nat.div_eq_of_lt (by omega)
  have hm : N * 2 ^ L % D = N * 2 ^ L := Nat.mod_eq_of_lt (by omega)
  have e : fk (N * 2 ^ L) D = 0 := by unfold fk; rw [hq, if_pos (by omega)]
  rw [e, Nat.pow_zero, Nat.mul_one]
  unfold rnd
  rw [hq, hm, if_neg (by omega)]
  rfl
theorem blen_pow (k : Nat) : blen (2 ^ k) ≤ k + 1 := blen_upto (Nat.pow_lt_pow_right (by omega) (by omega))
theorem blen_rv (s : Bool) {N D : Nat} (hD : D ≠ 0) {k : Nat} (h1 : blen N ≤ k) (h2 : blen D ≤ k) : blen (rnum (rv s N D)) ≤ k ∧ blen (rv s N D).den ≤ k := by
  rw [rv_num s N hD, rv_den s N hD]
  exact ⟨Nat.le_trans (blen_mono (Nat.div_le_self _ _)) h1, Nat.le_trans (blen_mono (Nat.div_le_self _ _)) h2⟩
end Pg
namespace Go.Proofs.YtbhieajpodnfpaaGreat
open Go.RowKit Pg
end Go.Proofs.YtbhieajpodnfpaaGreat
namespace Pg
open Ieee
theorem fw_zero : fw 0 = 0 := fword_zero _ (by decide)
theorem frung_le (N D : Nat) : frung N D ≤ 9218868437227405312 := Nat.min_le_right _ _
theorem fw_cases (q : Rat) : ∃ R, R = frung (rnum q) q.den ∧ R ≤ 9218868437227405312 ∧ ((R = 0 ∧ fw q = 0) ∨ (R ≠ 0 ∧ rneg q = false ∧ fw q = R) ∨ (R ≠ 0 ∧ rneg q = true ∧ fw q = 9223372036854775808 + R)) := by
  refine ⟨_, rfl, frung_le _ _, ?_⟩
  unfold fw fword
  by_cases h : frung (rnum q) q.den = 0
  · exact .inl ⟨h, by rw [if_pos h]⟩
  · right
    rw [if_neg h]
    cases hs : rneg q
    · exact .inl ⟨h, rfl, by simp⟩
    · exact .inr ⟨h, rfl, by simp⟩
theorem fw_lt (q : Rat) : fw q < 18446744073709551616 := by
  obtain ⟨R, _, h1, h2 | h2 | h2⟩ := fw_cases q <;> omega
theorem frung_pos_num {N D : Nat} (hD : 0 < D) (h : frung N D ≠ 0) : N ≠ 0 := by
  rintro rfl
  apply h
  unfold frung fk rnd
  simp only [Nat.zero_mul, Nat.zero_div, Nat.zero_mod, Nat.mul_zero]
  rw [if_pos (by omega), Nat.pow_zero, Nat.mul_one, if_neg (by omega)]
  rfl
theorem xor_sign (R : Nat) (h : R ≤ 9218868437227405312) : R ^^^ (9223372036854775808 + R) = 9223372036854775808 ∧ (9223372036854775808 + R) ^^^ R = 9223372036854775808 := by
  have e : R ^^^ 2 ^ 63 = 9223372036854775808 + R := neg_word R h
  rw [← e]
  constructor
  · rw [← Nat.xor_assoc, Nat.xor_self, Nat.zero_xor]
  · rw [Nat.xor_comm, ← Nat.xor_assoc, Nat.xor_self, Nat.zero_xor]
/-- The other number's word. -/
theorem fw_neg (q : Rat) : (fw q = 0 → fw (-q) = 0) ∧ (fw q ≠ 0 → fw q ^^^ fw (-q) = 9223372036854775808) := by
  obtain ⟨R, hR, h1, h2⟩ := fw_cases q
  obtain ⟨R', hR', h1', h2'⟩ := fw_cases (-q)
  rw [rnum_neg, rden_neg, ← hR] at hR'
  rw [hR'] at h1' h2'
  clear hR'
  obtain ⟨x1, x2⟩ := xor_sign R h1
  by_cases h0 : R = 0
  · constructor
    · intro _
      rcases h2' with h | h | h
      · exact h.2
      · exact absurd h0 h.1
      · exact absurd h0 h.1
    · intro h
      rcases h2 with h | h | h
      · omega
      · exact absurd h0 h.1
      · exact absurd h0 h.1
  · have hN : 0 < rnum q := Nat.pos_of_ne_zero (frung_pos_num (den_pos q) (hR ▸ h0))
    have hs : rneg (-q) = !rneg q := by rw [rneg_neg]; simp [hN]
    constructor
    · intro h
      rcases h2 with h3 | h3 | h3 <;> omega
    · intro _
      rcases h2 with h3 | ⟨_, h4, h5⟩ | ⟨_, h4, h5⟩
      · exact absurd h3.1 h0
      · rw [h4] at hs
        rcases h2' with h6 | ⟨_, h7, h8⟩ | ⟨_, h7, h8⟩
        · exact absurd h6.1 h0
        · rw [hs] at h7; cases h7
        · rw [h5, h8]; exact x1
      · rw [h4] at hs
        rcases h2' with h6 | ⟨_, h7, h8⟩ | ⟨_, h7, h8⟩
        · exact absurd h6.1 h0
        · rw [h5, h8]; exact x2
        · rw [hs] at h7; cases h7
theorem kind_one {x : Nat} (hx : x < 18446744073709551616) : fKind x = 1 ↔ x = 0 := by
  have e := word_parts x
  have hn : fNeg x = decide (9223372036854775808 ≤ x) := rfl
  constructor
  · intro h
    unfold fKind at h
    by_cases c : fExp x = 2047
    · rw [if_pos c] at h
      revert h
      repeat' split
      all_goals (intro h; omega)
    · rw [if_neg c] at h
      by_cases c0 : fExp x = 0
      · rw [if_pos c0] at h
        by_cases c1 : fFrac x = 0
        · rw [if_pos c1] at h
          by_cases c2 : fNeg x = true
          · rw [if_pos c2] at h; omega
          · rw [hn] at c2
            have c3 : ¬ 9223372036854775808 ≤ x := by simpa using c2
            omega
        · rw [if_neg c1] at h; omega
      · rw [if_neg c0] at h; omega
  · rintro rfl; decide

/-! The nearest number rises. -/
theorem div_mono {n d n' d' : Nat} (hd : 0 < d) (hd' : 0 < d') (h : n * d' ≤ n' * d) : n / d ≤ n' / d' := by
  refine (Nat.le_div_iff_mul_le hd').2 ?_
  have h1 := Nat.div_mul_le_self n d
  refine Nat.le_of_mul_le_mul_right (c := d) ?_ hd
  calc n / d * d' * d = n / d * d * d' := Nat.mul_right_comm _ _ _
    _ ≤ n * d' := Nat.mul_le_mul_right _ h1
    _ ≤ n' * d := h
theorem rnd_mono {n d n' d' : Nat} (hd : 0 < d) (hd' : 0 < d') (h : n * d' ≤ n' * d) : rnd n d ≤ rnd n' d' := by
  have hq := div_mono hd hd' h
  obtain ⟨l1, l2⟩ := rnd_le n d
  obtain ⟨l3, l4⟩ := rnd_le n' d'
  rcases Nat.lt_or_eq_of_le hq with hlt | heq
  · omega
  · have e1 := Nat.div_add_mod n d
    have e2 := Nat.div_add_mod n' d'
    obtain ⟨q, hqq⟩ : ∃ q, q = n / d := ⟨_, rfl⟩
    obtain ⟨r, hr⟩ : ∃ r, r = n % d := ⟨_, rfl⟩
    obtain ⟨r', hr'⟩ : ∃ r, r = n' % d' := ⟨_, rfl⟩
    unfold rnd
    rw [← heq, ← hqq, ← hr, ← hr']
    rw [← heq, ← hqq, ← hr'] at e2
    rw [← hqq, ← hr] at e1
    have hc : r * d' ≤ r' * d := by
      have a1 : n * d' = d * q * d' + r * d' := by rw [← e1, Nat.add_mul]
      have a2 : n' * d = d' * q * d + r' * d := by rw [← e2, Nat.add_mul]
      have a3 : d * q * d' = d' * q * d := by rw [Nat.mul_comm d q, Nat.mul_comm d' q, Nat.mul_right_comm]
      omega
    have key : d ≤ 2 * r → d' ≤ 2 * r' := fun h1 => by
      refine Nat.le_of_mul_le_mul_right (c := d) ?_ hd
      have : d * d' ≤ 2 * r * d' := Nat.mul_le_mul_right _ h1
      rw [Nat.mul_assoc] at this ⊢
      rw [Nat.mul_comm d' d]; omega
    have key2 : d < 2 * r → d' < 2 * r' := fun h1 => by
      refine Nat.lt_of_mul_lt_mul_right (a := d) ?_
      have : d * d' < 2 * r * d' := Nat.mul_lt_mul_of_pos_right h1 hd'
      rw [Nat.mul_assoc] at this ⊢
      rw [Nat.mul_comm d' d]; omega
    by_cases c : d < 2 * r ∨ d = 2 * r ∧ q % 2 = 1
    · rw [if_pos c, if_pos]
      · omega
      · rcases c with c | ⟨c1, c2⟩
        · exact .inl (key2 c)
        · have := key (by omega)
          rcases Nat.lt_or_eq_of_le this with h1 | h1
          · exact .inl h1
          · exact .inr ⟨h1, c2⟩
    · rw [if_neg c]; split <;> omega
theorem frung_mono {N D N' D' : Nat} (hD : 0 < D) (hD' : 0 < D') (h : N * D' ≤ N' * D) : frung N D ≤ frung N' D' := by
  obtain ⟨L, hL⟩ : ∃ L, L = 1074 := ⟨_, rfl⟩
  unfold frung
  rw [← hL]
  clear hL
  have h' : N * 2 ^ L * D' ≤ N' * 2 ^ L * D := by
    have e1 : N * 2 ^ L * D' = N * D' * 2 ^ L := Nat.mul_right_comm _ _ _
    have e2 : N' * 2 ^ L * D = N' * D * 2 ^ L := Nat.mul_right_comm _ _ _
    rw [e1, e2]; exact Nat.mul_le_mul_right _ h
  have hq := div_mono hD hD' h'
  have hk : fk (N * 2 ^ L) D ≤ fk (N' * 2 ^ L) D' := by
    unfold fk
    by_cases c : N * 2 ^ L / D < 9007199254740992
    · rw [if_pos c]; omega
    · rw [if_neg c, if_neg (by omega)]
      have := blen_mono hq
      omega
  obtain ⟨s1, s2⟩ := fk_spec (n := N * 2 ^ L) hD
  obtain ⟨t1, t2⟩ := fk_spec (n := N' * 2 ^ L) hD'
  generalize fk (N * 2 ^ L) D = k at *
  generalize fk (N' * 2 ^ L) D' = k' at *
  generalize N * 2 ^ L = n at *
  generalize N' * 2 ^ L = n' at *
  have hpk := Nat.two_pow_pos k
  have hpk' := Nat.two_pow_pos k'
  have hu : rnd n (D * 2 ^ k) ≤ 9007199254740992 := by
    have h1 := (rnd_le n (D * 2 ^ k)).2
    have h2 : n / (D * 2 ^ k) < 9007199254740992 := (Nat.div_lt_iff_lt_mul (Nat.mul_pos hD hpk)).2 (by rw [Nat.mul_comm D, ← Nat.mul_assoc]; exact s1)
    omega
  have key : k * 4503599627370496 + rnd n (D * 2 ^ k) ≤ k' * 4503599627370496 + rnd n' (D' * 2 ^ k') := by
    rcases Nat.lt_or_eq_of_le hk with hlt | heq
    · have h1 := (rnd_le n' (D' * 2 ^ k')).1
      have h2 : 4503599627370496 ≤ n' / (D' * 2 ^ k') := by
        rcases t2 with t2 | t2
        · omega
        · exact (Nat.le_div_iff_mul_le (Nat.mul_pos hD' hpk')).2 (by rw [Nat.mul_comm D', ← Nat.mul_assoc]; exact t2)
      omega
    · subst heq
      have := rnd_mono (Nat.mul_pos hD hpk) (Nat.mul_pos hD' hpk) (n := n) (n' := n') (by rw [← Nat.mul_assoc, ← Nat.mul_assoc]; exact Nat.mul_le_mul_right _ h')
      omega
  exact Nat.le_min.2 ⟨Nat.le_trans (Nat.min_le_left _ _) key, Nat.min_le_right _ _⟩
end Pg
namespace Pg
open Ieee
theorem rv_cross (s : Bool) {N D N' D' : Nat} (hD : D ≠ 0) (hD' : D' ≠ 0) (h : N * D' = N' * D) : rv s N D = rv s N' D' := by
  unfold rv
  refine (Rat.mkRat_eq_iff hD hD').2 ?_
  unfold sg
  split
  · rw [Int.neg_mul, Int.neg_mul, ← Int.natCast_mul, ← Int.natCast_mul, h]
  · rw [← Int.natCast_mul, ← Int.natCast_mul, h]
/-- A word's number, by the least one. -/
theorem fQ_rat (u : Nat) : fQ u = rv (fNeg u) (fM u * 2 ^ (fE u - 1)) (2 ^ 1074) := by
  have h1 := fE_pos u
  obtain ⟨L, hL⟩ : ∃ L, L = 1074 := ⟨_, rfl⟩
  rw [← hL]
  have hp := Nat.two_pow_pos L
  unfold fQ
  by_cases c : 1075 ≤ fE u
  · rw [if_pos c]
    refine rv_cross _ (by decide) (by omega) ?_
    rw [Nat.mul_one, Nat.mul_assoc, pow_join (a := fE u - 1075) (b := L) (c := fE u - 1) (by omega)]
  · have hp2 := Nat.two_pow_pos (1075 - fE u)
    rw [if_neg c]
    refine rv_cross _ (by omega) (by omega) ?_
    rw [Nat.mul_assoc, pow_join (a := fE u - 1) (b := 1075 - fE u) (c := L) (by omega)]
/-- Of a word that is a place and a whole number. -/
theorem fQ_parts {x k M : Nat} (s : Bool) (hx : x = (if s then 9223372036854775808 else 0) + (k * 4503599627370496 + M)) (hk : k ≤ 2045) (hM : M < 9007199254740992) (hn : 4503599627370496 ≤ M) :
    fQ x = rv s (M * 2 ^ k) (2 ^ 1074) ∧ fExp x ≠ 2047 := by
  have e1 : fNeg x = s := by
    unfold fNeg
    cases s
    · simp only [Bool.false_eq_true, if_false] at hx; exact decide_eq_false (by omega)
    · simp only [if_true] at hx; exact decide_eq_true (by omega)
  have hx2 : x % 9223372036854775808 = k * 4503599627370496 + M := by
    cases s
    · simp only [Bool.false_eq_true, if_false] at hx; omega
    · simp only [if_true] at hx; omega
  have hw := word_parts x
  have hf := fFrac_lt x
  have he := fExp_lt x
  rw [hx2] at hw
  have e2 : fExp x = k + 1 := by omega
  have e3 : fFrac x = M - 4503599627370496 := by omega
  have e4 : fM x = M := by unfold fM; rw [if_neg (by omega)]; omega
  have e5 : fE x = k + 1 := by unfold fE; rw [if_neg (by omega)]; omega
  rw [fQ_rat, e1, e4, e5]
  exact ⟨rfl, by omega⟩
theorem int_rat (n : Int) : rneg (n : Rat) = decide (n < 0) ∧ rnum (n : Rat) = n.natAbs ∧ (n : Rat).den = 1 := by
  unfold rneg rnum
  exact ⟨by rw [Rat.num_intCast], by rw [Rat.num_intCast], Rat.den_intCast n⟩
theorem fw_int (n : Int) : fw (n : Rat) = fword (decide (n < 0)) n.natAbs 1 := by
  obtain ⟨h1, h2, h3⟩ := int_rat n
  unfold fw
  rw [h1, h2, h3]
/-- A whole number up to 2^53 as a place and a whole number. -/
theorem nat_parts {u : Nat} (h0 : u ≠ 0) (h : u ≤ 9007199254740992) : ∃ k M, k ≤ 2045 ∧ M < 9007199254740992 ∧ 4503599627370496 ≤ M ∧ u * 2 ^ 1074 = M * 2 ^ k * 1 ∧ frung u 1 = k * 4503599627370496 + M ∧ ∀ neg, double.nearest neg u 0 = double.word neg (k * 4503599627370496 + M) := by
  obtain ⟨L, hL⟩ : ∃ L, L = 1074 := ⟨_, rfl⟩
  have key : ∀ k M, k ≤ 2045 → M < 9007199254740992 → 4503599627370496 ≤ M → u * 2 ^ L = M * 2 ^ k * 1 → frung u 1 = k * 4503599627370496 + M := by
    intro k M h1 h2 h3 h4
    rw [hL] at h4
    rw [frung_exact (by decide) h4 h2 (.inr h3), Nat.min_eq_left (by omega)]
  rw [← hL]
  rcases Nat.lt_or_eq_of_le h with hlt | rfl
  · obtain ⟨l, hl⟩ : ∃ l, l = u.log2 := ⟨_, rfl⟩
    have h1 : 2 ^ l ≤ u := by rw [hl]; exact Nat.log2_self_le h0
    have h2 : u < 2 ^ (l + 1) := by rw [hl]; exact Nat.lt_log2_self
    have hl52 : l ≤ 52 := by
      have : u.log2 < 53 := (Nat.log2_lt h0).2 (by omega)
      omega
    have e1 : 4503599627370496 ≤ u * 2 ^ (52 - l) := by
      have := Nat.mul_le_mul_right (2 ^ (52 - l)) h1
      rw [← Nat.pow_add, show l + (52 - l) = 52 by omega] at this
      exact this
    have e2 : u * 2 ^ (52 - l) < 9007199254740992 := by
      have := Nat.mul_lt_mul_of_pos_right h2 (Nat.two_pow_pos (52 - l))
      rw [← Nat.pow_add, show l + 1 + (52 - l) = 53 by omega] at this
      exact this
    have e3 : u * 2 ^ L = u * 2 ^ (52 - l) * 2 ^ (l + 1022) * 1 := by
      rw [Nat.mul_one, Nat.mul_assoc, pow_join (a := 52 - l) (b := l + 1022) (c := L) (by omega)]
    refine ⟨l + 1022, u * 2 ^ (52 - l), by omega, e2, e1, e3, key _ _ (by omega) e2 e1 e3, fun neg => ?_⟩
    rw [nearest_shl neg u (52 - l) (l + 1022) 0 (by omega) e2 e1, Nat.min_eq_left (by generalize u * 2 ^ (52 - l) = z at *; omega)]
  · have e3 : 9007199254740992 * 2 ^ L = 4503599627370496 * 2 ^ 1075 * 1 := by
      obtain ⟨T, hT⟩ : ∃ T, T = 1075 := ⟨_, rfl⟩
      rw [← hT, Nat.mul_one, show T = L + 1 by omega, Nat.pow_succ, show (9007199254740992 : Nat) = 4503599627370496 * 2 by decide, Nat.mul_assoc, Nat.mul_comm 2]
    exact ⟨1075, 4503599627370496, by decide, by decide, by decide, e3, key _ _ (by decide) (by decide) (by decide) e3, fun neg => by cases neg <;> decide +kernel⟩
theorem floatOfInt_any (n : Int) : Go.floatOfInt .f64 n = double.nearest (decide (n < 0)) n.natAbs 0 := by
  unfold Go.floatOfInt Go.FloatKind.nearest Go.FloatKind.encode Format.write
  rfl
theorem word_any (s : Bool) (x : Nat) : double.word s x = (if s then 9223372036854775808 else 0) + x := by
  cases s
  · rw [word_pos]; simp
  · rw [word_neg]; simp
/-- A whole number's word: by the model, by the nearest number, and back. -/
theorem fw_whole (n : Int) (h1 : -9007199254740992 ≤ n) (h2 : n ≤ 9007199254740992) : Go.floatOfInt .f64 n = fw (n : Rat) ∧ fw (n : Rat) < 18446744073709551616 ∧ fErr (fw (n : Rat)) = 0 ∧ fQ (fw (n : Rat)) = (n : Rat) ∧ fw (n : Rat) % 9223372036854775808 < 9218868437227405312 := by
  by_cases h0 : n = 0
  · subst h0
    have e : fw ((0 : Int) : Rat) = 0 := fw_zero
    rw [e]
    refine ⟨by decide +kernel, by decide, by decide, ?_, by decide⟩
    rw [fQ_rat]
    exact rv_zero (.inl (by decide))
  · obtain ⟨k, M, hk, hM, hn, he, hr, hw⟩ := nat_parts (u := n.natAbs) (by omega) (by omega)
    have hf : fw (n : Rat) = (if decide (n < 0) then 9223372036854775808 else 0) + (k * 4503599627370496 + M) := by
      rw [fw_int]
      unfold fword
      rw [hr, if_neg (by omega)]
      split <;> omega
    have hq := fQ_parts (decide (n < 0)) hf hk hM hn
    refine ⟨by rw [floatOfInt_any, hw, word_any, hf], fw_lt _, (fErr_zero_iff _).2 hq.2, ?_, ?_⟩
    · have h3 : rv (decide (n < 0)) n.natAbs 1 = rv (decide (n < 0)) (M * 2 ^ k) (2 ^ 1074) := by
        obtain ⟨L, hL⟩ : ∃ L, L = 1074 := ⟨_, rfl⟩
        rw [← hL] at he ⊢
        have hp := Nat.two_pow_pos L
        exact rv_cross _ (by decide) (by omega) he
      rw [hq.1, ← h3, rv_int]
    · rw [hf]
      split <;> omega
end Pg
