/- The model's numbers of 64 bits: what 'nearest' tells of exact numbers, how two of them stand. Plain. Conditions: those that each theorem names. -/
import Derived.Test.YtbhieajpodnfpaaGreatZ20
import Derived.Laws.FloatArith
namespace Pg
open Ieee

theorem cut_zero (way : Toward) (neg : Bool) (n : Nat) : way.cut neg n 0 = n := by
  unfold Toward.cut
  simp only [Nat.zero_min, Nat.shiftLeft_zero, Nat.div_one, Nat.mod_one, Nat.mul_zero]
  cases way <;> simp
theorem log2_ge {v : Nat} (d : Nat) (hv : v ≠ 0) : d ≤ (v * 2 ^ d).log2 := by
  refine (Nat.le_log2 (by have := Nat.two_pow_pos d; exact Nat.mul_ne_zero hv (by omega))).2 ?_
  exact Nat.le_mul_of_pos_left _ (by omega)
theorem cut_exact (neg : Bool) (v d : Nat) (hv : v ≠ 0) : Toward.even.cut neg (v * 2 ^ d) d = v := by
  unfold Toward.cut
  have h := log2_ge d hv
  rw [Nat.min_eq_left (by omega), Nat.shiftLeft_eq, Nat.one_mul]
  have hp := Nat.two_pow_pos d
  simp only [Nat.mul_div_cancel _ hp, Nat.mul_mod_left, Nat.mul_zero]
  have e1 : decide (2 ^ d < 0) = false := by simp
  have e2 : (2 ^ d == 0) = false := beq_eq_false_iff_ne.2 (by omega)
  rw [e1, e2]
  rfl
theorem log2_mul_pow {v d s : Nat} (h1 : 2 ^ s ≤ v) (h2 : v < 2 ^ (s + 1)) : (v * 2 ^ d).log2 = s + d := by
  have hp := Nat.two_pow_pos d
  have hs := Nat.two_pow_pos s
  have h0 : v * 2 ^ d ≠ 0 := Nat.mul_ne_zero (by omega) (by omega)
  refine (Nat.log2_eq_iff h0).2 ⟨?_, ?_⟩
  · rw [Nat.pow_add]; exact Nat.mul_le_mul_right _ h1
  · rw [show s + d + 1 = s + 1 + d by omega, Nat.pow_add]; exact Nat.mul_lt_mul_of_pos_right h2 hp
theorem leastPlace_eq : double.leastPlace = -1074 := by decide
theorem binade_eq : double.binade = 4503599627370496 := by decide
theorem infRung_eq : double.infRung = 9218868437227405312 := by decide
theorem signWeight_eq : double.signWeight = 9223372036854775808 := by decide

/-- Of a number whose last kept place is k, exactly. -/
theorem nearest_cut (neg : Bool) (v d k : Nat) (place : Int) (hp : place + d = (k : Int) - 1074) (hv : v ≠ 0) (h1 : v < 9007199254740992) (h2 : k = 0 ∨ 4503599627370496 ≤ v) :
    double.nearest neg (v * 2 ^ d) place = double.word neg (min (k * 4503599627370496 + v) 9218868437227405312) := by
  have hpd := Nat.two_pow_pos d
  have hlast : max (place + ((v * 2 ^ d).log2 : Int) - (double.fractionBits : Int)) double.leastPlace = (k : Int) - 1074 := by
    rw [leastPlace_eq]
    have hfb : (double.fractionBits : Int) = 52 := rfl
    rw [hfb]
    have hl : (v * 2 ^ d).log2 = v.log2 + d := by
      have hn : v.log2 = v.log2 := rfl
      exact log2_mul_pow (Nat.log2_self_le hv) Nat.lt_log2_self
    have hle : v.log2 < 53 := (Nat.log2_lt hv).2 (by omega)
    rcases h2 with rfl | h2
    · rw [hl]; push_cast; omega
    · have hge : 52 ≤ v.log2 := (Nat.le_log2 hv).2 (by omega)
      rw [hl]; push_cast; omega
  unfold Format.nearest
  rw [if_neg (Nat.mul_ne_zero hv (by omega))]
  rw [leastPlace_eq] at hlast
  simp only [leastPlace_eq, binade_eq, infRung_eq]
  rw [hlast]
  have e1 : (place - ((k : Int) - 1074)).toNat = 0 := by omega
  have e2 : ((k : Int) - 1074 - place).toNat = d := by omega
  have e3 : ((k : Int) - 1074 - -1074).toNat = k := by omega
  rw [e1, e2, e3, Nat.shiftLeft_zero, cut_exact neg v d hv]
/-- Of a number that is moved up. -/
theorem nearest_shl (neg : Bool) (u s k : Nat) (place : Int) (hp : place = (k : Int) - 1074 + s) (h1 : u * 2 ^ s < 9007199254740992) (h2 : 4503599627370496 ≤ u * 2 ^ s) :
    double.nearest neg u place = double.word neg (min (k * 4503599627370496 + u * 2 ^ s) 9218868437227405312) := by
  have hu : u ≠ 0 := by rintro rfl; omega
  have hps := Nat.two_pow_pos s
  have hl : u.log2 + s = 52 := by
    have h3 := log2_mul_pow (v := u) (d := s) (Nat.log2_self_le hu) Nat.lt_log2_self
    have h4 : (u * 2 ^ s).log2 = 52 := (Nat.log2_eq_iff (by omega)).2 ⟨by omega, by omega⟩
    omega
  have hlast : max (place + (u.log2 : Int) - (double.fractionBits : Int)) double.leastPlace = (k : Int) - 1074 := by
    rw [leastPlace_eq]
    have hfb : (double.fractionBits : Int) = 52 := rfl
    rw [hfb]
    omega
  unfold Format.nearest
  rw [if_neg hu]
  rw [leastPlace_eq] at hlast
  simp only [leastPlace_eq, binade_eq, infRung_eq]
  rw [hlast]
  have e1 : (place - ((k : Int) - 1074)).toNat = s := by omega
  have e2 : ((k : Int) - 1074 - place).toNat = 0 := by omega
  have e3 : ((k : Int) - 1074 - -1074).toNat = k := by omega
  rw [e1, e2, e3, cut_zero, Nat.shiftLeft_eq]

theorem floatOfInt_nat (u : Nat) : Go.floatOfInt .f64 (u : Int) = double.nearest false u 0 := by
  unfold Go.floatOfInt Go.FloatKind.nearest Go.FloatKind.encode Format.write
  rw [show decide ((u : Int) < 0) = false by simp, Int.natAbs_natCast]
  rfl
theorem word_pos (x : Nat) : double.word false x = x := by unfold Format.word; rfl
theorem word_neg (x : Nat) : double.word true x = 9223372036854775808 + x := by unfold Format.word; rw [signWeight_eq]; rfl
/-- The word of a natural up to 2^53. -/
theorem float_nat {u l : Nat} (h1 : 2 ^ l ≤ u) (h2 : u < 2 ^ (l + 1)) (hl : l ≤ 52) : Go.floatOfInt .f64 (u : Int) = (l + 1022) * 4503599627370496 + u * 2 ^ (52 - l) := by
  have hpl := Nat.two_pow_pos (52 - l)
  have e1 : 4503599627370496 ≤ u * 2 ^ (52 - l) := by
    have := Nat.mul_le_mul_right (2 ^ (52 - l)) h1
    rw [← Nat.pow_add, show l + (52 - l) = 52 by omega] at this
    exact this
  have e2 : u * 2 ^ (52 - l) < 9007199254740992 := by
    have := Nat.mul_lt_mul_of_pos_right h2 hpl
    rw [← Nat.pow_add, show l + 1 + (52 - l) = 53 by omega] at this
    exact this
  have := nearest_shl false u (52 - l) (l + 1022) 0 (by omega) e2 e1
  rw [floatOfInt_nat, this, word_pos]
  generalize u * 2 ^ (52 - l) = z at *
  omega
theorem float_top : Go.floatOfInt .f64 9007199254740992 = 4845873199050653696 := by decide +kernel

/-! What a word is. -/
/-- The number of a word without a sign, by the least one. -/
def wval (x : Nat) : Nat := if x < 4503599627370496 then x else (4503599627370496 + x % 4503599627370496) * 2 ^ (x / 4503599627370496 - 1)
theorem read_pos {x : Nat} (h : x < 9218868437227405312) : ∃ (M k : Nat), double.read x = .number false M (k - 1074 : Int) ∧ (k : Nat) = (x / 4503599627370496 - 1 : Nat) ∧ M = (if x < 4503599627370496 then x else 4503599627370496 + x % 4503599627370496) := by
  refine ⟨_, _, ?_, rfl, rfl⟩
  unfold Format.read
  simp only [signWeight_eq, binade_eq, infRung_eq, leastPlace_eq]
  have e1 : x / 9223372036854775808 = 0 := Nat.div_eq_of_lt (by omega)
  have e2 : x % 9223372036854775808 = x := Nat.mod_eq_of_lt (by omega)
  rw [e1, e2]
  by_cases c : x < 4503599627370496
  · rw [if_pos c, if_pos c]
    have : x / 4503599627370496 = 0 := Nat.div_eq_of_lt c
    rw [this]; rfl
  · rw [if_neg c, if_neg c, if_pos h]
    congr 1
theorem wval_lt {x y : Nat} (h : x < y) : wval x < wval y := by
  unfold wval
  by_cases cy : y < 4503599627370496
  · rw [if_pos (by omega), if_pos cy]; exact h
  rw [if_neg cy]
  have hpy := Nat.two_pow_pos (y / 4503599627370496 - 1)
  by_cases cx : x < 4503599627370496
  · rw [if_pos cx]
    have : 4503599627370496 * 1 ≤ (4503599627370496 + y % 4503599627370496) * 2 ^ (y / 4503599627370496 - 1) := Nat.mul_le_mul (by omega) hpy
    omega
  rw [if_neg cx]
  rcases Nat.lt_or_eq_of_le (Nat.div_le_div_right (c := 4503599627370496) (Nat.le_of_lt h)) with hq | hq
  · have h1 : (4503599627370496 + x % 4503599627370496) * 2 ^ (x / 4503599627370496 - 1) < 9007199254740992 * 2 ^ (x / 4503599627370496 - 1) := Nat.mul_lt_mul_of_pos_right (by omega) (Nat.two_pow_pos _)
    have h2 : 2 ^ (x / 4503599627370496 - 1 + 1) ≤ 2 ^ (y / 4503599627370496 - 1) := Nat.pow_le_pow_right (by omega) (by omega)
    rw [Nat.pow_succ] at h2
    have h3 : 4503599627370496 * 2 ^ (y / 4503599627370496 - 1) ≤ (4503599627370496 + y % 4503599627370496) * 2 ^ (y / 4503599627370496 - 1) := Nat.mul_le_mul_right _ (by omega)
    omega
  · rw [hq]
    exact Nat.mul_lt_mul_of_pos_right (by omega) hpy
theorem wval_eq (x : Nat) : wval x = (if x < 4503599627370496 then x else 4503599627370496 + x % 4503599627370496) * 2 ^ (x / 4503599627370496 - 1) := by
  unfold wval
  by_cases c : x < 4503599627370496
  · rw [if_pos c, if_pos c, Nat.div_eq_of_lt c]; simp
  · rw [if_neg c, if_neg c]
theorem compare_wval (x y : Nat) : compare (wval x) (wval y) = compare x y := by
  rcases Nat.lt_trichotomy x y with h | rfl | h
  · rw [Nat.compare_eq_lt.2 h, Nat.compare_eq_lt.2 (wval_lt h)]
  · rw [Nat.compare_eq_eq.2 rfl, Nat.compare_eq_eq.2 rfl]
  · rw [Nat.compare_eq_gt.2 h, Nat.compare_eq_gt.2 (wval_lt h)]
theorem compare_scale (a b c : Nat) (hc : 0 < c) : compare (a * c) (b * c) = compare a b := by
  rcases Nat.lt_trichotomy a b with h | rfl | h
  · rw [Nat.compare_eq_lt.2 h, Nat.compare_eq_lt.2 (Nat.mul_lt_mul_of_pos_right h hc)]
  · rw [Nat.compare_eq_eq.2 rfl, Nat.compare_eq_eq.2 rfl]
  · rw [Nat.compare_eq_gt.2 h, Nat.compare_eq_gt.2 (Nat.mul_lt_mul_of_pos_right h hc)]
theorem compare_cast (a b : Nat) : compare (a : Int) (b : Int) = compare a b := by
  rcases Nat.lt_trichotomy a b with h | rfl | h
  · rw [Nat.compare_eq_lt.2 h]; exact compareOfLessAndEq_eq_lt.2 (by omega)
  · rw [Nat.compare_eq_eq.2 rfl]; simp [compare, compareOfLessAndEq]
  · rw [Nat.compare_eq_gt.2 h]; simp only [compare, compareOfLessAndEq]; rw [if_neg (by omega), if_neg (by omega)]
/-- Two numbers without a sign stand as their words. -/
theorem order_pos {x y : Nat} (hx : x < 9218868437227405312) (hy : y < 9218868437227405312) : double.order x y = some (compare x y) := by
  obtain ⟨M, k, e1, e2, e3⟩ := read_pos hx
  obtain ⟨M', k', e1', e2', e3'⟩ := read_pos hy
  have v1 := wval_eq x
  have v2 := wval_eq y
  rw [← e2, ← e3] at v1
  rw [← e2', ← e3'] at v2
  rw [← compare_wval, v1, v2]
  unfold Format.order
  rw [e1, e1']
  simp only [Datum.order, signed, Bool.false_eq_true, if_false, Nat.shiftLeft_eq]
  rw [compare_cast]
  obtain ⟨m, hm⟩ : ∃ m : Nat, m = min k k' := ⟨_, rfl⟩
  have a1 : ((k : Int) - 1074 - min ((k : Int) - 1074) ((k' : Int) - 1074)).toNat = k - m := by omega
  have a2 : ((k' : Int) - 1074 - min ((k : Int) - 1074) ((k' : Int) - 1074)).toNat = k' - m := by omega
  rw [a1, a2, ← compare_scale _ _ _ (Nat.two_pow_pos m), Nat.mul_assoc, Nat.mul_assoc, ← Nat.pow_add, ← Nat.pow_add, show k - m + m = k by omega, show k' - m + m = k' by omega]

theorem mul_reads {x y M k M' k' : Nat} (h1 : double.read x = .number false M (k - 1074 : Int)) (h2 : double.read y = .number false M' (k' - 1074 : Int)) : double.mul x y = some (double.nearest false (M * M') ((k - 1074 : Int) + (k' - 1074 : Int))) := by
  unfold Format.mul
  rw [h1, h2]
  rfl
/-- One so often. -/
theorem mul_one {x : Nat} (h1 : 4503599627370496 ≤ x) (h2 : x < 9218868437227405312) : double.mul 4607182418800017408 x = some x := by
  obtain ⟨M, k, e1, e2, e3⟩ := read_pos h2
  rw [if_neg (by omega)] at e3
  have hr : double.read 4607182418800017408 = .number false 4503599627370496 ((1022 : Nat) - 1074 : Int) := by decide +kernel
  rw [mul_reads hr e1, show 4503599627370496 * M = M * 2 ^ 52 by omega, nearest_cut false M 52 k _ (by omega) (by omega) (by omega) (by omega), word_pos]
  congr 1
  omega
/-- A small number, by 2^-53. -/
theorem mul_tiny {u l : Nat} (h1 : 2 ^ l ≤ u) (h2 : u < 2 ^ (l + 1)) (hl : l ≤ 51) : double.mul 4368491638549381120 ((l + 1) * 4503599627370496 + u * 2 ^ (52 - l)) = some u := by
  have hpl := Nat.two_pow_pos (52 - l)
  have hl0 := Nat.two_pow_pos l
  have e1 : 4503599627370496 ≤ u * 2 ^ (52 - l) := by
    have := Nat.mul_le_mul_right (2 ^ (52 - l)) h1
    rw [← Nat.pow_add, show l + (52 - l) = 52 by omega] at this
    exact this
  have e2 : u * 2 ^ (52 - l) < 9007199254740992 := by
    have := Nat.mul_lt_mul_of_pos_right h2 hpl
    rw [← Nat.pow_add, show l + 1 + (52 - l) = 53 by omega] at this
    exact this
  have hu : u < 4503599627370496 := by
    have : 2 ^ (l + 1) ≤ 2 ^ 52 := Nat.pow_le_pow_right (by omega) (by omega)
    omega
  obtain ⟨z, hz⟩ : ∃ z, z = u * 2 ^ (52 - l) := ⟨_, rfl⟩
  rw [← hz] at e1 e2 ⊢
  obtain ⟨M, k, r1, r2, r3⟩ := read_pos (x := (l + 1) * 4503599627370496 + z) (by omega)
  rw [if_neg (by omega)] at r3
  have hr : double.read 4368491638549381120 = .number false 4503599627370496 ((969 : Nat) - 1074 : Int) := by decide +kernel
  have hM : M = z := by omega
  have hk : k = l + 1 := by omega
  rw [mul_reads hr r1, hM, hk, hz, show 4503599627370496 * (u * 2 ^ (52 - l)) = u * 2 ^ (52 + (52 - l)) by rw [Nat.pow_add 2 52, ← Nat.mul_assoc, ← Nat.mul_assoc]; congr 1; omega,
    nearest_cut false u (52 + (52 - l)) 0 _ (by omega) (by omega) (by omega) (.inl rfl), word_pos]
  congr 1
  omega
end Pg
