/- The model's numbers of 64 bits. Conditions: those that each theorem names. -/
import Derived.Test.YtahdlpkncemmaaaW18
import Derived.Laws.FloatArith
set_option maxRecDepth 100000
set_option maxHeartbeats 8000000
set_option linter.unusedSimpArgs false
set_option linter.unusedVariables false
namespace Pg
open Ieee
theorem log2_ge {v : Nat} (d : Nat) (hv : v ≠ 0) : d ≤ (v * 2 ^ d).log2 := by
 refine (Nat.le_log2 (by have := Nat.two_pow_pos d; exact Nat.mul_ne_zero hv (by omega))).2 ?_
 exact Nat.le_mul_of_pos_left _ (by omega)
theorem cut_exact (neg : Bool) (v d : Nat) (hv : v ≠ 0) : Toward.even.cut neg (v * 2 ^ d) d = v := by
 unfold Toward.cut
 have h := log2_ge d hv
 rw [Nat.min_eq_left (by omega), Nat.shiftLeft_eq, Nat.one_mul]
 have hp := Nat.two_pow_pos d
 simp only [Nat.mul_div_cancel _ hp, Nat.mul_mod_left, Nat.mul_zero]
 have e1 : decide (2 ^ d < 0) = false := by simp
 have e2 : (2 ^ d == 0) = false := beq_eq_false_iff_ne.2 (by omega)
 rw [e1, e2]
 rfl
theorem log2_mul_pow {v d s : Nat} (h1 : 2 ^ s ≤ v) (h2 : v < 2 ^ (s + 1)) : (v * 2 ^ d).log2 = s + d := by
 have hp := Nat.two_pow_pos d
 have hs := Nat.two_pow_pos s
 have h0 : v * 2 ^ d ≠ 0 := Nat.mul_ne_zero (by omega) (by omega)
 refine (Nat.log2_eq_iff h0).2 ⟨?_, ?_⟩
 ·rw [Nat.pow_add]; exact Nat.mul_le_mul_right _ h1
 ·rw [show s + d + 1 = s + 1 + d by omega, Nat.pow_add]; exact Nat.mul_lt_mul_of_pos_right h2 hp
theorem leastPlace_eq : double.leastPlace = -1074 := by decide
theorem binade_eq : double.binade = 4503599627370496 := by decide
theorem infRung_eq : double.infRung = 9218868437227405312 := by decide
theorem signWeight_eq : double.signWeight = 9223372036854775808 := by decide
theorem nearest_cut (neg : Bool) (v d k : Nat) (place : Int) (hp : place + d = (k : Int) - 1074) (hv : v ≠ 0) (h1 : v < 9007199254740992) (h2 : k = 0 ∨ 4503599627370496 ≤ v) :
  double.nearest neg (v * 2 ^ d) place = double.word neg (min (k * 4503599627370496 + v) 9218868437227405312) := by
 have hpd := Nat.two_pow_pos d
 have hlast : max (place + ((v * 2 ^ d).log2 : Int) - (double.fractionBits : Int)) double.leastPlace = (k : Int) - 1074 := by
  rw [leastPlace_eq]
  have hfb : (double.fractionBits : Int) = 52 := rfl
  rw [hfb]
  have hl : (v * 2 ^ d).log2 = v.log2 + d := by
   have hn : v.log2 = v.log2 := rfl
   exact log2_mul_pow (Nat.log2_self_le hv) Nat.lt_log2_self
  have hle : v.log2 < 53 := (Nat.log2_lt hv).2 (by omega)
  rcases h2 with rfl | h2
  ·rw [hl]; push_cast; omega
  ·have hge : 52 ≤ v.log2 := (Nat.le_log2 hv).2 (by omega)
   rw [hl]; push_cast; omega
 unfold Format.nearest
 rw [if_neg (Nat.mul_ne_zero hv (by omega))]
 rw [leastPlace_eq] at hlast
 simp only [leastPlace_eq, binade_eq, infRung_eq]
 rw [hlast]
 have e1 : (place - ((k : Int) - 1074)).toNat = 0 := by omega
 have e2 : ((k : Int) - 1074 - place).toNat = d := by omega
 have e3 : ((k : Int) - 1074 - -1074).toNat = k := by omega
 rw [e1, e2, e3, Nat.shiftLeft_zero, cut_exact neg v d hv]
theorem word_pos (x : Nat) : double.word false x = x := by unfold Format.word; rfl
theorem read_pos {x : Nat} (h : x < 9218868437227405312) : ∃ (M k : Nat), double.read x = .number false M (k - 1074 : Int) ∧ (k : Nat) = (x / 4503599627370496 - 1 : Nat) ∧ M = (if x < 4503599627370496 then x else 4503599627370496 + x % 4503599627370496) := by
 refine ⟨_, _, ?_, rfl, rfl⟩
 unfold Format.read
 simp only [signWeight_eq, binade_eq, infRung_eq, leastPlace_eq]
 have e1 : x / 9223372036854775808 = 0 := Nat.div_eq_of_lt (by omega)
 have e2 : x % 9223372036854775808 = x := Nat.mod_eq_of_lt (by omega)
 rw [e1, e2]
 by_cases c : x < 4503599627370496
 ·rw [if_pos c, if_pos c]
  have : x / 4503599627370496 = 0 := Nat.div_eq_of_lt c
  rw [this]; rfl
 ·rw [if_neg c, if_neg c, if_pos h]
  congr 1
theorem mul_reads {x y M k M' k' : Nat} (h1 : double.read x = .number false M (k - 1074 : Int)) (h2 : double.read y = .number false M' (k' - 1074 : Int)) : double.mul x y = some (double.nearest false (M * M') ((k - 1074 : Int) + (k' - 1074 : Int))) := by
 unfold Format.mul
 rw [h1, h2]
 rfl
theorem mul_one {x : Nat} (h1 : 4503599627370496 ≤ x) (h2 : x < 9218868437227405312) : double.mul 4607182418800017408 x = some x := by
 obtain ⟨M, k, e1, e2, e3⟩ := read_pos h2
 rw [if_neg (by omega)] at e3
 have hr : double.read 4607182418800017408 = .number false 4503599627370496 ((1022 : Nat) - 1074 : Int) := by decide +kernel
 rw [mul_reads hr e1, show 4503599627370496 * M = M * 2 ^ 52 by omega, nearest_cut false M 52 k _ (by omega) (by omega) (by omega) (by omega), word_pos]
 congr 1
 omega
end Pg
