/- Rational numbers as a sign and two numbers: plain mathematics. Conditions: none. -/
import Derived.Test.YtgehoflkbckgkaaNum
namespace Pg

/-- A number with its sign. -/
def sg (neg : Bool) (N : Nat) : Int := if neg = true then -(N : Int) else (N : Int)
/-- The rational that a sign and two numbers say; 0: one of them is. -/
def rv (neg : Bool) (N D : Nat) : Rat := mkRat (sg neg N) D
def rneg (q : Rat) : Bool := decide (q.num < 0)
def rnum (q : Rat) : Nat := q.num.natAbs

theorem sg_natAbs (neg : Bool) (N : Nat) : (sg neg N).natAbs = N := by unfold sg; split <;> simp
theorem sg_self (z : Int) : sg (decide (z < 0)) z.natAbs = z := by
  unfold sg; split <;> rename_i h <;> simp at h <;> omega
theorem rv_zero {neg : Bool} {N D : Nat} (h : N = 0 ∨ D = 0) : rv neg N D = 0 := by
  unfold rv
  rcases h with rfl | rfl
  · have : sg neg 0 = 0 := by unfold sg; split <;> rfl
    rw [this]; exact Rat.zero_mkRat _
  · exact Rat.mkRat_zero _
theorem rv_den (neg : Bool) (N : Nat) {D : Nat} (hD : D ≠ 0) : (rv neg N D).den = D / Nat.gcd N D := by
  unfold rv
  rw [Rat.den_mkRat, if_neg hD, sg_natAbs, Nat.gcd_comm]
theorem rv_numz (neg : Bool) (N : Nat) {D : Nat} (hD : D ≠ 0) : (rv neg N D).num = sg neg (N / Nat.gcd N D) := by
  unfold rv
  rw [Rat.num_mkRat, if_neg hD, sg_natAbs, Nat.gcd_comm]
  have hd : Nat.gcd N D ∣ N := Nat.gcd_dvd_left _ _
  unfold sg
  split
  · rw [Int.neg_ediv_of_dvd (Int.ofNat_dvd.2 hd)]; rfl
  · rfl
theorem rv_num (neg : Bool) (N : Nat) {D : Nat} (hD : D ≠ 0) : rnum (rv neg N D) = N / Nat.gcd N D := by
  unfold rnum; rw [rv_numz neg N hD, sg_natAbs]
theorem rv_neg {neg : Bool} {N D : Nat} (hN : N ≠ 0) (hD : D ≠ 0) : rneg (rv neg N D) = neg := by
  unfold rneg
  rw [rv_numz neg N hD]
  have hg : 0 < Nat.gcd N D := Nat.gcd_pos_of_pos_left _ (by omega)
  have : 0 < N / Nat.gcd N D := Nat.div_pos (Nat.le_of_dvd (by omega) (Nat.gcd_dvd_left _ _)) hg
  unfold sg
  cases neg <;> simp <;> omega
theorem rv_self (q : Rat) : rv (rneg q) (rnum q) q.den = q := by
  unfold rv rneg rnum; rw [sg_self, Rat.mkRat_self]
theorem sg_num (q : Rat) : sg (rneg q) (rnum q) = q.num := sg_self _
theorem rnum_zero_iff {q : Rat} : rnum q = 0 ↔ q = 0 := by
  unfold rnum
  rw [Int.natAbs_eq_zero]
  exact Rat.num_eq_zero
theorem rnum_zero : rnum 0 = 0 := rfl
theorem rneg_zero : rneg 0 = false := rfl
theorem rden_zero : (0 : Rat).den = 1 := rfl
theorem den_pos (q : Rat) : 0 < q.den := q.den_pos
theorem gcd_q (q : Rat) : Nat.gcd (rnum q) q.den = 1 := q.reduced
/-- A normal row of three is its rational's. -/
theorem rv_eq {q r : Rat} (h1 : rneg q = rneg r) (h2 : rnum q = rnum r) (h3 : q.den = r.den) : q = r := by
  rw [← rv_self q, h1, h2, h3, rv_self]
theorem rv_add (a b : Rat) : a + b = mkRat (sg (rneg a) (rnum a * b.den) + sg (rneg b) (rnum b * a.den)) (a.den * b.den) := by
  rw [Rat.add_def']
  congr 1
  have e : ∀ (n : Bool) (x y : Nat), sg n (x * y) = sg n x * (y : Int) := fun n x y => by
    unfold sg; split
    · rw [Int.natCast_mul, Int.neg_mul]
    · exact Int.natCast_mul _ _
  rw [e, e, sg_num, sg_num]
theorem sg_xor (s t : Bool) (x y : Nat) : sg (s != t) (x * y) = sg s x * sg t y := by
  unfold sg
  cases s <;> cases t <;> simp [Int.natCast_mul, Int.neg_mul, Int.mul_neg]
theorem rv_mul (a b : Rat) : a * b = rv (rneg a != rneg b) (rnum a * rnum b) (a.den * b.den) := by
  rw [Rat.mul_def']
  unfold rv
  rw [sg_xor, sg_num, sg_num]
end Pg
