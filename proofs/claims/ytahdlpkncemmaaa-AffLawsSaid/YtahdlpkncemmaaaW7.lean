/- Shifts of rows, limb by limb · Which of two numbers is greater, and one · The borrow of math/bits.Sub32 and the jo. Conditions: those that each theorem names. -/
import Derived.Test.YtahdlpkncemmaaaW1
import Derived.Laws.BitsAllLaws
set_option maxRecDepth 100000
set_option maxHeartbeats 8000000
set_option linter.unusedSimpArgs false
set_option linter.unusedVariables false
namespace Pg
open Go
theorem pow_dvd_base {s : Nat} (hs : s ≤ 32) : 2 ^ s ∣ 4294967296 := by
 have : (4294967296 : Nat) = 2 ^ s * 2 ^ (32 - s) := by rw [← Nat.pow_add, show s + (32 - s) = 32 from by omega]
 rw [this]; exact Nat.dvd_mul_right _ _
theorem base_pow (m : Nat) : 4294967296 ^ m = 2 ^ (32 * m) := by
 rw [Nat.pow_mul]
structure LeftInv (xs : List Nat) (s m k : Nat) (cs : List Nat) : Prop where
 len : cs.length = m
 ok : Ok cs
 eq : val cs = val (xs.take k) * 2 ^ s % 4294967296 ^ m
 low : lim cs k < 2 ^ s
 zero : ∀ j, k < j → lim cs j = 0
theorem LeftInv.start (xs : List Nat) (s m : Nat) : LeftInv xs s m 0 (List.replicate m 0) :=
 ⟨by simp, ok_replicate _, by simp [val, val_replicate], by rw [lim_replicate]; exact Nat.two_pow_pos s, fun j _ => lim_replicate _ _⟩
theorem or_parts {x s c : Nat} (hs : s ≤ 31) (hc : c < 2 ^ s) : c ||| (x * 2 ^ s % 4294967296) = c + x * 2 ^ s % 4294967296 := by
 rw [Nat.or_comm, Nat.add_comm]
 refine nat_join s _ _ ?_ hc
 rw [Nat.mod_mod_of_dvd _ (pow_dvd_base (by omega)), Nat.mul_mod_left]
theorem hi_lt {x s : Nat} (hx : x < 4294967296) : x * 2 ^ s / 4294967296 < 2 ^ s := by
 refine Nat.div_lt_of_lt_mul ?_
 exact Nat.mul_lt_mul_of_lt_of_le hx (Nat.le_refl _) (Nat.two_pow_pos s)
theorem two_pow_le {s : Nat} (hs : s ≤ 31) : 2 ^ s ≤ 2147483648 := by
 have : 2 ^ s ≤ 2 ^ 31 := Nat.pow_le_pow_right (by omega) hs
 simpa using this
theorem shl_lt {x s : Nat} (hx : x < 4294967296) (hs : s ≤ 31) : x * 2 ^ s < 18446744073709551616 := by
 have h := two_pow_le hs
 have : x * 2 ^ s ≤ 4294967295 * 2147483648 := Nat.mul_le_mul (by omega) h
 omega
def orl (c x s : Nat) : Nat := c ||| (x * 2 ^ s % 4294967296)
theorem orl_lt {c x s : Nat} (hc : c < 4294967296) : orl c x s < 4294967296 := by
 have : c ||| (x * 2 ^ s % 4294967296) < 2 ^ 32 := Nat.or_lt_two_pow (by simpa using hc) (by omega)
 simpa [orl] using this
theorem LeftInv.first {xs : List Nat} {s m k : Nat} {cs : List Nat} (h : LeftInv xs s m k cs) (hs : s ≤ 31) (hm : k < m) :
  val (cs.set k (orl (lim cs k) (lim xs k) s)) = val cs + 4294967296 ^ k * (lim xs k * 2 ^ s % 4294967296) := by
 have e := val_set' (xs := cs) (i := k) (orl (lim cs k) (lim xs k) s) (by rw [h.len]; exact hm)
 have e2 : orl (lim cs k) (lim xs k) s = lim cs k + lim xs k * 2 ^ s % 4294967296 := or_parts hs h.low
 rw [e2, Nat.mul_add] at e
 rw [e2]
 omega
theorem LeftInv.step {xs : List Nat} {s m k : Nat} {cs : List Nat} (h : LeftInv xs s m k cs) (hx : Ok xs) (hs : s ≤ 31) (hm : k + 1 < m) :
  LeftInv xs s m (k + 1) ((cs.set k (orl (lim cs k) (lim xs k) s)).set (k + 1) (lim xs k * 2 ^ s / 4294967296)) := by
 have hl := lim_lt hx k
 have hh := hi_lt (s := s) hl
 have h2 := two_pow_le hs
 have hok : Ok ((cs.set k (orl (lim cs k) (lim xs k) s)).set (k + 1) (lim xs k * 2 ^ s / 4294967296)) :=
  (h.ok.set k (orl_lt (lim_lt h.ok k))).set (k + 1) (by omega)
 have hlen : ((cs.set k (orl (lim cs k) (lim xs k) s)).set (k + 1) (lim xs k * 2 ^ s / 4294967296)).length = m := by
  rw [List.length_set, List.length_set, h.len]
 refine ⟨hlen, hok, ?_, ?_, fun j hj => ?_⟩
 ·have e1 := h.first hs (by omega)
  have e2 := val_set' (xs := cs.set k (orl (lim cs k) (lim xs k) s)) (i := k + 1) (lim xs k * 2 ^ s / 4294967296) (by rw [List.length_set, h.len]; exact hm)
  rw [lim_set_other _ (by omega), h.zero (k + 1) (by omega), Nat.mul_zero, Nat.add_zero, e1, Nat.pow_succ] at e2
  have e3 := mul_split (4294967296 ^ k) (lim xs k * 2 ^ s)
  have hv := val_lt hok
  rw [hlen] at hv
  have e4 : val ((cs.set k (orl (lim cs k) (lim xs k) s)).set (k + 1) (lim xs k * 2 ^ s / 4294967296)) = val cs + 4294967296 ^ k * (lim xs k * 2 ^ s) := by
   rw [e2, e3, Nat.mul_comm (lim xs k * 2 ^ s / 4294967296)]; omega
  rw [val_take_succ0, Nat.add_mul, Nat.mul_assoc, ← Nat.mod_add_mod, ← h.eq, ← e4, Nat.mod_eq_of_lt hv]
 ·rw [lim_set_same _ (by rw [List.length_set, h.len]; exact hm)]
  exact hh
 ·rw [lim_set_other _ (by omega), lim_set_other _ (by omega)]
  exact h.zero j (by omega)
theorem LeftInv.last {xs : List Nat} {s m k : Nat} {cs : List Nat} (h : LeftInv xs s m k cs) (hs : s ≤ 31) (hm : k + 1 = m) :
  LeftInv xs s m (k + 1) (cs.set k (orl (lim cs k) (lim xs k) s)) := by
 have hok : Ok (cs.set k (orl (lim cs k) (lim xs k) s)) := h.ok.set k (orl_lt (lim_lt h.ok k))
 have hlen : (cs.set k (orl (lim cs k) (lim xs k) s)).length = m := by rw [List.length_set, h.len]
 refine ⟨hlen, hok, ?_, ?_, fun j hj => ?_⟩
 ·have e1 := h.first hs (by omega)
  have e3 := mul_split (4294967296 ^ k) (lim xs k * 2 ^ s)
  have hv := val_lt hok
  rw [hlen] at hv
  have e4 := h.eq
  rw [← hm, Nat.pow_succ] at e4 hv
  rw [val_take_succ0, Nat.add_mul, Nat.mul_assoc, e3, ← hm, Nat.pow_succ, ← Nat.add_assoc, Nat.add_mul_mod_self_right, ← Nat.mod_add_mod, ← e4, ← e1, Nat.mod_eq_of_lt hv]
 ·rw [lim_set_other _ (by omega), h.zero (k + 1) (by omega)]
  exact Nat.two_pow_pos s
 ·rw [lim_set_other _ (by omega)]
  exact h.zero j (by omega)
theorem LeftInv.done {xs : List Nat} {s m : Nat} {cs : List Nat} (h : LeftInv xs s m xs.length cs) : val cs = val xs * 2 ^ s % 4294967296 ^ m := by
 rw [h.eq, List.take_length]
/-! How the walk writes what is stored. -/
theorem walk_shl {x s : Nat} (hx : x < 4294967296) (hs : s ≤ 31) : IntKind.u64.wrap (((x : Nat) : Int) * 2 ^ s) = ((x * 2 ^ s : Nat) : Int) := by
 have e : ((x : Nat) : Int) * 2 ^ s = ((x * 2 ^ s : Nat) : Int) := by rw [Int.natCast_mul, Int.natCast_pow]; rfl
 have := shl_lt hx hs
 rw [e]
 exact IntWalk.u64_in _ (by omega)
theorem walk_orl {c x s : Nat} (hc : c < 4294967296) (hx : x < 4294967296) (hs : s ≤ 31) :
  bits .or .u32 ((c : Nat) : Int) (IntKind.u64.wrap (((x : Nat) : Int) * 2 ^ s) % 4294967296) = ((orl c x s : Nat) : Int) := by
 rw [walk_shl hx hs]
 have e : ((x * 2 ^ s : Nat) : Int) % 4294967296 = ((x * 2 ^ s % 4294967296 : Nat) : Int) := by omega
 rw [e, u32_or_nat _ _ hc (by omega)]
 rfl
theorem walk_hi {x s : Nat} (hx : x < 4294967296) (hs : s ≤ 31) :
  IntKind.u64.wrap (((x : Nat) : Int) * 2 ^ s) / 4294967296 % 4294967296 = ((x * 2 ^ s / 4294967296 : Nat) : Int) := by
 rw [walk_shl hx hs]
 have h1 := hi_lt (s := s) hx
 have h2 := two_pow_le hs
 omega
structure RightInv (al : List Nat) (y k : Nat) (cs : List Nat) : Prop where
 len : cs.length = al.length
 ok : Ok cs
 eq : val cs = val (al.take k) / 2 ^ y
 low : 0 < k → lim cs (k - 1) < 2 ^ (32 - y)
 zero : ∀ j, k ≤ j → lim cs j = 0
theorem RightInv.start (al : List Nat) (y : Nat) : RightInv al y 0 (List.replicate al.length 0) :=
 ⟨by simp, ok_replicate _, by simp [val, val_replicate], fun h => absurd h (by omega), fun j _ => lim_replicate _ _⟩
theorem div_pow_lt {x y : Nat} (hx : x < 4294967296) (hy : y ≤ 31) : x / 2 ^ y < 2 ^ (32 - y) := by
 refine Nat.div_lt_of_lt_mul ?_
 rw [← Nat.pow_add, show y + (32 - y) = 32 from by omega]
 simpa using hx
theorem base_split {y : Nat} (hy : y ≤ 31) : (4294967296 : Nat) = 2 ^ y * 2 ^ (32 - y) := by
 rw [← Nat.pow_add, show y + (32 - y) = 32 from by omega]
theorem shr_parts {x y : Nat} (hy : y ≤ 31) : 2 ^ (32 - y) * x = 4294967296 * (x / 2 ^ y) + x % 2 ^ y * 2 ^ (32 - y) := by
 have h := Nat.div_add_mod x (2 ^ y)
 have e := base_split hy
 rw [e]
 calc 2 ^ (32 - y) * x = 2 ^ (32 - y) * (2 ^ y * (x / 2 ^ y) + x % 2 ^ y) := by rw [h]
  _ = _ := by rw [Nat.mul_add]; ac_rfl
def orr (c x y : Nat) : Nat := c ||| x % 2 ^ y * 2 ^ (32 - y)
theorem orr_eq {c x y : Nat} (hc : c < 2 ^ (32 - y)) : orr c x y = c + x % 2 ^ y * 2 ^ (32 - y) := by
 unfold orr
 rw [Nat.or_comm, Nat.add_comm]
 exact nat_join (32 - y) _ _ (Nat.mul_mod_left _ _) hc
theorem orr_part_lt {x y : Nat} (hy : y ≤ 31) : x % 2 ^ y * 2 ^ (32 - y) < 4294967296 := by
 have h : x % 2 ^ y < 2 ^ y := Nat.mod_lt _ (Nat.two_pow_pos y)
 have := Nat.mul_lt_mul_of_pos_right h (Nat.two_pow_pos (32 - y))
 rwa [← base_split hy] at this
theorem orr_lt {c x y : Nat} (hc : c < 4294967296) (hy : y ≤ 31) : orr c x y < 4294967296 := by
 have : c ||| x % 2 ^ y * 2 ^ (32 - y) < 2 ^ 32 := Nat.or_lt_two_pow (by simpa using hc) (by simpa using orr_part_lt hy)
 simpa [orr] using this
theorem pow32_le {y : Nat} (hy : y ≤ 31) : 2 ^ (32 - y) ≤ 4294967296 := by
 rw [base_split hy]; exact Nat.le_mul_of_pos_left _ (Nat.two_pow_pos y)
theorem RightInv.first {al : List Nat} {y : Nat} {cs : List Nat} (h : RightInv al y 0 cs) (ha : Ok al) (hy : y ≤ 31) (hk : 0 < al.length) :
  RightInv al y 1 (cs.set 0 (lim al 0 / 2 ^ y)) := by
 have hd := div_pow_lt (lim_lt ha 0) hy
 have h32 := pow32_le hy
 refine ⟨by rw [List.length_set, h.len], h.ok.set 0 (by omega), ?_, fun _ => ?_, fun j hj => ?_⟩
 ·have e := val_set' (xs := cs) (i := 0) (lim al 0 / 2 ^ y) (by rw [h.len]; exact hk)
  have e2 := h.eq
  rw [h.zero 0 (by omega)] at e
  rw [val_take_succ0 al 0]
  simp [val] at e e2 ⊢
  omega
 ·rw [lim_set_same _ (by rw [h.len]; exact hk)]; exact hd
 ·rw [lim_set_other _ (by omega)]; exact h.zero j (by omega)
theorem RightInv.step {al : List Nat} {y k : Nat} {cs : List Nat} (h : RightInv al y k cs) (ha : Ok al) (hy : y ≤ 31) (hk : k < al.length) (hk0 : 0 < k) :
  RightInv al y (k + 1) ((cs.set k (lim al k / 2 ^ y)).set (k - 1) (orr (lim cs (k - 1)) (lim al k) y)) := by
 have hd := div_pow_lt (lim_lt ha k) hy
 have h32 := pow32_le hy
 refine ⟨by rw [List.length_set, List.length_set, h.len], (h.ok.set k (by omega)).set (k - 1) (orr_lt (lim_lt h.ok _) hy), ?_, fun _ => ?_, fun j hj => ?_⟩
 ·have e1 := val_set' (xs := cs) (i := k) (lim al k / 2 ^ y) (by rw [h.len]; exact hk)
  rw [h.zero k (by omega), Nat.mul_zero, Nat.add_zero] at e1
  have e2 := val_set' (xs := cs.set k (lim al k / 2 ^ y)) (i := k - 1) (orr (lim cs (k - 1)) (lim al k) y) (by rw [List.length_set, h.len]; omega)
  rw [lim_set_other _ (by omega), e1, orr_eq (h.low hk0), Nat.mul_add, ← orr_eq (h.low hk0)] at e2
  have hp : 4294967296 ^ k = 4294967296 ^ (k - 1) * 4294967296 := by rw [← Nat.pow_succ]; congr 1; omega
  have e3 : val (al.take (k + 1)) = val (al.take k) + 4294967296 ^ (k - 1) * (2 ^ (32 - y) * lim al k) * 2 ^ y := by
   rw [val_take_succ0, hp]
   congr 1
   rw [show (4294967296 ^ (k - 1) * 4294967296 : Nat) = 4294967296 ^ (k - 1) * (2 ^ y * 2 ^ (32 - y)) from by rw [← base_split hy]]
   ac_rfl
  rw [e3, Nat.add_mul_div_right _ _ (Nat.two_pow_pos y), ← h.eq, shr_parts hy, Nat.mul_add, ← Nat.mul_assoc, ← hp]
  omega
 ·rw [show k + 1 - 1 = k from by omega, lim_set_other _ (by omega), lim_set_same _ (by rw [h.len]; exact hk)]; exact hd
 ·rw [lim_set_other _ (by omega), lim_set_other _ (by omega)]; exact h.zero j (by omega)
theorem RightInv.done {al : List Nat} {y : Nat} {cs : List Nat} (h : RightInv al y al.length cs) : val cs = val al / 2 ^ y := by
 rw [h.eq, List.take_length]
def shv (N : Nat) (e : Int) : Nat := if e < 0 then N / 2 ^ (-e).toNat else N * 2 ^ e.toNat
theorem shv_neg (N t : Nat) (ht : 0 < t) : shv N (-(t : Int)) = N / 2 ^ t := by
 unfold shv; rw [if_pos (by omega)]; congr 2; omega
theorem shv_pos (N t : Nat) : shv N (t : Int) = N * 2 ^ t := by
 unfold shv; rw [if_neg (by omega)]; congr 2
theorem right_number {p : List Nat} (hp : Ok p) (t : Nat) (hl : t / 32 ≤ p.length) : val (p.drop (t / 32)) / 2 ^ (t % 32) = val p / 2 ^ t := by
 have e := val_take_drop p (t / 32) hl
 have hlt := val_lt (hp.take (t / 32))
 rw [List.length_take, Nat.min_eq_left hl] at hlt
 have e2 : val p / 4294967296 ^ (t / 32) = val (p.drop (t / 32)) := by
  rw [e, Nat.add_mul_div_left _ _ (Nat.pow_pos (by omega)), Nat.div_eq_of_lt hlt, Nat.zero_add]
 rw [← e2, Nat.div_div_eq_div_mul, base_pow, ← Nat.pow_add, Nat.div_add_mod]
theorem right_none {p : List Nat} (hp : Ok p) (t : Nat) (hl : p.length ≤ t / 32) : val p / 2 ^ t = 0 := by
 refine Nat.div_eq_of_lt (Nat.lt_of_lt_of_le (val_lt hp) ?_)
 rw [base_pow]
 exact Nat.pow_le_pow_right (by omega) (by omega)
theorem left_number {p : List Nat} (hp : Ok p) (t n : Nat) (hn : p.length = n) : val p * 2 ^ (t % 32) % 4294967296 ^ (n + 1) * 4294967296 ^ (t / 32) = val p * 2 ^ t := by
 have h1 := val_lt hp
 have h2 : 2 ^ (t % 32) ≤ 4294967296 := by
  have : 2 ^ (t % 32) ≤ 2 ^ 32 := Nat.pow_le_pow_right (by omega) (by omega)
  simpa using this
 have h3 : val p * 2 ^ (t % 32) < 4294967296 ^ (n + 1) := by
  rw [Nat.pow_succ, ← hn]
  exact Nat.mul_lt_mul_of_lt_of_le h1 h2 (by omega)
 rw [Nat.mod_eq_of_lt h3, base_pow, Nat.mul_assoc, ← Nat.pow_add, Nat.mod_add_div]
theorem walk_div {x y : Nat} : ((x : Nat) : Int) / 2 ^ y = ((x / 2 ^ y : Nat) : Int) := by
 rw [Int.natCast_ediv, Int.natCast_pow]; rfl
theorem shr_nat {x y : Nat} : ((x : Nat) : Int) * 4294967296 / 2 ^ y = ((x * 4294967296 / 2 ^ y : Nat) : Int) := by
 rw [Int.natCast_ediv, Int.natCast_mul, Int.natCast_pow]; rfl
theorem shr_hi {x y : Nat} : x * 4294967296 / 2 ^ y / 4294967296 = x / 2 ^ y := by
 rw [Nat.div_div_eq_div_mul, Nat.mul_div_mul_right _ _ (by omega)]
theorem shr_lo {x y : Nat} (hy : y ≤ 31) : x * 4294967296 / 2 ^ y % 4294967296 = x % 2 ^ y * 2 ^ (32 - y) := by
 have e : x * 4294967296 / 2 ^ y = 2 ^ (32 - y) * x := by
  have e0 : x * 4294967296 = 2 ^ y * (2 ^ (32 - y) * x) := by
   rw [← Nat.mul_assoc, ← base_split hy, Nat.mul_comm]
  rw [e0, Nat.mul_div_cancel_left _ (Nat.two_pow_pos y)]
 rw [e, shr_parts hy, Nat.mul_add_mod, Nat.mod_eq_of_lt (orr_part_lt hy)]
theorem walk_shr {c x y : Nat} (hc : c = 0) (hx : x < 4294967296) :
  bits .or .u32 ((c : Nat) : Int) (((x : Nat) : Int) * 4294967296 / 2 ^ y / 4294967296 % 4294967296) = ((x / 2 ^ y : Nat) : Int) := by
 subst hc
 rw [shr_nat]
 have h1 : x / 2 ^ y ≤ x := Nat.div_le_self _ _
 have e : ((x * 4294967296 / 2 ^ y : Nat) : Int) / 4294967296 % 4294967296 = ((x / 2 ^ y : Nat) : Int) := by
  have h2 := shr_hi (x := x) (y := y)
  generalize x * 4294967296 / 2 ^ y = W at *
  generalize x / 2 ^ y = q at *
  omega
 rw [e, u32_or_nat _ _ (by omega) (Nat.lt_of_le_of_lt h1 hx), Nat.zero_or]
theorem walk_orr {c x y : Nat} (hc : c < 4294967296) (hy : y ≤ 31) :
  bits .or .u32 ((c : Nat) : Int) (((x : Nat) : Int) * 4294967296 / 2 ^ y % 4294967296) = ((orr c x y : Nat) : Int) := by
 rw [shr_nat]
 have e : ((x * 4294967296 / 2 ^ y : Nat) : Int) % 4294967296 = ((x % 2 ^ y * 2 ^ (32 - y) : Nat) : Int) := by
  rw [← shr_lo hy]; omega
 rw [e, u32_or_nat _ _ hc (orr_part_lt hy)]
 rfl
end Pg
namespace Pg
def cmpv (a b : Nat) : Int := if a < b then -1 else if b < a then 1 else 0
theorem cmpv_lt {a b : Nat} (h : a < b) : cmpv a b = -1 := by simp [cmpv, h]
theorem cmpv_gt {a b : Nat} (h : b < a) : cmpv a b = 1 := by unfold cmpv; rw [if_neg (by omega), if_pos h]
theorem cmpv_eq {a b : Nat} (h : a = b) : cmpv a b = 0 := by unfold cmpv; rw [if_neg (by omega), if_neg (by omega)]
theorem cmp_len {a b : Nat} (h : (limbs a).length < (limbs b).length) : a < b := by
 have h1 := lt_pow_length a
 have hb : b ≠ 0 := by
  intro e; subst e
  simp [limbs_zero] at h
 have h2 := pow_length_le hb
 have h3 : 4294967296 ^ (limbs a).length ≤ 4294967296 ^ ((limbs b).length - 1) := Nat.pow_le_pow_right (by omega) (by omega)
 omega
theorem drop_eq {p q : List Nat} {k : Nat} (hl : p.length = q.length) (h : ∀ j, k ≤ j → lim p j = lim q j) : p.drop k = q.drop k := by
 refine List.ext_getElem (by rw [List.length_drop, List.length_drop, hl]) fun i h1 h2 => ?_
 have h3 : k + i < p.length := by rw [List.length_drop] at h1; omega
 have h4 : k + i < q.length := by omega
 rw [List.getElem_drop, List.getElem_drop, ← lim_get h3, ← lim_get h4]
 exact h _ (by omega)
theorem cmp_at {p q : List Nat} {k : Nat} (hp : Ok p) (hl : p.length = q.length) (hk : k < p.length) (h : ∀ j, k < j → lim p j = lim q j) (hlt : lim p k < lim q k) : val p < val q := by
 have e1 := val_take_drop p (k + 1) (by omega)
 have e2 := val_take_drop q (k + 1) (by omega)
 rw [drop_eq hl (k := k + 1) (fun j hj => h j (by omega))] at e1
 rw [val_take_succ0] at e1 e2
 have h1 := val_lt (hp.take k)
 rw [List.length_take, Nat.min_eq_left (by omega)] at h1
 have h2 : 4294967296 ^ k * (lim p k + 1) ≤ 4294967296 ^ k * lim q k := Nat.mul_le_mul_left _ (by omega)
 rw [Nat.mul_add] at h2
 omega
theorem cmp_all {p q : List Nat} (hl : p.length = q.length) (h : ∀ j, lim p j = lim q j) : val p = val q := by
 have := drop_eq hl (k := 0) (fun j _ => h j)
 simp at this
 rw [this]
structure SubInv (p q : List Nat) (k br : Nat) (cs : List Nat) : Prop where
 ok : Ok cs
 len : k ≤ cs.length
 le : br ≤ 1
 eq : val (cs.take k) + val (q.take k) = val (p.take k) + br * 4294967296 ^ k
theorem sub_limb {x y br d b2 : Nat} (h : d + (y + br) = x + b2 * 4294967296) (P : Nat) : P * d + P * y + br * P = P * x + b2 * (P * 4294967296) := by
 have e : P * (d + (y + br)) = P * (x + b2 * 4294967296) := by rw [h]
 rw [Nat.mul_add, Nat.mul_add, Nat.mul_add] at e
 have e2 : P * br = br * P := Nat.mul_comm _ _
 have e3 : P * (b2 * 4294967296) = b2 * (P * 4294967296) := by ac_rfl
 omega
theorem SubInv.done {p q : List Nat} {br : Nat} {cs : List Nat} (h : SubInv p q p.length br cs) (hl : cs.length = p.length) (hq : q.length ≤ p.length) (hge : val q ≤ val p) : val cs = val p - val q := by
 have e := h.eq
 rw [List.take_length, List.take_of_length_le (by omega), List.take_of_length_le hq] at e
 have h1 := val_lt h.ok
 rw [hl] at h1
 have h2 := h.le
 rcases Nat.eq_zero_or_pos br with h0 | h0
 ·subst h0; omega
 ·have : br = 1 := by omega
  subst this; omega
end Pg
namespace Pg
open Go
theorem top_bit {n : Nat} (h : n < 4294967296) : n / 2147483648 = if n.testBit 31 then 1 else 0 := by
 rw [Nat.testBit_eq_decide_div_mod_eq]
 have e : (2 : Nat) ^ 31 = 2147483648 := by decide
 rw [e]
 by_cases h2 : n / 2147483648 % 2 = 1
 ·simp [h2]; omega
 ·simp [h2]; omega
theorem bit31 {n : Nat} (h : n < 4294967296) : n.testBit 31 = decide (2147483648 ≤ n) := by
 rw [Nat.testBit_eq_decide_div_mod_eq]
 have e : (2 : Nat) ^ 31 = 2147483648 := by decide
 rw [e, decide_eq_decide]
 omega
def dif (x y br : Nat) : Nat := (x + 8589934592 - y - br) % 4294967296
theorem dif_lt (x y br : Nat) : dif x y br < 4294967296 := Nat.mod_lt _ (by omega)
def borr (x y br : Nat) : Nat := if x < y + br then 1 else 0
theorem borr_le (x y br : Nat) : borr x y br ≤ 1 := by unfold borr; split <;> omega
theorem dif_eq {x y br : Nat} (hx : x < 4294967296) (hy : y < 4294967296) (hb : br ≤ 1) : dif x y br + (y + br) = x + borr x y br * 4294967296 := by
 unfold dif borr; split <;> omega
theorem borr_bits {x y br : Nat} (hx : x < 4294967296) (hy : y < 4294967296) (hb : br ≤ 1) :
  (((4294967295 ^^^ x) &&& y) ||| ((4294967295 ^^^ (x ^^^ y)) &&& dif x y br)) / 2147483648 = borr x y br := by
 have b1 : (4294967295 ^^^ x) < 2 ^ 32 := Nat.xor_lt_two_pow (by omega) (by omega)
 have b2 : (x ^^^ y) < 2 ^ 32 := Nat.xor_lt_two_pow (by omega) (by omega)
 have b3 : (4294967295 ^^^ (x ^^^ y)) < 2 ^ 32 := Nat.xor_lt_two_pow (by omega) b2
 have b4 : ((4294967295 ^^^ x) &&& y) < 2 ^ 32 := Nat.and_lt_two_pow _ (by omega)
 have b5 : ((4294967295 ^^^ (x ^^^ y)) &&& dif x y br) < 2 ^ 32 := Nat.and_lt_two_pow _ (by have := dif_lt x y br; omega)
 have b6 : (((4294967295 ^^^ x) &&& y) ||| ((4294967295 ^^^ (x ^^^ y)) &&& dif x y br)) < 2 ^ 32 := Nat.or_lt_two_pow b4 b5
 rw [top_bit (by omega), Nat.testBit_or, Nat.testBit_and, Nat.testBit_and, Nat.testBit_xor, Nat.testBit_xor, Nat.testBit_xor, bit31 hx, bit31 hy, bit31 (dif_lt x y br), bit31 (n := 4294967295) (by omega)]
 have hd : (decide (2147483648 ≤ 4294967295)) = true := by decide
 rw [hd]
 unfold dif borr
 by_cases h1 : 2147483648 ≤ x <;> by_cases h2 : 2147483648 ≤ y <;> by_cases h3 : 2147483648 ≤ (x + 8589934592 - y - br) % 4294967296 <;> by_cases h4 : x < y + br <;> simp [h1, h2, h3, h4] <;> omega
theorem max32 : IntKind.u32.max = ((4294967295 : Nat) : Int) := by decide
theorem walk_dif {x y br : Nat} (hx : x < 4294967296) (hy : y < 4294967296) (hb : br ≤ 1) : ((x : Int) - (y : Int) - (br : Int)) % 4294967296 = ((dif x y br : Nat) : Int) := by
 unfold dif; omega
theorem walk_borr {x y br : Nat} (hx : x < 4294967296) (hy : y < 4294967296) (hb : br ≤ 1) :
  bits .or .u32 (bits .and .u32 (bits .xor .u32 IntKind.u32.max (x : Int)) (y : Int)) (bits .and .u32 (bits .xor .u32 IntKind.u32.max (bits .xor .u32 (x : Int) (y : Int))) (((x : Int) - (y : Int) - (br : Int)) % 4294967296)) / 2147483648 = ((borr x y br : Nat) : Int) := by
 have b1 : (4294967295 ^^^ x) < 2 ^ 32 := Nat.xor_lt_two_pow (by omega) (by omega)
 have b2 : (x ^^^ y) < 2 ^ 32 := Nat.xor_lt_two_pow (by omega) (by omega)
 have b3 : (4294967295 ^^^ (x ^^^ y)) < 2 ^ 32 := Nat.xor_lt_two_pow (by omega) b2
 have b4 : ((4294967295 ^^^ x) &&& y) < 2 ^ 32 := Nat.and_lt_two_pow _ (by omega)
 have b5 : ((4294967295 ^^^ (x ^^^ y)) &&& dif x y br) < 2 ^ 32 := Nat.and_lt_two_pow _ (by have := dif_lt x y br; omega)
 rw [walk_dif hx hy hb, max32, u32_xor_nat _ _ (by omega) hx, u32_xor_nat _ _ hx hy, u32_xor_nat _ _ (by omega) (by omega), u32_and_nat _ _ (by omega) hy,
  u32_and_nat _ _ (by omega) (dif_lt x y br), u32_or_nat _ _ (by omega) (by omega), ← borr_bits hx hy hb]
 omega
theorem join_or {hi lo : Nat} (hl : lo < 4294967296) (hh : hi < 4294967296) : bits .or .u64 ((hi : Int) * 4294967296) (lo : Int) = ((hi * 4294967296 + lo : Nat) : Int) := by
 have e : (hi : Int) * 4294967296 = ((hi * 4294967296 : Nat) : Int) := by omega
 have j : (hi * 4294967296) ||| lo = hi * 4294967296 + lo := nat_join 32 _ _ (by omega) (by omega)
 rw [e, u64_or_nat _ _ (by omega) (by omega), j]
theorem SubInv.start (p q cs : List Nat) (h : Ok cs) : SubInv p q 0 0 cs := ⟨h, Nat.zero_le _, by omega, by simp [val]⟩
theorem SubInv.set {p q : List Nat} {k br : Nat} {cs : List Nat} (h : SubInv p q k br cs) (hp : Ok p) (hq : Ok q) (hk : k < cs.length) :
  SubInv p q (k + 1) (borr (lim p k) (lim q k) br) (cs.set k (dif (lim p k) (lim q k) br)) := by
 refine ⟨h.ok.set k (dif_lt _ _ _), by rw [List.length_set]; omega, borr_le _ _ _, ?_⟩
 have e := h.eq
 have e2 := sub_limb (dif_eq (lim_lt hp k) (lim_lt hq k) h.le) (4294967296 ^ k)
 rw [take_set_succ cs k _ hk, val_append, List.length_take, Nat.min_eq_left (by omega), val_one, val_take_succ0 q, val_take_succ0 p, Nat.pow_succ]
 omega
theorem SubInv.app {p q : List Nat} {k br : Nat} {cs : List Nat} (h : SubInv p q k br cs) (hp : Ok p) (hq : Ok q) (hk : cs.length = k) :
  SubInv p q (k + 1) (borr (lim p k) (lim q k) br) (cs ++ [dif (lim p k) (lim q k) br]) := by
 refine ⟨ok_append.2 ⟨h.ok, ok_cons.2 ⟨dif_lt _ _ _, ok_nil⟩⟩, by simp; omega, borr_le _ _ _, ?_⟩
 have e := h.eq
 have e2 := sub_limb (dif_eq (lim_lt hp k) (lim_lt hq k) h.le) (4294967296 ^ k)
 rw [List.take_of_length_le (by simp; omega), val_append, hk, val_one, val_take_succ0 q, val_take_succ0 p, Nat.pow_succ]
 rw [List.take_of_length_le (by omega)] at e
 omega
theorem take_all {q : List Nat} {n : Nat} (h : val q < 4294967296 ^ n) : val (q.take n) = val q := by
 rcases Nat.lt_or_ge q.length n with hl | hl
 ·rw [List.take_of_length_le (by omega)]
 ·have e := val_take_drop q n hl
  rcases Nat.eq_zero_or_pos (val (q.drop n)) with h0 | h0
  ·rw [h0] at e; omega
  ·have : 4294967296 ^ n * 1 ≤ 4294967296 ^ n * val (q.drop n) := Nat.mul_le_mul_left _ h0
   omega
theorem SubInv.fin {p q : List Nat} {br : Nat} {cs : List Nat} (h : SubInv p q p.length br cs) (hp : Ok p) (hl : cs.length = p.length) (hge : val q ≤ val p) : val cs = val p - val q := by
 have e := h.eq
 have hvp := val_lt hp
 rw [List.take_length, List.take_of_length_le (by omega), take_all (by omega)] at e
 have h1 := val_lt h.ok
 rw [hl] at h1
 have h2 := h.le
 rcases Nat.eq_zero_or_pos br with h0 | h0
 ·subst h0; omega
 ·have : br = 1 := by omega
  subst this; omega
structure AppInv (p q : List Nat) (k cr : Nat) (cs : List Nat) : Prop where
 len : cs.length = k
 ok : Ok cs
 le : cr ≤ 1
 eq : val cs + cr * 4294967296 ^ k = val (p.take k) + val (q.take k)
theorem AppInv.start (p q : List Nat) : AppInv p q 0 0 [] := ⟨rfl, ok_nil, by omega, by simp [val]⟩
theorem AppInv.step {p q : List Nat} {k cr : Nat} {cs : List Nat} (h : AppInv p q k cr cs) (hp : Ok p) (hq : Ok q) (t : Nat) (ht : t = cr + lim p k + lim q k) :
  AppInv p q (k + 1) (t / 4294967296) (cs ++ [t % 4294967296]) := by
 have h1 := lim_lt hp k
 have h2 := lim_lt hq k
 have h3 := h.le
 refine ⟨by simp [h.len], ok_append.2 ⟨h.ok, ok_cons.2 ⟨Nat.mod_lt _ (by omega), ok_nil⟩⟩, by omega, ?_⟩
 rw [val_append, h.len, val_take_succ0, val_take_succ0, Nat.pow_succ, val_one]
 have e := mul_split (4294967296 ^ k) t
 have e2 := h.eq
 rw [ht] at e
 rw [Nat.mul_add, Nat.mul_add, Nat.mul_comm (4294967296 ^ k) cr] at e
 rw [ht]
 omega
theorem AppInv.fin {p q : List Nat} {m cr : Nat} {cs : List Nat} (h : AppInv p q (m + 1) cr cs) (hp : Ok p) (hq : Ok q) (h1 : p.length ≤ m) (h2 : q.length ≤ m) : val cs = val p + val q := by
 have e := h.eq
 rw [List.take_of_length_le (by omega), List.take_of_length_le (by omega)] at e
 have b1 := val_lt hp
 have b2 := val_lt hq
 have c1 : 4294967296 ^ p.length ≤ 4294967296 ^ m := Nat.pow_le_pow_right (by omega) h1
 have c2 : 4294967296 ^ q.length ≤ 4294967296 ^ m := Nat.pow_le_pow_right (by omega) h2
 rw [Nat.pow_succ] at e
 have h3 := h.le
 rcases Nat.eq_zero_or_pos cr with h0 | h0
 ·subst h0; omega
 ·have : cr = 1 := by omega
  subst this; omega
end Pg
