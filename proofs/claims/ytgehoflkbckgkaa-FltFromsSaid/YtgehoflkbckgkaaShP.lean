/- Shifts of rows, limb by limb: plain mathematics of the loops. Conditions: none. -/
import Derived.Test.YtgehoflkbckgkaaAddP
import Derived.Laws.BitsAllLaws
namespace Pg
open Go

theorem pow_dvd_base {s : Nat} (hs : s ≤ 32) : 2 ^ s ∣ 4294967296 := by
  have : (4294967296 : Nat) = 2 ^ s * 2 ^ (32 - s) := by rw [← Nat.pow_add, show s + (32 - s) = 32 from by omega]
  rw [this]; exact Nat.dvd_mul_right _ _

theorem base_pow (m : Nat) : 4294967296 ^ m = 2 ^ (32 * m) := by
  rw [Nat.pow_mul]

/-- What a left shift's loop keeps. -/
structure LeftInv (xs : List Nat) (s m k : Nat) (cs : List Nat) : Prop where
  len : cs.length = m
  ok : Ok cs
  eq : val cs = val (xs.take k) * 2 ^ s % 4294967296 ^ m
  low : lim cs k < 2 ^ s
  zero : ∀ j, k < j → lim cs j = 0

theorem LeftInv.start (xs : List Nat) (s m : Nat) : LeftInv xs s m 0 (List.replicate m 0) :=
  ⟨by simp, ok_replicate _, by simp [val, val_replicate], by rw [lim_replicate]; exact Nat.two_pow_pos s, fun j _ => lim_replicate _ _⟩

theorem or_parts {x s c : Nat} (hs : s ≤ 31) (hc : c < 2 ^ s) : c ||| (x * 2 ^ s % 4294967296) = c + x * 2 ^ s % 4294967296 := by
  rw [Nat.or_comm, Nat.add_comm]
  refine nat_join s _ _ ?_ hc
  rw [Nat.mod_mod_of_dvd _ (pow_dvd_base (by omega)), Nat.mul_mod_left]

theorem hi_lt {x s : Nat} (hx : x < 4294967296) : x * 2 ^ s / 4294967296 < 2 ^ s := by
  refine Nat.div_lt_of_lt_mul ?_
  exact Nat.mul_lt_mul_of_lt_of_le hx (Nat.le_refl _) (Nat.two_pow_pos s)

theorem two_pow_le {s : Nat} (hs : s ≤ 31) : 2 ^ s ≤ 2147483648 := by
  have : 2 ^ s ≤ 2 ^ 31 := Nat.pow_le_pow_right (by omega) hs
  simpa using this

theorem shl_lt {x s : Nat} (hx : x < 4294967296) (hs : s ≤ 31) : x * 2 ^ s < 18446744073709551616 := by
  have h := two_pow_le hs
  have : x * 2 ^ s ≤ 4294967295 * 2147483648 := Nat.mul_le_mul (by omega) h
  omega

/-- The limb that is stored. -/
def orl (c x s : Nat) : Nat := c ||| (x * 2 ^ s % 4294967296)
theorem orl_lt {c x s : Nat} (hc : c < 4294967296) : orl c x s < 4294967296 := by
  have : c ||| (x * 2 ^ s % 4294967296) < 2 ^ 32 := Nat.or_lt_two_pow (by simpa using hc) (by omega)
  simpa [orl] using this

theorem LeftInv.first {xs : List Nat} {s m k : Nat} {cs : List Nat} (h : LeftInv xs s m k cs) (hs : s ≤ 31) (hm : k < m) :
    val (cs.set k (orl (lim cs k) (lim xs k) s)) = val cs + 4294967296 ^ k * (lim xs k * 2 ^ s % 4294967296) := by
  have e := val_set' (xs := cs) (i := k) (orl (lim cs k) (lim xs k) s) (by rw [h.len]; exact hm)
  have e2 : orl (lim cs k) (lim xs k) s = lim cs k + lim xs k * 2 ^ s % 4294967296 := or_parts hs h.low
  rw [e2, Nat.mul_add] at e
  rw [e2]
  omega

theorem LeftInv.step {xs : List Nat} {s m k : Nat} {cs : List Nat} (h : LeftInv xs s m k cs) (hx : Ok xs) (hs : s ≤ 31) (hm : k + 1 < m) :
    LeftInv xs s m (k + 1) ((cs.set k (orl (lim cs k) (lim xs k) s)).set (k + 1) (lim xs k * 2 ^ s / 4294967296)) := by
  have hl := lim_lt hx k
  have hh := hi_lt (s := s) hl
  have h2 := two_pow_le hs
  have hok : Ok ((cs.set k (orl (lim cs k) (lim xs k) s)).set (k + 1) (lim xs k * 2 ^ s / 4294967296)) :=
    (h.ok.set k (orl_lt (lim_lt h.ok k))).set (k + 1) (by omega)
  have hlen : ((cs.set k (orl (lim cs k) (lim xs k) s)).set (k + 1) (lim xs k * 2 ^ s / 4294967296)).length = m := by
    rw [List.length_set, List.length_set, h.len]
  refine ⟨hlen, hok, ?_, ?_, fun j hj => ?_⟩
  · have e1 := h.first hs (by omega)
    have e2 := val_set' (xs := cs.set k (orl (lim cs k) (lim xs k) s)) (i := k + 1) (lim xs k * 2 ^ s / 4294967296) (by rw [List.length_set, h.len]; exact hm)
    rw [lim_set_other _ (by omega), h.zero (k + 1) (by omega), Nat.mul_zero, Nat.add_zero, e1, Nat.pow_succ] at e2
    have e3 := mul_split (4294967296 ^ k) (lim xs k * 2 ^ s)
    have hv := val_lt hok
    rw [hlen] at hv
    have e4 : val ((cs.set k (orl (lim cs k) (lim xs k) s)).set (k + 1) (lim xs k * 2 ^ s / 4294967296)) = val cs + 4294967296 ^ k * (lim xs k * 2 ^ s) := by
      rw [e2, e3, Nat.mul_comm (lim xs k * 2 ^ s / 4294967296)]; omega
    rw [val_take_succ0, Nat.add_mul, Nat.mul_assoc, ← Nat.mod_add_mod, ← h.eq, ← e4, Nat.mod_eq_of_lt hv]
  · rw [lim_set_same _ (by rw [List.length_set, h.len]; exact hm)]
    exact hh
  · rw [lim_set_other _ (by omega), lim_set_other _ (by omega)]
    exact h.zero j (by omega)

theorem LeftInv.last {xs : List Nat} {s m k : Nat} {cs : List Nat} (h : LeftInv xs s m k cs) (hs : s ≤ 31) (hm : k + 1 = m) :
    LeftInv xs s m (k + 1) (cs.set k (orl (lim cs k) (lim xs k) s)) := by
  have hok : Ok (cs.set k (orl (lim cs k) (lim xs k) s)) := h.ok.set k (orl_lt (lim_lt h.ok k))
  have hlen : (cs.set k (orl (lim cs k) (lim xs k) s)).length = m := by rw [List.length_set, h.len]
  refine ⟨hlen, hok, ?_, ?_, fun j hj => ?_⟩
  · have e1 := h.first hs (by omega)
    have e3 := mul_split (4294967296 ^ k) (lim xs k * 2 ^ s)
    have hv := val_lt hok
    rw [hlen] at hv
    have e4 := h.eq
    rw [← hm, Nat.pow_succ] at e4 hv
    rw [val_take_succ0, Nat.add_mul, Nat.mul_assoc, e3, ← hm, Nat.pow_succ, ← Nat.add_assoc, Nat.add_mul_mod_self_right, ← Nat.mod_add_mod, ← e4, ← e1, Nat.mod_eq_of_lt hv]
  · rw [lim_set_other _ (by omega), h.zero (k + 1) (by omega)]
    exact Nat.two_pow_pos s
  · rw [lim_set_other _ (by omega)]
    exact h.zero j (by omega)

theorem LeftInv.done {xs : List Nat} {s m : Nat} {cs : List Nat} (h : LeftInv xs s m xs.length cs) : val cs = val xs * 2 ^ s % 4294967296 ^ m := by
  rw [h.eq, List.take_length]

/-! How the walk writes what is stored. -/
theorem walk_shl {x s : Nat} (hx : x < 4294967296) (hs : s ≤ 31) : IntKind.u64.wrap (((x : Nat) : Int) * 2 ^ s) = ((x * 2 ^ s : Nat) : Int) := by
  have e : ((x : Nat) : Int) * 2 ^ s = ((x * 2 ^ s : Nat) : Int) := by rw [Int.natCast_mul, Int.natCast_pow]; rfl
  have := shl_lt hx hs
  rw [e]
  exact IntWalk.u64_in _ (by omega)
theorem walk_orl {c x s : Nat} (hc : c < 4294967296) (hx : x < 4294967296) (hs : s ≤ 31) :
    bits .or .u32 ((c : Nat) : Int) (IntKind.u64.wrap (((x : Nat) : Int) * 2 ^ s) % 4294967296) = ((orl c x s : Nat) : Int) := by
  rw [walk_shl hx hs]
  have e : ((x * 2 ^ s : Nat) : Int) % 4294967296 = ((x * 2 ^ s % 4294967296 : Nat) : Int) := by omega
  rw [e, u32_or_nat _ _ hc (by omega)]
  rfl
theorem walk_hi {x s : Nat} (hx : x < 4294967296) (hs : s ≤ 31) :
    IntKind.u64.wrap (((x : Nat) : Int) * 2 ^ s) / 4294967296 % 4294967296 = ((x * 2 ^ s / 4294967296 : Nat) : Int) := by
  rw [walk_shl hx hs]
  have h1 := hi_lt (s := s) hx
  have h2 := two_pow_le hs
  omega

/-- What a right shift's loop keeps. -/
structure RightInv (al : List Nat) (y k : Nat) (cs : List Nat) : Prop where
  len : cs.length = al.length
  ok : Ok cs
  eq : val cs = val (al.take k) / 2 ^ y
  low : 0 < k → lim cs (k - 1) < 2 ^ (32 - y)
  zero : ∀ j, k ≤ j → lim cs j = 0

theorem RightInv.start (al : List Nat) (y : Nat) : RightInv al y 0 (List.replicate al.length 0) :=
  ⟨by simp, ok_replicate _, by simp [val, val_replicate], fun h => absurd h (by omega), fun j _ => lim_replicate _ _⟩

theorem div_pow_lt {x y : Nat} (hx : x < 4294967296) (hy : y ≤ 31) : x / 2 ^ y < 2 ^ (32 - y) := by
  refine Nat.div_lt_of_lt_mul ?_
  rw [← Nat.pow_add, show y + (32 - y) = 32 from by omega]
  simpa using hx

theorem base_split {y : Nat} (hy : y ≤ 31) : (4294967296 : Nat) = 2 ^ y * 2 ^ (32 - y) := by
  rw [← Nat.pow_add, show y + (32 - y) = 32 from by omega]

theorem shr_parts {x y : Nat} (hy : y ≤ 31) : 2 ^ (32 - y) * x = 4294967296 * (x / 2 ^ y) + x % 2 ^ y * 2 ^ (32 - y) := by
  have h := Nat.div_add_mod x (2 ^ y)
  have e := base_split hy
  rw [e]
  calc 2 ^ (32 - y) * x = 2 ^ (32 - y) * (2 ^ y * (x / 2 ^ y) + x % 2 ^ y) := by rw [h]
    _ = _ := by rw [Nat.mul_add]; ac_rfl

/-- The limb that is stored one place lower. -/
def orr (c x y : Nat) : Nat := c ||| x % 2 ^ y * 2 ^ (32 - y)
theorem orr_eq {c x y : Nat} (hc : c < 2 ^ (32 - y)) : orr c x y = c + x % 2 ^ y * 2 ^ (32 - y) := by
  unfold orr
  rw [Nat.or_comm, Nat.add_comm]
  exact nat_join (32 - y) _ _ (Nat.mul_mod_left _ _) hc
theorem orr_part_lt {x y : Nat} (hy : y ≤ 31) : x % 2 ^ y * 2 ^ (32 - y) < 4294967296 := by
  have h : x % 2 ^ y < 2 ^ y := Nat.mod_lt _ (Nat.two_pow_pos y)
  have := Nat.mul_lt_mul_of_pos_right h (Nat.two_pow_pos (32 - y))
  rwa [← base_split hy] at this
theorem orr_lt {c x y : Nat} (hc : c < 4294967296) (hy : y ≤ 31) : orr c x y < 4294967296 := by
  have : c ||| x % 2 ^ y * 2 ^ (32 - y) < 2 ^ 32 := Nat.or_lt_two_pow (by simpa using hc) (by simpa using orr_part_lt hy)
  simpa [orr] using this

theorem pow32_le {y : Nat} (hy : y ≤ 31) : 2 ^ (32 - y) ≤ 4294967296 := by
  rw [base_split hy]; exact Nat.le_mul_of_pos_left _ (Nat.two_pow_pos y)

theorem RightInv.first {al : List Nat} {y : Nat} {cs : List Nat} (h : RightInv al y 0 cs) (ha : Ok al) (hy : y ≤ 31) (hk : 0 < al.length) :
    RightInv al y 1 (cs.set 0 (lim al 0 / 2 ^ y)) := by
  have hd := div_pow_lt (lim_lt ha 0) hy
  have h32 := pow32_le hy
  refine ⟨by rw [List.length_set, h.len], h.ok.set 0 (by omega), ?_, fun _ => ?_, fun j hj => ?_⟩
  · have e := val_set' (xs := cs) (i := 0) (lim al 0 / 2 ^ y) (by rw [h.len]; exact hk)
    have e2 := h.eq
    rw [h.zero 0 (by omega)] at e
    rw [val_take_succ0 al 0]
    simp [val] at e e2 ⊢
    omega
  · rw [lim_set_same _ (by rw [h.len]; exact hk)]; exact hd
  · rw [lim_set_other _ (by omega)]; exact h.zero j (by omega)

theorem RightInv.step {al : List Nat} {y k : Nat} {cs : List Nat} (h : RightInv al y k cs) (ha : Ok al) (hy : y ≤ 31) (hk : k < al.length) (hk0 : 0 < k) :
    RightInv al y (k + 1) ((cs.set k (lim al k / 2 ^ y)).set (k - 1) (orr (lim cs (k - 1)) (lim al k) y)) := by
  have hd := div_pow_lt (lim_lt ha k) hy
  have h32 := pow32_le hy
  refine ⟨by rw [List.length_set, List.length_set, h.len], (h.ok.set k (by omega)).set (k - 1) (orr_lt (lim_lt h.ok _) hy), ?_, fun _ => ?_, fun j hj => ?_⟩
  · have e1 := val_set' (xs := cs) (i := k) (lim al k / 2 ^ y) (by rw [h.len]; exact hk)
    rw [h.zero k (by omega), Nat.mul_zero, Nat.add_zero] at e1
    have e2 := val_set' (xs := cs.set k (lim al k / 2 ^ y)) (i := k - 1) (orr (lim cs (k - 1)) (lim al k) y) (by rw [List.length_set, h.len]; omega)
    rw [lim_set_other _ (by omega), e1, orr_eq (h.low hk0), Nat.mul_add, ← orr_eq (h.low hk0)] at e2
    have hp : 4294967296 ^ k = 4294967296 ^ (k - 1) * 4294967296 := by rw [← Nat.pow_succ]; congr 1; omega
    have e3 : val (al.take (k + 1)) = val (al.take k) + 4294967296 ^ (k - 1) * (2 ^ (32 - y) * lim al k) * 2 ^ y := by
      rw [val_take_succ0, hp]
      congr 1
      rw [show (4294967296 ^ (k - 1) * 4294967296 : Nat) = 4294967296 ^ (k - 1) * (2 ^ y * 2 ^ (32 - y)) from by rw [← base_split hy]]
      ac_rfl
    rw [e3, Nat.add_mul_div_right _ _ (Nat.two_pow_pos y), ← h.eq, shr_parts hy, Nat.mul_add, ← Nat.mul_assoc, ← hp]
    omega
  · rw [show k + 1 - 1 = k from by omega, lim_set_other _ (by omega), lim_set_same _ (by rw [h.len]; exact hk)]; exact hd
  · rw [lim_set_other _ (by omega), lim_set_other _ (by omega)]; exact h.zero j (by omega)

theorem RightInv.done {al : List Nat} {y : Nat} {cs : List Nat} (h : RightInv al y al.length cs) : val cs = val al / 2 ^ y := by
  rw [h.eq, List.take_length]

/-- A shift of a number. -/
def shv (N : Nat) (e : Int) : Nat := if e < 0 then N / 2 ^ (-e).toNat else N * 2 ^ e.toNat

theorem shv_neg (N t : Nat) (ht : 0 < t) : shv N (-(t : Int)) = N / 2 ^ t := by
  unfold shv; rw [if_pos (by omega)]; congr 2; omega
theorem shv_pos (N t : Nat) : shv N (t : Int) = N * 2 ^ t := by
  unfold shv; rw [if_neg (by omega)]; congr 2

theorem right_number {p : List Nat} (hp : Ok p) (t : Nat) (hl : t / 32 ≤ p.length) : val (p.drop (t / 32)) / 2 ^ (t % 32) = val p / 2 ^ t := by
  have e := val_take_drop p (t / 32) hl
  have hlt := val_lt (hp.take (t / 32))
  rw [List.length_take, Nat.min_eq_left hl] at hlt
  have e2 : val p / 4294967296 ^ (t / 32) = val (p.drop (t / 32)) := by
    rw [e, Nat.add_mul_div_left _ _ (Nat.pow_pos (by omega)), Nat.div_eq_of_lt hlt, Nat.zero_add]
  rw [← e2, Nat.div_div_eq_div_mul, base_pow, ← Nat.pow_add, Nat.div_add_mod]
theorem right_none {p : List Nat} (hp : Ok p) (t : Nat) (hl : p.length ≤ t / 32) : val p / 2 ^ t = 0 := by
  refine Nat.div_eq_of_lt (Nat.lt_of_lt_of_le (val_lt hp) ?_)
  rw [base_pow]
  exact Nat.pow_le_pow_right (by omega) (by omega)

theorem left_number {p : List Nat} (hp : Ok p) (t n : Nat) (hn : p.length = n) : val p * 2 ^ (t % 32) % 4294967296 ^ (n + 1) * 4294967296 ^ (t / 32) = val p * 2 ^ t := by
  have h1 := val_lt hp
  have h2 : 2 ^ (t % 32) ≤ 4294967296 := by
    have : 2 ^ (t % 32) ≤ 2 ^ 32 := Nat.pow_le_pow_right (by omega) (by omega)
    simpa using this
  have h3 : val p * 2 ^ (t % 32) < 4294967296 ^ (n + 1) := by
    rw [Nat.pow_succ, ← hn]
    exact Nat.mul_lt_mul_of_lt_of_le h1 h2 (by omega)
  rw [Nat.mod_eq_of_lt h3, base_pow, Nat.mul_assoc, ← Nat.pow_add, Nat.mod_add_div]

theorem walk_div {x y : Nat} : ((x : Nat) : Int) / 2 ^ y = ((x / 2 ^ y : Nat) : Int) := by
  rw [Int.natCast_ediv, Int.natCast_pow]; rfl

theorem shr_nat {x y : Nat} : ((x : Nat) : Int) * 4294967296 / 2 ^ y = ((x * 4294967296 / 2 ^ y : Nat) : Int) := by
  rw [Int.natCast_ediv, Int.natCast_mul, Int.natCast_pow]; rfl
theorem shr_hi {x y : Nat} : x * 4294967296 / 2 ^ y / 4294967296 = x / 2 ^ y := by
  rw [Nat.div_div_eq_div_mul, Nat.mul_div_mul_right _ _ (by omega)]
theorem shr_lo {x y : Nat} (hy : y ≤ 31) : x * 4294967296 / 2 ^ y % 4294967296 = x % 2 ^ y * 2 ^ (32 - y) := by
  have e : x * 4294967296 / 2 ^ y = 2 ^ (32 - y) * x := by
    have e0 : x * 4294967296 = 2 ^ y * (2 ^ (32 - y) * x) := by
      rw [← Nat.mul_assoc, ← base_split hy, Nat.mul_comm]
    rw [e0, Nat.mul_div_cancel_left _ (Nat.two_pow_pos y)]
  rw [e, shr_parts hy, Nat.mul_add_mod, Nat.mod_eq_of_lt (orr_part_lt hy)]
theorem walk_shr {c x y : Nat} (hc : c = 0) (hx : x < 4294967296) :
    bits .or .u32 ((c : Nat) : Int) (((x : Nat) : Int) * 4294967296 / 2 ^ y / 4294967296 % 4294967296) = ((x / 2 ^ y : Nat) : Int) := by
  subst hc
  rw [shr_nat]
  have h1 : x / 2 ^ y ≤ x := Nat.div_le_self _ _
  have e : ((x * 4294967296 / 2 ^ y : Nat) : Int) / 4294967296 % 4294967296 = ((x / 2 ^ y : Nat) : Int) := by
    have h2 := shr_hi (x := x) (y := y)
    generalize x * 4294967296 / 2 ^ y = W at *
    generalize x / 2 ^ y = q at *
    omega
  rw [e, u32_or_nat _ _ (by omega) (Nat.lt_of_le_of_lt h1 hx), Nat.zero_or]
theorem walk_orr {c x y : Nat} (hc : c < 4294967296) (hy : y ≤ 31) :
    bits .or .u32 ((c : Nat) : Int) (((x : Nat) : Int) * 4294967296 / 2 ^ y % 4294967296) = ((orr c x y : Nat) : Int) := by
  rw [shr_nat]
  have e : ((x * 4294967296 / 2 ^ y : Nat) : Int) % 4294967296 = ((x % 2 ^ y * 2 ^ (32 - y) : Nat) : Int) := by
    rw [← shr_lo hy]; omega
  rw [e, u32_or_nat _ _ hc (orr_part_lt hy)]
  rfl
end Pg
