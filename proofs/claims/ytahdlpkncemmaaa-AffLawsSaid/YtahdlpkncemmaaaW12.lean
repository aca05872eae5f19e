/- How many bits a number takes, 64 bits an · Division of rows of limbs · Taking a divisor away, and the long divi. Conditions: those that each theorem names. -/
import Derived.Test.YtahdlpkncemmaaaW7
import Derived.Lib.BitFns
set_option maxRecDepth 100000
set_option maxHeartbeats 8000000
set_option linter.unusedSimpArgs false
set_option linter.unusedVariables false
namespace Pg
open Go
def blenF : Nat → Nat → Nat
 | 0, _ => 0
 | f + 1, n => if n = 0 then 0 else 1 + blenF f (n / 2)
def blen (n : Nat) : Nat := blenF n n
theorem blenF_more : ∀ (f n : Nat), n ≤ f → blenF f n = blenF n n := by
 intro f
 induction f using Nat.strongRecOn with
 | ind f ih =>
  intro n hn
  cases f with
  | zero =>
   have : n = 0 := by omega
   subst this; rfl
  | succ f =>
   cases n with
   | zero => simp [blenF]
   | succ n =>
    simp only [blenF]
    rw [ih f (by omega) _ (by omega), ih n (by omega) _ (by omega)]
theorem blen_zero : blen 0 = 0 := rfl
theorem blen_pos {n : Nat} (h : n ≠ 0) : blen n = 1 + blen (n / 2) := by
 unfold blen
 cases n with
 | zero => exact absurd rfl h
 | succ n =>
  simp only [blenF]
  rw [if_neg (by omega), blenF_more n _ (by omega)]
theorem blen_bounds {n : Nat} (h : n ≠ 0) : 1 ≤ blen n ∧ 2 ^ (blen n - 1) ≤ n ∧ n < 2 ^ blen n := by
 induction n using Nat.strongRecOn with
 | ind n ih =>
  rw [blen_pos h]
  by_cases h1 : n / 2 = 0
  ·have : n = 1 := by omega
   subst this; decide
  ·obtain ⟨a, b, c⟩ := ih (n / 2) (by omega) h1
   refine ⟨by omega, ?_, ?_⟩
   ·have e : 1 + blen (n / 2) - 1 = (blen (n / 2) - 1) + 1 := by omega
    rw [e, Nat.pow_succ]; omega
   ·rw [Nat.add_comm, Nat.pow_succ]; omega
theorem bitLenAux_eq : ∀ (f x : Nat), x < 2 ^ f → Lib.bitLenAux f x = blen x := by
 intro f
 induction f with
 | zero =>
      intro x hx; have : x = 0 := by simpa using hx
      subst this; rfl
 | succ f ih =>
  intro x hx
  by_cases h : x = 0
  ·subst h; simp [Lib.bitLenAux, blen_zero]
  ·rw [Lib.bitLenAux, if_neg h, blen_pos h, ih _ (by rw [Nat.pow_succ] at hx; omega)]
theorem bitLen_eq {x : Nat} (h : x < 4294967296) : Lib.bitLen x = blen x := bitLenAux_eq 64 x (by omega)
theorem tl_top {N : Nat} (h : N ≠ 0) : 0 < (limbs N).length ∧ 0 < lim (limbs N) ((limbs N).length - 1) := by
 have hn : limbs N ≠ [] := fun e => h (limbs_eq_nil.1 e)
 have hl : 0 < (limbs N).length := List.length_pos_iff.2 hn
 refine ⟨hl, ?_⟩
 have ht := trimmed_limbs N
 unfold Trimmed at ht
 rw [List.getLast?_eq_getElem?, List.getElem?_eq_getElem (by omega)] at ht
 rw [lim_get (by omega)]
 rcases Nat.eq_zero_or_pos (limbs N)[(limbs N).length - 1] with h0 | h0
 ·exact absurd (by rw [h0]) ht
 ·exact h0
def to64 (N : Nat) : Nat := if N < 18446744073709551616 then N else 0
def is64 (N : Nat) : Bool := decide (N < 18446744073709551616)
theorem to64_len {N : Nat} (h : 2 < (limbs N).length) : to64 N = 0 ∧ is64 N = false := by
 have hN : N ≠ 0 := by intro e; subst e; simp [limbs_zero] at h
 have h1 := pow_length_le hN
 have h2 : 4294967296 ^ 2 ≤ 4294967296 ^ ((limbs N).length - 1) := Nat.pow_le_pow_right (by omega) (by omega)
 have h3 : ¬ N < 18446744073709551616 := by omega
 exact ⟨by unfold to64; rw [if_neg h3], by simp [is64]; omega⟩
theorem to64_in {N : Nat} (h : (limbs N).length ≤ 2) : N < 18446744073709551616 ∧ to64 N = N ∧ is64 N = true := by
 have h1 := lt_pow_length N
 have h2 : 4294967296 ^ (limbs N).length ≤ 4294967296 ^ 2 := Nat.pow_le_pow_right (by omega) h
 have h3 : N < 18446744073709551616 := by omega
 exact ⟨h3, by unfold to64; rw [if_pos h3], by simp [is64]; omega⟩
theorem app_limb {M k : Nat} {cs : List Nat} (hl : cs.length = k) (e : val cs = M % 4294967296 ^ k) (d : Nat) (hd : d = M / 4294967296 ^ k % 4294967296) :
  val (cs ++ [d]) = M % 4294967296 ^ (k + 1) := by
 rw [val_append, hl, e, val_one, Nat.pow_succ, Nat.mod_mul, hd]
theorem shr_limb {al : List Nat} {y i : Nat} (ha : Ok al) (hy : y ≤ 31) :
  (lim al i + lim al (i + 1) * 4294967296) / 2 ^ y % 4294967296 = val al / 2 ^ y / 4294967296 ^ i % 4294967296 := by
 have e1 : val al / 4294967296 ^ i = val (al.drop i) := by
  rcases Nat.lt_or_ge al.length i with h | h
  ·rw [List.drop_eq_nil_of_le (by omega)]
   have := val_lt ha
   have h2 : 4294967296 ^ al.length ≤ 4294967296 ^ i := Nat.pow_le_pow_right (by omega) (by omega)
   exact Nat.div_eq_of_lt (by omega)
  ·have e := val_take_drop al i h
   have hlt := val_lt (ha.take i)
   rw [List.length_take, Nat.min_eq_left h] at hlt
   rw [e, Nat.add_mul_div_left _ _ (Nat.pow_pos (by omega)), Nat.div_eq_of_lt hlt, Nat.zero_add]
 have e2 : val (al.drop i) = lim al i + lim al (i + 1) * 4294967296 + 4294967296 * 4294967296 * val (al.drop (i + 2)) := by
  have cons : ∀ j, val (al.drop j) = lim al j + 4294967296 * val (al.drop (j + 1)) := by
   intro j
   rcases Nat.lt_or_ge j al.length with h | h
   ·rw [List.drop_eq_getElem_cons h, lim_get h]; rfl
   ·rw [List.drop_eq_nil_of_le h, List.drop_eq_nil_of_le (by omega), lim_behind h]; rfl
  rw [cons i, cons (i + 1), show i + 1 + 1 = i + 2 from rfl]
  omega
 rw [Nat.div_div_eq_div_mul (val al), Nat.mul_comm (2 ^ y) (4294967296 ^ i), ← Nat.div_div_eq_div_mul, e1, e2]
 have e3 : 4294967296 * 4294967296 * val (al.drop (i + 2)) = 2 ^ y * (2 ^ (32 - y) * val (al.drop (i + 2)) * 4294967296) := by
  have := base_split hy
  calc 4294967296 * 4294967296 * val (al.drop (i + 2)) = (2 ^ y * 2 ^ (32 - y)) * 4294967296 * val (al.drop (i + 2)) := by rw [← this]
   _ = _ := by ac_rfl
 rw [e3, Nat.add_mul_div_left _ _ (Nat.two_pow_pos y), Nat.add_mul_mod_self_right]
structure ShlInv (t : List Nat) (y i low : Nat) (ds : List Nat) : Prop where
 len : ds.length = i
 ok : Ok ds
 le : low < 2 ^ y
 eq : val ds + low * 4294967296 ^ i = val (t.take i) * 2 ^ y
theorem ShlInv.start (t : List Nat) (y : Nat) : ShlInv t y 0 0 [] := ⟨rfl, ok_nil, Nat.two_pow_pos y, by simp [val]⟩
theorem ShlInv.step {t : List Nat} {y i low : Nat} {ds : List Nat} (h : ShlInv t y i low ds) (ht : Ok t) (hy : y ≤ 31) :
  ShlInv t y (i + 1) (lim t i * 2 ^ y / 4294967296) (ds ++ [(lim t i * 2 ^ y + low) % 4294967296]) := by
 have hh := hi_lt (s := y) (lim_lt ht i)
 refine ⟨by simp [h.len], ok_append.2 ⟨h.ok, ok_cons.2 ⟨Nat.mod_lt _ (by omega), ok_nil⟩⟩, hh, ?_⟩
 have hle := h.le
 have e0 : (lim t i * 2 ^ y + low) / 4294967296 = lim t i * 2 ^ y / 4294967296 := by
  have hb := base_split hy
  have e1 : ∀ z, z / 4294967296 = z / 2 ^ y / 2 ^ (32 - y) := fun z => by rw [Nat.div_div_eq_div_mul, ← hb]
  rw [e1, e1 (lim t i * 2 ^ y), Nat.mul_div_cancel _ (Nat.two_pow_pos y), Nat.mul_comm (lim t i), Nat.mul_add_div (Nat.two_pow_pos y), Nat.div_eq_of_lt hle, Nat.add_zero]
 have e := mul_split (4294967296 ^ i) (lim t i * 2 ^ y + low)
 rw [e0] at e
 have e2 := h.eq
 rw [val_append, h.len, val_one, val_take_succ0, Nat.pow_succ, Nat.add_mul, Nat.mul_assoc]
 rw [Nat.mul_add, Nat.mul_comm (4294967296 ^ i) low] at e
 omega
theorem ShlInv.done {t : List Nat} {y low : Nat} {ds : List Nat} (h : ShlInv t y (t.length + 1) low ds) (hlow : low = 0) : val ds = val t * 2 ^ y := by
 have e := h.eq
 rw [List.take_of_length_le (by omega), hlow] at e
 omega
theorem walk_pair {a b y : Nat} (ha : a < 4294967296) (hb : b < 4294967296) :
  bits .or .u64 (a : Int) ((b : Int) * 4294967296) / 2 ^ y % 4294967296 = (((a + b * 4294967296) / 2 ^ y % 4294967296 : Nat) : Int) := by
 have e : (b : Int) * 4294967296 = ((b * 4294967296 : Nat) : Int) := by omega
 have j : a ||| b * 4294967296 = a + b * 4294967296 := by
  rw [Nat.or_comm, Nat.add_comm]
  exact nat_join 32 _ _ (by omega) (by omega)
 rw [e, u64_or_nat _ _ (by omega) (by omega), j, walk_div]
 omega
theorem walk_low {x y low : Nat} (hx : x < 4294967296) (hy : y ≤ 31) (hl : low < 2 ^ y) :
  bits .or .u64 (IntKind.u64.wrap ((x : Int) * 2 ^ y)) (low : Int) % 4294967296 = (((x * 2 ^ y + low) % 4294967296 : Nat) : Int) := by
 rw [walk_shl hx hy]
 have h1 := shl_lt hx hy
 have h2 := two_pow_le hy
 have j : x * 2 ^ y ||| low = x * 2 ^ y + low := nat_join y _ _ (Nat.mul_mod_left _ _) hl
 rw [u64_or_nat _ _ h1 (by omega), j]
 omega
theorem walk_rto {V x : Nat} (hV : V < 4294967296) (hx : x < 4294967296) :
  bits .or .u64 ((V : Int) * 4294967296) (x : Int) = ((V * 4294967296 + x : Nat) : Int) := join_or hx hV
end Pg
namespace Pg
theorem val_drop_cons (xs : List Nat) (j : Nat) : val (xs.drop j) = lim xs j + 4294967296 * val (xs.drop (j + 1)) := by
 rcases Nat.lt_or_ge j xs.length with h | h
 ·rw [List.drop_eq_getElem_cons h, lim_get h]; rfl
 ·rw [List.drop_eq_nil_of_le h, List.drop_eq_nil_of_le (by omega), lim_behind h]; rfl
theorem drop_set_self {α} (xs : List α) (j : Nat) (v : α) : (xs.set j v).drop (j + 1) = xs.drop (j + 1) := by
 rw [List.drop_set, if_pos (by omega)]
structure SmallInv (p : List Nat) (b k rest : Nat) (cs : List Nat) : Prop where
 len : cs.length = p.length
 ok : Ok cs
 lt : rest < b
 eq : val (p.drop k) = val (cs.drop k) * b + rest
theorem SmallInv.start (p : List Nat) {b : Nat} (hb : 0 < b) : SmallInv p b p.length 0 (List.replicate p.length 0) :=
 ⟨by simp, ok_replicate _, hb, by rw [List.drop_length, List.drop_eq_nil_of_le (by simp)]; simp [val]⟩
theorem SmallInv.step {p : List Nat} {b j rest : Nat} {cs : List Nat} (h : SmallInv p b (j + 1) rest cs) (hp : Ok p) (hj : j < p.length) (hb : b ≤ 4294967296) :
  SmallInv p b j ((rest * 4294967296 + lim p j) % b) (cs.set j ((rest * 4294967296 + lim p j) / b)) := by
 have hl := lim_lt hp j
 have hlt := h.lt
 have hq : (rest * 4294967296 + lim p j) / b < 4294967296 := by
  refine Nat.div_lt_of_lt_mul ?_
  have : (rest + 1) * 4294967296 ≤ b * 4294967296 := Nat.mul_le_mul_right _ hlt
  omega
 refine ⟨by rw [List.length_set, h.len], h.ok.set j hq, Nat.mod_lt _ (by omega), ?_⟩
 rw [val_drop_cons p j, val_drop_cons (cs.set j _) j, drop_set_self, lim_set_same _ (by rw [h.len]; exact hj), h.eq]
 have e := Nat.div_add_mod (rest * 4294967296 + lim p j) b
 generalize (rest * 4294967296 + lim p j) / b = q at *
 generalize (rest * 4294967296 + lim p j) % b = r at *
 rw [Nat.add_mul, Nat.mul_comm q b, Nat.mul_add, Nat.mul_assoc]
 omega
theorem SmallInv.done {p : List Nat} {b rest : Nat} {cs : List Nat} (h : SmallInv p b 0 rest cs) : val cs = val p / b ∧ rest = val p % b := by
 have e := h.eq
 have hlt := h.lt
 rw [List.drop_zero, List.drop_zero] at e
 rw [e, Nat.mul_comm]
 exact ⟨by rw [Nat.mul_add_div (by omega), Nat.div_eq_of_lt hlt, Nat.add_zero], by rw [Nat.mul_add_mod, Nat.mod_eq_of_lt hlt]⟩
/-! The guess. -/
def gq (u3 d2 : Nat) : Nat := min 4294967295 (u3 / d2)
theorem guess_start {u low b1 b2 : Nat} (hb1 : 0 < b1) (hlow : low < 4294967296) : gq (u * 4294967296 + low) (b1 * 4294967296 + b2) ≤ u / b1 := by
 refine Nat.le_trans (Nat.min_le_right _ _) ?_
 refine Nat.le_of_lt_succ (Nat.div_lt_of_lt_mul ?_)
 have h1 : u < b1 * (u / b1 + 1) := Nat.lt_mul_div_succ u hb1
 have h2 : (u + 1) * 4294967296 ≤ b1 * (u / b1 + 1) * 4294967296 := Nat.mul_le_mul_right _ h1
 have h3 : (b1 * 4294967296 + b2) * (u / b1).succ = b1 * (u / b1 + 1) * 4294967296 + b2 * (u / b1 + 1) := by
  rw [Nat.add_mul]; congr 1
  rw [Nat.succ_eq_add_one]; ac_rfl
 omega
theorem guess_id {q r u b1 b2 low : Nat} (h : q * b1 + r = u) : q * (b1 * 4294967296 + b2) + r * 4294967296 + low = (u * 4294967296 + low) + q * b2 := by
 rw [← h, Nat.mul_add, Nat.add_mul, Nat.mul_assoc]; omega
theorem guess_stop {q r u b1 b2 low : Nat} (h : q * b1 + r = u) (hb1 : 0 < b1) (hq : q < 4294967296) (hc : q * b2 ≤ r * 4294967296 + low)
  (hle : gq (u * 4294967296 + low) (b1 * 4294967296 + b2) ≤ q) : q = gq (u * 4294967296 + low) (b1 * 4294967296 + b2) := by
 refine Nat.le_antisymm ?_ hle
 refine Nat.le_min.2 ⟨by omega, ?_⟩
 rcases Nat.eq_zero_or_pos (b1 * 4294967296 + b2) with h0 | h0
 ·omega
 rw [Nat.le_div_iff_mul_le h0]
 have := guess_id (b2 := b2) (low := low) h
 omega
theorem guess_lin {x y u r low : Nat} (e1 : x + r + low = u + y) (h1 : r + low < y) : u < x := by omega
theorem guess_down {q r u b1 b2 low : Nat} (h : q * b1 + r = u) (_hb1 : 0 < b1) (hc : 4294967296 ≤ q ∨ r * 4294967296 + low < q * b2) (hle : gq (u * 4294967296 + low) (b1 * 4294967296 + b2) ≤ q) :
  0 < q ∧ gq (u * 4294967296 + low) (b1 * 4294967296 + b2) ≤ q - 1 := by
 have hq0 : 0 < q := by
  rcases hc with h1 | h1
  ·omega
  ·rcases Nat.eq_zero_or_pos q with h0 | h0
   ·subst h0; simp at h1
   ·exact h0
 refine ⟨hq0, ?_⟩
 rcases hc with h1 | h1
 ·refine Nat.le_trans (Nat.min_le_left _ _) (by omega)
 ·refine Nat.le_trans (Nat.min_le_right _ _) ?_
  refine Nat.le_sub_one_of_lt (Nat.div_lt_of_lt_mul ?_)
  have e1 := guess_id (b2 := b2) (low := low) h
  have e2 : (b1 * 4294967296 + b2) * q = q * (b1 * 4294967296 + b2) := Nat.mul_comm _ _
  rw [e2]
  exact guess_lin e1 h1
theorem guess_break {q r u b1 b2 low : Nat} (h : q * b1 + r = u) (hb1 : 0 < b1) (hb2 : b2 < 4294967296) (hr : 4294967296 ≤ r) (hu : u ≤ b1 * 4294967296 + b2)
  (hle : gq (u * 4294967296 + low) (b1 * 4294967296 + b2) ≤ q) : q = gq (u * 4294967296 + low) (b1 * 4294967296 + b2) := by
 have hq : q < 4294967296 := by
  rcases Nat.lt_or_ge q 4294967296 with h1 | h1
  ·exact h1
  ·have : 4294967296 * b1 ≤ q * b1 := Nat.mul_le_mul_right _ h1
   omega
 refine guess_stop h hb1 hq ?_ hle
 have h1 : q * b2 ≤ 4294967296 * 4294967296 := Nat.mul_le_mul (by omega) (by omega)
 have h2 : 4294967296 * 4294967296 ≤ r * 4294967296 := Nat.mul_le_mul_right _ hr
 omega
theorem knuth {U D P d2 u3 : Nat} (hP : 0 < P) (hu3 : u3 = U / P) (hd2 : d2 = D / P) (hd : 4294967296 ≤ d2) (hU : U < 4294967296 * D) :
  U / D ≤ gq u3 d2 ∧ gq u3 d2 ≤ U / D + 1 := by
 have hD0 : 0 < D := by
  rcases Nat.eq_zero_or_pos D with h | h
  ·subst h; simp at hd2; omega
  ·exact h
 have d1 : d2 * P ≤ D := by rw [hd2]; exact Nat.div_mul_le_self _ _
 have d3 : D < (d2 + 1) * P := by rw [hd2, Nat.mul_comm]; exact Nat.lt_mul_div_succ _ hP
 have u1 : u3 * P ≤ U := by rw [hu3]; exact Nat.div_mul_le_self _ _
 have u2 : U < (u3 + 1) * P := by rw [hu3, Nat.mul_comm]; exact Nat.lt_mul_div_succ _ hP
 constructor
 ·refine Nat.le_min.2 ⟨Nat.le_of_lt_succ (Nat.div_lt_of_lt_mul (by rw [Nat.mul_comm]; exact hU)), ?_⟩
  rw [Nat.le_div_iff_mul_le (by omega)]
  have h1 : U / D * D ≤ U := Nat.div_mul_le_self _ _
  have h2 : U / D * (d2 * P) ≤ U / D * D := Nat.mul_le_mul_left _ d1
  have h3 : U / D * d2 * P < (u3 + 1) * P := by
   rw [Nat.mul_assoc]; exact Nat.lt_of_le_of_lt (Nat.le_trans h2 h1) u2
  exact Nat.le_of_lt_succ (Nat.lt_of_mul_lt_mul_right h3)
 ·rcases Nat.eq_zero_or_pos (gq u3 d2) with h0 | h0
  ·rw [h0]; exact Nat.zero_le _
  ·obtain ⟨x, hx⟩ : ∃ x, gq u3 d2 = x + 1 := ⟨gq u3 d2 - 1, by omega⟩
   rw [hx]
   refine Nat.succ_le_succ ?_
   rw [Nat.le_div_iff_mul_le hD0]
   have hle : gq u3 d2 ≤ u3 / d2 := Nat.min_le_right _ _
   have hB : gq u3 d2 ≤ 4294967295 := Nat.min_le_left _ _
   rw [hx] at hle hB
   have h1 : (x + 1) * d2 ≤ u3 := (Nat.le_div_iff_mul_le (by omega)).1 hle
   have h2 : x * D ≤ x * ((d2 + 1) * P) := Nat.mul_le_mul_left _ (by omega)
   have h3 : x * ((d2 + 1) * P) = (x * d2 + x) * P := by rw [← Nat.mul_assoc, Nat.mul_add, Nat.mul_one]
   rw [Nat.add_mul, Nat.one_mul] at h1
   have h4 : (x * d2 + x) * P ≤ u3 * P := Nat.mul_le_mul_right _ (by omega)
   omega
end Pg
namespace Pg
theorem val_div_pow {xs : List Nat} (h : Ok xs) (k : Nat) : val xs / 4294967296 ^ k = val (xs.drop k) := by
 have hp : 0 < 4294967296 ^ k := Nat.pow_pos (by omega)
 rcases Nat.lt_or_ge k xs.length with hk | hk
 ·have e := val_take_drop xs k (by omega)
  have hl := val_lt (h.take k)
  rw [List.length_take, Nat.min_eq_left (by omega)] at hl
  rw [e, Nat.add_comm, Nat.mul_add_div hp, Nat.div_eq_of_lt hl, Nat.add_zero]
 ·rw [List.drop_eq_nil_of_le hk]
  have hl := val_lt h
  have h2 : 4294967296 ^ xs.length ≤ 4294967296 ^ k := Nat.pow_le_pow_right (by omega) hk
  exact Nat.div_eq_of_lt (by omega)
theorem low_part {xs : List Nat} (h : Ok xs) {k : Nat} (h0 : val (xs.drop k) = 0) : val xs < 4294967296 ^ k := by
 have hp : 0 < 4294967296 ^ k := Nat.pow_pos (by omega)
 have := val_div_pow h k
 rw [h0] at this
 rcases Nat.lt_or_ge (val xs) (4294967296 ^ k) with h1 | h1
 ·exact h1
 ·have := Nat.div_pos h1 hp
  omega
theorem top_zero {xs : List Nat} (h : Ok xs) {k : Nat} (h0 : val xs < 4294967296 ^ k) : val (xs.drop k) = 0 := by
 rw [← val_div_pow h k]; exact Nat.div_eq_of_lt h0
theorem top3 {xs : List Nat} (h : Ok xs) {k : Nat} (h0 : val xs < 4294967296 ^ (k + 3)) :
  val xs / 4294967296 ^ k = (lim xs (k + 2) * 4294967296 + lim xs (k + 1)) * 4294967296 + lim xs k := by
 rw [val_div_pow h, val_drop_cons, val_drop_cons xs (k + 1), val_drop_cons xs (k + 1 + 1), top_zero h (k := k + 1 + 1 + 1) h0]
 rw [show k + 1 + 1 = k + 2 from rfl]
 omega
theorem top2 {xs : List Nat} (h : Ok xs) {k : Nat} (h0 : val xs < 4294967296 ^ (k + 2)) :
  val xs / 4294967296 ^ k = lim xs (k + 1) * 4294967296 + lim xs k := by
 rw [val_div_pow h, val_drop_cons, val_drop_cons xs (k + 1), top_zero h (k := k + 1 + 1) h0]
 omega
structure TakeInv (us ds : List Nat) (o n q k cr br : Nat) (cs : List Nat) : Prop where
 len : cs.length = us.length
 ok : Ok cs
 up : cs.drop (o + n + 1) = us.drop (o + n + 1)
 crl : cr < 4294967296
 brl : br ≤ 1
 eq : val cs + 4294967296 ^ o * (q * val (ds.take k)) = val us + 4294967296 ^ (o + k) * (br + cr)
theorem TakeInv.start (us ds : List Nat) (o n q : Nat) (h : Ok us) : TakeInv us ds o n q 0 0 0 us :=
 ⟨rfl, h, rfl, by omega, by omega, by simp [val]⟩
theorem drop_set_low {α} (xs : List α) {i j : Nat} (v : α) (h : i < j) : (xs.set i v).drop j = xs.drop j := by
 rw [List.drop_set, if_pos h]
theorem take_alg {P X V V' W u d y br b' T l cr t : Nat} (e0 : V + X = W + P * (br + cr)) (e1 : V' + P * u = V + P * d) (e2 : d + (y + br) = u + b' * 4294967296) (e4 : 4294967296 * T + y = t) (ht : t = cr + l) :
  V' + (X + P * l) = W + P * 4294967296 * (b' + T) := by
 have m2 : P * d + (P * y + P * br) = P * u + P * (b' * 4294967296) := by rw [← Nat.mul_add, ← Nat.mul_add, ← Nat.mul_add, e2]
 have m4 : P * (4294967296 * T) + P * y = P * cr + P * l := by rw [← Nat.mul_add, ← Nat.mul_add, e4, ht]
 have m5 : P * 4294967296 * (b' + T) = P * (b' * 4294967296) + P * (4294967296 * T) := by
  rw [Nat.mul_add, Nat.mul_assoc, Nat.mul_assoc, Nat.mul_comm 4294967296 b']
 rw [m5]
 rw [Nat.mul_add] at e0
 omega
theorem TakeInv.step {us ds : List Nat} {o n q k cr br : Nat} {cs : List Nat} (h : TakeInv us ds o n q k cr br cs) (hds : Ok ds) (hk : k ≤ n) (hon : o + n < us.length) (hq : q < 4294967296) (t : Nat) (ht : t = cr + q * lim ds k) :
  TakeInv us ds o n q (k + 1) (t / 4294967296) (borr (lim cs (o + k)) (t % 4294967296) br) (cs.set (o + k) (dif (lim cs (o + k)) (t % 4294967296) br)) := by
 have hp := prod_le hq (lim_lt hds k)
 have hcr := h.crl
 have hy : t % 4294967296 < 4294967296 := Nat.mod_lt _ (by omega)
 have e2 := dif_eq (lim_lt h.ok (o + k)) hy h.brl
 refine ⟨by rw [List.length_set, h.len], h.ok.set _ (dif_lt _ _ _), by rw [drop_set_low _ _ (by omega), h.up], by omega, borr_le _ _ _, ?_⟩
 have e1 := val_set' (dif (lim cs (o + k)) (t % 4294967296) br) (show o + k < cs.length by rw [h.len]; omega)
 have e3 : 4294967296 ^ o * (q * val (ds.take (k + 1))) = 4294967296 ^ o * (q * val (ds.take k)) + 4294967296 ^ (o + k) * (q * lim ds k) := by
  rw [val_take_succ0, Nat.pow_add, Nat.mul_add, Nat.mul_add]
  congr 1
  ac_rfl
 rw [e3, ← Nat.add_assoc o k 1, Nat.pow_succ]
 exact take_alg h.eq e1 e2 (Nat.div_add_mod t 4294967296) ht
structure BackInv (us ds : List Nat) (o n k mr : Nat) (cs : List Nat) : Prop where
 len : cs.length = us.length
 ok : Ok cs
 up : cs.drop (o + n + 1) = us.drop (o + n + 1)
 mrl : mr ≤ 1
 eq : val cs + 4294967296 ^ (o + k) * mr = val us + 4294967296 ^ o * val (ds.take k)
theorem BackInv.start (us ds : List Nat) (o n : Nat) (h : Ok us) : BackInv us ds o n 0 0 us :=
 ⟨rfl, h, rfl, by omega, by simp [val]⟩
theorem BackInv.step {us ds : List Nat} {o n k mr : Nat} {cs : List Nat} (h : BackInv us ds o n k mr cs) (hds : Ok ds) (hk : k ≤ n) (hon : o + n < us.length) (t : Nat) (ht : t = lim cs (o + k) + lim ds k + mr) :
  BackInv us ds o n (k + 1) (t / 4294967296) (cs.set (o + k) (t % 4294967296)) := by
 have h1 := lim_lt h.ok (o + k)
 have h2 := lim_lt hds k
 have h3 := h.mrl
 refine ⟨by rw [List.length_set, h.len], h.ok.set _ (Nat.mod_lt _ (by omega)), by rw [drop_set_low _ _ (by omega), h.up], by omega, ?_⟩
 have e1 := val_set' (t % 4294967296) (show o + k < cs.length by rw [h.len]; omega)
 have e3 : 4294967296 ^ o * val (ds.take (k + 1)) = 4294967296 ^ o * val (ds.take k) + 4294967296 ^ (o + k) * lim ds k := by
  rw [val_take_succ0, Nat.pow_add, Nat.mul_add]
  congr 1
  ac_rfl
 rw [e3, ← Nat.add_assoc o k 1, Nat.pow_succ]
 have e0 := h.eq
 have e4 := Nat.div_add_mod t 4294967296
 have m4 : 4294967296 ^ (o + k) * (4294967296 * (t / 4294967296)) + 4294967296 ^ (o + k) * (t % 4294967296) = 4294967296 ^ (o + k) * lim cs (o + k) + 4294967296 ^ (o + k) * lim ds k + 4294967296 ^ (o + k) * mr := by
  rw [← Nat.mul_add, ← Nat.mul_add, ← Nat.mul_add, e4, ht]
 rw [Nat.mul_assoc]
 omega
structure Took (us : List Nat) (o n q D : Nat) (b : Bool) (cs : List Nat) : Prop where
 len : cs.length = us.length
 ok : Ok cs
 up : cs.drop (o + n + 1) = us.drop (o + n + 1)
 eq : (b = false ∧ val cs + 4294967296 ^ o * (q * D) = val us) ∨
  (b = true ∧ val us < 4294967296 ^ o * (q * D) ∧ ∃ ov, val cs + 4294967296 ^ (o + n + 1) * ov + 4294967296 ^ o * (q * D) = val us + 4294967296 ^ (o + n + 1) + 4294967296 ^ o * D)
theorem took_kept {us ds : List Nat} {o n q cr : Nat} {cs : List Nat} (h : TakeInv us ds o n q (n + 1) cr 0 cs) (hl : ds.length = n) (hcr : cr = 0) : Took us o n q (val ds) false cs := by
 refine ⟨h.len, h.ok, h.up, .inl ⟨rfl, ?_⟩⟩
 have e := h.eq
 rw [List.take_of_length_le (by omega), hcr, Nat.zero_add, Nat.mul_zero, Nat.add_zero] at e
 exact e
theorem took_back {us ds : List Nat} {o n q cr br mr : Nat} {cs cs2 : List Nat} (h : TakeInv us ds o n q (n + 1) cr br cs) (hl : ds.length = n) (hcr : cr = 0) (hbr : br ≠ 0) (hX : val us < 4294967296 ^ (o + n + 1))
  (hus : Ok us) (h2 : BackInv cs ds o n (n + 1) mr cs2) : Took us o n q (val ds) true cs2 := by
 have e := h.eq
 have e2 := h2.eq
 have hb : br = 1 := by have := h.brl; omega
 rw [List.take_of_length_le (by omega), hcr, hb] at e
 rw [List.take_of_length_le (by omega)] at e2
 have hz : val (cs.drop (o + n + 1)) = 0 := by rw [h.up]; exact top_zero hus hX
 have hc := low_part h.ok hz
 rw [← Nat.add_assoc o n 1] at e e2
 refine ⟨h2.len.trans h.len, h2.ok, h2.up.trans h.up, .inr ⟨rfl, by omega, mr, by omega⟩⟩
theorem Took.digit {us : List Nat} {o n q D : Nat} {b : Bool} {cs : List Nat} (h : Took us o n q D b cs) (hus : Ok us) (hD : 0 < D) (hX : val us < 4294967296 ^ (o + n + 1))
  (hq : val us / 4294967296 ^ o / D ≤ q ∧ q ≤ val us / 4294967296 ^ o / D + 1) :
  (if b then q - 1 else q) = val us / 4294967296 ^ o / D ∧ (b = true → 0 < q) ∧ val cs + 4294967296 ^ o * (val us / 4294967296 ^ o / D * D) = val us ∧ val us < 4294967296 ^ o * (val us / 4294967296 ^ o / D * D) + 4294967296 ^ o * D := by
 have hz : val (cs.drop (o + n + 1)) = 0 := by rw [h.up]; exact top_zero hus hX
 have hc := low_part h.ok hz
 have e := h.eq
 have hP : 0 < 4294967296 ^ o := Nat.pow_pos (by omega)
 obtain ⟨P, hPe⟩ : ∃ P, P = 4294967296 ^ o := ⟨_, rfl⟩
 obtain ⟨T, hTe⟩ : ∃ T, T = 4294967296 ^ (o + n + 1) := ⟨_, rfl⟩
 rw [← hPe] at hP hq e ⊢
 rw [← hTe] at hc hX e
 clear hPe hTe hz
 obtain ⟨X, hXe⟩ : ∃ X, X = val us := ⟨_, rfl⟩
 rw [← hXe] at hX hq e ⊢
 clear hXe
 have a1 : X / P / D * D ≤ X / P := Nat.div_mul_le_self _ _
 have a2 : P * (X / P) ≤ X := Nat.mul_div_le _ _
 have a3 : P * (X / P / D * D) ≤ P * (X / P) := Nat.mul_le_mul_left _ a1
 have a4 : X / P < (X / P / D + 1) * D := by rw [Nat.mul_comm]; exact Nat.lt_mul_div_succ _ hD
 have a5 : X < P * (X / P + 1) := Nat.lt_mul_div_succ _ hP
 have a6 : P * (X / P + 1) ≤ P * ((X / P / D + 1) * D) := Nat.mul_le_mul_left _ a4
 have a7 : P * ((X / P / D + 1) * D) = P * (X / P / D * D) + P * D := by rw [Nat.add_mul, Nat.one_mul, Nat.mul_add]
 generalize X / P / D = Q at *
 have hq2 : q = Q ∨ q = Q + 1 := by omega
 rcases hq2 with rfl | rfl
 ·rcases e with ⟨rfl, e⟩ | ⟨rfl, e, _⟩
  ·exact ⟨rfl, (fun h => by cases h), e, by omega⟩
  ·omega
 ·rcases e with ⟨rfl, e⟩ | ⟨rfl, _, ov, e⟩
  ·omega
  ·refine ⟨rfl, fun _ => by omega, ?_, by omega⟩
   rw [a7] at e
   rcases Nat.eq_zero_or_pos ov with h0 | h0
   ·subst h0; omega
   ·rcases Nat.lt_or_ge ov 2 with h1 | h1
    ·have : ov = 1 := by omega
     subst this; omega
    ·have : T * 2 ≤ T * ov := Nat.mul_le_mul_left _ h1
     omega
structure LongInv (us0 : List Nat) (D m l j : Nat) (us qs : List Nat) : Prop where
 ulen : us.length = m
 qlen : qs.length = l
 uok : Ok us
 qok : Ok qs
 eq : val us0 = val us + D * val qs
 lt : val us < D * 4294967296 ^ j
 nought : ∀ i, i < j → lim qs i = 0
theorem LongInv.start {us0 : List Nat} {D l : Nat} (h : Ok us0) (hlt : val us0 < D * 4294967296 ^ l) : LongInv us0 D us0.length l l us0 (List.replicate l 0) :=
 ⟨rfl, by simp, h, ok_replicate _, by rw [val_replicate]; simp, hlt, fun i _ => lim_replicate _ _⟩
theorem LongInv.digit_lt {us0 : List Nat} {D m l i : Nat} {us qs : List Nat} (h : LongInv us0 D m l (i + 1) us qs) : val us / 4294967296 ^ i < 4294967296 * D := by
 refine Nat.div_lt_of_lt_mul ?_
 have := h.lt
 rw [Nat.pow_succ] at this
 calc val us < D * (4294967296 ^ i * 4294967296) := this
  _ = 4294967296 ^ i * (4294967296 * D) := by ac_rfl
theorem LongInv.step {us0 : List Nat} {D m l i : Nat} {us qs cs : List Nat} (h : LongInv us0 D m l (i + 1) us qs) (hi : i < l) (hl : cs.length = us.length) (hok : Ok cs) (Q : Nat) (hQ : Q < 4294967296)
  (e1 : val cs + 4294967296 ^ i * (Q * D) = val us) (e2 : val us < 4294967296 ^ i * (Q * D) + 4294967296 ^ i * D) : LongInv us0 D m l i cs (qs.set i Q) := by
 have hz := h.nought i (by omega)
 refine ⟨hl.trans h.ulen, by rw [List.length_set, h.qlen], hok, h.qok.set i hQ, ?_, by rw [Nat.mul_comm]; omega, fun k hk => by rw [lim_set_other _ (by omega)]; exact h.nought k (by omega)⟩
 have e3 := val_set' Q (show i < qs.length by rw [h.qlen]; exact hi)
 rw [hz, Nat.mul_zero, Nat.add_zero] at e3
 rw [h.eq, ← e1, e3, Nat.mul_add]
 have : D * (4294967296 ^ i * Q) = 4294967296 ^ i * (Q * D) := by ac_rfl
 omega
theorem LongInv.guess {us0 : List Nat} {n m l i : Nat} {ds us qs : List Nat} (h : LongInv us0 (val ds) m l (i + 1) us qs) (hds : Ok ds) (hn : ds.length = n + 2) (hb : 0 < lim ds (n + 1)) :
  val us < 4294967296 ^ (i + (n + 2) + 1) ∧
  lim us (i + n + 2) * 4294967296 + lim us (i + n + 1) ≤ lim ds (n + 1) * 4294967296 + lim ds n ∧
  val us / 4294967296 ^ i / val ds ≤ gq ((lim us (i + n + 2) * 4294967296 + lim us (i + n + 1)) * 4294967296 + lim us (i + n)) (lim ds (n + 1) * 4294967296 + lim ds n) ∧
  gq ((lim us (i + n + 2) * 4294967296 + lim us (i + n + 1)) * 4294967296 + lim us (i + n)) (lim ds (n + 1) * 4294967296 + lim ds n) ≤ val us / 4294967296 ^ i / val ds + 1 := by
 have hdv := val_lt hds
 rw [hn] at hdv
 have hP : 0 < 4294967296 ^ n := Nat.pow_pos (by omega)
 have hX : val us < 4294967296 ^ (i + (n + 2) + 1) := by
  have h1 := h.lt
  have h2 : val ds * 4294967296 ^ (i + 1) ≤ 4294967296 ^ (n + 2) * 4294967296 ^ (i + 1) := Nat.mul_le_mul_right _ (by omega)
  rw [← Nat.pow_add] at h2
  rw [show i + (n + 2) + 1 = n + 2 + (i + 1) by omega]
  omega
 have u3 := top3 h.uok (k := i + n) (by rw [show i + n + 3 = i + (n + 2) + 1 by omega]; exact hX)
 have d2 := top2 hds (k := n) hdv
 have hU := h.digit_lt
 rw [Nat.pow_add, ← Nat.div_div_eq_div_mul] at u3
 have k := knuth hP u3.symm d2.symm (by omega) hU
 refine ⟨hX, ?_, k⟩
 have e1 : (lim us (i + n + 2) * 4294967296 + lim us (i + n + 1)) = val us / 4294967296 ^ i / 4294967296 ^ n / 4294967296 := by
  have := lim_lt h.uok (i + n)
  rw [u3]
  omega
 rw [e1, ← d2, Nat.div_div_eq_div_mul, Nat.mul_comm (4294967296 ^ n), ← Nat.div_div_eq_div_mul]
 refine Nat.div_le_div_right (Nat.le_of_lt (Nat.div_lt_of_lt_mul hU))
theorem LongInv.done {us0 : List Nat} {m l a b y : Nat} {us qs : List Nat} (h : LongInv us0 (b * 2 ^ y) m l 0 us qs) (e0 : val us0 = a * 2 ^ y) (hb : 0 < b) :
  val qs = a / b ∧ val us / 2 ^ y = a % b ∧ val us < b * 2 ^ y := by
 have hlt := h.lt
 have hP : 0 < 2 ^ y := Nat.pow_pos (by omega)
 rw [Nat.pow_zero, Nat.mul_one] at hlt
 have e := h.eq
 rw [e0] at e
 have hdv : val us = 2 ^ y * (val us / 2 ^ y) := by
  have h1 : val us % 2 ^ y = 0 := by
   have h2 : (val us + b * 2 ^ y * val qs) % 2 ^ y = 0 := by rw [← e]; exact Nat.mul_mod_left _ _
   have h3 : b * 2 ^ y * val qs = 2 ^ y * (b * val qs) := by ac_rfl
   rw [h3, Nat.add_mul_mod_self_left] at h2
   exact h2
  have := Nat.div_add_mod (val us) (2 ^ y)
  omega
 obtain ⟨r, hr⟩ : ∃ r, r = val us / 2 ^ y := ⟨_, rfl⟩
 rw [← hr] at hdv ⊢
 clear hr
 rw [hdv] at e hlt
 have e5 : a = r + b * val qs := by
  refine Nat.eq_of_mul_eq_mul_left hP ?_
  rw [Nat.mul_add, Nat.mul_comm _ a, e]
  congr 1
  ac_rfl
 have hrb : r < b := by
  rw [Nat.mul_comm b] at hlt
  exact Nat.lt_of_mul_lt_mul_left hlt
 refine ⟨?_, ?_, by rw [hdv]; exact hlt⟩
 ·rw [e5, Nat.add_comm, Nat.mul_add_div hb, Nat.div_eq_of_lt hrb, Nat.add_zero]
 ·rw [e5, Nat.add_mul_mod_self_left, Nat.mod_eq_of_lt hrb]
theorem TakeInv.last {us ds : List Nat} {o n q cr br : Nat} {cs : List Nat} (h : TakeInv us ds o n q n cr br cs) (hds : Ok ds) (hl : ds.length = n) (hon : o + n < us.length) (hq : q < 4294967296) :
  TakeInv us ds o n q (n + 1) 0 (borr (lim cs (o + n)) cr br) (cs.set (o + n) (dif (lim cs (o + n)) cr br)) := by
 have hc := h.crl
 have := h.step hds (Nat.le_refl n) hon hq cr (by rw [lim_behind (by omega)]; simp)
 rwa [Nat.div_eq_of_lt hc, Nat.mod_eq_of_lt hc] at this
theorem BackInv.last {us ds : List Nat} {o n mr : Nat} {cs : List Nat} (h : BackInv us ds o n n mr cs) (hds : Ok ds) (hl : ds.length = n) (hon : o + n < us.length) :
  BackInv us ds o n (n + 1) ((lim cs (o + n) + mr) / 4294967296) (cs.set (o + n) ((lim cs (o + n) + mr) % 4294967296)) :=
 h.step hds (Nat.le_refl n) hon _ (by rw [show lim ds n = 0 from lim_behind (by omega), Nat.add_zero])
end Pg
namespace Pg
theorem blen_le {x : Nat} (hx : x < 4294967296) : blen x ≤ 32 := by
 by_cases h0 : x = 0
 ·rw [h0]; decide
 ·have := (blen_bounds h0).2.1
  rcases Nat.lt_or_ge 32 (blen x) with h2 | h2
  ·have h3 : 2 ^ 32 ≤ 2 ^ (blen x - 1) := Nat.pow_le_pow_right (by omega) (by omega)
   omega
  ·exact h2
theorem lift_limb {x : Nat} (hx : x < 4294967296) (h0 : 0 < x) : 32 - blen x ≤ 31 ∧ (x + 1) * 2 ^ (32 - blen x) ≤ 4294967296 := by
 have h1 := blen_le hx
 obtain ⟨h2, _, h4⟩ := blen_bounds (n := x) (by omega)
 refine ⟨by omega, ?_⟩
 have : (x + 1) * 2 ^ (32 - blen x) ≤ 2 ^ blen x * 2 ^ (32 - blen x) := Nat.mul_le_mul_right _ h4
 rw [← Nat.pow_add, show blen x + (32 - blen x) = 32 by omega] at this
 exact this
theorem long_setup {xs ys : List Nat} {m N : Nat} (hx : Ok xs) (lx : xs.length = m) (hy : Ok ys) (ly : ys.length = N + 1) (ht : 0 < lim ys N) (hmn : N + 1 ≤ m) (y : Nat) (hyy : y = 32 - blen (lim ys N)) :
  y ≤ 31 ∧ val xs * 2 ^ y % 4294967296 ^ (m + 1) = val xs * 2 ^ y ∧ val ys * 2 ^ y % 4294967296 ^ (N + 1) = val ys * 2 ^ y ∧ 4294967296 ^ N ≤ val ys * 2 ^ y ∧
   val xs * 2 ^ y < val ys * 2 ^ y * 4294967296 ^ (m - N) ∧ 0 < val ys := by
 obtain ⟨h1, h2⟩ := lift_limb (lim_lt hy N) ht
 rw [← hyy] at h1 h2
 have hb := val_div_pow hy N
 rw [val_drop_cons, List.drop_eq_nil_of_le (by omega)] at hb
 have hb' : val ys / 4294967296 ^ N = lim ys N := by rw [hb]; rfl
 have hP : 0 < 4294967296 ^ N := Nat.pow_pos (by omega)
 have h2y := Nat.two_pow_pos y
 have c1 : 4294967296 ^ N ≤ val ys := by
  rcases Nat.lt_or_ge (val ys) (4294967296 ^ N) with h | h
  ·rw [Nat.div_eq_of_lt h] at hb'; omega
  ·exact h
 have c2 : val ys < (lim ys N + 1) * 4294967296 ^ N := by
  rw [← hb', Nat.mul_comm]; exact Nat.lt_mul_div_succ _ hP
 have hxl := val_lt hx
 rw [lx] at hxl
 have h31 := two_pow_le h1
 have c3 : val ys ≤ val ys * 2 ^ y := Nat.le_mul_of_pos_right _ h2y
 refine ⟨h1, Nat.mod_eq_of_lt ?_, Nat.mod_eq_of_lt ?_, by omega, ?_, by omega⟩
 ·rw [Nat.pow_succ]
  exact Nat.lt_of_lt_of_le (Nat.mul_lt_mul_of_pos_right hxl h2y) (Nat.mul_le_mul_left _ (by omega))
 ·calc val ys * 2 ^ y < (lim ys N + 1) * 4294967296 ^ N * 2 ^ y := Nat.mul_lt_mul_of_pos_right c2 h2y
   _ = 4294967296 ^ N * ((lim ys N + 1) * 2 ^ y) := by ac_rfl
   _ ≤ 4294967296 ^ N * 4294967296 := Nat.mul_le_mul_left _ h2
   _ = 4294967296 ^ (N + 1) := (Nat.pow_succ _ _).symm
 ·have c4 : 4294967296 ^ m = 4294967296 ^ N * 4294967296 ^ (m - N) := by rw [← Nat.pow_add]; congr 1; omega
  calc val xs * 2 ^ y < 4294967296 ^ m * 2 ^ y := Nat.mul_lt_mul_of_pos_right hxl h2y
   _ = 4294967296 ^ N * 2 ^ y * 4294967296 ^ (m - N) := by rw [c4]; ac_rfl
   _ ≤ val ys * 2 ^ y * 4294967296 ^ (m - N) := Nat.mul_le_mul_right _ (Nat.mul_le_mul_right _ c1)
theorem top_pos {ds : List Nat} (h : Ok ds) {N : Nat} (hl : ds.length = N + 1) (hv : 4294967296 ^ N ≤ val ds) : 0 < lim ds N := by
 have hb := val_div_pow h N
 rw [val_drop_cons, List.drop_eq_nil_of_le (by omega)] at hb
 have hb' : val ds / 4294967296 ^ N = lim ds N := by rw [hb]; rfl
 rw [← hb']
 exact Nat.div_pos hv (Nat.pow_pos (by omega))
theorem shv_back (N y : Nat) (hy : y ≤ 31) : shv N (-(y : Int)) = N / 2 ^ y := by
 rcases Nat.eq_zero_or_pos y with h | h
 ·subst h; simp [shv]
 ·exact shv_neg N y h
theorem LongInv.guess' {us0 : List Nat} {N m l i : Nat} {ds us qs : List Nat} (h : LongInv us0 (val ds) m l (i + 1) us qs) (hds : Ok ds) (hN : 2 ≤ N) (hn : ds.length = N) (hb : 0 < lim ds (N - 1)) :
  val us < 4294967296 ^ (i + N + 1) ∧
  lim us (i + N) * 4294967296 + lim us (i + N - 1) ≤ lim ds (N - 1) * 4294967296 + lim ds (N - 2) ∧
  val us / 4294967296 ^ i / val ds ≤ gq ((lim us (i + N) * 4294967296 + lim us (i + N - 1)) * 4294967296 + lim us (i + N - 2)) (lim ds (N - 1) * 4294967296 + lim ds (N - 2)) ∧
  gq ((lim us (i + N) * 4294967296 + lim us (i + N - 1)) * 4294967296 + lim us (i + N - 2)) (lim ds (N - 1) * 4294967296 + lim ds (N - 2)) ≤ val us / 4294967296 ^ i / val ds + 1 := by
 obtain ⟨n, rfl⟩ : ∃ n, N = n + 2 := ⟨N - 2, by omega⟩
 have := h.guess hds (n := n) hn hb
 simpa only [show i + (n + 2) = i + n + 2 by omega, show i + n + 2 - 1 = i + n + 1 by omega, show i + n + 2 - 2 = i + n by omega, show n + 2 - 1 = n + 1 by omega, show n + 2 - 2 = n by omega] using this
theorem Took.says {us : List Nat} {o n q D : Nat} {b : Bool} {cs : List Nat} (h : Took us o n q D b cs) : b = decide (val us < 4294967296 ^ o * (q * D)) := by
 rcases h.eq with ⟨rfl, e⟩ | ⟨rfl, e, _⟩
 ·simp; omega
 ·simp [e]
theorem gq_lt (u3 d2 : Nat) : gq u3 d2 < 4294967296 := Nat.lt_of_le_of_lt (Nat.min_le_left _ _) (by omega)
end Pg
namespace Pg
open Go
theorem bit_step {x b k : Nat} (hb : 0 < b) (t : Nat) (ht : t = 2 * (x / 2 ^ (k + 1) % b) + x / 2 ^ k % 2) :
  t < 2 * b ∧ (t < b → x / 2 ^ k % b = t ∧ x / 2 ^ k / b = 2 * (x / 2 ^ (k + 1) / b)) ∧ (b ≤ t → x / 2 ^ k % b = t - b ∧ x / 2 ^ k / b = 2 * (x / 2 ^ (k + 1) / b) + 1) := by
 have e1 : x / 2 ^ (k + 1) = x / 2 ^ k / 2 := by rw [Nat.pow_succ, Nat.div_div_eq_div_mul]
 rw [e1] at ht ⊢
 generalize x / 2 ^ k = X at *
 have hr := Nat.mod_lt (X / 2) hb
 have hd := Nat.div_add_mod (X / 2) b
 generalize X / 2 % b = r at *
 generalize X / 2 / b = Q at *
 have hX : X = b * (2 * Q) + t := by
  have : b * (2 * Q) = 2 * (b * Q) := by rw [← Nat.mul_assoc, Nat.mul_comm b 2, Nat.mul_assoc]
  omega
 refine ⟨by omega, fun h => ?_, fun h => ?_⟩
 ·rw [hX]
  exact ⟨by rw [Nat.mul_add_mod, Nat.mod_eq_of_lt h], by rw [Nat.mul_add_div hb, Nat.div_eq_of_lt h, Nat.add_zero]⟩
 ·have hX2 : X = b * (2 * Q + 1) + (t - b) := by rw [Nat.mul_add, Nat.mul_one]; omega
  rw [hX2]
  have h2 : t - b < b := by omega
  exact ⟨by rw [Nat.mul_add_mod, Nat.mod_eq_of_lt h2], by rw [Nat.mul_add_div hb, Nat.div_eq_of_lt h2, Nat.add_zero]⟩
theorem limbs_double {R b t : Nat} (h : R < b) (ht : t ≤ 2 * R + 1) : (limbs t).length ≤ (limbs b).length + 1 :=
 length_limbs_le (by rw [Nat.pow_succ]; have := lt_pow_length b; omega)
theorem pow_split {i : Nat} : 2 ^ i = 4294967296 ^ (i / 32) * 2 ^ (i % 32) := by
 rw [base_pow, ← Nat.pow_add]; congr 1; omega
theorem bit_limb {xs : List Nat} (h : Ok xs) (i : Nat) : lim xs (i / 32) / 2 ^ (i % 32) % 2 = val xs / 2 ^ i % 2 := by
 have hs : i % 32 < 32 := Nat.mod_lt _ (by omega)
 rw [pow_split (i := i), ← Nat.div_div_eq_div_mul, val_div_pow h, val_drop_cons]
 generalize i % 32 = s at *
 generalize lim xs (i / 32) = l
 generalize val (xs.drop (i / 32 + 1)) = v
 have e : 4294967296 = 2 ^ s * (2 * 2 ^ (31 - s)) := by
  rw [← Nat.mul_assoc, Nat.mul_comm (2 ^ s) 2, Nat.mul_assoc, ← Nat.pow_add, show s + (31 - s) = 31 by omega]
 rw [e, Nat.mul_assoc, Nat.add_mul_div_left _ _ (Nat.two_pow_pos s), Nat.mul_assoc, Nat.add_mul_mod_self_left]
theorem or_bit {cs : List Nat} (h : Ok cs) {i Q : Nat} (hv : val cs = Q * 2 ^ (i + 1)) (hi : i / 32 < cs.length) :
  (lim cs (i / 32) ||| 2 ^ (i % 32)) = lim cs (i / 32) + 2 ^ (i % 32) ∧ lim cs (i / 32) + 2 ^ (i % 32) < 4294967296 ∧
   val (cs.set (i / 32) (lim cs (i / 32) + 2 ^ (i % 32))) = (2 * Q + 1) * 2 ^ i := by
 have hs : i % 32 < 32 := Nat.mod_lt _ (by omega)
 have hl := lim_lt h (i / 32)
 have hd : lim cs (i / 32) % 2 ^ (i % 32 + 1) = 0 := by
  have e0 := val_div_pow h (i / 32)
  have e1 : 2 ^ (i + 1) = 4294967296 ^ (i / 32) * 2 ^ (i % 32 + 1) := by
   rw [base_pow, ← Nat.pow_add]; congr 1; omega
  have e2 : val cs / 4294967296 ^ (i / 32) = 2 ^ (i % 32 + 1) * Q := by
   rw [hv, e1]
   rw [show Q * (4294967296 ^ (i / 32) * 2 ^ (i % 32 + 1)) = 4294967296 ^ (i / 32) * (2 ^ (i % 32 + 1) * Q) by ac_rfl]
   exact Nat.mul_div_cancel_left _ (Nat.pow_pos (by omega))
  rw [e2, val_drop_cons] at e0
  have e3 : 4294967296 = 2 ^ (i % 32 + 1) * 2 ^ (31 - i % 32) := by
   rw [← Nat.pow_add, show i % 32 + 1 + (31 - i % 32) = 32 by omega]
  have e4 : (2 ^ (i % 32 + 1) * Q) % 2 ^ (i % 32 + 1) = 0 := Nat.mul_mod_right _ _
  rw [e0] at e4
  generalize val (cs.drop (i / 32 + 1)) = v at e4
  rw [show 4294967296 * v = 2 ^ (i % 32 + 1) * (2 ^ (31 - i % 32) * v) by rw [← Nat.mul_assoc, ← e3], Nat.add_mul_mod_self_left] at e4
  exact e4
 have hm := Nat.div_add_mod (lim cs (i / 32)) (2 ^ (i % 32 + 1))
 rw [hd, Nat.add_zero] at hm
 have hp : 2 ^ (i % 32) < 2 ^ (i % 32 + 1) := by rw [Nat.pow_succ]; have := Nat.two_pow_pos (i % 32); omega
 have hor : (lim cs (i / 32) ||| 2 ^ (i % 32)) = lim cs (i / 32) + 2 ^ (i % 32) := by
  have := Nat.shiftLeft_add_eq_or_of_lt hp (lim cs (i / 32) / 2 ^ (i % 32 + 1))
  rw [Nat.shiftLeft_eq, Nat.mul_comm, hm] at this
  exact this.symm
 refine ⟨hor, ?_, ?_⟩
 ·rw [← hor]
  exact Nat.or_lt_two_pow (n := 32) hl (Nat.pow_lt_pow_right (by omega) hs)
 ·have e5 := val_set' (lim cs (i / 32) + 2 ^ (i % 32)) hi
  have e6 : (2 * Q + 1) * 2 ^ i = Q * 2 ^ (i + 1) + 2 ^ i := by rw [Nat.pow_succ, Nat.add_mul, Nat.one_mul]; congr 1; ac_rfl
  rw [Nat.mul_add, hv] at e5
  rw [e6, pow_split (i := i)]
  rw [pow_split (i := i + 1)] at e5 ⊢
  omega
end Pg
