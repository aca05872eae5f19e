/- How many bits a number takes, 64 bits and back, the reference's shifts: plain mathematics. Conditions: none. -/
import Derived.Test.YtgehoflkbckgkaaBitP
import Derived.Lib.BitFns
namespace Pg
open Go

def blenF : Nat → Nat → Nat
  | 0, _ => 0
  | f + 1, n => if n = 0 then 0 else 1 + blenF f (n / 2)
/-- How many bits a number takes. -/
def blen (n : Nat) : Nat := blenF n n
theorem blenF_more : ∀ (f n : Nat), n ≤ f → blenF f n = blenF n n := by
  intro f
  induction f using Nat.strongRecOn with
  | ind f ih =>
    intro n hn
    cases f with
    | zero =>
      have : n = 0 := by omega
      subst this; rfl
    | succ f =>
      cases n with
      | zero => simp [blenF]
      | succ n =>
        simp only [blenF]
        rw [ih f (by omega) _ (by omega), ih n (by omega) _ (by omega)]
theorem blen_zero : blen 0 = 0 := rfl
theorem blen_pos {n : Nat} (h : n ≠ 0) : blen n = 1 + blen (n / 2) := by
  unfold blen
  cases n with
  | zero => exact absurd rfl h
  | succ n =>
    simp only [blenF]
    rw [if_neg (by omega), blenF_more n _ (by omega)]
theorem blen_bounds {n : Nat} (h : n ≠ 0) : 1 ≤ blen n ∧ 2 ^ (blen n - 1) ≤ n ∧ n < 2 ^ blen n := by
  induction n using Nat.strongRecOn with
  | ind n ih =>
    rw [blen_pos h]
    by_cases h1 : n / 2 = 0
    · have : n = 1 := by omega
      subst this; decide
    · obtain ⟨a, b, c⟩ := ih (n / 2) (by omega) h1
      refine ⟨by omega, ?_, ?_⟩
      · have e : 1 + blen (n / 2) - 1 = (blen (n / 2) - 1) + 1 := by omega
        rw [e, Nat.pow_succ]; omega
      · rw [Nat.add_comm, Nat.pow_succ]; omega
theorem blen_unique {n k : Nat} (h1 : 2 ^ k ≤ n) (h2 : n < 2 ^ (k + 1)) : blen n = k + 1 := by
  have hp := Nat.two_pow_pos k
  obtain ⟨a, b, c⟩ := blen_bounds (n := n) (by omega)
  have x1 : k < blen n := (Nat.pow_lt_pow_iff_right (a := 2) (by omega)).1 (Nat.lt_of_le_of_lt h1 c)
  have x2 : blen n - 1 < k + 1 := (Nat.pow_lt_pow_iff_right (a := 2) (by omega)).1 (Nat.lt_of_le_of_lt b h2)
  omega
theorem bitLenAux_eq : ∀ (f x : Nat), x < 2 ^ f → Lib.bitLenAux f x = blen x := by
  intro f
  induction f with
  | zero => intro x hx; have : x = 0 := by simpa using hx
            subst this; rfl
  | succ f ih =>
    intro x hx
    by_cases h : x = 0
    · subst h; simp [Lib.bitLenAux, blen_zero]
    · rw [Lib.bitLenAux, if_neg h, blen_pos h, ih _ (by rw [Nat.pow_succ] at hx; omega)]
theorem bitLen_eq {x : Nat} (h : x < 4294967296) : Lib.bitLen x = blen x := bitLenAux_eq 64 x (by omega)

theorem blen_top {p : List Nat} (hp : Ok p) (h0 : 0 < p.length) (ht : 0 < lim p (p.length - 1)) : blen (val p) = 32 * (p.length - 1) + blen (lim p (p.length - 1)) := by
  have e := val_take_succ0 p (p.length - 1)
  rw [show p.length - 1 + 1 = p.length from by omega, List.take_length] at e
  have h1 := val_lt (hp.take (p.length - 1))
  rw [List.length_take, Nat.min_eq_left (by omega)] at h1
  obtain ⟨a, b, c⟩ := blen_bounds (n := lim p (p.length - 1)) (by omega)
  have e2 : 32 * (p.length - 1) + blen (lim p (p.length - 1)) = (32 * (p.length - 1) + (blen (lim p (p.length - 1)) - 1)) + 1 := by omega
  rw [e2]
  refine blen_unique ?_ ?_
  · rw [Nat.pow_add, ← base_pow, e]
    have := Nat.mul_le_mul_left (4294967296 ^ (p.length - 1)) b
    omega
  · rw [← e2, Nat.pow_add, ← base_pow, e]
    have := Nat.mul_le_mul_left (4294967296 ^ (p.length - 1)) (show lim p (p.length - 1) + 1 ≤ 2 ^ blen (lim p (p.length - 1)) from c)
    rw [Nat.mul_add] at this
    omega

theorem tl_top {N : Nat} (h : N ≠ 0) : 0 < (limbs N).length ∧ 0 < lim (limbs N) ((limbs N).length - 1) := by
  have hn : limbs N ≠ [] := fun e => h (limbs_eq_nil.1 e)
  have hl : 0 < (limbs N).length := List.length_pos_iff.2 hn
  refine ⟨hl, ?_⟩
  have ht := trimmed_limbs N
  unfold Trimmed at ht
  rw [List.getLast?_eq_getElem?, List.getElem?_eq_getElem (by omega)] at ht
  rw [lim_get (by omega)]
  rcases Nat.eq_zero_or_pos (limbs N)[(limbs N).length - 1] with h0 | h0
  · exact absurd (by rw [h0]) ht
  · exact h0

/-- A number as 64 bits; 0: it has more. -/
def to64 (N : Nat) : Nat := if N < 18446744073709551616 then N else 0
def is64 (N : Nat) : Bool := decide (N < 18446744073709551616)
theorem to64_len {N : Nat} (h : 2 < (limbs N).length) : to64 N = 0 ∧ is64 N = false := by
  have hN : N ≠ 0 := by intro e; subst e; simp [limbs_zero] at h
  have h1 := pow_length_le hN
  have h2 : 4294967296 ^ 2 ≤ 4294967296 ^ ((limbs N).length - 1) := Nat.pow_le_pow_right (by omega) (by omega)
  have h3 : ¬ N < 18446744073709551616 := by omega
  exact ⟨by unfold to64; rw [if_neg h3], by simp [is64]; omega⟩
theorem to64_in {N : Nat} (h : (limbs N).length ≤ 2) : N < 18446744073709551616 ∧ to64 N = N ∧ is64 N = true := by
  have h1 := lt_pow_length N
  have h2 : 4294967296 ^ (limbs N).length ≤ 4294967296 ^ 2 := Nat.pow_le_pow_right (by omega) h
  have h3 : N < 18446744073709551616 := by omega
  exact ⟨h3, by unfold to64; rw [if_pos h3], by simp [is64]; omega⟩

/-- A row of a number's lowest limbs, one more. -/
theorem app_limb {M k : Nat} {cs : List Nat} (hl : cs.length = k) (e : val cs = M % 4294967296 ^ k) (d : Nat) (hd : d = M / 4294967296 ^ k % 4294967296) :
    val (cs ++ [d]) = M % 4294967296 ^ (k + 1) := by
  rw [val_append, hl, e, val_one, Nat.pow_succ, Nat.mod_mul, hd]

theorem shr_limb {al : List Nat} {y i : Nat} (ha : Ok al) (hy : y ≤ 31) :
    (lim al i + lim al (i + 1) * 4294967296) / 2 ^ y % 4294967296 = val al / 2 ^ y / 4294967296 ^ i % 4294967296 := by
  have e1 : val al / 4294967296 ^ i = val (al.drop i) := by
    rcases Nat.lt_or_ge al.length i with h | h
    · rw [List.drop_eq_nil_of_le (by omega)]
      have := val_lt ha
      have h2 : 4294967296 ^ al.length ≤ 4294967296 ^ i := Nat.pow_le_pow_right (by omega) (by omega)
      exact Nat.div_eq_of_lt (by omega)
    · have e := val_take_drop al i h
      have hlt := val_lt (ha.take i)
      rw [List.length_take, Nat.min_eq_left h] at hlt
      rw [e, Nat.add_mul_div_left _ _ (Nat.pow_pos (by omega)), Nat.div_eq_of_lt hlt, Nat.zero_add]
  have e2 : val (al.drop i) = lim al i + lim al (i + 1) * 4294967296 + 4294967296 * 4294967296 * val (al.drop (i + 2)) := by
    have cons : ∀ j, val (al.drop j) = lim al j + 4294967296 * val (al.drop (j + 1)) := by
      intro j
      rcases Nat.lt_or_ge j al.length with h | h
      · rw [List.drop_eq_getElem_cons h, lim_get h]; rfl
      · rw [List.drop_eq_nil_of_le h, List.drop_eq_nil_of_le (by omega), lim_behind h]; rfl
    rw [cons i, cons (i + 1), show i + 1 + 1 = i + 2 from rfl]
    omega
  rw [Nat.div_div_eq_div_mul (val al), Nat.mul_comm (2 ^ y) (4294967296 ^ i), ← Nat.div_div_eq_div_mul, e1, e2]
  have e3 : 4294967296 * 4294967296 * val (al.drop (i + 2)) = 2 ^ y * (2 ^ (32 - y) * val (al.drop (i + 2)) * 4294967296) := by
    have := base_split hy
    calc 4294967296 * 4294967296 * val (al.drop (i + 2)) = (2 ^ y * 2 ^ (32 - y)) * 4294967296 * val (al.drop (i + 2)) := by rw [← this]
      _ = _ := by ac_rfl
  rw [e3, Nat.add_mul_div_left _ _ (Nat.two_pow_pos y), Nat.add_mul_mod_self_right]

/-- What the reference's left shift keeps. -/
structure ShlInv (t : List Nat) (y i low : Nat) (ds : List Nat) : Prop where
  len : ds.length = i
  ok : Ok ds
  le : low < 2 ^ y
  eq : val ds + low * 4294967296 ^ i = val (t.take i) * 2 ^ y
theorem ShlInv.start (t : List Nat) (y : Nat) : ShlInv t y 0 0 [] := ⟨rfl, ok_nil, Nat.two_pow_pos y, by simp [val]⟩
theorem ShlInv.step {t : List Nat} {y i low : Nat} {ds : List Nat} (h : ShlInv t y i low ds) (ht : Ok t) (hy : y ≤ 31) :
    ShlInv t y (i + 1) (lim t i * 2 ^ y / 4294967296) (ds ++ [(lim t i * 2 ^ y + low) % 4294967296]) := by
  have hh := hi_lt (s := y) (lim_lt ht i)
  refine ⟨by simp [h.len], ok_append.2 ⟨h.ok, ok_cons.2 ⟨Nat.mod_lt _ (by omega), ok_nil⟩⟩, hh, ?_⟩
  have hle := h.le
  have e0 : (lim t i * 2 ^ y + low) / 4294967296 = lim t i * 2 ^ y / 4294967296 := by
    have hb := base_split hy
    have e1 : ∀ z, z / 4294967296 = z / 2 ^ y / 2 ^ (32 - y) := fun z => by rw [Nat.div_div_eq_div_mul, ← hb]
    rw [e1, e1 (lim t i * 2 ^ y), Nat.mul_div_cancel _ (Nat.two_pow_pos y), Nat.mul_comm (lim t i), Nat.mul_add_div (Nat.two_pow_pos y), Nat.div_eq_of_lt hle, Nat.add_zero]
  have e := mul_split (4294967296 ^ i) (lim t i * 2 ^ y + low)
  rw [e0] at e
  have e2 := h.eq
  rw [val_append, h.len, val_one, val_take_succ0, Nat.pow_succ, Nat.add_mul, Nat.mul_assoc]
  rw [Nat.mul_add, Nat.mul_comm (4294967296 ^ i) low] at e
  omega
theorem ShlInv.done {t : List Nat} {y low : Nat} {ds : List Nat} (h : ShlInv t y (t.length + 1) low ds) (hlow : low = 0) : val ds = val t * 2 ^ y := by
  have e := h.eq
  rw [List.take_of_length_le (by omega), hlow] at e
  omega

theorem walk_pair {a b y : Nat} (ha : a < 4294967296) (hb : b < 4294967296) :
    bits .or .u64 (a : Int) ((b : Int) * 4294967296) / 2 ^ y % 4294967296 = (((a + b * 4294967296) / 2 ^ y % 4294967296 : Nat) : Int) := by
  have e : (b : Int) * 4294967296 = ((b * 4294967296 : Nat) : Int) := by omega
  have j : a ||| b * 4294967296 = a + b * 4294967296 := by
    rw [Nat.or_comm, Nat.add_comm]
    exact nat_join 32 _ _ (by omega) (by omega)
  rw [e, u64_or_nat _ _ (by omega) (by omega), j, walk_div]
  omega
theorem walk_low {x y low : Nat} (hx : x < 4294967296) (hy : y ≤ 31) (hl : low < 2 ^ y) :
    bits .or .u64 (IntKind.u64.wrap ((x : Int) * 2 ^ y)) (low : Int) % 4294967296 = (((x * 2 ^ y + low) % 4294967296 : Nat) : Int) := by
  rw [walk_shl hx hy]
  have h1 := shl_lt hx hy
  have h2 := two_pow_le hy
  have j : x * 2 ^ y ||| low = x * 2 ^ y + low := nat_join y _ _ (Nat.mul_mod_left _ _) hl
  rw [u64_or_nat _ _ h1 (by omega), j]
  omega

theorem walk_to {V x k : Nat} (hk : k < 2) (hV : V < 4294967296 ^ k) (hx : x < 4294967296) :
    bits .or .u64 (V : Int) (IntKind.u64.wrap ((x : Int) * 2 ^ (32 * k))) = ((V + 4294967296 ^ k * x : Nat) : Int) := by
  have e : (x : Int) * 2 ^ (32 * k) = ((4294967296 ^ k * x : Nat) : Int) := by
    rw [base_pow, Int.natCast_mul, Int.natCast_pow, Int.mul_comm]; rfl
  have hb : 4294967296 ^ k * x < 18446744073709551616 ∧ V < 18446744073709551616 := by
    rcases (show k = 0 ∨ k = 1 by omega) with h | h
    · subst h; simp at hV ⊢; omega
    · subst h; simp at hV ⊢; omega
  have j : V ||| 4294967296 ^ k * x = V + 4294967296 ^ k * x := by
    rw [Nat.or_comm, Nat.add_comm, base_pow]
    rw [base_pow] at hV
    exact nat_join (32 * k) _ _ (Nat.mul_mod_right _ _) hV
  rw [e, IntWalk.u64_in _ (by omega), u64_or_nat _ _ hb.2 hb.1, j]
theorem walk_rto {V x : Nat} (hV : V < 4294967296) (hx : x < 4294967296) :
    bits .or .u64 ((V : Int) * 4294967296) (x : Int) = ((V * 4294967296 + x : Nat) : Int) := join_or hx hV
end Pg
