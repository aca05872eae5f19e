/- The borrow of math/bits.Sub32 and the joined limbs of Div32: plain mathematics. Conditions: none. -/
import Derived.Test.YtgehoflkbckgkaaCmpP
namespace Pg
open Go

theorem top_bit {n : Nat} (h : n < 4294967296) : n / 2147483648 = if n.testBit 31 then 1 else 0 := by
  rw [Nat.testBit_eq_decide_div_mod_eq]
  have e : (2 : Nat) ^ 31 = 2147483648 := by decide
  rw [e]
  by_cases h2 : n / 2147483648 % 2 = 1
  · simp [h2]; omega
  · simp [h2]; omega

theorem bit31 {n : Nat} (h : n < 4294967296) : n.testBit 31 = decide (2147483648 ≤ n) := by
  rw [Nat.testBit_eq_decide_div_mod_eq]
  have e : (2 : Nat) ^ 31 = 2147483648 := by decide
  rw [e, decide_eq_decide]
  omega

/-- The difference's limb. -/
def dif (x y br : Nat) : Nat := (x + 8589934592 - y - br) % 4294967296
theorem dif_lt (x y br : Nat) : dif x y br < 4294967296 := Nat.mod_lt _ (by omega)
/-- Its borrow. -/
def borr (x y br : Nat) : Nat := if x < y + br then 1 else 0
theorem borr_le (x y br : Nat) : borr x y br ≤ 1 := by unfold borr; split <;> omega
theorem dif_eq {x y br : Nat} (hx : x < 4294967296) (hy : y < 4294967296) (hb : br ≤ 1) : dif x y br + (y + br) = x + borr x y br * 4294967296 := by
  unfold dif borr; split <;> omega

theorem borr_bits {x y br : Nat} (hx : x < 4294967296) (hy : y < 4294967296) (hb : br ≤ 1) :
    (((4294967295 ^^^ x) &&& y) ||| ((4294967295 ^^^ (x ^^^ y)) &&& dif x y br)) / 2147483648 = borr x y br := by
  have b1 : (4294967295 ^^^ x) < 2 ^ 32 := Nat.xor_lt_two_pow (by omega) (by omega)
  have b2 : (x ^^^ y) < 2 ^ 32 := Nat.xor_lt_two_pow (by omega) (by omega)
  have b3 : (4294967295 ^^^ (x ^^^ y)) < 2 ^ 32 := Nat.xor_lt_two_pow (by omega) b2
  have b4 : ((4294967295 ^^^ x) &&& y) < 2 ^ 32 := Nat.and_lt_two_pow _ (by omega)
  have b5 : ((4294967295 ^^^ (x ^^^ y)) &&& dif x y br) < 2 ^ 32 := Nat.and_lt_two_pow _ (by have := dif_lt x y br; omega)
  have b6 : (((4294967295 ^^^ x) &&& y) ||| ((4294967295 ^^^ (x ^^^ y)) &&& dif x y br)) < 2 ^ 32 := Nat.or_lt_two_pow b4 b5
  rw [top_bit (by omega), Nat.testBit_or, Nat.testBit_and, Nat.testBit_and, Nat.testBit_xor, Nat.testBit_xor, Nat.testBit_xor, bit31 hx, bit31 hy, bit31 (dif_lt x y br), bit31 (n := 4294967295) (by omega)]
  have hd : (decide (2147483648 ≤ 4294967295)) = true := by decide
  rw [hd]
  unfold dif borr
  by_cases h1 : 2147483648 ≤ x <;> by_cases h2 : 2147483648 ≤ y <;> by_cases h3 : 2147483648 ≤ (x + 8589934592 - y - br) % 4294967296 <;> by_cases h4 : x < y + br <;> simp [h1, h2, h3, h4] <;> omega

theorem max32 : IntKind.u32.max = ((4294967295 : Nat) : Int) := by decide

theorem walk_dif {x y br : Nat} (hx : x < 4294967296) (hy : y < 4294967296) (hb : br ≤ 1) : ((x : Int) - (y : Int) - (br : Int)) % 4294967296 = ((dif x y br : Nat) : Int) := by
  unfold dif; omega

theorem walk_borr {x y br : Nat} (hx : x < 4294967296) (hy : y < 4294967296) (hb : br ≤ 1) :
    bits .or .u32 (bits .and .u32 (bits .xor .u32 IntKind.u32.max (x : Int)) (y : Int)) (bits .and .u32 (bits .xor .u32 IntKind.u32.max (bits .xor .u32 (x : Int) (y : Int))) (((x : Int) - (y : Int) - (br : Int)) % 4294967296)) / 2147483648 = ((borr x y br : Nat) : Int) := by
  have b1 : (4294967295 ^^^ x) < 2 ^ 32 := Nat.xor_lt_two_pow (by omega) (by omega)
  have b2 : (x ^^^ y) < 2 ^ 32 := Nat.xor_lt_two_pow (by omega) (by omega)
  have b3 : (4294967295 ^^^ (x ^^^ y)) < 2 ^ 32 := Nat.xor_lt_two_pow (by omega) b2
  have b4 : ((4294967295 ^^^ x) &&& y) < 2 ^ 32 := Nat.and_lt_two_pow _ (by omega)
  have b5 : ((4294967295 ^^^ (x ^^^ y)) &&& dif x y br) < 2 ^ 32 := Nat.and_lt_two_pow _ (by have := dif_lt x y br; omega)
  rw [walk_dif hx hy hb, max32, u32_xor_nat _ _ (by omega) hx, u32_xor_nat _ _ hx hy, u32_xor_nat _ _ (by omega) (by omega), u32_and_nat _ _ (by omega) hy,
    u32_and_nat _ _ (by omega) (dif_lt x y br), u32_or_nat _ _ (by omega) (by omega), ← borr_bits hx hy hb]
  omega

theorem join_or {hi lo : Nat} (hl : lo < 4294967296) (hh : hi < 4294967296) : bits .or .u64 ((hi : Int) * 4294967296) (lo : Int) = ((hi * 4294967296 + lo : Nat) : Int) := by
  have e : (hi : Int) * 4294967296 = ((hi * 4294967296 : Nat) : Int) := by omega
  have j : (hi * 4294967296) ||| lo = hi * 4294967296 + lo := nat_join 32 _ _ (by omega) (by omega)
  rw [e, u64_or_nat _ _ (by omega) (by omega), j]

theorem SubInv.start (p q cs : List Nat) (h : Ok cs) : SubInv p q 0 0 cs := ⟨h, Nat.zero_le _, by omega, by simp [val]⟩
theorem SubInv.set {p q : List Nat} {k br : Nat} {cs : List Nat} (h : SubInv p q k br cs) (hp : Ok p) (hq : Ok q) (hk : k < cs.length) :
    SubInv p q (k + 1) (borr (lim p k) (lim q k) br) (cs.set k (dif (lim p k) (lim q k) br)) := by
  refine ⟨h.ok.set k (dif_lt _ _ _), by rw [List.length_set]; omega, borr_le _ _ _, ?_⟩
  have e := h.eq
  have e2 := sub_limb (dif_eq (lim_lt hp k) (lim_lt hq k) h.le) (4294967296 ^ k)
  rw [take_set_succ cs k _ hk, val_append, List.length_take, Nat.min_eq_left (by omega), val_one, val_take_succ0 q, val_take_succ0 p, Nat.pow_succ]
  omega
theorem SubInv.app {p q : List Nat} {k br : Nat} {cs : List Nat} (h : SubInv p q k br cs) (hp : Ok p) (hq : Ok q) (hk : cs.length = k) :
    SubInv p q (k + 1) (borr (lim p k) (lim q k) br) (cs ++ [dif (lim p k) (lim q k) br]) := by
  refine ⟨ok_append.2 ⟨h.ok, ok_cons.2 ⟨dif_lt _ _ _, ok_nil⟩⟩, by simp; omega, borr_le _ _ _, ?_⟩
  have e := h.eq
  have e2 := sub_limb (dif_eq (lim_lt hp k) (lim_lt hq k) h.le) (4294967296 ^ k)
  rw [List.take_of_length_le (by simp; omega), val_append, hk, val_one, val_take_succ0 q, val_take_succ0 p, Nat.pow_succ]
  rw [List.take_of_length_le (by omega)] at e
  omega

theorem take_all {q : List Nat} {n : Nat} (h : val q < 4294967296 ^ n) : val (q.take n) = val q := by
  rcases Nat.lt_or_ge q.length n with hl | hl
  · rw [List.take_of_length_le (by omega)]
  · have e := val_take_drop q n hl
    rcases Nat.eq_zero_or_pos (val (q.drop n)) with h0 | h0
    · rw [h0] at e; omega
    · have : 4294967296 ^ n * 1 ≤ 4294967296 ^ n * val (q.drop n) := Nat.mul_le_mul_left _ h0
      omega

theorem SubInv.fin {p q : List Nat} {br : Nat} {cs : List Nat} (h : SubInv p q p.length br cs) (hp : Ok p) (hl : cs.length = p.length) (hge : val q ≤ val p) : val cs = val p - val q := by
  have e := h.eq
  have hvp := val_lt hp
  rw [List.take_length, List.take_of_length_le (by omega), take_all (by omega)] at e
  have h1 := val_lt h.ok
  rw [hl] at h1
  have h2 := h.le
  rcases Nat.eq_zero_or_pos br with h0 | h0
  · subst h0; omega
  · have : br = 1 := by omega
    subst this; omega

/-- What the reference's sum keeps. -/
structure AppInv (p q : List Nat) (k cr : Nat) (cs : List Nat) : Prop where
  len : cs.length = k
  ok : Ok cs
  le : cr ≤ 1
  eq : val cs + cr * 4294967296 ^ k = val (p.take k) + val (q.take k)
theorem AppInv.start (p q : List Nat) : AppInv p q 0 0 [] := ⟨rfl, ok_nil, by omega, by simp [val]⟩
theorem AppInv.step {p q : List Nat} {k cr : Nat} {cs : List Nat} (h : AppInv p q k cr cs) (hp : Ok p) (hq : Ok q) (t : Nat) (ht : t = cr + lim p k + lim q k) :
    AppInv p q (k + 1) (t / 4294967296) (cs ++ [t % 4294967296]) := by
  have h1 := lim_lt hp k
  have h2 := lim_lt hq k
  have h3 := h.le
  refine ⟨by simp [h.len], ok_append.2 ⟨h.ok, ok_cons.2 ⟨Nat.mod_lt _ (by omega), ok_nil⟩⟩, by omega, ?_⟩
  rw [val_append, h.len, val_take_succ0, val_take_succ0, Nat.pow_succ, val_one]
  have e := mul_split (4294967296 ^ k) t
  have e2 := h.eq
  rw [ht] at e
  rw [Nat.mul_add, Nat.mul_add, Nat.mul_comm (4294967296 ^ k) cr] at e
  rw [ht]
  omega
theorem AppInv.fin {p q : List Nat} {m cr : Nat} {cs : List Nat} (h : AppInv p q (m + 1) cr cs) (hp : Ok p) (hq : Ok q) (h1 : p.length ≤ m) (h2 : q.length ≤ m) : val cs = val p + val q := by
  have e := h.eq
  rw [List.take_of_length_le (by omega), List.take_of_length_le (by omega)] at e
  have b1 := val_lt hp
  have b2 := val_lt hq
  have c1 : 4294967296 ^ p.length ≤ 4294967296 ^ m := Nat.pow_le_pow_right (by omega) h1
  have c2 : 4294967296 ^ q.length ≤ 4294967296 ^ m := Nat.pow_le_pow_right (by omega) h2
  rw [Nat.pow_succ] at e
  have h3 := h.le
  rcases Nat.eq_zero_or_pos cr with h0 | h0
  · subst h0; omega
  · have : cr = 1 := by omega
    subst this; omega
end Pg
