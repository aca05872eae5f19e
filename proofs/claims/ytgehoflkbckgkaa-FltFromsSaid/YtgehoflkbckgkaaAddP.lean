/- Sums and products of rows, limb by limb: plain mathematics of the loops. Conditions: none. -/
import Derived.Test.YtgehoflkbckgkaaMem
namespace Pg

/-- What a sum's loop keeps. -/
structure AddInv (p q : List Nat) (k cr : Nat) (cs : List Nat) : Prop where
  len : cs.length = p.length + 1
  ok : Ok cs
  le : cr ≤ 1
  eq : val (cs.take k) + cr * 4294967296 ^ k = val (p.take k) + val (q.take k)

theorem AddInv.start (p q : List Nat) : AddInv p q 0 0 (List.replicate (p.length + 1) 0) :=
  ⟨by simp, ok_replicate _, by omega, by simp [val]⟩

theorem mul_split (P t : Nat) : P * t = P * (t % 4294967296) + t / 4294967296 * (P * 4294967296) := by
  have h := Nat.mod_add_div t 4294967296
  have h2 : t / 4294967296 * (P * 4294967296) = P * (4294967296 * (t / 4294967296)) := by
    rw [Nat.mul_comm (t / 4294967296), Nat.mul_assoc]
  rw [h2, ← Nat.mul_add, h]

theorem AddInv.step {p q : List Nat} {k cr : Nat} {cs : List Nat} (h : AddInv p q k cr cs) (hp : Ok p) (hq : Ok q) (hk : k < p.length) (t : Nat) (ht : t = cr + lim p k + lim q k) :
    AddInv p q (k + 1) (t / 4294967296) (cs.set k (t % 4294967296)) := by
  have h1 := lim_lt hp k
  have h2 := lim_lt hq k
  have h3 := h.le
  refine ⟨by rw [List.length_set, h.len], h.ok.set k (by omega), by omega, ?_⟩
  have hl : k < cs.length := by rw [h.len]; omega
  rw [take_set_succ cs k _ hl, val_append, List.length_take, Nat.min_eq_left (by omega), val_take_succ0, val_take_succ0, Nat.pow_succ]
  have e := mul_split (4294967296 ^ k) t
  have e2 := h.eq
  rw [ht] at e
  rw [Nat.mul_add, Nat.mul_add, Nat.mul_comm (4294967296 ^ k) cr] at e
  rw [val_one, ht]
  omega

theorem AddInv.done {p q : List Nat} {cr : Nat} {cs : List Nat} (h : AddInv p q p.length cr cs) (hq : q.length ≤ p.length) : val (cs.set p.length cr) = val p + val q := by
  have hl : p.length < cs.length := by rw [h.len]; omega
  have e := h.eq
  rw [List.take_length, List.take_of_length_le hq] at e
  have e2 := take_set_succ cs p.length cr hl
  rw [List.take_of_length_le (by rw [List.length_set, h.len]; omega)] at e2
  rw [e2, val_append, List.length_take, Nat.min_eq_left (by omega), val_one, Nat.mul_comm]
  exact e

/-- What a product's outer loop keeps. -/
structure MulOut (p q : List Nat) (i : Nat) (cs : List Nat) : Prop where
  len : cs.length = p.length + q.length
  ok : Ok cs
  eq : val cs = val (p.take i) * val q
  zero : ∀ j, i + q.length ≤ j → lim cs j = 0
/-- What its inner loop keeps. -/
structure MulIn (p q : List Nat) (i k cr : Nat) (cs : List Nat) : Prop where
  len : cs.length = p.length + q.length
  ok : Ok cs
  le : cr < 4294967296
  eq : val cs + cr * 4294967296 ^ (i + k) = val (p.take i) * val q + lim p i * val (q.take k) * 4294967296 ^ i
  zero : ∀ j, i + q.length ≤ j → lim cs j = 0

theorem MulOut.start (p q : List Nat) : MulOut p q 0 (List.replicate (p.length + q.length) 0) :=
  ⟨by simp, ok_replicate _, by simp [val, val_replicate], fun j _ => lim_replicate _ _⟩
theorem MulOut.inner {p q : List Nat} {i : Nat} {cs : List Nat} (h : MulOut p q i cs) : MulIn p q i 0 0 cs :=
  ⟨h.len, h.ok, by omega, by simp [val, h.eq], h.zero⟩

theorem prod_le {a b : Nat} (ha : a < 4294967296) (hb : b < 4294967296) : a * b ≤ 18446744065119617025 :=
  Nat.mul_le_mul (show a ≤ 4294967295 by omega) (show b ≤ 4294967295 by omega)

theorem MulIn.step {p q : List Nat} {i k cr : Nat} {cs : List Nat} (h : MulIn p q i k cr cs) (hp : Ok p) (hq : Ok q) (hi : i < p.length) (hk : k < q.length) (t : Nat) (ht : t = cr + (lim p i * lim q k + lim cs (i + k))) :
    MulIn p q i (k + 1) (t / 4294967296) (cs.set (i + k) (t % 4294967296)) := by
  have h1 := prod_le (lim_lt hp i) (lim_lt hq k)
  have h2 := lim_lt h.ok (i + k)
  have h3 := h.le
  refine ⟨by rw [List.length_set, h.len], h.ok.set _ (by omega), by omega, ?_, fun j hj => ?_⟩
  · have hl : i + k < cs.length := by rw [h.len]; omega
    have e1 := val_set' (xs := cs) (i := i + k) (t % 4294967296) hl
    have e2 := mul_split (4294967296 ^ (i + k)) t
    have e3 := h.eq
    rw [val_take_succ0, show i + (k + 1) = i + k + 1 from by omega, Nat.pow_succ]
    rw [ht, Nat.mul_add, Nat.mul_add, Nat.mul_comm (4294967296 ^ (i + k)) cr, ← ht] at e2
    have e4 : lim p i * (val (q.take k) + 4294967296 ^ k * lim q k) * 4294967296 ^ i = lim p i * val (q.take k) * 4294967296 ^ i + 4294967296 ^ (i + k) * (lim p i * lim q k) := by
      rw [Nat.mul_add, Nat.add_mul, Nat.pow_add]
      congr 1
      ac_rfl
    rw [e4]
    omega
  · rw [lim_set_other _ (by omega)]
    exact h.zero j hj

theorem MulIn.done {p q : List Nat} {i cr : Nat} {cs : List Nat} (h : MulIn p q i q.length cr cs) (hi : i < p.length) :
    MulOut p q (i + 1) (cs.set (i + q.length) cr) := by
  refine ⟨by rw [List.length_set, h.len], h.ok.set _ h.le, ?_, fun j hj => ?_⟩
  · have hl : i + q.length < cs.length := by rw [h.len]; omega
    have e1 := val_set' (xs := cs) (i := i + q.length) cr hl
    have e3 := h.eq
    rw [h.zero _ (Nat.le_refl _)] at e1
    rw [List.take_length] at e3
    have e4 : (val (p.take i) + 4294967296 ^ i * lim p i) * val q = val (p.take i) * val q + lim p i * val q * 4294967296 ^ i := by
      rw [Nat.add_mul]; congr 1
      ac_rfl
    rw [val_take_succ0, e4]
    rw [Nat.mul_comm (4294967296 ^ (i + q.length)) cr] at e1
    omega
  · rw [lim_set_other _ (by omega)]
    exact h.zero j (by omega)

theorem MulOut.done {p q : List Nat} {cs : List Nat} (h : MulOut p q p.length cs) : val cs = val p * val q := by
  rw [h.eq, List.take_length]

theorem MulIn.rest {p q : List Nat} {i : Nat} {cs : List Nat} (h : MulIn p q i q.length 0 cs) : MulOut p q (i + 1) cs := by
  refine ⟨h.len, h.ok, ?_, fun j hj => h.zero j (by omega)⟩
  have e3 := h.eq
  rw [List.take_length] at e3
  have e4 : (val (p.take i) + 4294967296 ^ i * lim p i) * val q = val (p.take i) * val q + lim p i * val q * 4294967296 ^ i := by
    rw [Nat.add_mul]; congr 1
    ac_rfl
  rw [val_take_succ0, e4]
  omega

theorem cast3 (a x y z : Nat) : (a : Int) + (x : Int) * (y : Int) + (z : Int) = ((a + (x * y + z) : Nat) : Int) := by
  rw [Int.natCast_add, Int.natCast_add, Int.natCast_mul, Int.add_assoc]
theorem cast3_div (a x y z : Nat) : ((a : Int) + (x : Int) * (y : Int) + (z : Int)) / 4294967296 = ((((a + (x * y + z)) / 4294967296 : Nat)) : Int) := by
  rw [cast3, Int.natCast_ediv]; rfl
theorem cast3_mod (a x y z : Nat) : ((a : Int) + (x : Int) * (y : Int) + (z : Int)) % 4294967296 = ((((a + (x * y + z)) % 4294967296 : Nat)) : Int) := by
  rw [cast3, Int.natCast_emod]; rfl
end Pg
