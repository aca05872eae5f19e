/- Which of two numbers is greater, and one less the other: plain mathematics of the loops. Conditions: none. -/
import Derived.Test.YtgehoflkbckgkaaShP
namespace Pg

/-- -1, 0 or 1. -/
def cmpv (a b : Nat) : Int := if a < b then -1 else if b < a then 1 else 0
theorem cmpv_lt {a b : Nat} (h : a < b) : cmpv a b = -1 := by simp [cmpv, h]
theorem cmpv_gt {a b : Nat} (h : b < a) : cmpv a b = 1 := by unfold cmpv; rw [if_neg (by omega), if_pos h]
theorem cmpv_eq {a b : Nat} (h : a = b) : cmpv a b = 0 := by unfold cmpv; rw [if_neg (by omega), if_neg (by omega)]

theorem cmp_len {a b : Nat} (h : (limbs a).length < (limbs b).length) : a < b := by
  have h1 := lt_pow_length a
  have hb : b ≠ 0 := by
    intro e; subst e
    simp [limbs_zero] at h
  have h2 := pow_length_le hb
  have h3 : 4294967296 ^ (limbs a).length ≤ 4294967296 ^ ((limbs b).length - 1) := Nat.pow_le_pow_right (by omega) (by omega)
  omega

theorem drop_eq {p q : List Nat} {k : Nat} (hl : p.length = q.length) (h : ∀ j, k ≤ j → lim p j = lim q j) : p.drop k = q.drop k := by
  refine List.ext_getElem (by rw [List.length_drop, List.length_drop, hl]) fun i h1 h2 => ?_
  have h3 : k + i < p.length := by rw [List.length_drop] at h1; omega
  have h4 : k + i < q.length := by omega
  rw [List.getElem_drop, List.getElem_drop, ← lim_get h3, ← lim_get h4]
  exact h _ (by omega)

theorem cmp_at {p q : List Nat} {k : Nat} (hp : Ok p) (hl : p.length = q.length) (hk : k < p.length) (h : ∀ j, k < j → lim p j = lim q j) (hlt : lim p k < lim q k) : val p < val q := by
  have e1 := val_take_drop p (k + 1) (by omega)
  have e2 := val_take_drop q (k + 1) (by omega)
  rw [drop_eq hl (k := k + 1) (fun j hj => h j (by omega))] at e1
  rw [val_take_succ0] at e1 e2
  have h1 := val_lt (hp.take k)
  rw [List.length_take, Nat.min_eq_left (by omega)] at h1
  have h2 : 4294967296 ^ k * (lim p k + 1) ≤ 4294967296 ^ k * lim q k := Nat.mul_le_mul_left _ (by omega)
  rw [Nat.mul_add] at h2
  omega

theorem cmp_all {p q : List Nat} (hl : p.length = q.length) (h : ∀ j, lim p j = lim q j) : val p = val q := by
  have := drop_eq hl (k := 0) (fun j _ => h j)
  simp at this
  rw [this]

/-- What a difference's loop keeps. -/
structure SubInv (p q : List Nat) (k br : Nat) (cs : List Nat) : Prop where
  ok : Ok cs
  len : k ≤ cs.length
  le : br ≤ 1
  eq : val (cs.take k) + val (q.take k) = val (p.take k) + br * 4294967296 ^ k

theorem sub_limb {x y br d b2 : Nat} (h : d + (y + br) = x + b2 * 4294967296) (P : Nat) : P * d + P * y + br * P = P * x + b2 * (P * 4294967296) := by
  have e : P * (d + (y + br)) = P * (x + b2 * 4294967296) := by rw [h]
  rw [Nat.mul_add, Nat.mul_add, Nat.mul_add] at e
  have e2 : P * br = br * P := Nat.mul_comm _ _
  have e3 : P * (b2 * 4294967296) = b2 * (P * 4294967296) := by ac_rfl
  omega

theorem SubInv.done {p q : List Nat} {br : Nat} {cs : List Nat} (h : SubInv p q p.length br cs) (hl : cs.length = p.length) (hq : q.length ≤ p.length) (hge : val q ≤ val p) : val cs = val p - val q := by
  have e := h.eq
  rw [List.take_length, List.take_of_length_le (by omega), List.take_of_length_le hq] at e
  have h1 := val_lt h.ok
  rw [hl] at h1
  have h2 := h.le
  rcases Nat.eq_zero_or_pos br with h0 | h0
  · subst h0; omega
  · have : br = 1 := by omega
    subst this; omega
end Pg
