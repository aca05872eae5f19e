/- Division of rows of limbs: plain mathematics of the loops. Conditions: none. -/
import Derived.Test.YtgehoflkbckgkaaLookP
namespace Pg

theorem val_drop_cons (xs : List Nat) (j : Nat) : val (xs.drop j) = lim xs j + 4294967296 * val (xs.drop (j + 1)) := by
  rcases Nat.lt_or_ge j xs.length with h | h
  · rw [List.drop_eq_getElem_cons h, lim_get h]; rfl
  · rw [List.drop_eq_nil_of_le h, List.drop_eq_nil_of_le (by omega), lim_behind h]; rfl

theorem drop_set_self {α} (xs : List α) (j : Nat) (v : α) : (xs.set j v).drop (j + 1) = xs.drop (j + 1) := by
  rw [List.drop_set, if_pos (by omega)]

/-- What a division by one limb keeps. -/
structure SmallInv (p : List Nat) (b k rest : Nat) (cs : List Nat) : Prop where
  len : cs.length = p.length
  ok : Ok cs
  lt : rest < b
  eq : val (p.drop k) = val (cs.drop k) * b + rest

theorem SmallInv.start (p : List Nat) {b : Nat} (hb : 0 < b) : SmallInv p b p.length 0 (List.replicate p.length 0) :=
  ⟨by simp, ok_replicate _, hb, by rw [List.drop_length, List.drop_eq_nil_of_le (by simp)]; simp [val]⟩

theorem SmallInv.step {p : List Nat} {b j rest : Nat} {cs : List Nat} (h : SmallInv p b (j + 1) rest cs) (hp : Ok p) (hj : j < p.length) (hb : b ≤ 4294967296) :
    SmallInv p b j ((rest * 4294967296 + lim p j) % b) (cs.set j ((rest * 4294967296 + lim p j) / b)) := by
  have hl := lim_lt hp j
  have hlt := h.lt
  have hq : (rest * 4294967296 + lim p j) / b < 4294967296 := by
    refine Nat.div_lt_of_lt_mul ?_
    have : (rest + 1) * 4294967296 ≤ b * 4294967296 := Nat.mul_le_mul_right _ hlt
    omega
  refine ⟨by rw [List.length_set, h.len], h.ok.set j hq, Nat.mod_lt _ (by omega), ?_⟩
  rw [val_drop_cons p j, val_drop_cons (cs.set j _) j, drop_set_self, lim_set_same _ (by rw [h.len]; exact hj), h.eq]
  have e := Nat.div_add_mod (rest * 4294967296 + lim p j) b
  generalize (rest * 4294967296 + lim p j) / b = q at *
  generalize (rest * 4294967296 + lim p j) % b = r at *
  rw [Nat.add_mul, Nat.mul_comm q b, Nat.mul_add, Nat.mul_assoc]
  omega

theorem SmallInv.done {p : List Nat} {b rest : Nat} {cs : List Nat} (h : SmallInv p b 0 rest cs) : val cs = val p / b ∧ rest = val p % b := by
  have e := h.eq
  have hlt := h.lt
  rw [List.drop_zero, List.drop_zero] at e
  rw [e, Nat.mul_comm]
  exact ⟨by rw [Nat.mul_add_div (by omega), Nat.div_eq_of_lt hlt, Nat.add_zero], by rw [Nat.mul_add_mod, Nat.mod_eq_of_lt hlt]⟩

/-! The guess. -/
def gq (u3 d2 : Nat) : Nat := min 4294967295 (u3 / d2)

theorem guess_start {u low b1 b2 : Nat} (hb1 : 0 < b1) (hlow : low < 4294967296) : gq (u * 4294967296 + low) (b1 * 4294967296 + b2) ≤ u / b1 := by
  refine Nat.le_trans (Nat.min_le_right _ _) ?_
  refine Nat.le_of_lt_succ (Nat.div_lt_of_lt_mul ?_)
  have h1 : u < b1 * (u / b1 + 1) := Nat.lt_mul_div_succ u hb1
  have h2 : (u + 1) * 4294967296 ≤ b1 * (u / b1 + 1) * 4294967296 := Nat.mul_le_mul_right _ h1
  have h3 : (b1 * 4294967296 + b2) * (u / b1).succ = b1 * (u / b1 + 1) * 4294967296 + b2 * (u / b1 + 1) := by
    rw [Nat.add_mul]; congr 1
    rw [Nat.succ_eq_add_one]; ac_rfl
  omega

theorem guess_id {q r u b1 b2 low : Nat} (h : q * b1 + r = u) : q * (b1 * 4294967296 + b2) + r * 4294967296 + low = (u * 4294967296 + low) + q * b2 := by
  rw [← h, Nat.mul_add, Nat.add_mul, Nat.mul_assoc]; omega

theorem guess_stop {q r u b1 b2 low : Nat} (h : q * b1 + r = u) (hb1 : 0 < b1) (hq : q < 4294967296) (hc : q * b2 ≤ r * 4294967296 + low)
    (hle : gq (u * 4294967296 + low) (b1 * 4294967296 + b2) ≤ q) : q = gq (u * 4294967296 + low) (b1 * 4294967296 + b2) := by
  refine Nat.le_antisymm ?_ hle
  refine Nat.le_min.2 ⟨by omega, ?_⟩
  rcases Nat.eq_zero_or_pos (b1 * 4294967296 + b2) with h0 | h0
  · omega
  rw [Nat.le_div_iff_mul_le h0]
  have := guess_id (b2 := b2) (low := low) h
  omega

theorem guess_lin {x y u r low : Nat} (e1 : x + r + low = u + y) (h1 : r + low < y) : u < x := by omega

theorem guess_down {q r u b1 b2 low : Nat} (h : q * b1 + r = u) (hb1 : 0 < b1) (hc : 4294967296 ≤ q ∨ r * 4294967296 + low < q * b2) (hle : gq (u * 4294967296 + low) (b1 * 4294967296 + b2) ≤ q) :
    0 < q ∧ gq (u * 4294967296 + low) (b1 * 4294967296 + b2) ≤ q - 1 := by
  have hq0 : 0 < q := by
    rcases hc with h1 | h1
    · omega
    · rcases Nat.eq_zero_or_pos q with h0 | h0
      · subst h0; simp at h1
      · exact h0
  refine ⟨hq0, ?_⟩
  rcases hc with h1 | h1
  · refine Nat.le_trans (Nat.min_le_left _ _) (by omega)
  · refine Nat.le_trans (Nat.min_le_right _ _) ?_
    refine Nat.le_sub_one_of_lt (Nat.div_lt_of_lt_mul ?_)
    have e1 := guess_id (b2 := b2) (low := low) h
    have e2 : (b1 * 4294967296 + b2) * q = q * (b1 * 4294967296 + b2) := Nat.mul_comm _ _
    rw [e2]
    exact guess_lin e1 h1

theorem guess_break {q r u b1 b2 low : Nat} (h : q * b1 + r = u) (hb1 : 0 < b1) (hb2 : b2 < 4294967296) (hr : 4294967296 ≤ r) (hu : u ≤ b1 * 4294967296 + b2)
    (hle : gq (u * 4294967296 + low) (b1 * 4294967296 + b2) ≤ q) : q = gq (u * 4294967296 + low) (b1 * 4294967296 + b2) := by
  have hq : q < 4294967296 := by
    rcases Nat.lt_or_ge q 4294967296 with h1 | h1
    · exact h1
    · have : 4294967296 * b1 ≤ q * b1 := Nat.mul_le_mul_right _ h1
      omega
  refine guess_stop h hb1 hq ?_ hle
  have h1 : q * b2 ≤ 4294967296 * 4294967296 := Nat.mul_le_mul (by omega) (by omega)
  have h2 : 4294967296 * 4294967296 ≤ r * 4294967296 := Nat.mul_le_mul_right _ hr
  omega

/-- The guess is the quotient, or one more. -/
theorem knuth {U D P d2 u3 : Nat} (hP : 0 < P) (hu3 : u3 = U / P) (hd2 : d2 = D / P) (hd : 4294967296 ≤ d2) (hU : U < 4294967296 * D) :
    U / D ≤ gq u3 d2 ∧ gq u3 d2 ≤ U / D + 1 := by
  have hD0 : 0 < D := by
    rcases Nat.eq_zero_or_pos D with h | h
    · subst h; simp at hd2; omega
    · exact h
  have d1 : d2 * P ≤ D := by rw [hd2]; exact Nat.div_mul_le_self _ _
  have d3 : D < (d2 + 1) * P := by rw [hd2, Nat.mul_comm]; exact Nat.lt_mul_div_succ _ hP
  have u1 : u3 * P ≤ U := by rw [hu3]; exact Nat.div_mul_le_self _ _
  have u2 : U < (u3 + 1) * P := by rw [hu3, Nat.mul_comm]; exact Nat.lt_mul_div_succ _ hP
  constructor
  · refine Nat.le_min.2 ⟨Nat.le_of_lt_succ (Nat.div_lt_of_lt_mul (by rw [Nat.mul_comm]; exact hU)), ?_⟩
    rw [Nat.le_div_iff_mul_le (by omega)]
    have h1 : U / D * D ≤ U := Nat.div_mul_le_self _ _
    have h2 : U / D * (d2 * P) ≤ U / D * D := Nat.mul_le_mul_left _ d1
    have h3 : U / D * d2 * P < (u3 + 1) * P := by
      rw [Nat.mul_assoc]; exact Nat.lt_of_le_of_lt (Nat.le_trans h2 h1) u2
    exact Nat.le_of_lt_succ (Nat.lt_of_mul_lt_mul_right h3)
  · rcases Nat.eq_zero_or_pos (gq u3 d2) with h0 | h0
    · rw [h0]; exact Nat.zero_le _
    · obtain ⟨x, hx⟩ : ∃ x, gq u3 d2 = x + 1 := ⟨gq u3 d2 - 1, by omega⟩
      rw [hx]
      refine Nat.succ_le_succ ?_
      rw [Nat.le_div_iff_mul_le hD0]
      have hle : gq u3 d2 ≤ u3 / d2 := Nat.min_le_right _ _
      have hB : gq u3 d2 ≤ 4294967295 := Nat.min_le_left _ _
      rw [hx] at hle hB
      have h1 : (x + 1) * d2 ≤ u3 := (Nat.le_div_iff_mul_le (by omega)).1 hle
      have h2 : x * D ≤ x * ((d2 + 1) * P) := Nat.mul_le_mul_left _ (by omega)
      have h3 : x * ((d2 + 1) * P) = (x * d2 + x) * P := by rw [← Nat.mul_assoc, Nat.mul_add, Nat.mul_one]
      rw [Nat.add_mul, Nat.one_mul] at h1
      have h4 : (x * d2 + x) * P ≤ u3 * P := Nat.mul_le_mul_right _ (by omega)
      omega
end Pg
