/- The nearest number of 64 bits: plain mathematics over whole numbers · The nearest number of 64 bits, by the two programs' roads: plain mathematics. Conditions: those that each theorem names. -/
import Derived.Test.YtbhieajpodnfpaaGreatZ10
import Ieee.Arith
namespace Pg

/-- n by d, to the nearest; half to even. -/
def rnd (n d : Nat) : Nat := n / d + (if d < 2 * (n % d) ∨ (d = 2 * (n % d) ∧ n / d % 2 = 1) then 1 else 0)
theorem rnd_scale (n d : Nat) {c : Nat} (hc : 0 < c) : rnd (n * c) (d * c) = rnd n d := by
  unfold rnd
  rw [Nat.mul_div_mul_right _ _ hc, Nat.mul_mod_mul_right]
  have e1 : (d * c < 2 * (n % d * c)) ↔ (d < 2 * (n % d)) := by
    rw [← Nat.mul_assoc]; exact Nat.mul_lt_mul_right hc
  have e2 : (d * c = 2 * (n % d * c)) ↔ (d = 2 * (n % d)) := by
    rw [← Nat.mul_assoc]; exact Nat.mul_left_inj (by omega)
  simp only [e1, e2]
theorem rnd_le (n d : Nat) : n / d ≤ rnd n d ∧ rnd n d ≤ n / d + 1 := by unfold rnd; split <;> omega
theorem rnd_exact {n d m : Nat} (hd : 0 < d) (h : n = m * d) : rnd n d = m := by
  subst h
  unfold rnd
  rw [Nat.mul_mod_left, Nat.mul_div_cancel _ hd, if_neg (by omega)]; rfl

/-- The place of the last bit that is kept, counted from the least one (2 to the power -1074); n is the number 2^1074 times. -/
def fk (n D : Nat) : Nat := if n / D < 9007199254740992 then 0 else blen (n / D) - 53
/-- The word of the nearest number of 64 bits, without a sign. -/
def frung (N D : Nat) : Nat := min (fk (N * 2 ^ 1074) D * 4503599627370496 + rnd (N * 2 ^ 1074) (D * 2 ^ fk (N * 2 ^ 1074) D)) 9218868437227405312

theorem fk_eq {n D k : Nat} (hD : 0 < D) (h1 : n < 9007199254740992 * 2 ^ k * D) (h2 : k = 0 ∨ 4503599627370496 * 2 ^ k * D ≤ n) : fk n D = k := by
  have hq : n / D < 9007199254740992 * 2 ^ k := (Nat.div_lt_iff_lt_mul hD).2 h1
  unfold fk
  rcases h2 with rfl | h2
  · rw [if_pos (by simpa using hq)]
  · have hq2 : 4503599627370496 * 2 ^ k ≤ n / D := (Nat.le_div_iff_mul_le hD).2 h2
    have e1 : 9007199254740992 * 2 ^ k = 2 ^ (52 + k + 1) := by rw [show 52 + k + 1 = 53 + k by omega, Nat.pow_add]
    have e2 : 4503599627370496 * 2 ^ k = 2 ^ (52 + k) := by rw [Nat.pow_add]
    rw [e1] at hq
    rw [e2] at hq2
    have hb := blen_unique hq2 hq
    by_cases h0 : n / D < 9007199254740992
    · rw [if_pos h0]
      have : 2 ^ (52 + k) < 2 ^ 53 := Nat.lt_of_le_of_lt hq2 h0
      have := (Nat.pow_lt_pow_iff_right (a := 2) (by omega)).1 this
      omega
    · rw [if_neg h0, hb]; omega
theorem fk_spec {n D : Nat} (hD : 0 < D) : n < 9007199254740992 * 2 ^ fk n D * D ∧ (fk n D = 0 ∨ 4503599627370496 * 2 ^ fk n D * D ≤ n) := by
  by_cases h0 : n / D < 9007199254740992
  · have e : fk n D = 0 := by unfold fk; rw [if_pos h0]
    rw [e]
    exact ⟨by simpa using (Nat.div_lt_iff_lt_mul hD).1 h0, .inl rfl⟩
  · have e : fk n D = blen (n / D) - 53 := by unfold fk; rw [if_neg h0]
    obtain ⟨b1, b2, b3⟩ := blen_bounds (n := n / D) (by omega)
    have hb : 54 ≤ blen (n / D) := by
      rcases Nat.lt_or_ge (blen (n / D)) 54 with h | h
      · have := Nat.lt_of_lt_of_le b3 (Nat.pow_le_pow_right (by omega) (show blen (n / D) ≤ 53 by omega))
        omega
      · exact h
    rw [e]
    obtain ⟨k, hk⟩ : ∃ k, blen (n / D) = k + 53 := ⟨blen (n / D) - 53, by omega⟩
    rw [hk] at b2 b3 ⊢
    rw [show k + 53 - 53 = k by omega]
    refine ⟨(Nat.div_lt_iff_lt_mul hD).1 ?_, .inr ((Nat.le_div_iff_mul_le hD).1 ?_)⟩
    · rw [show k + 53 = 53 + k by omega, Nat.pow_add] at b3; exact b3
    · rw [show k + 53 - 1 = 52 + k by omega, Nat.pow_add] at b2; exact b2

/-- The kept whole number, by what the two programs shift. -/
theorem rnd_place' (L N D k : Nat) : rnd (N * 2 ^ (L - k)) (D * 2 ^ (k - L)) = rnd (N * 2 ^ L) (D * 2 ^ k) := by
  rcases Nat.le_total k L with h | h
  · rw [show k - L = 0 by omega, Nat.pow_zero, Nat.mul_one, ← rnd_scale (N * 2 ^ (L - k)) D (Nat.two_pow_pos k), Nat.mul_assoc, ← Nat.pow_add, show L - k + k = L by omega]
  · rw [show L - k = 0 by omega, Nat.pow_zero, Nat.mul_one, ← rnd_scale N (D * 2 ^ (k - L)) (Nat.two_pow_pos L), Nat.mul_assoc D, ← Nat.pow_add, show k - L + L = k by omega]
theorem div_place' (L N D k : Nat) : N * 2 ^ (L - k) / (D * 2 ^ (k - L)) = N * 2 ^ L / (D * 2 ^ k) := by
  rcases Nat.le_total k L with h | h
  · rw [show k - L = 0 by omega, Nat.pow_zero, Nat.mul_one, ← Nat.mul_div_mul_right (N * 2 ^ (L - k)) D (Nat.two_pow_pos k), Nat.mul_assoc, ← Nat.pow_add, show L - k + k = L by omega]
  · rw [show L - k = 0 by omega, Nat.pow_zero, Nat.mul_one, ← Nat.mul_div_mul_right N (D * 2 ^ (k - L)) (Nat.two_pow_pos L), Nat.mul_assoc D, ← Nat.pow_add, show k - L + L = k by omega]
theorem rnd_place (N D k : Nat) : rnd (N * 2 ^ (1074 - k)) (D * 2 ^ (k - 1074)) = rnd (N * 2 ^ 1074) (D * 2 ^ k) := rnd_place' 1074 N D k
theorem div_place (N D k : Nat) : N * 2 ^ (1074 - k) / (D * 2 ^ (k - 1074)) = N * 2 ^ 1074 / (D * 2 ^ k) := div_place' 1074 N D k

/-! The first place that is tried: by how many bits both take. -/
theorem ratio_bounds {N D : Nat} (hN : N ≠ 0) (hD : D ≠ 0) : 2 ^ blen N * D < 2 * (N * 2 ^ blen D) ∧ N * 2 ^ blen D < 2 * (2 ^ blen N * D) := by
  obtain ⟨a1, a2, a3⟩ := blen_bounds hN
  obtain ⟨b1, b2, b3⟩ := blen_bounds hD
  obtain ⟨x, hx⟩ : ∃ x, blen N = x + 1 := ⟨blen N - 1, by omega⟩
  obtain ⟨y, hy⟩ : ∃ y, blen D = y + 1 := ⟨blen D - 1, by omega⟩
  rw [hx] at a2 a3 ⊢
  rw [hy] at b2 b3 ⊢
  simp only [Nat.add_sub_cancel] at a2 b2
  have px : 2 ^ (x + 1) = 2 ^ x * 2 := Nat.pow_succ ..
  have py : 2 ^ (y + 1) = 2 ^ y * 2 := Nat.pow_succ ..
  rw [px] at a3 ⊢
  rw [py] at b3 ⊢
  constructor
  · have h1 : 2 ^ x * D ≤ N * D := Nat.mul_le_mul_right _ a2
    have h2 : N * D < N * (2 ^ y * 2) := Nat.mul_lt_mul_of_pos_left b3 (by omega)
    have e : 2 ^ x * 2 * D = 2 * (2 ^ x * D) := by ac_rfl
    omega
  · have h1 : N * (2 ^ y * 2) < 2 ^ x * 2 * (2 ^ y * 2) := Nat.mul_lt_mul_of_pos_right a3 (by have := Nat.two_pow_pos y; omega)
    have h2 : 2 ^ x * 2 * 2 ^ y ≤ 2 ^ x * 2 * D := Nat.mul_le_mul_left _ b2
    have e : 2 ^ x * 2 * (2 ^ y * 2) = 2 * (2 ^ x * 2 * 2 ^ y) := by ac_rfl
    omega
end Pg
namespace Pg
/-- The word of the nearest number of 64 bits. -/
def fword (neg : Bool) (N D : Nat) : Nat := if frung N D = 0 then 0 else if neg then 9223372036854775808 + frung N D else frung N D

/-- A road to the place and the kept number. -/
structure Place (N D k u : Nat) : Prop where
  q_lt : N * 2 ^ (1074 - k) / (D * 2 ^ (k - 1074)) < 9007199254740992
  u_le : u ≤ 9007199254740992
  norm : k = 0 ∨ 4503599627370496 ≤ N * 2 ^ (1074 - k) / (D * 2 ^ (k - 1074))
  unorm : k = 0 ∨ 4503599627370496 ≤ u
  kept : u = rnd (N * 2 ^ (1074 - k)) (D * 2 ^ (k - 1074))
  rung : frung N D = min (k * 4503599627370496 + u) 9218868437227405312
theorem place_of {N D k : Nat} (hD : 0 < D) (h1 : N * 2 ^ 1074 < 9007199254740992 * 2 ^ k * D) (h2 : k = 0 ∨ 4503599627370496 * 2 ^ k * D ≤ N * 2 ^ 1074) :
    Place N D k (rnd (N * 2 ^ (1074 - k)) (D * 2 ^ (k - 1074))) := by
  have hk := fk_eq hD h1 h2
  have hpk := Nat.two_pow_pos k
  have hDk : 0 < D * 2 ^ k := Nat.mul_pos hD hpk
  have q1 : N * 2 ^ 1074 / (D * 2 ^ k) < 9007199254740992 := (Nat.div_lt_iff_lt_mul hDk).2 (by rw [Nat.mul_comm D, ← Nat.mul_assoc]; exact h1)
  have q2 : k = 0 ∨ 4503599627370496 ≤ N * 2 ^ 1074 / (D * 2 ^ k) := h2.imp id fun h => (Nat.le_div_iff_mul_le hDk).2 (by rw [Nat.mul_comm D, ← Nat.mul_assoc]; exact h)
  have hle := rnd_le (N * 2 ^ (1074 - k)) (D * 2 ^ (k - 1074))
  rw [← div_place] at q1 q2
  refine ⟨q1, by omega, q2, q2.imp id fun h => by omega, rfl, ?_⟩
  unfold frung
  rw [hk, rnd_place]

/-! Four inequalities between powers of two. -/
theorem pow_up {N D bN bD k L : Nat} (r : N * 2 ^ bD < 2 * (2 ^ bN * D)) (h : bN + 1 + L ≤ 54 + k + bD) : N * 2 ^ L < 18014398509481984 * 2 ^ k * D := by
  refine Nat.lt_of_mul_lt_mul_right (a := 2 ^ bD) ?_
  have e1 : N * 2 ^ L * 2 ^ bD = N * 2 ^ bD * 2 ^ L := by ac_rfl
  rw [e1]
  refine Nat.lt_of_lt_of_le (Nat.mul_lt_mul_of_pos_right r (Nat.two_pow_pos _)) ?_
  have e2 : 2 * (2 ^ bN * D) * 2 ^ L = 2 ^ (bN + 1 + L) * D := by
    rw [Nat.pow_add 2 (bN + 1), Nat.pow_succ]; ac_rfl
  have e3 : 18014398509481984 * 2 ^ k * D * 2 ^ bD = 2 ^ (54 + k + bD) * D := by
    rw [Nat.pow_add, Nat.pow_add 2 54]
    have : (18014398509481984 : Nat) = 2 ^ 54 := by decide
    rw [this]; ac_rfl
  rw [e2, e3]
  exact Nat.mul_le_mul_right _ (Nat.pow_le_pow_right (by omega) h)
theorem pow_low {N D bN bD k L : Nat} (r : 2 ^ bN * D < 2 * (N * 2 ^ bD)) (h : 53 + k + bD ≤ bN + L) : 4503599627370496 * 2 ^ k * D ≤ N * 2 ^ L := by
  have hp := Nat.two_pow_pos bD
  refine Nat.le_of_mul_le_mul_right (c := 2 * 2 ^ bD) ?_ (by omega)
  have e1 : N * 2 ^ L * (2 * 2 ^ bD) = 2 * (N * 2 ^ bD) * 2 ^ L := by ac_rfl
  rw [e1]
  refine Nat.le_trans ?_ (Nat.mul_le_mul_right _ (Nat.le_of_lt r))
  have e2 : 2 ^ bN * D * 2 ^ L = 2 ^ (bN + L) * D := by rw [Nat.pow_add]; ac_rfl
  have e3 : 4503599627370496 * 2 ^ k * D * (2 * 2 ^ bD) = 2 ^ (53 + k + bD) * D := by
    rw [Nat.pow_add, Nat.pow_add 2 53]
    have : (2 : Nat) ^ 53 = 4503599627370496 * 2 := by decide
    rw [this]; ac_rfl
  rw [e2, e3]
  exact Nat.mul_le_mul_right _ (Nat.pow_le_pow_right (by omega) h)
theorem pow_lt' {N D x z k L : Nat} (r : N * 2 ^ z < D * 2 ^ (x + 1)) (h : x + 1 + L ≤ 53 + k + z) : N * 2 ^ L < 9007199254740992 * 2 ^ k * D := by
  refine Nat.lt_of_mul_lt_mul_right (a := 2 ^ z) ?_
  have e1 : N * 2 ^ L * 2 ^ z = N * 2 ^ z * 2 ^ L := by ac_rfl
  rw [e1]
  refine Nat.lt_of_lt_of_le (Nat.mul_lt_mul_of_pos_right r (Nat.two_pow_pos _)) ?_
  have e2 : D * 2 ^ (x + 1) * 2 ^ L = 2 ^ (x + 1 + L) * D := by rw [Nat.pow_add 2 (x + 1)]; ac_rfl
  have e3 : 9007199254740992 * 2 ^ k * D * 2 ^ z = 2 ^ (53 + k + z) * D := by
    rw [Nat.pow_add 2 (53 + k), Nat.pow_add 2 53]
    have : (9007199254740992 : Nat) = 2 ^ 53 := by decide
    rw [this]; ac_rfl
  rw [e2, e3]
  exact Nat.mul_le_mul_right _ (Nat.pow_le_pow_right (by omega) h)
theorem pow_ge {N D x z k L : Nat} (r : D * 2 ^ x ≤ N * 2 ^ z) (h : 52 + k + z ≤ x + L) : 4503599627370496 * 2 ^ k * D ≤ N * 2 ^ L := by
  refine Nat.le_of_mul_le_mul_right (c := 2 ^ z) ?_ (Nat.two_pow_pos _)
  have e1 : N * 2 ^ L * 2 ^ z = N * 2 ^ z * 2 ^ L := by ac_rfl
  rw [e1]
  refine Nat.le_trans ?_ (Nat.mul_le_mul_right _ r)
  have e2 : D * 2 ^ x * 2 ^ L = 2 ^ (x + L) * D := by rw [Nat.pow_add 2 x]; ac_rfl
  have e3 : 4503599627370496 * 2 ^ k * D * 2 ^ z = 2 ^ (52 + k + z) * D := by
    rw [Nat.pow_add 2 (52 + k), Nat.pow_add 2 52]
    have : (4503599627370496 : Nat) = 2 ^ 52 := by decide
    rw [this]; ac_rfl
  rw [e2, e3]
  exact Nat.mul_le_mul_right _ (Nat.pow_le_pow_right (by omega) h)

/-- The first program's place, first tried at 'how many bits'. -/
theorem to_plan {N D : Nat} (hN : N ≠ 0) (hD : D ≠ 0) : ∃ k0, k0 = blen N + 1021 - blen D ∧ N * 2 ^ (1074 - k0) / (D * 2 ^ (k0 - 1074)) < 18014398509481984 ∧
    (N * 2 ^ (1074 - k0) / (D * 2 ^ (k0 - 1074)) < 9007199254740992 → Place N D k0 (rnd (N * 2 ^ (1074 - k0)) (D * 2 ^ (k0 - 1074)))) ∧
    (9007199254740992 ≤ N * 2 ^ (1074 - k0) / (D * 2 ^ (k0 - 1074)) → Place N D (k0 + 1) (rnd (N * 2 ^ (1074 - (k0 + 1))) (D * 2 ^ (k0 + 1 - 1074)))) := by
  refine ⟨_, rfl, ?_⟩
  obtain ⟨k, hk⟩ : ∃ k, k = blen N + 1021 - blen D := ⟨_, rfl⟩
  rw [← hk]
  obtain ⟨r1, r2⟩ := ratio_bounds hN hD
  have hDp : 0 < D := by omega
  have hpk := Nat.two_pow_pos k
  have hDk : 0 < D * 2 ^ k := Nat.mul_pos hDp hpk
  have hpb := Nat.two_pow_pos (blen D)
  have up : N * 2 ^ 1074 < 18014398509481984 * 2 ^ k * D := pow_up (L := 1074) r2 (by omega)
  have low : k = 0 ∨ 4503599627370496 * 2 ^ k * D ≤ N * 2 ^ 1074 := by
    by_cases h0 : k = 0
    · exact .inl h0
    · exact .inr (pow_low (L := 1074) r1 (by omega))
  have q54 : N * 2 ^ (1074 - k) / (D * 2 ^ (k - 1074)) < 18014398509481984 := by
    rw [div_place]
    exact (Nat.div_lt_iff_lt_mul hDk).2 (by rw [Nat.mul_comm D, ← Nat.mul_assoc]; exact up)
  refine ⟨q54, fun h => ?_, fun h => ?_⟩
  · rw [div_place] at h
    refine place_of hDp ?_ low
    have := (Nat.div_lt_iff_lt_mul hDk).1 h
    rwa [Nat.mul_comm D, ← Nat.mul_assoc] at this
  · rw [div_place] at h
    have h' := (Nat.le_div_iff_mul_le hDk).1 h
    rw [Nat.mul_comm D, ← Nat.mul_assoc] at h'
    have e2 : (2 : Nat) ^ (k + 1) = 2 ^ k * 2 := Nat.pow_succ ..
    refine place_of hDp ?_ (.inr ?_)
    · have e1 : 9007199254740992 * 2 ^ (k + 1) * D = 18014398509481984 * 2 ^ k * D := by
        rw [e2, show (18014398509481984 : Nat) = 9007199254740992 * 2 by decide]; ac_rfl
      rw [e1]; exact up
    · have e1 : 4503599627370496 * 2 ^ (k + 1) * D = 9007199254740992 * 2 ^ k * D := by
        rw [e2, show (9007199254740992 : Nat) = 4503599627370496 * 2 by decide]; ac_rfl
      rw [e1]; exact h'

/-- The document's answer's place: e is how many bits more, low whether N/D is below 2^e. -/
theorem ref_plan {N D x y k : Nat} (hN : N ≠ 0) (hD : D ≠ 0) (hxy : x = blen N - blen D) (hyx : y = blen D - blen N) (b : Nat) (hb : b = if N * 2 ^ y < D * 2 ^ x then 1 else 0) (hk : k = blen N + 1022 - blen D - b) :
    Place N D k (rnd (N * 2 ^ (1074 - k)) (D * 2 ^ (k - 1074))) := by
  obtain ⟨r1, r2⟩ := ratio_bounds hN hD
  have hDp : 0 < D := by omega
  have hb1 : b ≤ 1 := by rw [hb]; split <;> omega
  -- N/D is below 2^(e + 1) and at least 2^e
  have hlt : N * 2 ^ (y + b) < D * 2 ^ (x + 1) := by
    by_cases c : N * 2 ^ y < D * 2 ^ x
    · rw [if_pos c] at hb
      rw [hb, Nat.pow_succ, Nat.pow_succ]
      have e1 : N * (2 ^ y * 2) = N * 2 ^ y * 2 := by ac_rfl
      have e2 : D * (2 ^ x * 2) = D * 2 ^ x * 2 := by ac_rfl
      rw [e1, e2]
      exact Nat.mul_lt_mul_of_pos_right c (by omega)
    · rw [if_neg c] at hb
      rw [hb, Nat.add_zero, Nat.pow_succ]
      refine Nat.lt_of_mul_lt_mul_right (a := 2 ^ min (blen N) (blen D)) ?_
      have e1 : N * 2 ^ y * 2 ^ min (blen N) (blen D) = N * 2 ^ blen D := by rw [Nat.mul_assoc, ← Nat.pow_add]; congr 2; omega
      have e2 : D * (2 ^ x * 2) * 2 ^ min (blen N) (blen D) = 2 * (2 ^ blen N * D) := by
        have : 2 ^ blen N = 2 ^ x * 2 ^ min (blen N) (blen D) := by rw [← Nat.pow_add]; congr 1; omega
        rw [this]; ac_rfl
      rw [e1, e2]; exact r2
  have hge : D * 2 ^ x ≤ N * 2 ^ (y + b) := by
    by_cases c : N * 2 ^ y < D * 2 ^ x
    · rw [if_pos c] at hb
      rw [hb, Nat.pow_succ]
      refine Nat.le_of_lt (Nat.lt_of_mul_lt_mul_right (a := 2 ^ min (blen N) (blen D)) ?_)
      have e1 : N * (2 ^ y * 2) * 2 ^ min (blen N) (blen D) = 2 * (N * 2 ^ blen D) := by
        have : 2 ^ blen D = 2 ^ y * 2 ^ min (blen N) (blen D) := by rw [← Nat.pow_add]; congr 1; omega
        rw [this]; ac_rfl
      have e2 : D * 2 ^ x * 2 ^ min (blen N) (blen D) = 2 ^ blen N * D := by rw [Nat.mul_assoc, ← Nat.pow_add, Nat.mul_comm]; congr 2; omega
      rw [e1, e2]; exact r1
    · rw [if_neg c] at hb
      rw [hb, Nat.add_zero]; omega
  clear hb r1 r2
  refine place_of hDp (pow_lt' (L := 1074) hlt (by omega)) ?_
  by_cases h0 : k = 0
  · exact .inl h0
  · exact .inr (pow_ge (L := 1074) hge (by omega))
end Pg
