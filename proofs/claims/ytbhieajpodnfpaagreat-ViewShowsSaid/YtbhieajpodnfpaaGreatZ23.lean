/- Words of numbers stand as the numbers; no neighbouring word is nearer. Plain. Conditions: those that each theorem names. -/
import Derived.Test.YtbhieajpodnfpaaGreatZ22
namespace Pg
open Ieee
/-- A word of a sign and a rung. -/
def sw (s : Bool) (x : Nat) : Nat := if s then 9223372036854775808 + x else x
theorem read_sw (s : Bool) {x : Nat} (h : x < 9218868437227405312) : ∃ (M k : Nat), double.read (sw s x) = .number s M (k - 1074 : Int) ∧ wval x = M * 2 ^ k := by
  obtain ⟨M, k, e1, e2, e3⟩ := read_pos h
  have v1 := wval_eq x
  rw [← e2, ← e3] at v1
  refine ⟨M, k, ?_, v1⟩
  cases s
  · exact e1
  · have e0 : sw true x = 9223372036854775808 + x := rfl
    rw [e0]
    unfold Format.read at e1 ⊢
    simp only [signWeight_eq, binade_eq, infRung_eq, leastPlace_eq] at e1 ⊢
    have a1 : x / 9223372036854775808 = 0 := Nat.div_eq_of_lt (by omega)
    have a2 : x % 9223372036854775808 = x := Nat.mod_eq_of_lt (by omega)
    have a3 : (9223372036854775808 + x) / 9223372036854775808 = 1 := by omega
    have a4 : (9223372036854775808 + x) % 9223372036854775808 = x := by omega
    rw [a1, a2] at e1
    rw [a3, a4]
    by_cases c : x < 4503599627370496
    · rw [if_pos c] at e1 ⊢
      injection e1 with r1 r2 r3
      rw [r2, r3]; rfl
    · rw [if_neg c, if_pos h] at e1 ⊢
      injection e1 with r1 r2 r3
      rw [r2, r3]; rfl
theorem read_swinf (s : Bool) : double.read (sw s 9218868437227405312) = .infinity s := by cases s <;> decide +kernel
theorem signed_sg (s : Bool) (M u : Nat) : signed s M u = sg s (M * 2 ^ u) := by
  unfold signed sg; rw [Nat.shiftLeft_eq]
theorem cmp_sg (s t : Bool) {A B x y : Nat} (h1 : A < B ↔ x < y) (h2 : B < A ↔ y < x) (h3 : A = 0 ↔ x = 0) (h4 : B = 0 ↔ y = 0) : compare (sg s A) (sg t B) = compare (sg s x) (sg t y) := by
  have h5 : A = B ↔ x = y := by omega
  unfold sg
  cases s <;> cases t <;> simp only [compare, compareOfLessAndEq, Bool.false_eq_true, if_true, if_false] <;> (repeat' split) <;> first | rfl | omega
theorem wval_lt_iff (x y : Nat) : wval x < wval y ↔ x < y := by
  constructor
  · intro h
    rcases Nat.lt_trichotomy x y with h1 | rfl | h1
    · exact h1
    · exact absurd h (Nat.lt_irrefl _)
    · exact absurd (wval_lt h1) (by omega)
  · exact wval_lt
theorem wval_zero : wval 0 = 0 := by unfold wval; rw [if_pos (by decide)]
theorem wval_le {x y : Nat} (h : x ≤ y) : wval x ≤ wval y := by
  rcases Nat.lt_or_eq_of_le h with h | rfl
  · exact Nat.le_of_lt (wval_lt h)
  · exact Nat.le_refl _
theorem lt_scale {A B P : Nat} (hP : 0 < P) : A < B ↔ A * P < B * P := (Nat.mul_lt_mul_right hP).symm
theorem order_sw (s t : Bool) {x y : Nat} (hx : x ≤ 9218868437227405312) (hy : y ≤ 9218868437227405312) : double.order (sw s x) (sw t y) = some (compare (sg s x) (sg t y)) := by
  unfold Format.order
  rcases Nat.lt_or_eq_of_le hx with hx | rfl
  · obtain ⟨M, k, e1, v1⟩ := read_sw s hx
    rcases Nat.lt_or_eq_of_le hy with hy | rfl
    · obtain ⟨M', k', e1', v1'⟩ := read_sw t hy
      rw [e1, e1']
      simp only [Datum.order]
      obtain ⟨m, hm⟩ : ∃ m : Nat, m = min k k' := ⟨_, rfl⟩
      have a1 : ((k : Int) - 1074 - min ((k : Int) - 1074) ((k' : Int) - 1074)).toNat = k - m := by omega
      have a2 : ((k' : Int) - 1074 - min ((k : Int) - 1074) ((k' : Int) - 1074)).toNat = k' - m := by omega
      rw [a1, a2, signed_sg, signed_sg]
      have hP := Nat.two_pow_pos m
      have b1 : M * 2 ^ (k - m) * 2 ^ m = wval x := by rw [v1, Nat.mul_assoc, ← Nat.pow_add, show k - m + m = k by omega]
      have b2 : M' * 2 ^ (k' - m) * 2 ^ m = wval y := by rw [v1', Nat.mul_assoc, ← Nat.pow_add, show k' - m + m = k' by omega]
      generalize M * 2 ^ (k - m) = A at *
      generalize M' * 2 ^ (k' - m) = B at *
      have z : ∀ A x, A * 2 ^ m = wval x → (A = 0 ↔ x = 0) := fun A x h => by
        have h1 := wval_lt_iff 0 x
        have h2 := @lt_scale 0 A _ hP
        rw [wval_zero] at h1
        rw [Nat.zero_mul, h] at h2
        omega
      refine congrArg some (cmp_sg s t ?_ ?_ (z A x b1) (z B y b2))
      · rw [lt_scale hP, b1, b2, wval_lt_iff]
      · rw [lt_scale hP, b1, b2, wval_lt_iff]
    · rw [e1, read_swinf]
      simp only [Datum.order]
      refine congrArg some ?_
      unfold sg
      cases s <;> cases t <;> simp only [compare, compareOfLessAndEq, Bool.false_eq_true, if_true, if_false] <;> (repeat' split) <;> first | rfl | omega
  · rcases Nat.lt_or_eq_of_le hy with hy | rfl
    · obtain ⟨M', k', e1', v1'⟩ := read_sw t hy
      rw [e1', read_swinf]
      simp only [Datum.order]
      refine congrArg some ?_
      unfold sg
      cases s <;> cases t <;> simp only [compare, compareOfLessAndEq, Bool.false_eq_true, if_true, if_false] <;> (repeat' split) <;> first | rfl | omega
    · rw [read_swinf, read_swinf]
      cases s <;> cases t <;> decide +kernel

/-- A number's nearest one as a whole number that keeps the sign. -/
def fs (q : Rat) : Int := sg (rneg q) (frung (rnum q) q.den)
theorem fw_sw (q : Rat) : ∃ s R, fw q = sw s R ∧ R ≤ 9218868437227405312 ∧ R = frung (rnum q) q.den ∧ (R = 0 ∧ s = false ∨ R ≠ 0 ∧ s = rneg q) ∧ sg s R = fs q := by
  obtain ⟨R, h0, h1, h2⟩ := fw_cases q
  unfold fs
  rw [← h0]
  rcases h2 with ⟨h3, h4⟩ | ⟨h3, h4, h5⟩ | ⟨h3, h4, h5⟩
  · subst h3
    refine ⟨false, 0, h4, h1, rfl, .inl ⟨rfl, rfl⟩, ?_⟩
    unfold sg; cases rneg q <;> rfl
  · exact ⟨false, R, h5, h1, rfl, .inr ⟨h3, h4.symm⟩, by rw [h4]⟩
  · exact ⟨true, R, h5, h1, rfl, .inr ⟨h3, h4.symm⟩, by rw [h4]⟩
theorem fw_order (p q : Rat) : double.order (fw p) (fw q) = some (compare (fs p) (fs q)) := by
  obtain ⟨s, R, h1, h2, _, _, h3⟩ := fw_sw p
  obtain ⟨t, S, g1, g2, _, _, g3⟩ := fw_sw q
  rw [h1, g1, order_sw s t h2 g2, h3, g3]
theorem fs_mono {p q : Rat} (h : p ≤ q) : fs p ≤ fs q := by
  have h1 := (Rat.le_iff p q).1 h
  have hp := den_pos p
  have hq := den_pos q
  have f1 := @frung_mono (rnum p) p.den (rnum q) q.den hp hq
  have f2 := @frung_mono (rnum q) q.den (rnum p) p.den hq hp
  unfold fs
  rw [← sg_num p, ← sg_num q] at h1
  generalize frung (rnum p) p.den = R at *
  generalize frung (rnum q) q.den = S at *
  generalize rnum p = a at *
  generalize rnum q = b at *
  generalize p.den = c at *
  generalize q.den = d at *
  by_cases hs : rneg p = true
  · by_cases ht : rneg q = true
    · rw [hs, ht] at h1 ⊢
      unfold sg at h1 ⊢
      rw [if_pos rfl, if_pos rfl, Int.neg_mul, Int.neg_mul, ← Int.natCast_mul, ← Int.natCast_mul] at h1
      rw [if_pos rfl, if_pos rfl]
      have := f2 (by omega)
      omega
    · have ht' : rneg q = false := by simpa using ht
      rw [hs, ht']
      unfold sg
      rw [if_pos rfl, if_neg (by decide)]
      omega
  · have hs' : rneg p = false := by simpa using hs
    by_cases ht : rneg q = true
    · exfalso
      have e1 : q.num < 0 := by simpa [rneg] using ht
      have e2 : 0 ≤ p.num := by simpa [rneg] using hs'
      have e3 := Rat.num_nonneg.1 e2
      have e4 := Rat.num_nonneg.2 (Rat.le_trans e3 h)
      omega
    · have ht' : rneg q = false := by simpa using ht
      rw [hs', ht'] at h1 ⊢
      unfold sg at h1 ⊢
      rw [if_neg (by decide), if_neg (by decide), ← Int.natCast_mul, ← Int.natCast_mul] at h1
      rw [if_neg (by decide), if_neg (by decide)]
      have := f1 (by omega)
      omega
/-- What a comparison says. -/
theorem cmpq_lt (p q : Rat) : cmpq p q < 0 ↔ p < q := by
  have h : cmpq p q < 0 ↔ (p - q).num < 0 := by
    unfold cmpq rneg rnum
    by_cases c : (p - q).num.natAbs = 0
    · rw [if_pos c]; omega
    · rw [if_neg c]
      by_cases c2 : (p - q).num < 0
      · rw [if_pos (by simpa using c2)]; omega
      · rw [if_neg (by simpa using c2)]; omega
  rw [h, ← Rat.not_le, Rat.le_iff_sub_nonneg, ← Rat.num_nonneg]
  omega
theorem cmpq_gt (p q : Rat) : 0 < cmpq p q ↔ q < p := by
  have h : 0 < cmpq p q ↔ ¬ (p - q).num ≤ 0 := by
    unfold cmpq rneg rnum
    by_cases c : (p - q).num.natAbs = 0
    · rw [if_pos c]; omega
    · rw [if_neg c]
      by_cases c2 : (p - q).num < 0
      · rw [if_pos (by simpa using c2)]; omega
      · rw [if_neg (by simpa using c2)]; omega
  have h2 : (p - q).num ≤ 0 ↔ 0 ≤ (q - p).num := by
    rw [← Rat.neg_sub, Rat.neg_num]
    omega
  rw [h, h2, Rat.num_nonneg, ← Rat.le_iff_sub_nonneg, Rat.not_le]

/-! No neighbour is nearer. -/
theorem rnd_near {n d : Nat} (hd : 0 < d) : 2 * (rnd n d * d) ≤ 2 * n + d ∧ 2 * n ≤ 2 * (rnd n d * d) + d := by
  have e1 := Nat.div_add_mod n d
  have e2 := Nat.mod_lt n hd
  unfold rnd
  rw [Nat.mul_comm] at e1
  generalize n / d = q at *
  generalize n % d = r at *
  split
  · rw [Nat.add_mul, Nat.one_mul]; omega
  · rw [Nat.add_zero]; omega
theorem wval_rung {k m : Nat} (h : k = 0 ∨ 4503599627370496 ≤ m) (hm : m ≤ 9007199254740992) : wval (k * 4503599627370496 + m) = m * 2 ^ k := by
  rw [wval_eq]
  rcases Nat.lt_or_eq_of_le hm with hlt | rfl
  · rcases Nat.lt_or_ge m 4503599627370496 with h1 | h1
    · have hk : k = 0 := by omega
      subst hk
      rw [if_pos (by omega), show (0 * 4503599627370496 + m) / 4503599627370496 - 1 = 0 by omega]; omega
    · rw [if_neg (by omega), show (k * 4503599627370496 + m) / 4503599627370496 - 1 = k by omega, show 4503599627370496 + (k * 4503599627370496 + m) % 4503599627370496 = m by omega]
  · rw [if_neg (by omega), show (k * 4503599627370496 + 9007199254740992) / 4503599627370496 - 1 = k + 1 by omega, show 4503599627370496 + (k * 4503599627370496 + 9007199254740992) % 4503599627370496 = 4503599627370496 by omega, Nat.pow_succ]
    omega
theorem near_step {N D R A' : Nat} (hD : 0 < D) (hR : frung N D = R) (hlt : R < 9218868437227405312) (h : A' = wval (R + 1) ∨ (1 ≤ R ∧ A' = wval (R - 1))) :
    ((wval R * D : Nat) - (N * 2 ^ 1074 : Nat) : Int).natAbs ≤ ((A' * D : Nat) - (N * 2 ^ 1074 : Nat) : Int).natAbs := by
  obtain ⟨L, hL⟩ : ∃ L, L = 1074 := ⟨_, rfl⟩
  unfold frung at hR
  rw [← hL] at hR ⊢
  clear hL
  generalize N * 2 ^ L = n at *
  obtain ⟨s1, s2⟩ := fk_spec (n := n) hD
  generalize fk n D = k at *
  have hp := Nat.two_pow_pos k
  have hd : 0 < D * 2 ^ k := Nat.mul_pos hD hp
  obtain ⟨r1, r2⟩ := rnd_near (n := n) hd
  have hu : rnd n (D * 2 ^ k) ≤ 9007199254740992 := by
    have h1 := (rnd_le n (D * 2 ^ k)).2
    have h2 : n / (D * 2 ^ k) < 9007199254740992 := (Nat.div_lt_iff_lt_mul hd).2 (by rw [Nat.mul_comm D, ← Nat.mul_assoc]; exact s1)
    omega
  have hl : k = 0 ∨ 4503599627370496 ≤ rnd n (D * 2 ^ k) := by
    rcases s2 with s2 | s2
    · exact .inl s2
    · right
      have h1 := (rnd_le n (D * 2 ^ k)).1
      have h2 : 4503599627370496 ≤ n / (D * 2 ^ k) := (Nat.le_div_iff_mul_le hd).2 (by rw [Nat.mul_comm D, ← Nat.mul_assoc]; exact s2)
      omega
  generalize rnd n (D * 2 ^ k) = m at *
  have hRm : R = k * 4503599627370496 + m := by omega
  clear hR hlt
  have hA : wval R * D = m * (D * 2 ^ k) := by rw [hRm, wval_rung hl hu, Nat.mul_assoc, Nat.mul_comm (2 ^ k)]
  rw [hA]
  have e : ∀ x : Nat, x * 2 ^ k * D = x * (D * 2 ^ k) := fun x => by rw [Nat.mul_assoc, Nat.mul_comm (2 ^ k)]
  have hs2 : k = 0 ∨ 4503599627370496 * (D * 2 ^ k) ≤ n := by rw [← e]; exact s2
  clear s1 s2
  rcases h with h | ⟨h0, h⟩
  · have h1 : (m + 1) * (D * 2 ^ k) ≤ A' * D := by
      rw [← e, h, hRm]
      refine Nat.mul_le_mul_right _ ?_
      rcases Nat.lt_or_eq_of_le hu with c | c
      · have := wval_rung (k := k) (m := m + 1) (by omega) (by omega)
        rw [Nat.add_assoc, this]; exact Nat.le_refl _
      · have := wval_rung (k := k + 1) (m := 4503599627370497) (by omega) (by omega)
        rw [show k * 4503599627370496 + m + 1 = (k + 1) * 4503599627370496 + 4503599627370497 by omega, this, Nat.pow_succ, c]
        omega
    rw [Nat.add_mul, Nat.one_mul] at h1
    generalize D * 2 ^ k = d at *
    generalize A' * D = a at *
    generalize m * d = b at *
    omega
  · by_cases c : k = 0 ∨ 4503599627370496 < m
    · have h1 : A' * D + D * 2 ^ k = m * (D * 2 ^ k) := by
        have := wval_rung (k := k) (m := m - 1) (by omega) (by omega)
        rw [h, hRm, show k * 4503599627370496 + m - 1 = k * 4503599627370496 + (m - 1) by omega, this, e]
        obtain ⟨x, rfl⟩ : ∃ x, m = x + 1 := ⟨m - 1, by omega⟩
        rw [Nat.add_sub_cancel, Nat.add_mul, Nat.one_mul]
      generalize D * 2 ^ k = d at *
      generalize A' * D = a at *
      generalize m * d = b at *
      omega
    · have hm : m = 4503599627370496 := by omega
      have h1 : A' * D ≤ m * (D * 2 ^ k) := by
        rw [← hA, h]
        exact Nat.mul_le_mul_right _ (wval_le (by omega))
      have h2 : 4503599627370496 * (D * 2 ^ k) ≤ n := by omega
      rw [hm] at h1 ⊢
      generalize D * 2 ^ k = d at *
      generalize A' * D = a at *
      omega

/-- The other sign struck. -/
def absq (r : Rat) : Rat := if r.num < 0 then -r else r
theorem rv_absq (r : Rat) : rv false (rnum r) r.den = absq r := by
  unfold absq
  by_cases c : r.num < 0
  · rw [if_pos c]
    have := rv_self (-r)
    rw [rnum_neg, rden_neg] at this
    rw [← this, rneg_neg]
    have : rneg r = true := by simpa [rneg] using c
    rw [this]; rfl
  · rw [if_neg c]
    have := rv_self r
    have h : rneg r = false := by simpa [rneg] using c
    rwa [h] at this
theorem absq_num (r : Rat) : (absq r).num = rnum r := by
  unfold absq rnum
  by_cases c : r.num < 0
  · rw [if_pos c, Rat.neg_num]; omega
  · rw [if_neg c]; omega
theorem absq_den (r : Rat) : (absq r).den = r.den := by
  unfold absq
  by_cases c : r.num < 0
  · rw [if_pos c, rden_neg]
  · rw [if_neg c]
theorem rnum_mk {z : Int} {C : Nat} (hC : C ≠ 0) : rnum (mkRat z C) * C = z.natAbs * (mkRat z C).den := by
  have h := (Rat.mkRat_eq_iff (mkRat z C).den_nz hC).1 (Rat.mkRat_self (mkRat z C))
  have := congrArg Int.natAbs h
  rwa [Int.natAbs_mul, Int.natAbs_mul] at this
theorem rv_sub (s t : Bool) {A L N D : Nat} (hL : L ≠ 0) (hD : D ≠ 0) : rv s A L - rv t N D = mkRat (sg s A * D - sg t N * L) (L * D) := by
  unfold rv
  rw [← Rat.divInt_ofNat, ← Rat.divInt_ofNat, ← Rat.divInt_ofNat, Rat.divInt_sub_divInt _ _ (by omega) (by omega), Int.natCast_mul]
/-- Of two differences from one number. -/
theorem far_le {s s' t : Bool} {A A' L N D : Nat} (hL : L ≠ 0) (hD : D ≠ 0) (h : (sg s A * D - sg t N * L).natAbs ≤ (sg s' A' * D - sg t N * L).natAbs) :
    ¬ cmpq (absq (rv s' A' L - rv t N D)) (absq (rv s A L - rv t N D)) < 0 := by
  rw [cmpq_lt, Rat.lt_iff, absq_num, absq_num, absq_den, absq_den, rv_sub s t hL hD, rv_sub s' t hL hD]
  have hC : L * D ≠ 0 := Nat.mul_ne_zero hL hD
  have e1 := @rnum_mk (sg s A * D - sg t N * L) _ hC
  have e2 := @rnum_mk (sg s' A' * D - sg t N * L) _ hC
  generalize mkRat (sg s A * D - sg t N * L) (L * D) = r at *
  generalize mkRat (sg s' A' * D - sg t N * L) (L * D) = r' at *
  generalize (sg s A * D - sg t N * L).natAbs = X at *
  generalize (sg s' A' * D - sg t N * L).natAbs = X' at *
  generalize L * D = C at *
  have key : rnum r * r'.den ≤ rnum r' * r.den := by
    refine Nat.le_of_mul_le_mul_right (c := C) ?_ (by omega)
    have a1 : rnum r * r'.den * C = X * (r.den * r'.den) := by rw [Nat.mul_right_comm, e1, Nat.mul_assoc]
    have a2 : rnum r' * r.den * C = X' * (r.den * r'.den) := by rw [Nat.mul_right_comm, e2, Nat.mul_assoc, Nat.mul_comm r.den]
    rw [a1, a2]
    exact Nat.mul_le_mul_right _ h
  rw [← Int.natCast_mul, ← Int.natCast_mul]
  omega
theorem fQ_wval {u : Nat} (_hu : u < 18446744073709551616) (_he : fExp u ≠ 2047) : fQ u = rv (fNeg u) (wval (u % 9223372036854775808)) (2 ^ 1074) := by
  have hw := word_parts u
  have hf := fFrac_lt u
  have hx := fExp_lt u
  rw [fQ_rat]
  have e : fM u * 2 ^ (fE u - 1) = wval (u % 9223372036854775808) := by
    rw [wval_eq, hw]
    unfold fM fE
    by_cases c : fExp u = 0
    · rw [if_pos c, if_pos c, if_pos (by omega), c, show (0 * 4503599627370496 + fFrac u) / 4503599627370496 - 1 = 1 - 1 by omega, Nat.zero_mul, Nat.zero_add]
    · rw [if_neg c, if_neg c, if_neg (by omega), show (fExp u * 4503599627370496 + fFrac u) / 4503599627370496 = fExp u by omega, show (fExp u * 4503599627370496 + fFrac u) % 4503599627370496 = fFrac u by omega]
      congr 1; omega
  rw [e]
theorem sg_diff (s : Bool) (A D N L : Nat) : (sg s A * D - sg s N * L).natAbs = ((A * D : Nat) - (N * L : Nat) : Int).natAbs := by
  unfold sg
  cases s
  · rw [if_neg (by decide), if_neg (by decide), ← Int.natCast_mul, ← Int.natCast_mul]
  · rw [if_pos rfl, if_pos rfl, Int.neg_mul, Int.neg_mul, ← Int.natCast_mul, ← Int.natCast_mul]; omega
theorem sg_diff_ne (A D N L : Nat) : (sg false A * D - sg true N * L).natAbs = A * D + N * L := by
  unfold sg
  rw [if_neg (by decide), if_pos rfl, Int.neg_mul, ← Int.natCast_mul, ← Int.natCast_mul]; omega
theorem sw_parts {s : Bool} {R : Nat} (h : R < 9223372036854775808) : sw s R % 9223372036854775808 = R ∧ fNeg (sw s R) = s ∧ sw s R < 18446744073709551616 := by
  unfold sw fNeg
  cases s
  · rw [if_neg (by decide)]; exact ⟨by omega, decide_eq_false (by omega), by omega⟩
  · rw [if_pos rfl]; exact ⟨by omega, decide_eq_true (by omega), by omega⟩
theorem fQ_sw {s : Bool} {R : Nat} (h : R < 9218868437227405312) : fQ (sw s R) = rv s (wval R) (2 ^ 1074) := by
  obtain ⟨h1, h2, h3⟩ := sw_parts (s := s) (R := R) (by omega)
  have h4 := word_parts (sw s R)
  have h5 := fFrac_lt (sw s R)
  rw [fQ_wval h3 (by omega), h1, h2]
theorem near_words {q : Rat} {u v : Nat} (hu : fw q = u) (he : fExp u ≠ 2047) (hv : v = u + 1 ∨ (u ≠ 0 ∧ v = u - 1)) (hev : fErr v = 0) : ¬ cmpq (absq (fQ v - q)) (absq (fQ u - q)) < 0 := by
  obtain ⟨s, R, h1, h2, h3, h4, _⟩ := fw_sw q
  have hD := den_pos q
  have hL : (2 : Nat) ^ 1074 ≠ 0 := Nat.pos_iff_ne_zero.1 (Nat.two_pow_pos 1074)
  have hus : u = sw s R := hu.symm.trans h1
  obtain ⟨p1, p2, p3⟩ := sw_parts (s := s) (R := R) (by omega)
  have h5 := word_parts u
  have h6 := fFrac_lt u
  have h7 := fExp_lt u
  have hR : R < 9218868437227405312 := by rw [hus, p1] at h5; rw [hus] at h6 h7 he; omega
  have hve := (fErr_zero_iff v).1 hev
  have main : ∀ S, v = sw s S → S < 9218868437227405313 → (S = R + 1 ∨ (1 ≤ R ∧ S = R - 1)) → ¬ cmpq (absq (fQ v - q)) (absq (fQ u - q)) < 0 := by
    intro S hS hS1 hS2
    have hS3 : S < 9218868437227405312 := by
      obtain ⟨g1, g2, g3⟩ := sw_parts (s := s) (R := S) (by omega)
      have h8 := word_parts v
      rw [hS] at h8 hve
      rw [g1] at h8
      have h9 := fExp_lt (sw s S)
      have h10 := fFrac_lt (sw s S)
      omega
    rw [hus, hS, fQ_sw hR, fQ_sw hS3]
    have key := far_le (s := s) (s' := s) (t := rneg q) (A := wval R) (A' := wval S) (L := 2 ^ 1074) (N := rnum q) (D := q.den) hL (Nat.pos_iff_ne_zero.1 hD)
    rw [rv_self] at key
    apply key
    have hn := near_step (N := rnum q) (A' := wval S) hD h3.symm hR (hS2.imp (fun h => by rw [h]) (fun h => ⟨h.1, by rw [h.2]⟩))
    by_cases hs : s = rneg q
    · rw [← hs, sg_diff, sg_diff]; exact hn
    · rcases h4 with ⟨h4, h5⟩ | ⟨h4, h5⟩
      · rw [h5] at hs ⊢
        have ht : rneg q = true := by cases h : rneg q with | true => rfl | false => exact absurd h.symm hs
        rw [ht, sg_diff_ne, sg_diff_ne, h4, wval_zero, Nat.zero_mul]
        omega
      · exact absurd h5 hs
  rcases hv with hv | ⟨hu0, hv⟩
  · refine main (R + 1) ?_ (by omega) (.inl rfl)
    rw [hv, hus]; unfold sw; split <;> omega
  · have hR0 : R ≠ 0 := by
      intro e
      rcases h4 with ⟨_, h⟩ | ⟨h, _⟩
      · apply hu0; rw [hus, e, h]; rfl
      · exact h e
    refine main (R - 1) ?_ (by omega) (.inr ⟨by omega, rfl⟩)
    rw [hv, hus]; unfold sw; split <;> omega
end Pg
