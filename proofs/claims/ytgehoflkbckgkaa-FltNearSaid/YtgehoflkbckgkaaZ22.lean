/- Walks: pantographref2.Mul, Neg, Add, Sub, Cmp, by rationals · Walk: pantographlaw4.big: rows of rationals in a block. Conditions: those that each theorem names. -/
import Derived.Test.YtgehoflkbckgkaaZ17
import Derived.Test.YtgehoflkbckgkaaZ20
import Derived.Deep.QuietTactic
import Derived.BigQuiet
namespace Pg
theorem sg_add_same (s : Bool) (x y : Nat) : sg s x + sg s y = sg s (x + y) := by unfold sg; cases s <;> simp <;> omega
theorem sg_add_ge (s t : Bool) (x y : Nat) (h : s ≠ t) (hxy : y ≤ x) : sg s x + sg t y = sg s (x - y) := by
  unfold sg; cases s <;> cases t <;> simp at h ⊢ <;> omega
theorem sg_add_lt (s t : Bool) (x y : Nat) (h : s ≠ t) (hxy : x < y) : sg s x + sg t y = sg t (y - x) := by
  unfold sg; cases s <;> cases t <;> simp at h ⊢ <;> omega
theorem rv_add_same {p q : Rat} (h : rneg p = rneg q) : rv (rneg p) (rnum p * q.den + rnum q * p.den) (p.den * q.den) = p + q := by
  rw [rv_add, ← h, sg_add_same]; rfl
theorem rv_add_ge {p q : Rat} (h : rneg p ≠ rneg q) (hxy : rnum q * p.den ≤ rnum p * q.den) : rv (rneg p) (rnum p * q.den - rnum q * p.den) (p.den * q.den) = p + q := by
  rw [rv_add, sg_add_ge _ _ _ _ h hxy]; rfl
theorem rv_add_lt {p q : Rat} (h : rneg p ≠ rneg q) (hxy : rnum p * q.den < rnum q * p.den) : rv (rneg q) (rnum q * p.den - rnum p * q.den) (p.den * q.den) = p + q := by
  rw [rv_add, sg_add_lt _ _ _ _ h hxy]; rfl
theorem rneg_neg (q : Rat) : rneg (-q) = (!rneg q && decide (0 < rnum q)) := by
  unfold rneg rnum
  rw [Rat.neg_num]
  rcases Int.lt_trichotomy q.num 0 with h | h | h
  · rw [decide_eq_false (by omega), decide_eq_true (show q.num < 0 by omega)]; rfl
  · rw [decide_eq_false (by omega), decide_eq_false (show ¬ q.num < 0 by omega), decide_eq_false (by omega)]; rfl
  · rw [decide_eq_true (by omega), decide_eq_false (show ¬ q.num < 0 by omega), decide_eq_true (by omega)]; rfl
theorem rnum_neg (q : Rat) : rnum (-q) = rnum q := by unfold rnum; rw [Rat.neg_num]; omega
theorem rden_neg (q : Rat) : (-q).den = q.den := Rat.neg_den q
/-- The sign of a difference. -/
def cmpq (p q : Rat) : Int := if rnum (p - q) = 0 then 0 else if rneg (p - q) then -1 else 1
theorem limbs_mul_len {a b k : Nat} (ha : (limbs a).length ≤ k) (hb : (limbs b).length ≤ k) : (limbs (a * b)).length ≤ k + k := by
  refine length_limbs_le ?_
  rw [Nat.pow_add]
  exact Nat.mul_lt_mul'' (Nat.lt_of_lt_of_le (lt_pow_length a) (Nat.pow_le_pow_right (by omega) ha)) (Nat.lt_of_lt_of_le (lt_pow_length b) (Nat.pow_le_pow_right (by omega) hb))
theorem limbs_add_len {a b k : Nat} (ha : (limbs a).length ≤ k) (hb : (limbs b).length ≤ k) : (limbs (a + b)).length ≤ k + 1 := by
  refine length_limbs_le ?_
  have h1 := Nat.lt_of_lt_of_le (lt_pow_length a) (Nat.pow_le_pow_right (n := 4294967296) (by omega) ha)
  have h2 := Nat.lt_of_lt_of_le (lt_pow_length b) (Nat.pow_le_pow_right (n := 4294967296) (by omega) hb)
  rw [Nat.pow_succ]; omega
end Pg
namespace Go.Proofs.Ytgehoflkbckgkaa
open Go.RowKit Pg
/-- A value that reads as the rational q, by rows of at most k limbs. -/
def RArg (w : World) (v : Value) (q : Rat) (k : Nat) : Prop := ∃ s A n c A' n' c' xs ys, v = .agg #[.bool s, .slice A n c, .slice A' n' c'] ∧ Row w A n c xs ∧ Row w A' n' c' ys ∧ n ≤ k ∧ n' ≤ k ∧ rv s (val xs) (val ys) = q
theorem RArg.below {w w' : World} {v : Value} {q : Rat} {k : Nat} (h : RArg w v q k) (hb : Below w.heap.size w w') : RArg w' v q k := by
  obtain ⟨s, A, n, c, A', n', c', xs, ys, e, h1, h2, h3⟩ := h
  exact ⟨s, A, n, c, A', n', c', xs, ys, e, h1.below hb, h2.below hb, h3⟩
theorem RArg.alloc {w : World} {v : Value} {q : Rat} {k : Nat} (h : RArg w v q k) (o : Obj) : RArg (w.alloc o) v q k := by
  obtain ⟨s, A, n, c, A', n', c', xs, ys, e, h1, h2, h3⟩ := h
  exact ⟨s, A, n, c, A', n', c', xs, ys, e, h1.alloc o, h2.alloc o, h3⟩
theorem RArg.mk {w : World} {s : Bool} {A A' : Option Addr} {n c n' c' k : Nat} {xs ys : List Nat} (h : Row w A n c xs) (h' : Row w A' n' c' ys) (hn : n ≤ k) (hn' : n' ≤ k) : RArg w (.agg #[.bool s, .slice A n c, .slice A' n' c']) (rv s (val xs) (val ys)) k :=
  ⟨s, A, n, c, A', n', c', xs, ys, rfl, h, h', hn, hn', rfl⟩
theorem RArg.norm {w : World} {q : Rat} {A A' : Option Addr} {c c' k : Nat} (h : Row w A (limbs (rnum q)).length c (limbs (rnum q))) (h' : Row w A' (limbs q.den).length c' (limbs q.den)) (hn : (limbs (rnum q)).length ≤ k) (hn' : (limbs q.den).length ≤ k) :
    RArg w (.agg #[.bool (rneg q), .slice A (limbs (rnum q)).length c, .slice A' (limbs q.den).length c']) q k :=
  ⟨_, _, _, _, _, _, _, _, _, rfl, h, h', hn, hn', by rw [val_limbs, val_limbs, rv_self]⟩
/-- A rational's parts take so many limbs. -/
def Short (q : Rat) (k : Nat) : Prop := (limbs (rnum q)).length ≤ k ∧ (limbs q.den).length ≤ k
theorem RArg.short {w : World} {v : Value} {q : Rat} {k : Nat} (h : RArg w v q k) (hk : 1 ≤ k) : Short q k := by
  obtain ⟨s, A, n, c, A', n', c', xs, ys, e, h1, h2, h3, h4, rfl⟩ := h
  have l1 : (limbs (val xs)).length ≤ k := by have := tl_le h1.ok; rw [h1.len] at this; unfold tl at this; omega
  have l2 : (limbs (val ys)).length ≤ k := by have := tl_le h2.ok; rw [h2.len] at this; unfold tl at this; omega
  by_cases hD : val ys = 0
  · rw [rv_zero (.inr hD)]
    exact ⟨by rw [rnum_zero, limbs_zero]; simp, by rw [rden_zero, limbs_one]; simpa using hk⟩
  · unfold Short
    rw [rv_num _ _ hD, rv_den _ _ hD]
    exact ⟨Nat.le_trans (limbs_mono (Nat.div_le_self _ _)) l1, Nat.le_trans (limbs_mono (Nat.div_le_self _ _)) l2⟩
theorem B3.newg (w : World) (t : TypeId) (v0 v1 v2 : Value) (g : Nat) (hg : g = w.heap.size) : B3 (w.alloc (.cells #[v0, v1, v2] t)) g t v0 v1 v2 := by subst hg; exact B3.new w t v0 v1 v2
theorem Hld.box {w : World} {g : Nat} {v0 v1 v2 : Value} (h : Hld w g (.agg #[v0, v1, v2])) : B3 w g 28 v0 v1 v2 := h.b3

set_option maxRecDepth 100000 in
set_option maxHeartbeats 4000000 in
/-- pantographref2.Mul. -/
theorem r2Mul_R {va vb : Value} {p q : Rat} {k : Nat} (w : World) (ha : RArg w va p k) (hb : RArg w vb q k) (hk : k ≤ 262144) (hk1 : 1 ≤ k) :
    Calls Try.prog 23 #[va, vb] w (RatRet w (p * q)) := by
  obtain ⟨lp1, lp2⟩ := ha.short hk1
  obtain ⟨lq1, lq2⟩ := hb.short hk1
  obtain ⟨s1, A, n, c, A', n', c', xs, ys, rfl, h, h', hn, hn', hp⟩ := ha
  obtain ⟨s2, C, m, d, C', m', d', us, vs, rfl, g, g', hm, hm', hq⟩ := hb
  have hP := fun W (hW : Below w.heap.size w W) => r2Norm_any s1 A A' n c n' c' xs ys W (h.below hW) (h'.below hW) (by omega) (by omega)
  have hQ := fun W (hW : Below w.heap.size w W) => r2Norm_any s2 C C' m d m' d' us vs W (g.below hW) (g'.below hW) (by omega) (by omega)
  rw [hp] at hP
  rw [hq] at hQ
  have HP := hid hP
  have HQ := hid hQ
  clear h h' g g' hP hQ hp hq
  have HX := hid (((B3.new w 28 (.bool s1) (.slice A n c) (.slice A' n' c')).alloc (.cells #[.bool s2, .slice C m d, .slice C' m' d'] 28)).alloc (.cells #[.bool false, .slice none 0 0, .slice none 0 0] 28))
  have HY := hid ((B3.new2 w (.cells #[.bool s1, .slice A n c, .slice A' n' c'] 28) 28 (.bool s2) (.slice C m d) (.slice C' m' d') _ rfl).alloc (.cells #[.bool false, .slice none 0 0, .slice none 0 0] 28))
  have HZ := hid (B3.newg ((w.alloc (.cells #[.bool s1, .slice A n c, .slice A' n' c'] 28)).alloc (.cells #[.bool s2, .slice C m d, .slice C' m' d'] 28)) 28 (.bool false) (.slice none 0 0) (.slice none 0 0) (w.heap.size + 2) (by simp))
  obtain ⟨w0, hw0⟩ : ∃ w0, w0 = ((w.alloc (.cells #[.bool s1, .slice A n c, .slice A' n' c'] 28)).alloc (.cells #[.bool s2, .slice C m d, .slice C' m' d'] 28)).alloc (.cells #[.bool false, .slice none 0 0, .slice none 0 0] 28) := ⟨_, rfl⟩
  go_enter Try.func23, Try.ntmps23
  go_upto_region 1 with fail
  have hb0 : Below w.heap.size w w0 := by rw [hw0]; exact Below.new_ (Below.new_ (Below.new_ (Below.refl _ _) _) _) _
  rw [← hw0] at HX HY HZ ⊢
  clear hw0
  refine pair_region 38 38 2 3 7 8 9 10 5 6 w.heap.size (w.heap.size + 1) _ _ _ _ _ _ p q rfl (by decide) (by kernel_rfl) (by kernel_rfl) (by kernel_rfl) (by kernel_rfl) (by kernel_rfl) (by kernel_rfl) (by kernel_rfl) (by kernel_rfl) rfl rfl HX.out HY.out (fun _ _ => by kernel_rfl) (fun _ _ => by kernel_rfl) (fun W hW => HP.out W (Below.then_ hb0 hW)) (fun W hW => HQ.out W (Below.then_ hb0 hW)) ?_
  rintro v1 v3 g1 g2 wc ⟨A1, c1, A2, c2, rfl, hr1, hr2⟩ ⟨A3, c3, A4, c4, rfl, hr3, hr4⟩ hH1 hH2 _ _ _ hbc
  have hbw := Below.then_ hb0 hbc
  have hB1 := hH1.b3
  have hB2 := hH2.b3
  have hBz := HZ.out.below hbc
  clear HX HY HP HQ hH1 hH2 HZ hbc hb0
  go_simp
  go_upto_region 2 with fail
  have hmn := limbs_mul_len (k := k) lp1 lq1
  have hmd := limbs_mul_len (k := k) lp2 lq2
  have hpq := hid (rv_mul p q)
  refine draw_last [11, 12, 13, 14, 15, 16, 17, 18, 19, 20, 21, 22, 23, 24, 25, 26] [.is (.pointer (some ⟨g1, 0, none⟩)), .is (.bool (rneg p)), .is (.pointer (some ⟨g2, 0, none⟩)), .is (.bool (rneg q)), .is (.bool (rneg p != rneg q)), .is (.pointer (some ⟨g1, 1, none⟩)), .is (.slice A1 (limbs (rnum p)).length c1), .is (.pointer (some ⟨g2, 1, none⟩)), .is (.slice A3 (limbs (rnum q)).length c3), .row (rnum p * rnum q), .is (.pointer (some ⟨g1, 2, none⟩)), .is (.slice A2 (limbs p.den).length c2), .is (.pointer (some ⟨g2, 2, none⟩)), .is (.slice A4 (limbs q.den).length c4), .row (p.den * q.den), .rat (p * q)]
    (by kernel_rfl) (by kernel_rfl) (by kernel_rfl) (by decide) (by kernel_rfl) (by kernel_rfl) (by kernel_rfl) rfl ?_ ?_
  · refine ⟨?_, ?_, ?_, ?_, ?_, ?_, ?_, ?_, ?_, ?_, ?_, ?_, ?_, ?_, ?_, ?_, trivial⟩
    · intro a w3 hA K hK
      have t5 := hA.old 5 _ rfl rfl
      go_simp
      exact hK _ _ (by first | rfl | exact congrArg _ (by first | rfl | omega | (rw [IntKind.wrap_i64]; omega))) (Below.refl _ _)
    · intro a w3 hA K hK
      have t11 := bt_is hA 0 11 rfl rfl (by kernel_rfl)
      obtain ⟨k0, k1, k2, _, _, _⟩ := (hB1.below (hA.below)).cells
      go_simp
      exact hK _ _ (by first | rfl | exact congrArg _ (by first | rfl | omega | (rw [IntKind.wrap_i64]; omega))) (Below.refl _ _)
    · intro a w3 hA K hK
      have t6 := hA.old 6 _ rfl rfl
      go_simp
      exact hK _ _ (by first | rfl | exact congrArg _ (by first | rfl | omega | (rw [IntKind.wrap_i64]; omega))) (Below.refl _ _)
    · intro a w3 hA K hK
      have t13 := bt_is hA 2 13 rfl rfl (by kernel_rfl)
      obtain ⟨k0, k1, k2, _, _, _⟩ := (hB2.below (hA.below)).cells
      go_simp
      exact hK _ _ (by first | rfl | exact congrArg _ (by first | rfl | omega | (rw [IntKind.wrap_i64]; omega))) (Below.refl _ _)
    · intro a w3 hA K hK
      have t12 := bt_is hA 1 12 rfl rfl (by kernel_rfl)
      have t14 := bt_is hA 3 14 rfl rfl (by kernel_rfl)
      go_simp
      exact hK _ _ (by first | rfl | exact congrArg _ (by first | rfl | omega | (rw [IntKind.wrap_i64]; omega))) (Below.refl _ _)
    · intro a w3 hA K hK
      have t5 := hA.old 5 _ rfl rfl
      go_simp
      exact hK _ _ (by first | rfl | exact congrArg _ (by first | rfl | omega | (rw [IntKind.wrap_i64]; omega))) (Below.refl _ _)
    · intro a w3 hA K hK
      have t16 := bt_is hA 5 16 rfl rfl (by kernel_rfl)
      obtain ⟨k0, k1, k2, _, _, _⟩ := (hB1.below (hA.below)).cells
      go_simp
      exact hK _ _ (by first | rfl | exact congrArg _ (by first | rfl | omega | (rw [IntKind.wrap_i64]; omega))) (Below.refl _ _)
    · intro a w3 hA K hK
      have t6 := hA.old 6 _ rfl rfl
      go_simp
      exact hK _ _ (by first | rfl | exact congrArg _ (by first | rfl | omega | (rw [IntKind.wrap_i64]; omega))) (Below.refl _ _)
    · intro a w3 hA K hK
      have t18 := bt_is hA 7 18 rfl rfl (by kernel_rfl)
      obtain ⟨k0, k1, k2, _, _, _⟩ := (hB2.below (hA.below)).cells
      go_simp
      exact hK _ _ (by first | rfl | exact congrArg _ (by first | rfl | omega | (rw [IntKind.wrap_i64]; omega))) (Below.refl _ _)
    · intro a w3 hA K hK
      have t17 := bt_is hA 6 17 rfl rfl (by kernel_rfl)
      have t19 := bt_is hA 8 19 rfl rfl (by kernel_rfl)
      have hC := rMul_N A1 A3 _ c1 _ c3 _ _ w3 (rnum p) (rnum q) (hr1.below (hA.below)) (hr3.below (hA.below)) (val_limbs _) (val_limbs _) (by omega) (by omega)
      go_simp
      refine hC.mono ?_
      rintro e w4 ⟨A3, c3, rfl, hr, hb⟩
      exact hK _ _ ⟨_, _, rfl, hr⟩ hb
    · intro a w3 hA K hK
      have t5 := hA.old 5 _ rfl rfl
      go_simp
      exact hK _ _ (by first | rfl | exact congrArg _ (by first | rfl | omega | (rw [IntKind.wrap_i64]; omega))) (Below.refl _ _)
    · intro a w3 hA K hK
      have t21 := bt_is hA 10 21 rfl rfl (by kernel_rfl)
      obtain ⟨k0, k1, k2, _, _, _⟩ := (hB1.below (hA.below)).cells
      go_simp
      exact hK _ _ (by first | rfl | exact congrArg _ (by first | rfl | omega | (rw [IntKind.wrap_i64]; omega))) (Below.refl _ _)
    · intro a w3 hA K hK
      have t6 := hA.old 6 _ rfl rfl
      go_simp
      exact hK _ _ (by first | rfl | exact congrArg _ (by first | rfl | omega | (rw [IntKind.wrap_i64]; omega))) (Below.refl _ _)
    · intro a w3 hA K hK
      have t23 := bt_is hA 12 23 rfl rfl (by kernel_rfl)
      obtain ⟨k0, k1, k2, _, _, _⟩ := (hB2.below (hA.below)).cells
      go_simp
      exact hK _ _ (by first | rfl | exact congrArg _ (by first | rfl | omega | (rw [IntKind.wrap_i64]; omega))) (Below.refl _ _)
    · intro a w3 hA K hK
      have t22 := bt_is hA 11 22 rfl rfl (by kernel_rfl)
      have t24 := bt_is hA 13 24 rfl rfl (by kernel_rfl)
      have hC := rMul_N A2 A4 _ c2 _ c4 _ _ w3 p.den q.den (hr2.below (hA.below)) (hr4.below (hA.below)) (val_limbs _) (val_limbs _) (by omega) (by omega)
      go_simp
      refine hC.mono ?_
      rintro e w4 ⟨A3, c3, rfl, hr, hb⟩
      exact hK _ _ ⟨_, _, rfl, hr⟩ hb
    · intro a w3 hA K hK
      have t15 := bt_is hA 4 15 rfl rfl (by kernel_rfl)
      obtain ⟨A20, c20, t20, r20⟩ := bt_row hA 9 20 rfl rfl (by kernel_rfl)
      obtain ⟨A25, c25, t25, r25⟩ := bt_row hA 14 25 rfl rfl (by kernel_rfl)
      have hC := r2Of_E (rneg p != rneg q) A20 A25 _ c20 _ c25 (rnum p * rnum q) (p.den * q.den) _ _ (p * q) w3 r20 r25 (val_limbs _) (val_limbs _) (by omega) (by omega) hpq.out.symm
      go_simp
      refine hC.mono ?_
      rintro e w4 ⟨A3, c3, A4, c4, rfl, hr, hr', hb⟩
      exact hK _ _ ⟨_, _, _, _, rfl, hr, hr'⟩ hb
  rintro vs w5 hV hb5 act hact hold hnew K hK
  have hV' := hV.is_
  clear hV
  obtain ⟨_, rfl, hV⟩ := hV'
  have hV' := hV.is_
  clear hV
  obtain ⟨_, rfl, hV⟩ := hV'
  have hV' := hV.is_
  clear hV
  obtain ⟨_, rfl, hV⟩ := hV'
  have hV' := hV.is_
  clear hV
  obtain ⟨_, rfl, hV⟩ := hV'
  have hV' := hV.is_
  clear hV
  obtain ⟨_, rfl, hV⟩ := hV'
  have hV' := hV.is_
  clear hV
  obtain ⟨_, rfl, hV⟩ := hV'
  have hV' := hV.is_
  clear hV
  obtain ⟨_, rfl, hV⟩ := hV'
  have hV' := hV.is_
  clear hV
  obtain ⟨_, rfl, hV⟩ := hV'
  have hV' := hV.is_
  clear hV
  obtain ⟨_, rfl, hV⟩ := hV'
  have hV' := hV.row_
  clear hV
  obtain ⟨A20, c20, _, rfl, r20, hV⟩ := hV'
  have hV' := hV.is_
  clear hV
  obtain ⟨_, rfl, hV⟩ := hV'
  have hV' := hV.is_
  clear hV
  obtain ⟨_, rfl, hV⟩ := hV'
  have hV' := hV.is_
  clear hV
  obtain ⟨_, rfl, hV⟩ := hV'
  have hV' := hV.is_
  clear hV
  obtain ⟨_, rfl, hV⟩ := hV'
  have hV' := hV.row_
  clear hV
  obtain ⟨A25, c25, _, rfl, r25, hV⟩ := hV'
  have hV' := hV.rat_
  clear hV
  obtain ⟨A26, c26, B26, d26, _, rfl, r26, s26, hV⟩ := hV'
  obtain rfl := hV.nil_
  clear hV
  simp only [puts] at hact
  have tq1 := hold 4 _ rfl rfl
  have tq2 := hnew 15 26 _ rfl rfl
  clear hold hnew
  have Hact := hid hact
  clear hact
  have hBr := hBz.below hb5
  obtain ⟨k0, k1, k2, f0, f1, f2⟩ := hBr.cells
  go_simp
  refine hK _ _ ?_
  have hact := Hact.out
  clear Hact tq1 tq2
  subst hact
  go_simp
  go_wp2_with fail
  refine bodyPost_ret (by have q0 := fun u0 u1 u2 => (hBr.set u0 u1 u2).cells.1; have q1 := fun u0 u1 u2 => (hBr.set u0 u1 u2).cells.2.1; have q2 := fun u0 u1 u2 => (hBr.set u0 u1 u2).cells.2.2.1; simp [results, Try.results23, go_sem, q0, q1, q2]) rfl (RatRet.put hBr (by omega) (Below.then_ hbw hb5) rfl rfl rfl r26 s26 rfl rfl)
end Go.Proofs.Ytgehoflkbckgkaa
namespace Pg
open Go Go.RowKit
/-- A rational's three cells. -/
structure RHdr where
  s : Bool
  A : Option Addr
  n : Nat
  c : Nat
  A' : Option Addr
  n' : Nat
  c' : Nat
def RHdr.len (h : RHdr) : Nat := h.n + h.n'
def rsum (l : List RHdr) : Nat := (l.map RHdr.len).sum
/-- Rationals one behind the other. -/
def RCells (w : World) (g o : Nat) (l : List RHdr) : Prop := ∀ j h, l[j]? = some h →
  w.cell? ⟨g, o + j * 3, none⟩ = some (.bool h.s) ∧ w.cell? ⟨g, o + j * 3 + 1, none⟩ = some (.slice h.A h.n h.c) ∧ w.cell? ⟨g, o + j * 3 + 2, none⟩ = some (.slice h.A' h.n' h.c')
theorem RCells.below {w w' : World} {g o : Nat} {l : List RHdr} (h : RCells w g o l) (hg : g < w.heap.size) (hb : Below w.heap.size w w') : RCells w' g o l := by
  intro j x hj
  obtain ⟨h1, h2, h3⟩ := h j x hj
  exact ⟨(hb.cell (p := ⟨g, _, none⟩) hg).trans h1, (hb.cell (p := ⟨g, _, none⟩) hg).trans h2, (hb.cell (p := ⟨g, _, none⟩) hg).trans h3⟩
theorem rsum_take_succ (l : List RHdr) (k : Nat) (h : RHdr) (hk : l[k]? = some h) : rsum (l.take (k + 1)) = rsum (l.take k) + h.len := by
  unfold rsum
  rw [List.take_add_one, hk]
  simp
end Pg
namespace Go.Proofs.Ytgehoflkbckgkaa
open Go.RowKit Pg
/-- Some bool; where it is false, few limbs. -/
def BigRet (w : World) (l : List RHdr) (e : Ending) (w' : World) : Prop := ∃ b : Bool, e = .returned (.bool b) ∧ (b = false → rsum l ≤ 16) ∧ Below w.heap.size w w'
set_option maxHeartbeats 1000000 in
theorem big_any (g o c : Nat) (l : List RHdr) (w : World) (hg : g < w.heap.size) (h : RCells w g o l) (hl : ∀ x ∈ l, x.n ≤ 140737488355328 ∧ x.n' ≤ 140737488355328) (hn : l.length ≤ 1099511627776) :
    Calls Try.prog 22 #[.slice (some ⟨g, o, none⟩) l.length c] w (BigRet w l) := by
  obtain ⟨L, hL⟩ : ∃ L, L = l.length := ⟨_, rfl⟩
  rw [← hL] at hn ⊢
  have HL := hid hL
  clear hL
  go_enter Try.func22, Try.ntmps22
  go_wp2_with fail
  go_loopw [3, 4] (fun n i wr => ∃ k S : Nat, k ≤ L ∧ i = .int .i64 k ∧ n = .int .i64 S ∧ S ≤ 16 ∧ Hid (S = rsum (l.take k)) ∧ Below w.heap.size w wr) (fun _ i _ => L - (intOf i).toNat)
  case atStart => exact ⟨0, 0, Nat.zero_le _, rfl, rfl, by omega, hid rfl, Below.refl _ _⟩
  case round =>
    obtain ⟨k, S, hk, rfl, rfl, hS, HS, hb⟩ := hrel
    by_cases hlt : k < L
    · obtain ⟨x, hx⟩ : ∃ x, l[k]? = some x := ⟨l[k]'(by rw [← HL.out]; exact hlt), List.getElem?_eq_getElem _⟩
      obtain ⟨k0, k1, k2⟩ := (h.below hg hb) k x hx
      obtain ⟨l1, l2⟩ := hl x (List.mem_of_getElem? hx)
      have hsum := rsum_take_succ l k x hx
      rw [← HS.out] at hsum
      have Hsum : Hid (rsum (l.take (k + 1)) = S + x.n + x.n') := hid (by rw [hsum]; unfold RHdr.len; omega)
      clear hsum hx h hl
      have hw1 : IntKind.i64.wrap ((S : Int) + (x.n : Int)) = ((S + x.n : Nat) : Int) := by rw [IntKind.wrap_i64]; omega
      have hw2 : IntKind.i64.wrap (((S + x.n : Nat) : Int) + (x.n' : Int)) = ((S + x.n + x.n' : Nat) : Int) := by rw [IntKind.wrap_i64]; omega
      go_upto_region 5 with fail
      go_quiet (fail)
      by_cases h16 : 16 < S + x.n + x.n'
      · go_wp2_with fail
        go_ret
        exact ⟨true, rfl, (fun h => by cases h), (by repeat first | exact Below.refl _ _ | assumption | refine Pg.Below.then_ ?_ (by assumption) | refine Pg.Below.new_ ?_ _ | refine Pg.Below.drewN_ ?_ _)⟩
      · go_wp2_with fail
        refine ⟨⟨k + 1, S + x.n + x.n', hlt, by go_num, by go_num, by omega, hid Hsum.out.symm, (by repeat first | exact Below.refl _ _ | assumption | refine Pg.Below.then_ ?_ (by assumption) | refine Pg.Below.new_ ?_ _ | refine Pg.Below.drewN_ ?_ _)⟩, ?_⟩
        simp [intOf]; omega
    · have hkn : k = L := by omega
      subst hkn
      go_wp2_with fail
      go_ret
      refine ⟨false, rfl, fun _ => ?_, hb⟩
      have := HS.out
      rw [HL.out, List.take_length] at this
      omega
end Go.Proofs.Ytgehoflkbckgkaa
