/- Walks: pantographref2.Neg, Add, Sub, Cmp, by rationals · Walk: pantographref2.Cmp, by rationals · The nearest number of 64 bits rises with the number; how words stand; the sign. Plain · Whole numbers in 64 bits; what a word's number is. Plain · Words of numbers stand as the numbers; no neighbouring word is nearer. Plain. Conditions: those that each theorem names. -/
import Derived.Test.YtgehoflkbckgkaaZ22
import Derived.Test.YtgehoflkbckgkaaZ19
import Derived.Test.YtgehoflkbckgkaaZ18
import Derived.Test.YtgehoflkbckgkaaZ17
namespace Go.Proofs.Ytgehoflkbckgkaa
open Go.RowKit Pg
theorem B3.set0 {w : World} {g : Nat} {t : TypeId} {v0 v1 v2 : Value} (h : B3 w g t v0 v1 v2) (u0 : Value) : B3 (w.setCell ⟨g, 0, none⟩ u0) g t u0 v1 v2 := by
  have h1 := heap_setCell_same w g 0 _ t u0 h
  unfold B3
  rw [h1]; rfl
theorem B3.setOther {w : World} {g h : Nat} {t : TypeId} {v0 v1 v2 : Value} (hB : B3 w g t v0 v1 v2) (hne : g ≠ h) (o : Nat) (u : Value) : B3 (w.setCell ⟨h, o, none⟩ u) g t v0 v1 v2 := by
  unfold B3
  rw [heap_setCell_other _ ⟨h, o, none⟩ g u hne]
  exact hB

theorem rMul_E (A A' : Option Addr) (n c n' c' : Nat) (xs ys : List Nat) (w : World) (a b r : Nat) (h : Row w A n c xs) (h' : Row w A' n' c' ys) (ea : val xs = a) (eb : val ys = b) (hb : n ≤ 1073741824) (hb' : n' ≤ 1073741824) (er : a * b = r) :
    Calls Try.prog 41 #[.slice A n c, .slice A' n' c'] w (Ret w r) := by
  subst er; exact rMul_N A A' n c n' c' xs ys w a b h h' ea eb hb hb'
theorem Short.neg {q : Rat} {k : Nat} (h : Short q k) : Short (-q) k := by unfold Short at h ⊢; rw [rnum_neg, rden_neg]; exact h

set_option maxHeartbeats 2000000 in
/-- pantographref2.Neg. -/
theorem r2Neg_R {va : Value} {p : Rat} {k : Nat} (w : World) (ha : RArg w va p k) (hk : k ≤ 262144) :
    Calls Try.prog 32 #[va] w (RatRet w (-p)) := by
  obtain ⟨s, A, n, c, A', n', c', xs, ys, rfl, h, h', hn, hn', hp⟩ := ha
  have hP := fun W (hW : Below w.heap.size w W) => r2Norm_any s A A' n c n' c' xs ys W (h.below hW) (h'.below hW) (by omega) (by omega)
  rw [hp] at hP
  have HP := hid hP
  clear h h' hP hp
  have HX := hid ((B3.new w 28 (.bool s) (.slice A n c) (.slice A' n' c')).alloc (.cells #[.bool false, .slice none 0 0, .slice none 0 0] 28))
  have HZ := hid (B3.newg (w.alloc (.cells #[.bool s, .slice A n c, .slice A' n' c'] 28)) 28 (.bool false) (.slice none 0 0) (.slice none 0 0) (w.heap.size + 1) (by simp))
  obtain ⟨w0, hw0⟩ : ∃ w0, w0 = (w.alloc (.cells #[.bool s, .slice A n c, .slice A' n' c'] 28)).alloc (.cells #[.bool false, .slice none 0 0, .slice none 0 0] 28) := ⟨_, rfl⟩
  go_enter Try.func32, Try.ntmps32
  go_upto_region 1 with fail
  have hb0 : Below w.heap.size w w0 := by rw [hw0]; exact Below.new_ (Below.new_ (Below.refl _ _) _) _
  rw [← hw0] at HX HZ ⊢
  clear hw0
  obtain ⟨k0, k1, k2, _, _, _⟩ := HX.out.cells
  go_upto_region 2 with (go_at_call 38; refine (HP.out _ hb0).mono ?_; rintro e w1 ⟨A1, c1, A2, c2, rfl, hr1, hr2, hb1⟩; clear k0 k1 k2)
  have hB := B3.new w1 28 (.bool (rneg p)) (.slice A1 (limbs (rnum p)).length c1) (.slice A2 (limbs p.den).length c2)
  have hs1 := hr1.alloc (.cells #[.bool (rneg p), .slice A1 (limbs (rnum p)).length c1, .slice A2 (limbs p.den).length c2] 28)
  have hs2 := hr2.alloc (.cells #[.bool (rneg p), .slice A1 (limbs (rnum p)).length c1, .slice A2 (limbs p.den).length c2] 28)
  have hZ := (HZ.out.below hb1).alloc (.cells #[.bool (rneg p), .slice A1 (limbs (rnum p)).length c1, .slice A2 (limbs p.den).length c2] 28)
  have hne : w.heap.size + 1 ≠ w1.heap.size := by have := (HZ.out.below hb1).lt; omega
  have hgle : w.heap.size ≤ w1.heap.size := by have := (HZ.out.below hb1).lt; omega
  have hbw := Below.new_ (Below.then_ hb0 hb1) (.cells #[.bool (rneg p), .slice A1 (limbs (rnum p)).length c1, .slice A2 (limbs p.den).length c2] 28)
  generalize w1.alloc (.cells #[.bool (rneg p), .slice A1 (limbs (rnum p)).length c1, .slice A2 (limbs p.den).length c2] 28) = w2 at *
  generalize w1.heap.size = g at *
  clear hr1 hr2 hb1 hb0 HX HZ HP
  have hR := rneg_neg p
  generalize hS : rneg p = S at *
  have hap1 := hB.apart hs1
  have hap2 := hB.apart hs2
  have key : ∀ b : Bool, b = rneg (-p) → Hid (b = rneg (-p) ∧ B3 (w2.setCell ⟨g, 0, none⟩ (.bool b)) g 28 (.bool b) (.slice A1 (limbs (rnum p)).length c1) (.slice A2 (limbs p.den).length c2) ∧ B3 (w2.setCell ⟨g, 0, none⟩ (.bool b)) (w.heap.size + 1) 28 (.bool false) (.slice none 0 0) (.slice none 0 0) ∧
      Row (w2.setCell ⟨g, 0, none⟩ (.bool b)) A1 (limbs (rnum p)).length c1 (limbs (rnum p)) ∧ Row (w2.setCell ⟨g, 0, none⟩ (.bool b)) A2 (limbs p.den).length c2 (limbs p.den) ∧ Below w.heap.size w (w2.setCell ⟨g, 0, none⟩ (.bool b))) := fun b hb =>
    hid ⟨hb, hB.set0 _, hZ.setOther hne 0 _, row_set_other hs1 _ _ hap1, row_set_other hs2 _ _ hap2, hbw.setCell hgle _⟩
  obtain ⟨k0, k1, k2, f0, f1, f2⟩ := hB.cells
  clear hs1 hs2 hap1 hap2 hbw hZ
  have hlz : Hid (0 < rnum p ↔ 0 < (limbs (rnum p)).length) := hid ⟨fun h => (tl_top (by omega)).1, fun h => Nat.pos_of_ne_zero fun e => by rw [e] at h; exact absurd h (by decide)⟩
  rcases S with _ | _
  · by_cases h0 : 0 < rnum p
    · have K := key true (by rw [hR]; simp [h0])
      have hl := hlz.out.1 h0
      clear key hR h0 hlz hS
      obtain ⟨m0, m1, m2, _, _, _⟩ := K.out.2.1.cells
      have hBr := K.out.2.2.1
      obtain ⟨z0, z1, z2, g0, g1, g2⟩ := hBr.cells
      go_wp2_with fail
      refine bodyPost_ret (by have q0 := fun u0 u1 u2 => (hBr.set u0 u1 u2).cells.1; have q1 := fun u0 u1 u2 => (hBr.set u0 u1 u2).cells.2.1; have q2 := fun u0 u1 u2 => (hBr.set u0 u1 u2).cells.2.2.1; simp [results, Try.results32, go_sem, q0, q1, q2]) rfl (RatRet.put hBr (by omega) K.out.2.2.2.2.2 K.out.1 (rnum_neg p).symm (rden_neg p).symm K.out.2.2.2.1 K.out.2.2.2.2.1 rfl rfl)
    · have K := key false (by rw [hR]; simp [h0])
      have hl : (limbs (rnum p)).length = 0 := by have := hlz.out.2; omega
      clear key hR h0 hlz hS
      obtain ⟨m0, m1, m2, _, _, _⟩ := K.out.2.1.cells
      have hBr := K.out.2.2.1
      obtain ⟨z0, z1, z2, g0, g1, g2⟩ := hBr.cells
      have hl0 : (((limbs (rnum p)).length : Int)) = 0 := by omega
      clear hl
      go_wp2_with fail
      refine bodyPost_ret (by have q0 := fun u0 u1 u2 => (hBr.set u0 u1 u2).cells.1; have q1 := fun u0 u1 u2 => (hBr.set u0 u1 u2).cells.2.1; have q2 := fun u0 u1 u2 => (hBr.set u0 u1 u2).cells.2.2.1; simp [results, Try.results32, go_sem, q0, q1, q2]) rfl (RatRet.put hBr (by omega) K.out.2.2.2.2.2 K.out.1 (rnum_neg p).symm (rden_neg p).symm K.out.2.2.2.1 K.out.2.2.2.2.1 rfl rfl)
  · have K := key false (by rw [hR]; rfl)
    clear key hR hlz hS
    obtain ⟨m0, m1, m2, _, _, _⟩ := K.out.2.1.cells
    have hBr := K.out.2.2.1
    obtain ⟨z0, z1, z2, g0, g1, g2⟩ := hBr.cells
    go_wp2_with fail
    refine bodyPost_ret (by have q0 := fun u0 u1 u2 => (hBr.set u0 u1 u2).cells.1; have q1 := fun u0 u1 u2 => (hBr.set u0 u1 u2).cells.2.1; have q2 := fun u0 u1 u2 => (hBr.set u0 u1 u2).cells.2.2.1; simp [results, Try.results32, go_sem, q0, q1, q2]) rfl (RatRet.put hBr (by omega) K.out.2.2.2.2.2 K.out.1 (rnum_neg p).symm (rden_neg p).symm K.out.2.2.2.1 K.out.2.2.2.2.1 rfl rfl)

set_option maxRecDepth 100000 in
set_option maxHeartbeats 4000000 in
/-- pantographref2.Add. -/
theorem r2Add_R {va vb : Value} {p q : Rat} {k : Nat} (w : World) (ha : RArg w va p k) (hb : RArg w vb q k) (hk : k ≤ 262144) (hk1 : 1 ≤ k) :
    Calls Try.prog 55 #[va, vb] w (RatRet w (p + q)) := by
  obtain ⟨lp1, lp2⟩ := ha.short hk1
  obtain ⟨lq1, lq2⟩ := hb.short hk1
  obtain ⟨s1, A, n, c, A', n', c', xs, ys, rfl, h, h', hn, hn', hp⟩ := ha
  obtain ⟨s2, C, m, d, C', m', d', us, vs, rfl, g, g', hm, hm', hq⟩ := hb
  have hP := fun W (hW : Below w.heap.size w W) => r2Norm_any s1 A A' n c n' c' xs ys W (h.below hW) (h'.below hW) (by omega) (by omega)
  have hQ := fun W (hW : Below w.heap.size w W) => r2Norm_any s2 C C' m d m' d' us vs W (g.below hW) (g'.below hW) (by omega) (by omega)
  rw [hp] at hP
  rw [hq] at hQ
  have HP := hid hP
  have HQ := hid hQ
  clear h h' g g' hP hQ hp hq
  have HX := hid (((B3.new w 28 (.bool s1) (.slice A n c) (.slice A' n' c')).alloc (.cells #[.bool s2, .slice C m d, .slice C' m' d'] 28)).alloc (.cells #[.bool false, .slice none 0 0, .slice none 0 0] 28))
  have HY := hid ((B3.new2 w (.cells #[.bool s1, .slice A n c, .slice A' n' c'] 28) 28 (.bool s2) (.slice C m d) (.slice C' m' d') _ rfl).alloc (.cells #[.bool false, .slice none 0 0, .slice none 0 0] 28))
  have HZ := hid (B3.newg ((w.alloc (.cells #[.bool s1, .slice A n c, .slice A' n' c'] 28)).alloc (.cells #[.bool s2, .slice C m d, .slice C' m' d'] 28)) 28 (.bool false) (.slice none 0 0) (.slice none 0 0) (w.heap.size + 2) (by simp))
  obtain ⟨w0, hw0⟩ : ∃ w0, w0 = ((w.alloc (.cells #[.bool s1, .slice A n c, .slice A' n' c'] 28)).alloc (.cells #[.bool s2, .slice C m d, .slice C' m' d'] 28)).alloc (.cells #[.bool false, .slice none 0 0, .slice none 0 0] 28) := ⟨_, rfl⟩
  go_enter Try.func55, Try.ntmps55
  go_upto_region 1 with fail
  have hb0 : Below w.heap.size w w0 := by rw [hw0]; exact Below.new_ (Below.new_ (Below.new_ (Below.refl _ _) _) _) _
  rw [← hw0] at HX HY HZ ⊢
  clear hw0
  refine pair_region 38 38 2 3 14 15 16 17 5 6 w.heap.size (w.heap.size + 1) _ _ _ _ _ _ p q rfl (by decide) (by kernel_rfl) (by kernel_rfl) (by kernel_rfl) (by kernel_rfl) (by kernel_rfl) (by kernel_rfl) (by kernel_rfl) (by kernel_rfl) rfl rfl HX.out HY.out (fun _ _ => by kernel_rfl) (fun _ _ => by kernel_rfl) (fun W hW => HP.out W (Below.then_ hb0 hW)) (fun W hW => HQ.out W (Below.then_ hb0 hW)) ?_
  rintro v1 v3 g1 g2 wc ⟨A1, c1, A2, c2, rfl, hr1, hr2⟩ ⟨A3, c3, A4, c4, rfl, hr3, hr4⟩ hH1 hH2 _ _ _ hbc
  have hbw := Below.then_ hb0 hbc
  have hB1 := hH1.b3
  have hB2 := hH2.b3
  have hBz := HZ.out.below hbc
  clear HX HY HP HQ hH1 hH2 HZ hbc hb0
  go_simp
  go_upto_region 2 with fail
  obtain ⟨n1, hn1⟩ : ∃ x, rnum p * q.den = x := ⟨_, rfl⟩
  obtain ⟨n2, hn2⟩ : ∃ x, rnum q * p.den = x := ⟨_, rfl⟩
  obtain ⟨dd, hdd⟩ : ∃ x, p.den * q.den = x := ⟨_, rfl⟩
  have ln1 := limbs_mul_len (k := k) lp1 lq2
  have ln2 := limbs_mul_len (k := k) lq1 lp2
  have ldd := limbs_mul_len (k := k) lp2 lq2
  have hadd := @rv_add_same p q
  have hge := @rv_add_ge p q
  have hlt := @rv_add_lt p q
  rw [hn1] at ln1
  rw [hn2] at ln2
  rw [hdd] at ldd
  rw [hn1, hn2, hdd] at hadd hge hlt
  have lsum := limbs_add_len (k := k + k) ln1 ln2
  have Hn1 := hid hn1
  have Hn2 := hid hn2
  have Hdd := hid hdd
  have Hadd := hid hadd
  have Hge := hid hge
  have Hlt := hid hlt
  clear hn1 hn2 hdd hadd hge hlt
  refine draw_hd [18, 19, 20, 21, 22, 23, 24, 25, 26, 27, 7, 8] [.is (.pointer (some ⟨g1, 1, none⟩)), .is (.slice A1 (limbs (rnum p)).length c1), .is (.pointer (some ⟨g2, 2, none⟩)), .is (.slice A4 (limbs q.den).length c4), .row n1, .is (.pointer (some ⟨g2, 1, none⟩)), .is (.slice A3 (limbs (rnum q)).length c3), .is (.pointer (some ⟨g1, 2, none⟩)), .is (.slice A2 (limbs p.den).length c2), .row n2, .row n1, .row n2]
    (by kernel_rfl) (by kernel_rfl) (by kernel_rfl) (by decide) (by kernel_rfl) (by kernel_rfl) ?_ ?_
  · refine ⟨?_, ?_, ?_, ?_, ?_, ?_, ?_, ?_, ?_, ?_, ?_, ?_, trivial⟩
    · intro a w3 hA K hK
      have t5 := hA.old 5 _ rfl rfl
      go_simp
      exact hK _ _ (by first | rfl | exact congrArg _ (by first | rfl | omega | (rw [IntKind.wrap_i64]; omega))) (Below.refl _ _)
    · intro a w3 hA K hK
      have t18 := bt_is hA 0 18 rfl rfl (by kernel_rfl)
      obtain ⟨k0, k1, k2, _, _, _⟩ := (hB1.below (hA.below)).cells
      go_simp
      exact hK _ _ (by first | rfl | exact congrArg _ (by first | rfl | omega | (rw [IntKind.wrap_i64]; omega))) (Below.refl _ _)
    · intro a w3 hA K hK
      have t6 := hA.old 6 _ rfl rfl
      go_simp
      exact hK _ _ (by first | rfl | exact congrArg _ (by first | rfl | omega | (rw [IntKind.wrap_i64]; omega))) (Below.refl _ _)
    · intro a w3 hA K hK
      have t20 := bt_is hA 2 20 rfl rfl (by kernel_rfl)
      obtain ⟨k0, k1, k2, _, _, _⟩ := (hB2.below (hA.below)).cells
      go_simp
      exact hK _ _ (by first | rfl | exact congrArg _ (by first | rfl | omega | (rw [IntKind.wrap_i64]; omega))) (Below.refl _ _)
    · intro a w3 hA K hK
      have t19 := bt_is hA 1 19 rfl rfl (by kernel_rfl)
      have t21 := bt_is hA 3 21 rfl rfl (by kernel_rfl)
      have hC := rMul_E A1 A4 _ c1 _ c4 _ _ w3 (rnum p) q.den n1 (hr1.below (hA.below)) (hr4.below (hA.below)) (val_limbs _) (val_limbs _) (by omega) (by omega) Hn1.out
      go_simp
      refine hC.mono ?_
      rintro e w4 ⟨A3, c3, rfl, hr, hb⟩
      exact hK _ _ ⟨_, _, rfl, hr⟩ hb
    · intro a w3 hA K hK
      have t6 := hA.old 6 _ rfl rfl
      go_simp
      exact hK _ _ (by first | rfl | exact congrArg _ (by first | rfl | omega | (rw [IntKind.wrap_i64]; omega))) (Below.refl _ _)
    · intro a w3 hA K hK
      have t23 := bt_is hA 5 23 rfl rfl (by kernel_rfl)
      obtain ⟨k0, k1, k2, _, _, _⟩ := (hB2.below (hA.below)).cells
      go_simp
      exact hK _ _ (by first | rfl | exact congrArg _ (by first | rfl | omega | (rw [IntKind.wrap_i64]; omega))) (Below.refl _ _)
    · intro a w3 hA K hK
      have t5 := hA.old 5 _ rfl rfl
      go_simp
      exact hK _ _ (by first | rfl | exact congrArg _ (by first | rfl | omega | (rw [IntKind.wrap_i64]; omega))) (Below.refl _ _)
    · intro a w3 hA K hK
      have t25 := bt_is hA 7 25 rfl rfl (by kernel_rfl)
      obtain ⟨k0, k1, k2, _, _, _⟩ := (hB1.below (hA.below)).cells
      go_simp
      exact hK _ _ (by first | rfl | exact congrArg _ (by first | rfl | omega | (rw [IntKind.wrap_i64]; omega))) (Below.refl _ _)
    · intro a w3 hA K hK
      have t24 := bt_is hA 6 24 rfl rfl (by kernel_rfl)
      have t26 := bt_is hA 8 26 rfl rfl (by kernel_rfl)
      have hC := rMul_E A3 A2 _ c3 _ c2 _ _ w3 (rnum q) p.den n2 (hr3.below (hA.below)) (hr2.below (hA.below)) (val_limbs _) (val_limbs _) (by omega) (by omega) Hn2.out
      go_simp
      refine hC.mono ?_
      rintro e w4 ⟨A3, c3, rfl, hr, hb⟩
      exact hK _ _ ⟨_, _, rfl, hr⟩ hb
    · intro a w3 hA K hK
      obtain ⟨A22, c22, t22, r22⟩ := bt_row hA 4 22 rfl rfl (by kernel_rfl)
      go_simp
      exact hK _ _ ⟨_, _, rfl, r22⟩ (Below.refl _ _)
    · intro a w3 hA K hK
      obtain ⟨A27, c27, t27, r27⟩ := bt_row hA 9 27 rfl rfl (by kernel_rfl)
      go_simp
      exact hK _ _ ⟨_, _, rfl, r27⟩ (Below.refl _ _)
  rintro vs w5 hV hb5 act hact
  have hV' := hV.is_
  clear hV
  obtain ⟨_, rfl, hV⟩ := hV'
  have hV' := hV.is_
  clear hV
  obtain ⟨_, rfl, hV⟩ := hV'
  have hV' := hV.is_
  clear hV
  obtain ⟨_, rfl, hV⟩ := hV'
  have hV' := hV.is_
  clear hV
  obtain ⟨_, rfl, hV⟩ := hV'
  have hV' := hV.row_
  clear hV
  obtain ⟨A22, c22, _, rfl, r22, hV⟩ := hV'
  have hV' := hV.is_
  clear hV
  obtain ⟨_, rfl, hV⟩ := hV'
  have hV' := hV.is_
  clear hV
  obtain ⟨_, rfl, hV⟩ := hV'
  have hV' := hV.is_
  clear hV
  obtain ⟨_, rfl, hV⟩ := hV'
  have hV' := hV.is_
  clear hV
  obtain ⟨_, rfl, hV⟩ := hV'
  have hV' := hV.row_
  clear hV
  obtain ⟨A27, c27, _, rfl, r27, hV⟩ := hV'
  have hV' := hV.row_
  clear hV
  obtain ⟨A7, c7, _, rfl, r7, hV⟩ := hV'
  have hV' := hV.row_
  clear hV
  obtain ⟨A8, c8, _, rfl, r8, hV⟩ := hV'
  obtain rfl := hV.nil_
  clear hV
  simp only [puts] at hact
  subst hact
  go_simp
  have h7 := r7
  have h8 := r8
  clear r7 r8 r22 r27
  obtain ⟨k0, k1, k2, _, _, _⟩ := (hB1.below hb5).cells
  obtain ⟨j0, j1, j2, _, _, _⟩ := (hB2.below hb5).cells
  go_upto_region 4 with (go_at_call 41; refine (rMul_E A2 A4 _ c2 _ c4 _ _ _ p.den q.den dd (hr2.below hb5) (hr4.below hb5) (val_limbs _) (val_limbs _) (by omega) (by omega) Hdd.out).mono ?_; rintro e w6 ⟨A9, c9, rfl, h9, hb6⟩)
  have h7 := h7.below hb6
  have h8 := h8.below hb6
  have hB1 := (hB1.below hb5).below hb6
  have hB2 := (hB2.below hb5).below hb6
  have hBz := (hBz.below hb5).below hb6
  have hbw := Below.then_ (Below.then_ hbw hb5) hb6
  clear hr1 hr2 hr3 hr4 hb5 hb6 Hn1 Hn2 Hdd k0 k1 k2 j0 j1 j2
  obtain ⟨k0, k1, k2, _, _, _⟩ := hB1.cells
  obtain ⟨j0, j1, j2, _, _, _⟩ := hB2.cells
  by_cases hs : rneg p = rneg q
  · have hE : (rneg p == rneg q) = true := by rw [hs]; simp
    have Hsame := hid (Hadd.out hs)
    clear hs Hadd Hge Hlt
    go_upto_region 5 with fail
    clear k0 k1 k2 j0 j1 j2
    refine draw_last [38, 39, 40, 41, 42, 43, 44] [.is (.pointer (some ⟨g1, 0, none⟩)), .is (.bool (rneg p)), .is (.slice A7 (limbs n1).length c7), .is (.slice A8 (limbs n2).length c8), .row (n1 + n2), .is (.slice A9 (limbs dd).length c9), .rat (p + q)]
      (by kernel_rfl) (by kernel_rfl) (by kernel_rfl) (by decide) (by kernel_rfl) (by kernel_rfl) (by kernel_rfl) rfl ?_ ?_
    · refine ⟨?_, ?_, ?_, ?_, ?_, ?_, ?_, trivial⟩
      · intro a w3 hA K hK
        have t5 := hA.old 5 _ rfl rfl
        go_simp
        exact hK _ _ (by first | rfl | exact congrArg _ (by first | rfl | omega | (rw [IntKind.wrap_i64]; omega))) (Below.refl _ _)
      · intro a w3 hA K hK
        have t38 := bt_is hA 0 38 rfl rfl (by kernel_rfl)
        obtain ⟨k0, k1, k2, _, _, _⟩ := (hB1.below hA.below).cells
        go_simp
        exact hK _ _ (by first | rfl | exact congrArg _ (by first | rfl | omega | (rw [IntKind.wrap_i64]; omega))) (Below.refl _ _)
      · intro a w3 hA K hK
        have t7 := hA.old 7 _ rfl rfl
        go_simp
        exact hK _ _ (by first | rfl | exact congrArg _ (by first | rfl | omega | (rw [IntKind.wrap_i64]; omega))) (Below.refl _ _)
      · intro a w3 hA K hK
        have t8 := hA.old 8 _ rfl rfl
        go_simp
        exact hK _ _ (by first | rfl | exact congrArg _ (by first | rfl | omega | (rw [IntKind.wrap_i64]; omega))) (Below.refl _ _)
      · intro a w3 hA K hK
        have t40 := bt_is hA 2 40 rfl rfl (by kernel_rfl)
        have t41 := bt_is hA 3 41 rfl rfl (by kernel_rfl)
        have hC := rAdd_N A7 A8 _ c7 _ c8 _ _ w3 n1 n2 (h7.below hA.below) (h8.below hA.below) (val_limbs _) (val_limbs _) (by omega) (by omega)
        go_simp
        refine hC.mono ?_
        rintro e w4 ⟨A3, c3, rfl, hr, hb⟩
        exact hK _ _ ⟨_, _, rfl, hr⟩ hb
      · intro a w3 hA K hK
        have t9 := hA.old 9 _ rfl rfl
        go_simp
        exact hK _ _ (by first | rfl | exact congrArg _ (by first | rfl | omega | (rw [IntKind.wrap_i64]; omega))) (Below.refl _ _)
      · intro a w3 hA K hK
        have t39 := bt_is hA 1 39 rfl rfl (by kernel_rfl)
        obtain ⟨A42, c42, t42, r42⟩ := bt_row hA 4 42 rfl rfl (by kernel_rfl)
        have t43 := bt_is hA 5 43 rfl rfl (by kernel_rfl)
        have hC := r2Of_E (rneg p) A42 A9 _ c42 _ c9 (n1 + n2) dd _ _ (p + q) w3 r42 (h9.below hA.below) (val_limbs _) (val_limbs _) (by omega) (by omega) Hsame.out
        go_simp
        refine hC.mono ?_
        rintro e w4 ⟨A3, c3, A4, c4, rfl, hr, hr', hb⟩
        exact hK _ _ ⟨_, _, _, _, rfl, hr, hr'⟩ hb
    rintro vs w7 hV hb7 act hact hold hnew K hK
    have hV' := hV.is_
    clear hV
    obtain ⟨_, rfl, hV⟩ := hV'
    have hV' := hV.is_
    clear hV
    obtain ⟨_, rfl, hV⟩ := hV'
    have hV' := hV.is_
    clear hV
    obtain ⟨_, rfl, hV⟩ := hV'
    have hV' := hV.is_
    clear hV
    obtain ⟨_, rfl, hV⟩ := hV'
    have hV' := hV.row_
    clear hV
    obtain ⟨A42, c42, _, rfl, r42, hV⟩ := hV'
    have hV' := hV.is_
    clear hV
    obtain ⟨_, rfl, hV⟩ := hV'
    have hV' := hV.rat_
    clear hV
    obtain ⟨A44, c44, B44, d44, _, rfl, r44, s44, hV⟩ := hV'
    obtain rfl := hV.nil_
    clear hV
    simp only [puts] at hact
    have tq1 := hold 4 _ rfl rfl
    have tq2 := hnew 6 44 _ rfl rfl
    clear hold hnew
    have Hact := hid hact
    clear hact
    have hBr := hBz.below hb7
    obtain ⟨k0, k1, k2, f0, f1, f2⟩ := hBr.cells
    go_simp
    refine hK _ _ ?_
    have hact := Hact.out
    clear Hact tq1 tq2
    subst hact
    go_simp
    go_wp2_with fail
    refine bodyPost_ret (by have q0 := fun u0 u1 u2 => (hBr.set u0 u1 u2).cells.1; have q1 := fun u0 u1 u2 => (hBr.set u0 u1 u2).cells.2.1; have q2 := fun u0 u1 u2 => (hBr.set u0 u1 u2).cells.2.2.1; simp [results, Try.results55, go_sem, q0, q1, q2]) rfl (RatRet.put hBr (by omega) (Below.then_ hbw hb7) rfl rfl rfl r44 s44 rfl rfl)
  · have hE : (rneg p == rneg q) = false := beq_eq_false_iff_ne.2 hs
    rcases Nat.lt_or_ge n1 n2 with hc | hc
    · have Hq := hid (Hlt.out hs hc)
      have hcm : Hid (cmpv n1 n2 = -1) := hid (cmpv_lt hc)
      have lsub := Nat.le_trans (limbs_mono (Nat.sub_le n2 n1)) ln2
      have hcc := hid hc
      clear hs Hadd Hge Hlt hc
      go_wp2_with (first
        | (go_at_call 50; refine (rCmpE A7 A8 _ c7 _ c8 _ _ _ n1 n2 (-1) (by repeat first | assumption | apply Pg.Row.below (hb := by assumption) | apply Pg.Row.alloc | apply Pg.Row.drewN) (by repeat first | assumption | apply Pg.Row.below (hb := by assumption) | apply Pg.Row.alloc | apply Pg.Row.drewN) (val_limbs _) (val_limbs _) (by first | omega | assumption) (by first | omega | assumption) hcm.out).mono ?_; rintro e w7 ⟨rfl, hb7⟩; clear j0 j1 j2; obtain ⟨j0, j1, j2, _, _, _⟩ := (hB2.below hb7).cells)
        | (go_at_call 70; refine (rSub_N A8 A7 _ c8 _ c7 _ _ _ n2 n1 (by repeat first | assumption | apply Pg.Row.below (hb := by assumption) | apply Pg.Row.alloc | apply Pg.Row.drewN) (by repeat first | assumption | apply Pg.Row.below (hb := by assumption) | apply Pg.Row.alloc | apply Pg.Row.drewN) (val_limbs _) (val_limbs _) (by first | omega | assumption) (by first | omega | assumption)).mono ?_; rintro e w8 ⟨A10, c10, rfl, h10, hb8⟩; clear j0 j1 j2; obtain ⟨j0, j1, j2, _, _, _⟩ := ((hB2.below hb7).below hb8).cells)
        | (go_at_call 24; refine (r2Of_E (rneg q) A10 A9 _ c10 _ c9 (n2 - n1) dd _ _ (p + q) _ (by repeat first | assumption | apply Pg.Row.below (hb := by assumption) | apply Pg.Row.alloc | apply Pg.Row.drewN) (by repeat first | assumption | apply Pg.Row.below (hb := by assumption) | apply Pg.Row.alloc | apply Pg.Row.drewN) (val_limbs _) (val_limbs _) (by first | omega | assumption) (by first | omega | assumption) Hq.out).mono ?_; rintro e w9 ⟨A11, c11, A12, c12, rfl, h11, h12, hb9⟩; have hBr := ((hBz.below hb7).below hb8).below hb9; obtain ⟨i0, i1, i2, f0, f1, f2⟩ := hBr.cells))
      refine bodyPost_ret (by have q0 := fun u0 u1 u2 => (hBr.set u0 u1 u2).cells.1; have q1 := fun u0 u1 u2 => (hBr.set u0 u1 u2).cells.2.1; have q2 := fun u0 u1 u2 => (hBr.set u0 u1 u2).cells.2.2.1; simp [results, Try.results55, go_sem, q0, q1, q2]) rfl (RatRet.put hBr (by omega) (by repeat first | exact Below.refl _ _ | assumption | refine Pg.Below.then_ ?_ (by assumption) | refine Pg.Below.new_ ?_ _ | refine Pg.Below.drewN_ ?_ _) rfl rfl rfl h11 h12 rfl rfl)
    · have Hq := hid (Hge.out hs hc)
      obtain ⟨cm, hcm0⟩ : ∃ cm, cm = cmpv n1 n2 := ⟨_, rfl⟩
      have hcp : 0 ≤ cm := by
        rw [hcm0]
        rcases Nat.lt_or_eq_of_le hc with h | h
        · rw [cmpv_gt h]; omega
        · rw [cmpv_eq h.symm]; omega
      have hcm := hid hcm0.symm
      have lsub := Nat.le_trans (limbs_mono (Nat.sub_le n1 n2)) ln1
      clear hs Hadd Hge Hlt hc hcm0
      go_wp2_with (first
        | (go_at_call 50; refine (rCmpE A7 A8 _ c7 _ c8 _ _ _ n1 n2 cm (by repeat first | assumption | apply Pg.Row.below (hb := by assumption) | apply Pg.Row.alloc | apply Pg.Row.drewN) (by repeat first | assumption | apply Pg.Row.below (hb := by assumption) | apply Pg.Row.alloc | apply Pg.Row.drewN) (val_limbs _) (val_limbs _) (by first | omega | assumption) (by first | omega | assumption) hcm.out).mono ?_; rintro e w7 ⟨rfl, hb7⟩; clear k0 k1 k2; obtain ⟨k0, k1, k2, _, _, _⟩ := (hB1.below hb7).cells)
        | (go_at_call 70; refine (rSub_N A7 A8 _ c7 _ c8 _ _ _ n1 n2 (by repeat first | assumption | apply Pg.Row.below (hb := by assumption) | apply Pg.Row.alloc | apply Pg.Row.drewN) (by repeat first | assumption | apply Pg.Row.below (hb := by assumption) | apply Pg.Row.alloc | apply Pg.Row.drewN) (val_limbs _) (val_limbs _) (by first | omega | assumption) (by first | omega | assumption)).mono ?_; rintro e w8 ⟨A10, c10, rfl, h10, hb8⟩; clear k0 k1 k2; obtain ⟨k0, k1, k2, _, _, _⟩ := ((hB1.below hb7).below hb8).cells)
        | (go_at_call 24; refine (r2Of_E (rneg p) A10 A9 _ c10 _ c9 (n1 - n2) dd _ _ (p + q) _ (by repeat first | assumption | apply Pg.Row.below (hb := by assumption) | apply Pg.Row.alloc | apply Pg.Row.drewN) (by repeat first | assumption | apply Pg.Row.below (hb := by assumption) | apply Pg.Row.alloc | apply Pg.Row.drewN) (val_limbs _) (val_limbs _) (by first | omega | assumption) (by first | omega | assumption) Hq.out).mono ?_; rintro e w9 ⟨A11, c11, A12, c12, rfl, h11, h12, hb9⟩; have hBr := ((hBz.below hb7).below hb8).below hb9; obtain ⟨i0, i1, i2, f0, f1, f2⟩ := hBr.cells))
      refine bodyPost_ret (by have q0 := fun u0 u1 u2 => (hBr.set u0 u1 u2).cells.1; have q1 := fun u0 u1 u2 => (hBr.set u0 u1 u2).cells.2.1; have q2 := fun u0 u1 u2 => (hBr.set u0 u1 u2).cells.2.2.1; simp [results, Try.results55, go_sem, q0, q1, q2]) rfl (RatRet.put hBr (by omega) (by repeat first | exact Below.refl _ _ | assumption | refine Pg.Below.then_ ?_ (by assumption) | refine Pg.Below.new_ ?_ _ | refine Pg.Below.drewN_ ?_ _) rfl rfl rfl h11 h12 rfl rfl)

set_option maxRecDepth 100000 in
set_option maxHeartbeats 4000000 in
/-- pantographref2.Sub. -/
theorem r2Sub_R {va vb : Value} {p q : Rat} {k : Nat} (w : World) (ha : RArg w va p k) (hb : RArg w vb q k) (hk : k ≤ 262144) (hk1 : 1 ≤ k) :
    Calls Try.prog 29 #[va, vb] w (RatRet w (p - q)) := by
  have lq := hb.short hk1
  have HP := hid ha
  have HQ := hid hb
  obtain ⟨s1, A, n, c, A', n', c', xs, ys, rfl, _, _, _, _, _⟩ := ha
  obtain ⟨s2, C, m, d, C', m', d', us, vs, rfl, _, _, _, _, _⟩ := hb
  have HX := hid (((B3.new w 28 (.bool s1) (.slice A n c) (.slice A' n' c')).alloc (.cells #[.bool s2, .slice C m d, .slice C' m' d'] 28)).alloc (.cells #[.bool false, .slice none 0 0, .slice none 0 0] 28))
  have HY := hid ((B3.new2 w (.cells #[.bool s1, .slice A n c, .slice A' n' c'] 28) 28 (.bool s2) (.slice C m d) (.slice C' m' d') _ rfl).alloc (.cells #[.bool false, .slice none 0 0, .slice none 0 0] 28))
  have HZ := hid (B3.newg ((w.alloc (.cells #[.bool s1, .slice A n c, .slice A' n' c'] 28)).alloc (.cells #[.bool s2, .slice C m d, .slice C' m' d'] 28)) 28 (.bool false) (.slice none 0 0) (.slice none 0 0) (w.heap.size + 2) (by simp))
  obtain ⟨w0, hw0⟩ : ∃ w0, w0 = ((w.alloc (.cells #[.bool s1, .slice A n c, .slice A' n' c'] 28)).alloc (.cells #[.bool s2, .slice C m d, .slice C' m' d'] 28)).alloc (.cells #[.bool false, .slice none 0 0, .slice none 0 0] 28) := ⟨_, rfl⟩
  go_enter Try.func29, Try.ntmps29
  go_upto_region 1 with fail
  have hb0 : Below w.heap.size w w0 := by rw [hw0]; exact Below.new_ (Below.new_ (Below.new_ (Below.refl _ _) _) _) _
  rw [← hw0] at HX HY HZ ⊢
  clear hw0
  refine draw_last [5, 6, 7, 8] [.is (.agg #[.bool s1, .slice A n c, .slice A' n' c']), .is (.agg #[.bool s2, .slice C m d, .slice C' m' d']), .rat (-q), .rat (p - q)]
    (by kernel_rfl) (by kernel_rfl) (by kernel_rfl) (by decide) (by kernel_rfl) (by kernel_rfl) (by kernel_rfl) rfl ?_ ?_
  · refine ⟨?_, ?_, ?_, ?_, trivial⟩
    · intro a w3 hA K hK
      have t2 := hA.old 2 _ rfl rfl
      obtain ⟨k0, k1, k2, _, _, _⟩ := (HX.out.below hA.below).cells
      go_simp
      exact hK _ _ (by first | rfl | exact congrArg _ (by first | rfl | omega | (rw [IntKind.wrap_i64]; omega))) (Below.refl _ _)
    · intro a w3 hA K hK
      have t3 := hA.old 3 _ rfl rfl
      obtain ⟨k0, k1, k2, _, _, _⟩ := (HY.out.below hA.below).cells
      go_simp
      exact hK _ _ (by first | rfl | exact congrArg _ (by first | rfl | omega | (rw [IntKind.wrap_i64]; omega))) (Below.refl _ _)
    · intro a w3 hA K hK
      have t6 := bt_is hA 1 6 rfl rfl (by kernel_rfl)
      have hC := r2Neg_R w3 (HQ.out.below (Below.then_ hb0 hA.below)) hk
      go_simp
      refine hC.mono ?_
      rintro e w4 ⟨A3, c3, A4, c4, rfl, hr, hr', hb⟩
      exact hK _ _ ⟨_, _, _, _, rfl, hr, hr'⟩ hb
    · intro a w3 hA K hK
      have t5 := bt_is hA 0 5 rfl rfl (by kernel_rfl)
      obtain ⟨A7, c7, B7, d7, t7, r7, s7⟩ := bt_rat hA 2 7 rfl rfl (by kernel_rfl)
      have hC := r2Add_R w3 (HP.out.below (Below.then_ hb0 hA.below)) (RArg.norm r7 s7 lq.neg.1 lq.neg.2) hk hk1
      go_simp
      refine hC.mono ?_
      rintro e w4 hRR
      rw [← Rat.sub_eq_add_neg] at hRR
      obtain ⟨A3, c3, A4, c4, rfl, hr, hr', hb⟩ := hRR
      exact hK _ _ ⟨_, _, _, _, rfl, hr, hr'⟩ hb
  rintro vs w5 hV hb5 act hact hold hnew K hK
  have hV' := hV.is_
  clear hV
  obtain ⟨_, rfl, hV⟩ := hV'
  have hV' := hV.is_
  clear hV
  obtain ⟨_, rfl, hV⟩ := hV'
  have hV' := hV.rat_
  clear hV
  obtain ⟨A7, c7, B7, d7, _, rfl, r7, s7, hV⟩ := hV'
  have hV' := hV.rat_
  clear hV
  obtain ⟨A8, c8, B8, d8, _, rfl, r8, s8, hV⟩ := hV'
  obtain rfl := hV.nil_
  clear hV
  simp only [puts] at hact
  have tq1 := hold 4 _ rfl rfl
  have tq2 := hnew 3 8 _ rfl rfl
  clear hold hnew
  have Hact := hid hact
  clear hact
  have hBr := HZ.out.below hb5
  obtain ⟨k0, k1, k2, f0, f1, f2⟩ := hBr.cells
  go_simp
  refine hK _ _ ?_
  have hact := Hact.out
  clear Hact tq1 tq2
  subst hact
  go_simp
  go_wp2_with fail
  refine bodyPost_ret (by have q0 := fun u0 u1 u2 => (hBr.set u0 u1 u2).cells.1; have q1 := fun u0 u1 u2 => (hBr.set u0 u1 u2).cells.2.1; have q2 := fun u0 u1 u2 => (hBr.set u0 u1 u2).cells.2.2.1; simp [results, Try.results29, go_sem, q0, q1, q2]) rfl (RatRet.put hBr (by omega) (Below.then_ hb0 hb5) rfl rfl rfl r8 s8 rfl rfl)
end Go.Proofs.Ytgehoflkbckgkaa
namespace Go.Proofs.Ytgehoflkbckgkaa
open Go.RowKit Pg

set_option maxHeartbeats 2000000 in
/-- pantographref2.Cmp. -/
theorem r2Cmp_R {va vb : Value} {p q : Rat} {k : Nat} (w : World) (ha : RArg w va p k) (hb : RArg w vb q k) (hk : k ≤ 262144) (hk1 : 1 ≤ k) :
    Calls Try.prog 30 #[va, vb] w fun e w' => e = .returned (.int .i64 (cmpq p q)) ∧ Below w.heap.size w w' := by
  have HS := hid fun W (hW : Below w.heap.size w W) => r2Sub_R W (ha.below hW) (hb.below hW) hk hk1
  have hc : cmpq p q = if rnum (p - q) = 0 then 0 else if rneg (p - q) then -1 else 1 := rfl
  obtain ⟨s1, A, n, c, A', n', c', xs, ys, rfl, _, _, _, _, _⟩ := ha
  obtain ⟨s2, C, m, d, C', m', d', us, vs, rfl, _, _, _, _, _⟩ := hb
  have HX := hid ((B3.new w 28 (.bool s1) (.slice A n c) (.slice A' n' c')).alloc (.cells #[.bool s2, .slice C m d, .slice C' m' d'] 28))
  have HY := hid (B3.new2 w (.cells #[.bool s1, .slice A n c, .slice A' n' c'] 28) 28 (.bool s2) (.slice C m d) (.slice C' m' d') _ rfl)
  obtain ⟨k0, k1, k2, _, _, _⟩ := HX.out.cells
  obtain ⟨j0, j1, j2, _, _, _⟩ := HY.out.cells
  generalize p - q = r at *
  generalize cmpq p q = z at *
  have hlz : rnum r = 0 ↔ (limbs (rnum r)).length = 0 := ⟨fun h => by rw [h]; rfl, fun h => by
    rcases Nat.eq_zero_or_pos (rnum r) with h0 | h0
    · exact h0
    · have := (tl_top (N := rnum r) (by omega)).1; omega⟩
  by_cases h0 : rnum r = 0
  · have hl : (((limbs (rnum r)).length : Int)) = 0 := by have := hlz.1 h0; omega
    have hz := hid (hc.trans (if_pos h0))
    clear hc hlz h0
    go_enter Try.func30, Try.ntmps30
    go_wp2_with (go_at_call 29; refine (HS.out _ (by repeat first | exact Below.refl _ _ | assumption | refine Pg.Below.then_ ?_ (by assumption) | refine Pg.Below.new_ ?_ _ | refine Pg.Below.drewN_ ?_ _)).mono ?_; rintro e w1 ⟨A1, c1, A2, c2, rfl, hr1, hr2, hb1⟩; have hBg := B3.new w1 28 (.bool (rneg r)) (.slice A1 (limbs (rnum r)).length c1) (.slice A2 (limbs r.den).length c2); clear k0 k1 k2 j0 j1 j2; obtain ⟨k0, k1, k2, _, _, _⟩ := hBg.cells)
    go_ret
    exact ⟨by rw [hz.out]; rfl, (by repeat first | exact Below.refl _ _ | assumption | refine Pg.Below.then_ ?_ (by assumption) | refine Pg.Below.new_ ?_ _ | refine Pg.Below.drewN_ ?_ _)⟩
  · have hl : (((limbs (rnum r)).length : Int) == 0) = false := beq_eq_false_iff_ne.2 (by intro e; exact h0 (hlz.2 (by omega)))
    have hz := hid (hc.trans (if_neg h0))
    clear hc hlz h0
    have HS2 : ∀ W, Below w.heap.size w W → Calls Try.prog 29 #[.agg #[.bool s1, .slice A n c, .slice A' n' c'], .agg #[.bool s2, .slice C m d, .slice C' m' d']] W fun e w' => RatRet W r e w' := fun W hW => HS.out W hW
    simp only [RatRet] at HS2
    clear HS
    generalize hLN : (limbs (rnum r)).length = L at *
    generalize hLD : (limbs r.den).length = L' at *
    generalize limbs (rnum r) = X at *
    generalize limbs r.den = Y at *
    cases hS : rneg r
    · simp only [hS] at HS2 hz
      have HS := hid HS2
      clear HS2
      go_enter Try.func30, Try.ntmps30
      go_wp2_with (go_at_call 29; refine (HS.out _ (by repeat first | exact Below.refl _ _ | assumption | refine Pg.Below.then_ ?_ (by assumption) | refine Pg.Below.new_ ?_ _ | refine Pg.Below.drewN_ ?_ _)).mono ?_; rintro e w1 ⟨A1, c1, A2, c2, rfl, hr1, hr2, hb1⟩; have hBg := B3.new w1 28 (.bool false) (.slice A1 L c1) (.slice A2 L' c2); clear k0 k1 k2 j0 j1 j2; obtain ⟨k0, k1, k2, _, _, _⟩ := hBg.cells)
      go_ret
      exact ⟨by rw [hz.out]; rfl, (by repeat first | exact Below.refl _ _ | assumption | refine Pg.Below.then_ ?_ (by assumption) | refine Pg.Below.new_ ?_ _ | refine Pg.Below.drewN_ ?_ _)⟩
    · simp only [hS] at HS2 hz
      have HS := hid HS2
      clear HS2
      go_enter Try.func30, Try.ntmps30
      go_wp2_with (go_at_call 29; refine (HS.out _ (by repeat first | exact Below.refl _ _ | assumption | refine Pg.Below.then_ ?_ (by assumption) | refine Pg.Below.new_ ?_ _ | refine Pg.Below.drewN_ ?_ _)).mono ?_; rintro e w1 ⟨A1, c1, A2, c2, rfl, hr1, hr2, hb1⟩; have hBg := B3.new w1 28 (.bool true) (.slice A1 L c1) (.slice A2 L' c2); clear k0 k1 k2 j0 j1 j2; obtain ⟨k0, k1, k2, _, _, _⟩ := hBg.cells)
      go_ret
      exact ⟨by rw [hz.out]; rfl, (by repeat first | exact Below.refl _ _ | assumption | refine Pg.Below.then_ ?_ (by assumption) | refine Pg.Below.new_ ?_ _ | refine Pg.Below.drewN_ ?_ _)⟩
end Go.Proofs.Ytgehoflkbckgkaa
namespace Pg
open Ieee
theorem fw_zero : fw 0 = 0 := fword_zero _ (by decide)
theorem frung_le (N D : Nat) : frung N D ≤ 9218868437227405312 := Nat.min_le_right _ _
theorem fw_cases (q : Rat) : ∃ R, R = frung (rnum q) q.den ∧ R ≤ 9218868437227405312 ∧ ((R = 0 ∧ fw q = 0) ∨ (R ≠ 0 ∧ rneg q = false ∧ fw q = R) ∨ (R ≠ 0 ∧ rneg q = true ∧ fw q = 9223372036854775808 + R)) := by
  refine ⟨_, rfl, frung_le _ _, ?_⟩
  unfold fw fword
  by_cases h : frung (rnum q) q.den = 0
  · exact .inl ⟨h, by rw [if_pos h]⟩
  · right
    rw [if_neg h]
    cases hs : rneg q
    · exact .inl ⟨h, rfl, by simp⟩
    · exact .inr ⟨h, rfl, by simp⟩
theorem fw_lt (q : Rat) : fw q < 18446744073709551616 := by
  obtain ⟨R, _, h1, h2 | h2 | h2⟩ := fw_cases q <;> omega
theorem frung_pos_num {N D : Nat} (hD : 0 < D) (h : frung N D ≠ 0) : N ≠ 0 := by
  rintro rfl
  apply h
  unfold frung fk rnd
  simp only [Nat.zero_mul, Nat.zero_div, Nat.zero_mod, Nat.mul_zero]
  rw [if_pos (by omega), Nat.pow_zero, Nat.mul_one, if_neg (by omega)]
  rfl
theorem xor_sign (R : Nat) (h : R ≤ 9218868437227405312) : R ^^^ (9223372036854775808 + R) = 9223372036854775808 ∧ (9223372036854775808 + R) ^^^ R = 9223372036854775808 := by
  have e : R ^^^ 2 ^ 63 = 9223372036854775808 + R := neg_word R h
  rw [← e]
  constructor
  · rw [← Nat.xor_assoc, Nat.xor_self, Nat.zero_xor]
  · rw [Nat.xor_comm, ← Nat.xor_assoc, Nat.xor_self, Nat.zero_xor]
/-- The other number's word. -/
theorem fw_neg (q : Rat) : (fw q = 0 → fw (-q) = 0) ∧ (fw q ≠ 0 → fw q ^^^ fw (-q) = 9223372036854775808) := by
  obtain ⟨R, hR, h1, h2⟩ := fw_cases q
  obtain ⟨R', hR', h1', h2'⟩ := fw_cases (-q)
  rw [rnum_neg, rden_neg, ← hR] at hR'
  rw [hR'] at h1' h2'
  clear hR'
  obtain ⟨x1, x2⟩ := xor_sign R h1
  by_cases h0 : R = 0
  · constructor
    · intro _
      rcases h2' with h | h | h
      · exact h.2
      · exact absurd h0 h.1
      · exact absurd h0 h.1
    · intro h
      rcases h2 with h | h | h
      · omega
      · exact absurd h0 h.1
      · exact absurd h0 h.1
  · have hN : 0 < rnum q := Nat.pos_of_ne_zero (frung_pos_num (den_pos q) (hR ▸ h0))
    have hs : rneg (-q) = !rneg q := by rw [rneg_neg]; simp [hN]
    constructor
    · intro h
      rcases h2 with h3 | h3 | h3 <;> omega
    · intro _
      rcases h2 with h3 | ⟨_, h4, h5⟩ | ⟨_, h4, h5⟩
      · exact absurd h3.1 h0
      · rw [h4] at hs
        rcases h2' with h6 | ⟨_, h7, h8⟩ | ⟨_, h7, h8⟩
        · exact absurd h6.1 h0
        · rw [hs] at h7; cases h7
        · rw [h5, h8]; exact x1
      · rw [h4] at hs
        rcases h2' with h6 | ⟨_, h7, h8⟩ | ⟨_, h7, h8⟩
        · exact absurd h6.1 h0
        · rw [h5, h8]; exact x2
        · rw [hs] at h7; cases h7
theorem kind_one {x : Nat} (hx : x < 18446744073709551616) : fKind x = 1 ↔ x = 0 := by
  have e := word_parts x
  have hn : fNeg x = decide (9223372036854775808 ≤ x) := rfl
  constructor
  · intro h
    unfold fKind at h
    by_cases c : fExp x = 2047
    · rw [if_pos c] at h
      revert h
      repeat' split
      all_goals (intro h; omega)
    · rw [if_neg c] at h
      by_cases c0 : fExp x = 0
      · rw [if_pos c0] at h
        by_cases c1 : fFrac x = 0
        · rw [if_pos c1] at h
          by_cases c2 : fNeg x = true
          · rw [if_pos c2] at h; omega
          · rw [hn] at c2
            have c3 : ¬ 9223372036854775808 ≤ x := by simpa using c2
            omega
        · rw [if_neg c1] at h; omega
      · rw [if_neg c0] at h; omega
  · rintro rfl; decide

/-! The nearest number rises. -/
theorem div_mono {n d n' d' : Nat} (hd : 0 < d) (hd' : 0 < d') (h : n * d' ≤ n' * d) : n / d ≤ n' / d' := by
  refine (Nat.le_div_iff_mul_le hd').2 ?_
  have h1 := Nat.div_mul_le_self n d
  refine Nat.le_of_mul_le_mul_right (c := d) ?_ hd
  calc n / d * d' * d = n / d * d * d' := Nat.mul_right_comm _ _ _
    _ ≤ n * d' := Nat.mul_le_mul_right _ h1
    _ ≤ n' * d := h
theorem rnd_mono {n d n' d' : Nat} (hd : 0 < d) (hd' : 0 < d') (h : n * d' ≤ n' * d) : rnd n d ≤ rnd n' d' := by
  have hq := div_mono hd hd' h
  obtain ⟨l1, l2⟩ := rnd_le n d
  obtain ⟨l3, l4⟩ := rnd_le n' d'
  rcases Nat.lt_or_eq_of_le hq with hlt | heq
  · omega
  · have e1 := Nat.div_add_mod n d
    have e2 := Nat.div_add_mod n' d'
    obtain ⟨q, hqq⟩ : ∃ q, q = n / d := ⟨_, rfl⟩
    obtain ⟨r, hr⟩ : ∃ r, r = n % d := ⟨_, rfl⟩
    obtain ⟨r', hr'⟩ : ∃ r, r = n' % d' := ⟨_, rfl⟩
    unfold rnd
    rw [← heq, ← hqq, ← hr, ← hr']
    rw [← heq, ← hqq, ← hr'] at e2
    rw [← hqq, ← hr] at e1
    have hc : r * d' ≤ r' * d := by
      have a1 : n * d' = d * q * d' + r * d' := by rw [← e1, Nat.add_mul]
      have a2 : n' * d = d' * q * d + r' * d := by rw [← e2, Nat.add_mul]
      have a3 : d * q * d' = d' * q * d := by rw [Nat.mul_comm d q, Nat.mul_comm d' q, Nat.mul_right_comm]
      omega
    have key : d ≤ 2 * r → d' ≤ 2 * r' := fun h1 => by
      refine Nat.le_of_mul_le_mul_right (c := d) ?_ hd
      have : d * d' ≤ 2 * r * d' := Nat.mul_le_mul_right _ h1
      rw [Nat.mul_assoc] at this ⊢
      rw [Nat.mul_comm d' d]; omega
    have key2 : d < 2 * r → d' < 2 * r' := fun h1 => by
      refine Nat.lt_of_mul_lt_mul_right (a := d) ?_
      have : d * d' < 2 * r * d' := Nat.mul_lt_mul_of_pos_right h1 hd'
      rw [Nat.mul_assoc] at this ⊢
      rw [Nat.mul_comm d' d]; omega
    by_cases c : d < 2 * r ∨ d = 2 * r ∧ q % 2 = 1
    · rw [if_pos c, if_pos]
      · omega
      · rcases c with c | ⟨c1, c2⟩
        · exact .inl (key2 c)
        · have := key (by omega)
          rcases Nat.lt_or_eq_of_le this with h1 | h1
          · exact .inl h1
          · exact .inr ⟨h1, c2⟩
    · rw [if_neg c]; split <;> omega
theorem frung_mono {N D N' D' : Nat} (hD : 0 < D) (hD' : 0 < D') (h : N * D' ≤ N' * D) : frung N D ≤ frung N' D' := by
  obtain ⟨L, hL⟩ : ∃ L, L = 1074 := ⟨_, rfl⟩
  unfold frung
  rw [← hL]
  clear hL
  have h' : N * 2 ^ L * D' ≤ N' * 2 ^ L * D := by
    have e1 : N * 2 ^ L * D' = N * D' * 2 ^ L := Nat.mul_right_comm _ _ _
    have e2 : N' * 2 ^ L * D = N' * D * 2 ^ L := Nat.mul_right_comm _ _ _
    rw [e1, e2]; exact Nat.mul_le_mul_right _ h
  have hq := div_mono hD hD' h'
  have hk : fk (N * 2 ^ L) D ≤ fk (N' * 2 ^ L) D' := by
    unfold fk
    by_cases c : N * 2 ^ L / D < 9007199254740992
    · rw [if_pos c]; omega
    · rw [if_neg c, if_neg (by omega)]
      have := blen_mono hq
      omega
  obtain ⟨s1, s2⟩ := fk_spec (n := N * 2 ^ L) hD
  obtain ⟨t1, t2⟩ := fk_spec (n := N' * 2 ^ L) hD'
  generalize fk (N * 2 ^ L) D = k at *
  generalize fk (N' * 2 ^ L) D' = k' at *
  generalize N * 2 ^ L = n at *
  generalize N' * 2 ^ L = n' at *
  have hpk := Nat.two_pow_pos k
  have hpk' := Nat.two_pow_pos k'
  have hu : rnd n (D * 2 ^ k) ≤ 9007199254740992 := by
    have h1 := (rnd_le n (D * 2 ^ k)).2
    have h2 : n / (D * 2 ^ k) < 9007199254740992 := (Nat.div_lt_iff_lt_mul (Nat.mul_pos hD hpk)).2 (by rw [Nat.mul_comm D, ← Nat.mul_assoc]; exact s1)
    omega
  have key : k * 4503599627370496 + rnd n (D * 2 ^ k) ≤ k' * 4503599627370496 + rnd n' (D' * 2 ^ k') := by
    rcases Nat.lt_or_eq_of_le hk with hlt | heq
    · have h1 := (rnd_le n' (D' * 2 ^ k')).1
      have h2 : 4503599627370496 ≤ n' / (D' * 2 ^ k') := by
        rcases t2 with t2 | t2
        · omega
        · exact (Nat.le_div_iff_mul_le (Nat.mul_pos hD' hpk')).2 (by rw [Nat.mul_comm D', ← Nat.mul_assoc]; exact t2)
      omega
    · subst heq
      have := rnd_mono (Nat.mul_pos hD hpk) (Nat.mul_pos hD' hpk) (n := n) (n' := n') (by rw [← Nat.mul_assoc, ← Nat.mul_assoc]; exact Nat.mul_le_mul_right _ h')
      omega
  exact Nat.le_min.2 ⟨Nat.le_trans (Nat.min_le_left _ _) key, Nat.min_le_right _ _⟩
end Pg
namespace Pg
open Ieee
theorem rv_cross (s : Bool) {N D N' D' : Nat} (hD : D ≠ 0) (hD' : D' ≠ 0) (h : N * D' = N' * D) : rv s N D = rv s N' D' := by
  unfold rv
  refine (Rat.mkRat_eq_iff hD hD').2 ?_
  unfold sg
  split
  · rw [Int.neg_mul, Int.neg_mul, ← Int.natCast_mul, ← Int.natCast_mul, h]
  · rw [← Int.natCast_mul, ← Int.natCast_mul, h]
/-- A word's number, by the least one. -/
theorem fQ_rat (u : Nat) : fQ u = rv (fNeg u) (fM u * 2 ^ (fE u - 1)) (2 ^ 1074) := by
  have h1 := fE_pos u
  obtain ⟨L, hL⟩ : ∃ L, L = 1074 := ⟨_, rfl⟩
  rw [← hL]
  have hp := Nat.two_pow_pos L
  unfold fQ
  by_cases c : 1075 ≤ fE u
  · rw [if_pos c]
    refine rv_cross _ (by decide) (by omega) ?_
    rw [Nat.mul_one, Nat.mul_assoc, pow_join (a := fE u - 1075) (b := L) (c := fE u - 1) (by omega)]
  · have hp2 := Nat.two_pow_pos (1075 - fE u)
    rw [if_neg c]
    refine rv_cross _ (by omega) (by omega) ?_
    rw [Nat.mul_assoc, pow_join (a := fE u - 1) (b := 1075 - fE u) (c := L) (by omega)]
/-- Of a word that is a place and a whole number. -/
theorem fQ_parts {x k M : Nat} (s : Bool) (hx : x = (if s then 9223372036854775808 else 0) + (k * 4503599627370496 + M)) (hk : k ≤ 2045) (hM : M < 9007199254740992) (hn : 4503599627370496 ≤ M) :
    fQ x = rv s (M * 2 ^ k) (2 ^ 1074) ∧ fExp x ≠ 2047 := by
  have e1 : fNeg x = s := by
    unfold fNeg
    cases s
    · simp only [Bool.false_eq_true, if_false] at hx; exact decide_eq_false (by omega)
    · simp only [if_true] at hx; exact decide_eq_true (by omega)
  have hx2 : x % 9223372036854775808 = k * 4503599627370496 + M := by
    cases s
    · simp only [Bool.false_eq_true, if_false] at hx; omega
    · simp only [if_true] at hx; omega
  have hw := word_parts x
  have hf := fFrac_lt x
  have he := fExp_lt x
  rw [hx2] at hw
  have e2 : fExp x = k + 1 := by omega
  have e3 : fFrac x = M - 4503599627370496 := by omega
  have e4 : fM x = M := by unfold fM; rw [if_neg (by omega)]; omega
  have e5 : fE x = k + 1 := by unfold fE; rw [if_neg (by omega)]; omega
  rw [fQ_rat, e1, e4, e5]
  exact ⟨rfl, by omega⟩
theorem int_rat (n : Int) : rneg (n : Rat) = decide (n < 0) ∧ rnum (n : Rat) = n.natAbs ∧ (n : Rat).den = 1 := by
  unfold rneg rnum
  exact ⟨by rw [Rat.num_intCast], by rw [Rat.num_intCast], Rat.den_intCast n⟩
theorem fw_int (n : Int) : fw (n : Rat) = fword (decide (n < 0)) n.natAbs 1 := by
  obtain ⟨h1, h2, h3⟩ := int_rat n
  unfold fw
  rw [h1, h2, h3]
/-- A whole number up to 2^53 as a place and a whole number. -/
theorem nat_parts {u : Nat} (h0 : u ≠ 0) (h : u ≤ 9007199254740992) : ∃ k M, k ≤ 2045 ∧ M < 9007199254740992 ∧ 4503599627370496 ≤ M ∧ u * 2 ^ 1074 = M * 2 ^ k * 1 ∧ frung u 1 = k * 4503599627370496 + M ∧ ∀ neg, double.nearest neg u 0 = double.word neg (k * 4503599627370496 + M) := by
  obtain ⟨L, hL⟩ : ∃ L, L = 1074 := ⟨_, rfl⟩
  have key : ∀ k M, k ≤ 2045 → M < 9007199254740992 → 4503599627370496 ≤ M → u * 2 ^ L = M * 2 ^ k * 1 → frung u 1 = k * 4503599627370496 + M := by
    intro k M h1 h2 h3 h4
    rw [hL] at h4
    rw [frung_exact (by decide) h4 h2 (.inr h3), Nat.min_eq_left (by omega)]
  rw [← hL]
  rcases Nat.lt_or_eq_of_le h with hlt | rfl
  · obtain ⟨l, hl⟩ : ∃ l, l = u.log2 := ⟨_, rfl⟩
    have h1 : 2 ^ l ≤ u := by rw [hl]; exact Nat.log2_self_le h0
    have h2 : u < 2 ^ (l + 1) := by rw [hl]; exact Nat.lt_log2_self
    have hl52 : l ≤ 52 := by
      have : u.log2 < 53 := (Nat.log2_lt h0).2 (by omega)
      omega
    have e1 : 4503599627370496 ≤ u * 2 ^ (52 - l) := by
      have := Nat.mul_le_mul_right (2 ^ (52 - l)) h1
      rw [← Nat.pow_add, show l + (52 - l) = 52 by omega] at this
      exact this
    have e2 : u * 2 ^ (52 - l) < 9007199254740992 := by
      have := Nat.mul_lt_mul_of_pos_right h2 (Nat.two_pow_pos (52 - l))
      rw [← Nat.pow_add, show l + 1 + (52 - l) = 53 by omega] at this
      exact this
    have e3 : u * 2 ^ L = u * 2 ^ (52 - l) * 2 ^ (l + 1022) * 1 := by
      rw [Nat.mul_one, Nat.mul_assoc, pow_join (a := 52 - l) (b := l + 1022) (c := L) (by omega)]
    refine ⟨l + 1022, u * 2 ^ (52 - l), by omega, e2, e1, e3, key _ _ (by omega) e2 e1 e3, fun neg => ?_⟩
    rw [nearest_shl neg u (52 - l) (l + 1022) 0 (by omega) e2 e1, Nat.min_eq_left (by generalize u * 2 ^ (52 - l) = z at *; omega)]
  · have e3 : 9007199254740992 * 2 ^ L = 4503599627370496 * 2 ^ 1075 * 1 := by
      obtain ⟨T, hT⟩ : ∃ T, T = 1075 := ⟨_, rfl⟩
      rw [← hT, Nat.mul_one, show T = L + 1 by omega, Nat.pow_succ, show (9007199254740992 : Nat) = 4503599627370496 * 2 by decide, Nat.mul_assoc, Nat.mul_comm 2]
    exact ⟨1075, 4503599627370496, by decide, by decide, by decide, e3, key _ _ (by decide) (by decide) (by decide) e3, fun neg => by cases neg <;> decide +kernel⟩
theorem floatOfInt_any (n : Int) : Go.floatOfInt .f64 n = double.nearest (decide (n < 0)) n.natAbs 0 := by
  unfold Go.floatOfInt Go.FloatKind.nearest Go.FloatKind.encode Format.write
  rfl
theorem word_any (s : Bool) (x : Nat) : double.word s x = (if s then 9223372036854775808 else 0) + x := by
  cases s
  · rw [word_pos]; simp
  · rw [word_neg]; simp
/-- A whole number's word: by the model, by the nearest number, and back. -/
theorem fw_whole (n : Int) (h1 : -9007199254740992 ≤ n) (h2 : n ≤ 9007199254740992) : Go.floatOfInt .f64 n = fw (n : Rat) ∧ fw (n : Rat) < 18446744073709551616 ∧ fErr (fw (n : Rat)) = 0 ∧ fQ (fw (n : Rat)) = (n : Rat) ∧ fw (n : Rat) % 9223372036854775808 < 9218868437227405312 := by
  by_cases h0 : n = 0
  · subst h0
    have e : fw ((0 : Int) : Rat) = 0 := fw_zero
    rw [e]
    refine ⟨by decide +kernel, by decide, by decide, ?_, by decide⟩
    rw [fQ_rat]
    exact rv_zero (.inl (by decide))
  · obtain ⟨k, M, hk, hM, hn, he, hr, hw⟩ := nat_parts (u := n.natAbs) (by omega) (by omega)
    have hf : fw (n : Rat) = (if decide (n < 0) then 9223372036854775808 else 0) + (k * 4503599627370496 + M) := by
      rw [fw_int]
      unfold fword
      rw [hr, if_neg (by omega)]
      split <;> omega
    have hq := fQ_parts (decide (n < 0)) hf hk hM hn
    refine ⟨by rw [floatOfInt_any, hw, word_any, hf], fw_lt _, (fErr_zero_iff _).2 hq.2, ?_, ?_⟩
    · have h3 : rv (decide (n < 0)) n.natAbs 1 = rv (decide (n < 0)) (M * 2 ^ k) (2 ^ 1074) := by
        obtain ⟨L, hL⟩ : ∃ L, L = 1074 := ⟨_, rfl⟩
        rw [← hL] at he ⊢
        have hp := Nat.two_pow_pos L
        exact rv_cross _ (by decide) (by omega) he
      rw [hq.1, ← h3, rv_int]
    · rw [hf]
      split <;> omega
end Pg
namespace Pg
open Ieee
/-- A word of a sign and a rung. -/
def sw (s : Bool) (x : Nat) : Nat := if s then 9223372036854775808 + x else x
theorem read_sw (s : Bool) {x : Nat} (h : x < 9218868437227405312) : ∃ (M k : Nat), double.read (sw s x) = .number s M (k - 1074 : Int) ∧ wval x = M * 2 ^ k := by
  obtain ⟨M, k, e1, e2, e3⟩ := read_pos h
  have v1 := wval_eq x
  rw [← e2, ← e3] at v1
  refine ⟨M, k, ?_, v1⟩
  cases s
  · exact e1
  · have e0 : sw true x = 9223372036854775808 + x := rfl
    rw [e0]
    unfold Format.read at e1 ⊢
    simp only [signWeight_eq, binade_eq, infRung_eq, leastPlace_eq] at e1 ⊢
    have a1 : x / 9223372036854775808 = 0 := Nat.div_eq_of_lt (by omega)
    have a2 : x % 9223372036854775808 = x := Nat.mod_eq_of_lt (by omega)
    have a3 : (9223372036854775808 + x) / 9223372036854775808 = 1 := by omega
    have a4 : (9223372036854775808 + x) % 9223372036854775808 = x := by omega
    rw [a1, a2] at e1
    rw [a3, a4]
    by_cases c : x < 4503599627370496
    · rw [if_pos c] at e1 ⊢
      injection e1 with r1 r2 r3
      rw [r2, r3]; rfl
    · rw [if_neg c, if_pos h] at e1 ⊢
      injection e1 with r1 r2 r3
      rw [r2, r3]; rfl
theorem read_swinf (s : Bool) : double.read (sw s 9218868437227405312) = .infinity s := by cases s <;> decide +kernel
theorem signed_sg (s : Bool) (M u : Nat) : signed s M u = sg s (M * 2 ^ u) := by
  unfold signed sg; rw [Nat.shiftLeft_eq]
theorem cmp_sg (s t : Bool) {A B x y : Nat} (h1 : A < B ↔ x < y) (h2 : B < A ↔ y < x) (h3 : A = 0 ↔ x = 0) (h4 : B = 0 ↔ y = 0) : compare (sg s A) (sg t B) = compare (sg s x) (sg t y) := by
  have h5 : A = B ↔ x = y := by omega
  unfold sg
  cases s <;> cases t <;> simp only [compare, compareOfLessAndEq, Bool.false_eq_true, if_true, if_false] <;> (repeat' split) <;> first | rfl | omega
theorem wval_lt_iff (x y : Nat) : wval x < wval y ↔ x < y := by
  constructor
  · intro h
    rcases Nat.lt_trichotomy x y with h1 | rfl | h1
    · exact h1
    · exact absurd h (Nat.lt_irrefl _)
    · exact absurd (wval_lt h1) (by omega)
  · exact wval_lt
theorem wval_zero : wval 0 = 0 := by unfold wval; rw [if_pos (by decide)]
theorem wval_le {x y : Nat} (h : x ≤ y) : wval x ≤ wval y := by
  rcases Nat.lt_or_eq_of_le h with h | rfl
  · exact Nat.le_of_lt (wval_lt h)
  · exact Nat.le_refl _
theorem lt_scale {A B P : Nat} (hP : 0 < P) : A < B ↔ A * P < B * P := (Nat.mul_lt_mul_right hP).symm
theorem order_sw (s t : Bool) {x y : Nat} (hx : x ≤ 9218868437227405312) (hy : y ≤ 9218868437227405312) : double.order (sw s x) (sw t y) = some (compare (sg s x) (sg t y)) := by
  unfold Format.order
  rcases Nat.lt_or_eq_of_le hx with hx | rfl
  · obtain ⟨M, k, e1, v1⟩ := read_sw s hx
    rcases Nat.lt_or_eq_of_le hy with hy | rfl
    · obtain ⟨M', k', e1', v1'⟩ := read_sw t hy
      rw [e1, e1']
      simp only [Datum.order]
      obtain ⟨m, hm⟩ : ∃ m : Nat, m = min k k' := ⟨_, rfl⟩
      have a1 : ((k : Int) - 1074 - min ((k : Int) - 1074) ((k' : Int) - 1074)).toNat = k - m := by omega
      have a2 : ((k' : Int) - 1074 - min ((k : Int) - 1074) ((k' : Int) - 1074)).toNat = k' - m := by omega
      rw [a1, a2, signed_sg, signed_sg]
      have hP := Nat.two_pow_pos m
      have b1 : M * 2 ^ (k - m) * 2 ^ m = wval x := by rw [v1, Nat.mul_assoc, ← Nat.pow_add, show k - m + m = k by omega]
      have b2 : M' * 2 ^ (k' - m) * 2 ^ m = wval y := by rw [v1', Nat.mul_assoc, ← Nat.pow_add, show k' - m + m = k' by omega]
      generalize M * 2 ^ (k - m) = A at *
      generalize M' * 2 ^ (k' - m) = B at *
      have z : ∀ A x, A * 2 ^ m = wval x → (A = 0 ↔ x = 0) := fun A x h => by
        have h1 := wval_lt_iff 0 x
        have h2 := @lt_scale 0 A _ hP
        rw [wval_zero] at h1
        rw [Nat.zero_mul, h] at h2
        omega
      refine congrArg some (cmp_sg s t ?_ ?_ (z A x b1) (z B y b2))
      · rw [lt_scale hP, b1, b2, wval_lt_iff]
      · rw [lt_scale hP, b1, b2, wval_lt_iff]
    · rw [e1, read_swinf]
      simp only [Datum.order]
      refine congrArg some ?_
      unfold sg
      cases s <;> cases t <;> simp only [compare, compareOfLessAndEq, Bool.false_eq_true, if_true, if_false] <;> (repeat' split) <;> first | rfl | omega
  · rcases Nat.lt_or_eq_of_le hy with hy | rfl
    · obtain ⟨M', k', e1', v1'⟩ := read_sw t hy
      rw [e1', read_swinf]
      simp only [Datum.order]
      refine congrArg some ?_
      unfold sg
      cases s <;> cases t <;> simp only [compare, compareOfLessAndEq, Bool.false_eq_true, if_true, if_false] <;> (repeat' split) <;> first | rfl | omega
    · rw [read_swinf, read_swinf]
      cases s <;> cases t <;> decide +kernel

/-- A number's nearest one as a whole number that keeps the sign. -/
def fs (q : Rat) : Int := sg (rneg q) (frung (rnum q) q.den)
theorem fw_sw (q : Rat) : ∃ s R, fw q = sw s R ∧ R ≤ 9218868437227405312 ∧ R = frung (rnum q) q.den ∧ (R = 0 ∧ s = false ∨ R ≠ 0 ∧ s = rneg q) ∧ sg s R = fs q := by
  obtain ⟨R, h0, h1, h2⟩ := fw_cases q
  unfold fs
  rw [← h0]
  rcases h2 with ⟨h3, h4⟩ | ⟨h3, h4, h5⟩ | ⟨h3, h4, h5⟩
  · subst h3
    refine ⟨false, 0, h4, h1, rfl, .inl ⟨rfl, rfl⟩, ?_⟩
    unfold sg; cases rneg q <;> rfl
  · exact ⟨false, R, h5, h1, rfl, .inr ⟨h3, h4.symm⟩, by rw [h4]⟩
  · exact ⟨true, R, h5, h1, rfl, .inr ⟨h3, h4.symm⟩, by rw [h4]⟩
theorem fw_order (p q : Rat) : double.order (fw p) (fw q) = some (compare (fs p) (fs q)) := by
  obtain ⟨s, R, h1, h2, _, _, h3⟩ := fw_sw p
  obtain ⟨t, S, g1, g2, _, _, g3⟩ := fw_sw q
  rw [h1, g1, order_sw s t h2 g2, h3, g3]
theorem fs_mono {p q : Rat} (h : p ≤ q) : fs p ≤ fs q := by
  have h1 := (Rat.le_iff p q).1 h
  have hp := den_pos p
  have hq := den_pos q
  have f1 := @frung_mono (rnum p) p.den (rnum q) q.den hp hq
  have f2 := @frung_mono (rnum q) q.den (rnum p) p.den hq hp
  unfold fs
  rw [← sg_num p, ← sg_num q] at h1
  generalize frung (rnum p) p.den = R at *
  generalize frung (rnum q) q.den = S at *
  generalize rnum p = a at *
  generalize rnum q = b at *
  generalize p.den = c at *
  generalize q.den = d at *
  by_cases hs : rneg p = true
  · by_cases ht : rneg q = true
    · rw [hs, ht] at h1 ⊢
      unfold sg at h1 ⊢
      rw [if_pos rfl, if_pos rfl, Int.neg_mul, Int.neg_mul, ← Int.natCast_mul, ← Int.natCast_mul] at h1
      rw [if_pos rfl, if_pos rfl]
      have := f2 (by omega)
      omega
    · have ht' : rneg q = false := by simpa using ht
      rw [hs, ht']
      unfold sg
      rw [if_pos rfl, if_neg (by decide)]
      omega
  · have hs' : rneg p = false := by simpa using hs
    by_cases ht : rneg q = true
    · exfalso
      have e1 : q.num < 0 := by simpa [rneg] using ht
      have e2 : 0 ≤ p.num := by simpa [rneg] using hs'
      have e3 := Rat.num_nonneg.1 e2
      have e4 := Rat.num_nonneg.2 (Rat.le_trans e3 h)
      omega
    · have ht' : rneg q = false := by simpa using ht
      rw [hs', ht'] at h1 ⊢
      unfold sg at h1 ⊢
      rw [if_neg (by decide), if_neg (by decide), ← Int.natCast_mul, ← Int.natCast_mul] at h1
      rw [if_neg (by decide), if_neg (by decide)]
      have := f1 (by omega)
      omega
/-- What a comparison says. -/
theorem cmpq_lt (p q : Rat) : cmpq p q < 0 ↔ p < q := by
  have h : cmpq p q < 0 ↔ (p - q).num < 0 := by
    unfold cmpq rneg rnum
    by_cases c : (p - q).num.natAbs = 0
    · rw [if_pos c]; omega
    · rw [if_neg c]
      by_cases c2 : (p - q).num < 0
      · rw [if_pos (by simpa using c2)]; omega
      · rw [if_neg (by simpa using c2)]; omega
  rw [h, ← Rat.not_le, Rat.le_iff_sub_nonneg, ← Rat.num_nonneg]
  omega
theorem cmpq_gt (p q : Rat) : 0 < cmpq p q ↔ q < p := by
  have h : 0 < cmpq p q ↔ ¬ (p - q).num ≤ 0 := by
    unfold cmpq rneg rnum
    by_cases c : (p - q).num.natAbs = 0
    · rw [if_pos c]; omega
    · rw [if_neg c]
      by_cases c2 : (p - q).num < 0
      · rw [if_pos (by simpa using c2)]; omega
      · rw [if_neg (by simpa using c2)]; omega
  have h2 : (p - q).num ≤ 0 ↔ 0 ≤ (q - p).num := by
    rw [← Rat.neg_sub, Rat.neg_num]
    omega
  rw [h, h2, Rat.num_nonneg, ← Rat.le_iff_sub_nonneg, Rat.not_le]

/-! No neighbour is nearer. -/
theorem rnd_near {n d : Nat} (hd : 0 < d) : 2 * (rnd n d * d) ≤ 2 * n + d ∧ 2 * n ≤ 2 * (rnd n d * d) + d := by
  have e1 := Nat.div_add_mod n d
  have e2 := Nat.mod_lt n hd
  unfold rnd
  rw [Nat.mul_comm] at e1
  generalize n / d = q at *
  generalize n % d = r at *
  split
  · rw [Nat.add_mul, Nat.one_mul]; omega
  · rw [Nat.add_zero]; omega
theorem wval_rung {k m : Nat} (h : k = 0 ∨ 4503599627370496 ≤ m) (hm : m ≤ 9007199254740992) : wval (k * 4503599627370496 + m) = m * 2 ^ k := by
  rw [wval_eq]
  rcases Nat.lt_or_eq_of_le hm with hlt | rfl
  · rcases Nat.lt_or_ge m 4503599627370496 with h1 | h1
    · have hk : k = 0 := by omega
      subst hk
      rw [if_pos (by omega), show (0 * 4503599627370496 + m) / 4503599627370496 - 1 = 0 by omega]; omega
    · rw [if_neg (by omega), show (k * 4503599627370496 + m) / 4503599627370496 - 1 = k by omega, show 4503599627370496 + (k * 4503599627370496 + m) % 4503599627370496 = m by omega]
  · rw [if_neg (by omega), show (k * 4503599627370496 + 9007199254740992) / 4503599627370496 - 1 = k + 1 by omega, show 4503599627370496 + (k * 4503599627370496 + 9007199254740992) % 4503599627370496 = 4503599627370496 by omega, Nat.pow_succ]
    omega
theorem near_step {N D R A' : Nat} (hD : 0 < D) (hR : frung N D = R) (hlt : R < 9218868437227405312) (h : A' = wval (R + 1) ∨ (1 ≤ R ∧ A' = wval (R - 1))) :
    ((wval R * D : Nat) - (N * 2 ^ 1074 : Nat) : Int).natAbs ≤ ((A' * D : Nat) - (N * 2 ^ 1074 : Nat) : Int).natAbs := by
  obtain ⟨L, hL⟩ : ∃ L, L = 1074 := ⟨_, rfl⟩
  unfold frung at hR
  rw [← hL] at hR ⊢
  clear hL
  generalize N * 2 ^ L = n at *
  obtain ⟨s1, s2⟩ := fk_spec (n := n) hD
  generalize fk n D = k at *
  have hp := Nat.two_pow_pos k
  have hd : 0 < D * 2 ^ k := Nat.mul_pos hD hp
  obtain ⟨r1, r2⟩ := rnd_near (n := n) hd
  have hu : rnd n (D * 2 ^ k) ≤ 9007199254740992 := by
    have h1 := (rnd_le n (D * 2 ^ k)).2
    have h2 : n / (D * 2 ^ k) < 9007199254740992 := (Nat.div_lt_iff_lt_mul hd).2 (by rw [Nat.mul_comm D, ← Nat.mul_assoc]; exact s1)
    omega
  have hl : k = 0 ∨ 4503599627370496 ≤ rnd n (D * 2 ^ k) := by
    rcases s2 with s2 | s2
    · exact .inl s2
    · right
      have h1 := (rnd_le n (D * 2 ^ k)).1
      have h2 : 4503599627370496 ≤ n / (D * 2 ^ k) := (Nat.le_div_iff_mul_le hd).2 (by rw [Nat.mul_comm D, ← Nat.mul_assoc]; exact s2)
      omega
  generalize rnd n (D * 2 ^ k) = m at *
  have hRm : R = k * 4503599627370496 + m := by omega
  clear hR hlt
  have hA : wval R * D = m * (D * 2 ^ k) := by rw [hRm, wval_rung hl hu, Nat.mul_assoc, Nat.mul_comm (2 ^ k)]
  rw [hA]
  have e : ∀ x : Nat, x * 2 ^ k * D = x * (D * 2 ^ k) := fun x => by rw [Nat.mul_assoc, Nat.mul_comm (2 ^ k)]
  have hs2 : k = 0 ∨ 4503599627370496 * (D * 2 ^ k) ≤ n := by rw [← e]; exact s2
  clear s1 s2
  rcases h with h | ⟨h0, h⟩
  · have h1 : (m + 1) * (D * 2 ^ k) ≤ A' * D := by
      rw [← e, h, hRm]
      refine Nat.mul_le_mul_right _ ?_
      rcases Nat.lt_or_eq_of_le hu with c | c
      · have := wval_rung (k := k) (m := m + 1) (by omega) (by omega)
        rw [Nat.add_assoc, this]; exact Nat.le_refl _
      · have := wval_rung (k := k + 1) (m := 4503599627370497) (by omega) (by omega)
        rw [show k * 4503599627370496 + m + 1 = (k + 1) * 4503599627370496 + 4503599627370497 by omega, this, Nat.pow_succ, c]
        omega
    rw [Nat.add_mul, Nat.one_mul] at h1
    generalize D * 2 ^ k = d at *
    generalize A' * D = a at *
    generalize m * d = b at *
    omega
  · by_cases c : k = 0 ∨ 4503599627370496 < m
    · have h1 : A' * D + D * 2 ^ k = m * (D * 2 ^ k) := by
        have := wval_rung (k := k) (m := m - 1) (by omega) (by omega)
        rw [h, hRm, show k * 4503599627370496 + m - 1 = k * 4503599627370496 + (m - 1) by omega, this, e]
        obtain ⟨x, rfl⟩ : ∃ x, m = x + 1 := ⟨m - 1, by omega⟩
        rw [Nat.add_sub_cancel, Nat.add_mul, Nat.one_mul]
      generalize D * 2 ^ k = d at *
      generalize A' * D = a at *
      generalize m * d = b at *
      omega
    · have hm : m = 4503599627370496 := by omega
      have h1 : A' * D ≤ m * (D * 2 ^ k) := by
        rw [← hA, h]
        exact Nat.mul_le_mul_right _ (wval_le (by omega))
      have h2 : 4503599627370496 * (D * 2 ^ k) ≤ n := by omega
      rw [hm] at h1 ⊢
      generalize D * 2 ^ k = d at *
      generalize A' * D = a at *
      omega

/-- The other sign struck. -/
def absq (r : Rat) : Rat := if r.num < 0 then -r else r
theorem rv_absq (r : Rat) : rv false (rnum r) r.den = absq r := by
  unfold absq
  by_cases c : r.num < 0
  · rw [if_pos c]
    have := rv_self (-r)
    rw [rnum_neg, rden_neg] at this
    rw [← this, rneg_neg]
    have : rneg r = true := by simpa [rneg] using c
    rw [this]; rfl
  · rw [if_neg c]
    have := rv_self r
    have h : rneg r = false := by simpa [rneg] using c
    rwa [h] at this
theorem absq_num (r : Rat) : (absq r).num = rnum r := by
  unfold absq rnum
  by_cases c : r.num < 0
  · rw [if_pos c, Rat.neg_num]; omega
  · rw [if_neg c]; omega
theorem absq_den (r : Rat) : (absq r).den = r.den := by
  unfold absq
  by_cases c : r.num < 0
  · rw [if_pos c, rden_neg]
  · rw [if_neg c]
theorem rnum_mk {z : Int} {C : Nat} (hC : C ≠ 0) : rnum (mkRat z C) * C = z.natAbs * (mkRat z C).den := by
  have h := (Rat.mkRat_eq_iff (mkRat z C).den_nz hC).1 (Rat.mkRat_self (mkRat z C))
  have := congrArg Int.natAbs h
  rwa [Int.natAbs_mul, Int.natAbs_mul] at this
theorem rv_sub (s t : Bool) {A L N D : Nat} (hL : L ≠ 0) (hD : D ≠ 0) : rv s A L - rv t N D = mkRat (sg s A * D - sg t N * L) (L * D) := by
  unfold rv
  rw [← Rat.divInt_ofNat, ← Rat.divInt_ofNat, ← Rat.divInt_ofNat, Rat.divInt_sub_divInt _ _ (by omega) (by omega), Int.natCast_mul]
/-- Of two differences from one number. -/
theorem far_le {s s' t : Bool} {A A' L N D : Nat} (hL : L ≠ 0) (hD : D ≠ 0) (h : (sg s A * D - sg t N * L).natAbs ≤ (sg s' A' * D - sg t N * L).natAbs) :
    ¬ cmpq (absq (rv s' A' L - rv t N D)) (absq (rv s A L - rv t N D)) < 0 := by
  rw [cmpq_lt, Rat.lt_iff, absq_num, absq_num, absq_den, absq_den, rv_sub s t hL hD, rv_sub s' t hL hD]
  have hC : L * D ≠ 0 := Nat.mul_ne_zero hL hD
  have e1 := @rnum_mk (sg s A * D - sg t N * L) _ hC
  have e2 := @rnum_mk (sg s' A' * D - sg t N * L) _ hC
  generalize mkRat (sg s A * D - sg t N * L) (L * D) = r at *
  generalize mkRat (sg s' A' * D - sg t N * L) (L * D) = r' at *
  generalize (sg s A * D - sg t N * L).natAbs = X at *
  generalize (sg s' A' * D - sg t N * L).natAbs = X' at *
  generalize L * D = C at *
  have key : rnum r * r'.den ≤ rnum r' * r.den := by
    refine Nat.le_of_mul_le_mul_right (c := C) ?_ (by omega)
    have a1 : rnum r * r'.den * C = X * (r.den * r'.den) := by rw [Nat.mul_right_comm, e1, Nat.mul_assoc]
    have a2 : rnum r' * r.den * C = X' * (r.den * r'.den) := by rw [Nat.mul_right_comm, e2, Nat.mul_assoc, Nat.mul_comm r.den]
    rw [a1, a2]
    exact Nat.mul_le_mul_right _ h
  rw [← Int.natCast_mul, ← Int.natCast_mul]
  omega
theorem fQ_wval {u : Nat} (_hu : u < 18446744073709551616) (_he : fExp u ≠ 2047) : fQ u = rv (fNeg u) (wval (u % 9223372036854775808)) (2 ^ 1074) := by
  have hw := word_parts u
  have hf := fFrac_lt u
  have hx := fExp_lt u
  rw [fQ_rat]
  have e : fM u * 2 ^ (fE u - 1) = wval (u % 9223372036854775808) := by
    rw [wval_eq, hw]
    unfold fM fE
    by_cases c : fExp u = 0
    · rw [if_pos c, if_pos c, if_pos (by omega), c, show (0 * 4503599627370496 + fFrac u) / 4503599627370496 - 1 = 1 - 1 by omega, Nat.zero_mul, Nat.zero_add]
    · rw [if_neg c, if_neg c, if_neg (by omega), show (fExp u * 4503599627370496 + fFrac u) / 4503599627370496 = fExp u by omega, show (fExp u * 4503599627370496 + fFrac u) % 4503599627370496 = fFrac u by omega]
      congr 1; omega
  rw [e]
theorem sg_diff (s : Bool) (A D N L : Nat) : (sg s A * D - sg s N * L).natAbs = ((A * D : Nat) - (N * L : Nat) : Int).natAbs := by
  unfold sg
  cases s
  · rw [if_neg (by decide), if_neg (by decide), ← Int.natCast_mul, ← Int.natCast_mul]
  · rw [if_pos rfl, if_pos rfl, Int.neg_mul, Int.neg_mul, ← Int.natCast_mul, ← Int.natCast_mul]; omega
theorem sg_diff_ne (A D N L : Nat) : (sg false A * D - sg true N * L).natAbs = A * D + N * L := by
  unfold sg
  rw [if_neg (by decide), if_pos rfl, Int.neg_mul, ← Int.natCast_mul, ← Int.natCast_mul]; omega
theorem sw_parts {s : Bool} {R : Nat} (h : R < 9223372036854775808) : sw s R % 9223372036854775808 = R ∧ fNeg (sw s R) = s ∧ sw s R < 18446744073709551616 := by
  unfold sw fNeg
  cases s
  · rw [if_neg (by decide)]; exact ⟨by omega, decide_eq_false (by omega), by omega⟩
  · rw [if_pos rfl]; exact ⟨by omega, decide_eq_true (by omega), by omega⟩
theorem fQ_sw {s : Bool} {R : Nat} (h : R < 9218868437227405312) : fQ (sw s R) = rv s (wval R) (2 ^ 1074) := by
  obtain ⟨h1, h2, h3⟩ := sw_parts (s := s) (R := R) (by omega)
  have h4 := word_parts (sw s R)
  have h5 := fFrac_lt (sw s R)
  rw [fQ_wval h3 (by omega), h1, h2]
theorem near_words {q : Rat} {u v : Nat} (hu : fw q = u) (he : fExp u ≠ 2047) (hv : v = u + 1 ∨ (u ≠ 0 ∧ v = u - 1)) (hev : fErr v = 0) : ¬ cmpq (absq (fQ v - q)) (absq (fQ u - q)) < 0 := by
  obtain ⟨s, R, h1, h2, h3, h4, _⟩ := fw_sw q
  have hD := den_pos q
  have hL : (2 : Nat) ^ 1074 ≠ 0 := Nat.pos_iff_ne_zero.1 (Nat.two_pow_pos 1074)
  have hus : u = sw s R := hu.symm.trans h1
  obtain ⟨p1, p2, p3⟩ := sw_parts (s := s) (R := R) (by omega)
  have h5 := word_parts u
  have h6 := fFrac_lt u
  have h7 := fExp_lt u
  have hR : R < 9218868437227405312 := by rw [hus, p1] at h5; rw [hus] at h6 h7 he; omega
  have hve := (fErr_zero_iff v).1 hev
  have main : ∀ S, v = sw s S → S < 9218868437227405313 → (S = R + 1 ∨ (1 ≤ R ∧ S = R - 1)) → ¬ cmpq (absq (fQ v - q)) (absq (fQ u - q)) < 0 := by
    intro S hS hS1 hS2
    have hS3 : S < 9218868437227405312 := by
      obtain ⟨g1, g2, g3⟩ := sw_parts (s := s) (R := S) (by omega)
      have h8 := word_parts v
      rw [hS] at h8 hve
      rw [g1] at h8
      have h9 := fExp_lt (sw s S)
      have h10 := fFrac_lt (sw s S)
      omega
    rw [hus, hS, fQ_sw hR, fQ_sw hS3]
    have key := far_le (s := s) (s' := s) (t := rneg q) (A := wval R) (A' := wval S) (L := 2 ^ 1074) (N := rnum q) (D := q.den) hL (Nat.pos_iff_ne_zero.1 hD)
    rw [rv_self] at key
    apply key
    have hn := near_step (N := rnum q) (A' := wval S) hD h3.symm hR (hS2.imp (fun h => by rw [h]) (fun h => ⟨h.1, by rw [h.2]⟩))
    by_cases hs : s = rneg q
    · rw [← hs, sg_diff, sg_diff]; exact hn
    · rcases h4 with ⟨h4, h5⟩ | ⟨h4, h5⟩
      · rw [h5] at hs ⊢
        have ht : rneg q = true := by cases h : rneg q with | true => rfl | false => exact absurd h.symm hs
        rw [ht, sg_diff_ne, sg_diff_ne, h4, wval_zero, Nat.zero_mul]
        omega
      · exact absurd h5 hs
  rcases hv with hv | ⟨hu0, hv⟩
  · refine main (R + 1) ?_ (by omega) (.inl rfl)
    rw [hv, hus]; unfold sw; split <;> omega
  · have hR0 : R ≠ 0 := by
      intro e
      rcases h4 with ⟨_, h⟩ | ⟨h, _⟩
      · apply hu0; rw [hus, e, h]; rfl
      · exact h e
    refine main (R - 1) ?_ (by omega) (.inr ⟨by omega, rfl⟩)
    rw [hv, hus]; unfold sw; split <;> omega
end Pg
