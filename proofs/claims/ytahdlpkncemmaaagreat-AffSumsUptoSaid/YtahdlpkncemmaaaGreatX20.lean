/- Walks · Walks · Walks. Conditions: those that each theorem names. -/
import Derived.Test.YtahdlpkncemmaaaGreatX17
import Derived.Test.YtahdlpkncemmaaaGreatX19
import Derived.Test.YtahdlpkncemmaaaGreatX18
set_option maxRecDepth 100000
set_option maxHeartbeats 8000000
set_option linter.unusedSimpArgs false
set_option linter.unusedVariables false
namespace Pg
open Go Go.RowKit
end Pg
namespace Go.Proofs.YtahdlpkncemmaaaGreat
open Go.RowKit Pg
end Go.Proofs.YtahdlpkncemmaaaGreat
namespace Pg
end Pg
namespace Go.Proofs.YtahdlpkncemmaaaGreat
open Go.RowKit Pg
theorem rCmpE (A A' : Option Addr) (n c n' c' : Nat) (xs ys : List Nat) (w : World) (a b : Nat) (r : Int) (h : Row w A n c xs) (h' : Row w A' n' c' ys) (ea : val xs = a) (eb : val ys = b) (hb : n ≤ 1073741824) (hb' : n' ≤ 1073741824) (er : cmpv a b = r) :
  Calls Tryz.prog 75 #[.slice A n c, .slice A' n' c'] w (fun e w' => e = .returned (.int .i64 r) ∧ Below w.heap.size w w') := by
 subst ea eb er; exact rCmp_any A A' n c n' c' xs ys w h h' hb hb'
end Go.Proofs.YtahdlpkncemmaaaGreat
namespace Go.Proofs.YtahdlpkncemmaaaGreat
open Go.RowKit Pg
theorem B3.setOther {w : World} {g h : Nat} {t : TypeId} {v0 v1 v2 : Value} (hB : B3 w g t v0 v1 v2) (hne : g ≠ h) (o : Nat) (u : Value) : B3 (w.setCell ⟨h, o, none⟩ u) g t v0 v1 v2 := by
 unfold B3
 rw [heap_setCell_other _ ⟨h, o, none⟩ g u hne]
 exact hB
theorem rMul_E (A A' : Option Addr) (n c n' c' : Nat) (xs ys : List Nat) (w : World) (a b r : Nat) (h : Row w A n c xs) (h' : Row w A' n' c' ys) (ea : val xs = a) (eb : val ys = b) (hb : n ≤ 1073741824) (hb' : n' ≤ 1073741824) (er : a * b = r) :
  Calls Tryz.prog 73 #[.slice A n c, .slice A' n' c'] w (Ret w r) := by
 subst er; exact rMul_N A A' n c n' c' xs ys w a b h h' ea eb hb hb'
theorem Short.neg {q : Rat} {k : Nat} (h : Short q k) : Short (-q) k := by unfold Short at h ⊢; rw [rnum_neg, rden_neg]; exact h
theorem r2Add_R {va vb : Value} {p q : Rat} {k : Nat} (w : World) (ha : RArg w va p k) (hb : RArg w vb q k) (hk : k ≤ 262144) (hk1 : 1 ≤ k) :
  Calls Tryz.prog 42 #[va, vb] w (RatRet w (p + q)) := by
 obtain ⟨lp1, lp2⟩ := ha.short hk1
 obtain ⟨lq1, lq2⟩ := hb.short hk1
 obtain ⟨s1, A, n, c, A', n', c', xs, ys, rfl, h, h', hn, hn', hp⟩ := ha
 obtain ⟨s2, C, m, d, C', m', d', us, vs, rfl, g, g', hm, hm', hq⟩ := hb
 have hP := fun W (hW : Below w.heap.size w W) => r2Norm_any s1 A A' n c n' c' xs ys W (h.below hW) (h'.below hW) (by omega) (by omega)
 have hQ := fun W (hW : Below w.heap.size w W) => r2Norm_any s2 C C' m d m' d' us vs W (g.below hW) (g'.below hW) (by omega) (by omega)
 rw [hp] at hP
 rw [hq] at hQ
 have HP := hid hP
 have HQ := hid hQ
 clear h h' g g' hP hQ hp hq
 have HX := hid (((B3.new w 24 (.bool s1) (.slice A n c) (.slice A' n' c')).alloc (.cells #[.bool s2, .slice C m d, .slice C' m' d'] 24)).alloc (.cells #[.bool false, .slice none 0 0, .slice none 0 0] 24))
 have HY := hid ((B3.new2 w (.cells #[.bool s1, .slice A n c, .slice A' n' c'] 24) 24 (.bool s2) (.slice C m d) (.slice C' m' d') _ rfl).alloc (.cells #[.bool false, .slice none 0 0, .slice none 0 0] 24))
 have HZ := hid (B3.newg ((w.alloc (.cells #[.bool s1, .slice A n c, .slice A' n' c'] 24)).alloc (.cells #[.bool s2, .slice C m d, .slice C' m' d'] 24)) 24 (.bool false) (.slice none 0 0) (.slice none 0 0) (w.heap.size + 2) (by simp))
 obtain ⟨w0, hw0⟩ : ∃ w0, w0 = ((w.alloc (.cells #[.bool s1, .slice A n c, .slice A' n' c'] 24)).alloc (.cells #[.bool s2, .slice C m d, .slice C' m' d'] 24)).alloc (.cells #[.bool false, .slice none 0 0, .slice none 0 0] 24) := ⟨_, rfl⟩
 go_enter Tryz.func42, Tryz.ntmps42
 go_upto_region 1 with fail
 have hb0 : Below w.heap.size w w0 := by rw [hw0]; exact Below.new_ (Below.new_ (Below.new_ (Below.refl _ _) _) _) _
 rw [← hw0] at HX HY HZ ⊢
 clear hw0
 refine pair_region 46 46 2 3 14 15 16 17 5 6 w.heap.size (w.heap.size + 1) _ _ _ _ _ _ p q rfl (by decide) (by kernel_rfl) (by kernel_rfl) (by kernel_rfl) (by kernel_rfl) (by kernel_rfl) (by kernel_rfl) (by kernel_rfl) (by kernel_rfl) rfl rfl HX.out HY.out (fun _ _ => by kernel_rfl) (fun _ _ => by kernel_rfl) (fun W hW => HP.out W (Below.then_ hb0 hW)) (fun W hW => HQ.out W (Below.then_ hb0 hW)) ?_
 rintro v1 v3 g1 g2 wc ⟨A1, c1, A2, c2, rfl, hr1, hr2⟩ ⟨A3, c3, A4, c4, rfl, hr3, hr4⟩ hH1 hH2 _ _ _ hbc
 have hbw := Below.then_ hb0 hbc
 have hB1 := hH1.b3
 have hB2 := hH2.b3
 have hBz := HZ.out.below hbc
 clear HX HY HP HQ hH1 hH2 HZ hbc hb0
 go_simp
 go_upto_region 2 with fail
 obtain ⟨n1, hn1⟩ : ∃ x, rnum p * q.den = x := ⟨_, rfl⟩
 obtain ⟨n2, hn2⟩ : ∃ x, rnum q * p.den = x := ⟨_, rfl⟩
 obtain ⟨dd, hdd⟩ : ∃ x, p.den * q.den = x := ⟨_, rfl⟩
 have ln1 := limbs_mul_len (k := k) lp1 lq2
 have ln2 := limbs_mul_len (k := k) lq1 lp2
 have ldd := limbs_mul_len (k := k) lp2 lq2
 have hadd := @rv_add_same p q
 have hge := @rv_add_ge p q
 have hlt := @rv_add_lt p q
 rw [hn1] at ln1
 rw [hn2] at ln2
 rw [hdd] at ldd
 rw [hn1, hn2, hdd] at hadd hge hlt
 have lsum := limbs_add_len (k := k + k) ln1 ln2
 have Hn1 := hid hn1
 have Hn2 := hid hn2
 have Hdd := hid hdd
 have Hadd := hid hadd
 have Hge := hid hge
 have Hlt := hid hlt
 clear hn1 hn2 hdd hadd hge hlt
 refine draw_hd [18, 19, 20, 21, 22, 23, 24, 25, 26, 27, 7, 8] [.is (.pointer (some ⟨g1, 1, none⟩)), .is (.slice A1 (limbs (rnum p)).length c1), .is (.pointer (some ⟨g2, 2, none⟩)), .is (.slice A4 (limbs q.den).length c4), .row n1, .is (.pointer (some ⟨g2, 1, none⟩)), .is (.slice A3 (limbs (rnum q)).length c3), .is (.pointer (some ⟨g1, 2, none⟩)), .is (.slice A2 (limbs p.den).length c2), .row n2, .row n1, .row n2]
  (by kernel_rfl) (by kernel_rfl) (by kernel_rfl) (by decide) (by kernel_rfl) (by kernel_rfl) ?_ ?_
 ·refine ⟨?_, ?_, ?_, ?_, ?_, ?_, ?_, ?_, ?_, ?_, ?_, ?_, trivial⟩
  ·intro a w3 hA K hK
   have t5 := hA.old 5 _ rfl rfl
   go_simp
   exact hK _ _ Pg.fi_ (Below.refl _ _)
  ·intro a w3 hA K hK
   have t18 := bt_is hA 0 18
   obtain ⟨k0, k1, k2, _, _, _⟩ := (hB1.below (hA.below)).cells
   go_simp
   exact hK _ _ Pg.fi_ (Below.refl _ _)
  ·intro a w3 hA K hK
   have t6 := hA.old 6 _ rfl rfl
   go_simp
   exact hK _ _ Pg.fi_ (Below.refl _ _)
  ·intro a w3 hA K hK
   have t20 := bt_is hA 2 20
   obtain ⟨k0, k1, k2, _, _, _⟩ := (hB2.below (hA.below)).cells
   go_simp
   exact hK _ _ Pg.fi_ (Below.refl _ _)
  ·intro a w3 hA K hK
   have t19 := bt_is hA 1 19
   have t21 := bt_is hA 3 21
   have hC := rMul_E A1 A4 _ c1 _ c4 _ _ w3 (rnum p) q.den n1 (hr1.below (hA.below)) (hr4.below (hA.below)) (val_limbs _) (val_limbs _) (by omega) (by omega) Hn1.out
   go_simp
   refine hC.mono ?_
   rintro e w4 ⟨A3, c3, rfl, hr, hb⟩
   exact hK _ _ ⟨_, _, rfl, hr⟩ hb
  ·intro a w3 hA K hK
   have t6 := hA.old 6 _ rfl rfl
   go_simp
   exact hK _ _ Pg.fi_ (Below.refl _ _)
  ·intro a w3 hA K hK
   have t23 := bt_is hA 5 23
   obtain ⟨k0, k1, k2, _, _, _⟩ := (hB2.below (hA.below)).cells
   go_simp
   exact hK _ _ Pg.fi_ (Below.refl _ _)
  ·intro a w3 hA K hK
   have t5 := hA.old 5 _ rfl rfl
   go_simp
   exact hK _ _ Pg.fi_ (Below.refl _ _)
  ·intro a w3 hA K hK
   have t25 := bt_is hA 7 25
   obtain ⟨k0, k1, k2, _, _, _⟩ := (hB1.below (hA.below)).cells
   go_simp
   exact hK _ _ Pg.fi_ (Below.refl _ _)
  ·intro a w3 hA K hK
   have t24 := bt_is hA 6 24
   have t26 := bt_is hA 8 26
   have hC := rMul_E A3 A2 _ c3 _ c2 _ _ w3 (rnum q) p.den n2 (hr3.below (hA.below)) (hr2.below (hA.below)) (val_limbs _) (val_limbs _) (by omega) (by omega) Hn2.out
   go_simp
   refine hC.mono ?_
   rintro e w4 ⟨A3, c3, rfl, hr, hb⟩
   exact hK _ _ ⟨_, _, rfl, hr⟩ hb
  ·intro a w3 hA K hK
   obtain ⟨A22, c22, t22, r22⟩ := bt_row hA 4 22
   go_simp
   exact hK _ _ ⟨_, _, rfl, r22⟩ (Below.refl _ _)
  ·intro a w3 hA K hK
   obtain ⟨A27, c27, t27, r27⟩ := bt_row hA 9 27
   go_simp
   exact hK _ _ ⟨_, _, rfl, r27⟩ (Below.refl _ _)
 rintro vs w5 hV hb5 act hact
 have hV' := hV.is_
 clear hV
 obtain ⟨_, rfl, hV⟩ := hV'
 have hV' := hV.is_
 clear hV
 obtain ⟨_, rfl, hV⟩ := hV'
 have hV' := hV.is_
 clear hV
 obtain ⟨_, rfl, hV⟩ := hV'
 have hV' := hV.is_
 clear hV
 obtain ⟨_, rfl, hV⟩ := hV'
 have hV' := hV.row_
 clear hV
 obtain ⟨A22, c22, _, rfl, r22, hV⟩ := hV'
 have hV' := hV.is_
 clear hV
 obtain ⟨_, rfl, hV⟩ := hV'
 have hV' := hV.is_
 clear hV
 obtain ⟨_, rfl, hV⟩ := hV'
 have hV' := hV.is_
 clear hV
 obtain ⟨_, rfl, hV⟩ := hV'
 have hV' := hV.is_
 clear hV
 obtain ⟨_, rfl, hV⟩ := hV'
 have hV' := hV.row_
 clear hV
 obtain ⟨A27, c27, _, rfl, r27, hV⟩ := hV'
 have hV' := hV.row_
 clear hV
 obtain ⟨A7, c7, _, rfl, r7, hV⟩ := hV'
 have hV' := hV.row_
 clear hV
 obtain ⟨A8, c8, _, rfl, r8, hV⟩ := hV'
 obtain rfl := hV.nil_
 clear hV
 simp only [puts] at hact
 subst hact
 go_simp
 have h7 := r7
 have h8 := r8
 clear r7 r8 r22 r27
 obtain ⟨k0, k1, k2, _, _, _⟩ := (hB1.below hb5).cells
 obtain ⟨j0, j1, j2, _, _, _⟩ := (hB2.below hb5).cells
 go_upto_region 4 with (go_at_call 73; refine (rMul_E A2 A4 _ c2 _ c4 _ _ _ p.den q.den dd (hr2.below hb5) (hr4.below hb5) (val_limbs _) (val_limbs _) (by omega) (by omega) Hdd.out).mono ?_; rintro e w6 ⟨A9, c9, rfl, h9, hb6⟩)
 have h7 := h7.below hb6
 have h8 := h8.below hb6
 have hB1 := (hB1.below hb5).below hb6
 have hB2 := (hB2.below hb5).below hb6
 have hBz := (hBz.below hb5).below hb6
 have hbw := Below.then_ (Below.then_ hbw hb5) hb6
 clear hr1 hr2 hr3 hr4 hb5 hb6 Hn1 Hn2 Hdd k0 k1 k2 j0 j1 j2
 obtain ⟨k0, k1, k2, _, _, _⟩ := hB1.cells
 obtain ⟨j0, j1, j2, _, _, _⟩ := hB2.cells
 by_cases hs : rneg p = rneg q
 ·have hE : (rneg p == rneg q) = true := by rw [hs]; simp
  have Hsame := hid (Hadd.out hs)
  clear hs Hadd Hge Hlt
  go_upto_region 5 with fail
  clear k0 k1 k2 j0 j1 j2
  refine draw_last [38, 39, 40, 41, 42, 43, 44] [.is (.pointer (some ⟨g1, 0, none⟩)), .is (.bool (rneg p)), .is (.slice A7 (limbs n1).length c7), .is (.slice A8 (limbs n2).length c8), .row (n1 + n2), .is (.slice A9 (limbs dd).length c9), .rat (p + q)]
   (by kernel_rfl) (by kernel_rfl) (by kernel_rfl) (by decide) (by kernel_rfl) (by kernel_rfl) (by kernel_rfl) rfl ?_ ?_
  ·refine ⟨?_, ?_, ?_, ?_, ?_, ?_, ?_, trivial⟩
   ·intro a w3 hA K hK
    have t5 := hA.old 5 _ rfl rfl
    go_simp
    exact hK _ _ Pg.fi_ (Below.refl _ _)
   ·intro a w3 hA K hK
    have t38 := bt_is hA 0 38
    obtain ⟨k0, k1, k2, _, _, _⟩ := (hB1.below hA.below).cells
    go_simp
    exact hK _ _ Pg.fi_ (Below.refl _ _)
   ·intro a w3 hA K hK
    have t7 := hA.old 7 _ rfl rfl
    go_simp
    exact hK _ _ Pg.fi_ (Below.refl _ _)
   ·intro a w3 hA K hK
    have t8 := hA.old 8 _ rfl rfl
    go_simp
    exact hK _ _ Pg.fi_ (Below.refl _ _)
   ·intro a w3 hA K hK
    have t40 := bt_is hA 2 40
    have t41 := bt_is hA 3 41
    have hC := rAdd_N A7 A8 _ c7 _ c8 _ _ w3 n1 n2 (h7.below hA.below) (h8.below hA.below) (val_limbs _) (val_limbs _) (by omega) (by omega)
    go_simp
    refine hC.mono ?_
    rintro e w4 ⟨A3, c3, rfl, hr, hb⟩
    exact hK _ _ ⟨_, _, rfl, hr⟩ hb
   ·intro a w3 hA K hK
    have t9 := hA.old 9 _ rfl rfl
    go_simp
    exact hK _ _ Pg.fi_ (Below.refl _ _)
   ·intro a w3 hA K hK
    have t39 := bt_is hA 1 39
    obtain ⟨A42, c42, t42, r42⟩ := bt_row hA 4 42
    have t43 := bt_is hA 5 43
    have hC := r2Of_E (rneg p) A42 A9 _ c42 _ c9 (n1 + n2) dd _ _ (p + q) w3 r42 (h9.below hA.below) (val_limbs _) (val_limbs _) (by omega) (by omega) Hsame.out
    go_simp
    refine hC.mono ?_
    rintro e w4 ⟨A3, c3, A4, c4, rfl, hr, hr', hb⟩
    exact hK _ _ ⟨_, _, _, _, rfl, hr, hr'⟩ hb
  rintro vs w7 hV hb7 act hact hold hnew K hK
  have hV' := hV.is_
  clear hV
  obtain ⟨_, rfl, hV⟩ := hV'
  have hV' := hV.is_
  clear hV
  obtain ⟨_, rfl, hV⟩ := hV'
  have hV' := hV.is_
  clear hV
  obtain ⟨_, rfl, hV⟩ := hV'
  have hV' := hV.is_
  clear hV
  obtain ⟨_, rfl, hV⟩ := hV'
  have hV' := hV.row_
  clear hV
  obtain ⟨A42, c42, _, rfl, r42, hV⟩ := hV'
  have hV' := hV.is_
  clear hV
  obtain ⟨_, rfl, hV⟩ := hV'
  have hV' := hV.rat_
  clear hV
  obtain ⟨A44, c44, B44, d44, _, rfl, r44, s44, hV⟩ := hV'
  obtain rfl := hV.nil_
  clear hV
  simp only [puts] at hact
  have tq1 := hold 4 _ rfl rfl
  have tq2 := hnew 6 44 _ rfl rfl
  clear hold hnew
  have Hact := hid hact
  clear hact
  have hBr := hBz.below hb7
  obtain ⟨k0, k1, k2, f0, f1, f2⟩ := hBr.cells
  go_simp
  refine hK _ _ ?_
  have hact := Hact.out
  clear Hact tq1 tq2
  subst hact
  go_simp
  go_wp2_with fail
  refine bodyPost_ret (by have q0 := fun u0 u1 u2 => (hBr.set u0 u1 u2).cells.1; have q1 := fun u0 u1 u2 => (hBr.set u0 u1 u2).cells.2.1; have q2 := fun u0 u1 u2 => (hBr.set u0 u1 u2).cells.2.2.1; simp [results, Tryz.results42, go_sem, q0, q1, q2]) rfl (RatRet.put hBr (by omega) (Below.then_ hbw hb7) rfl rfl rfl r44 s44 rfl rfl)
 ·have hE : (rneg p == rneg q) = false := beq_eq_false_iff_ne.2 hs
  rcases Nat.lt_or_ge n1 n2 with hc | hc
  ·have Hq := hid (Hlt.out hs hc)
   have hcm : Hid (cmpv n1 n2 = -1) := hid (cmpv_lt hc)
   have lsub := Nat.le_trans (limbs_mono (Nat.sub_le n2 n1)) ln2
   have hcc := hid hc
   clear hs Hadd Hge Hlt hc
   go_wp2_with (first
    | (go_at_call 75; refine (rCmpE A7 A8 _ c7 _ c8 _ _ _ n1 n2 (-1) (by repeat first | assumption | apply Pg.Row.below (hb := by assumption) | apply Pg.Row.alloc | apply Pg.Row.drewN) (by repeat first | assumption | apply Pg.Row.below (hb := by assumption) | apply Pg.Row.alloc | apply Pg.Row.drewN) (val_limbs _) (val_limbs _) (by first | omega | assumption) (by first | omega | assumption) hcm.out).mono ?_; rintro e w7 ⟨rfl, hb7⟩; clear j0 j1 j2; obtain ⟨j0, j1, j2, _, _, _⟩ := (hB2.below hb7).cells)
    | (go_at_call 76; refine (rSub_N A8 A7 _ c8 _ c7 _ _ _ n2 n1 (by repeat first | assumption | apply Pg.Row.below (hb := by assumption) | apply Pg.Row.alloc | apply Pg.Row.drewN) (by repeat first | assumption | apply Pg.Row.below (hb := by assumption) | apply Pg.Row.alloc | apply Pg.Row.drewN) (val_limbs _) (val_limbs _) (by first | omega | assumption) (by first | omega | assumption)).mono ?_; rintro e w8 ⟨A10, c10, rfl, h10, hb8⟩; clear j0 j1 j2; obtain ⟨j0, j1, j2, _, _, _⟩ := ((hB2.below hb7).below hb8).cells)
    | (go_at_call 63; refine (r2Of_E (rneg q) A10 A9 _ c10 _ c9 (n2 - n1) dd _ _ (p + q) _ (by repeat first | assumption | apply Pg.Row.below (hb := by assumption) | apply Pg.Row.alloc | apply Pg.Row.drewN) (by repeat first | assumption | apply Pg.Row.below (hb := by assumption) | apply Pg.Row.alloc | apply Pg.Row.drewN) (val_limbs _) (val_limbs _) (by first | omega | assumption) (by first | omega | assumption) Hq.out).mono ?_; rintro e w9 ⟨A11, c11, A12, c12, rfl, h11, h12, hb9⟩; have hBr := ((hBz.below hb7).below hb8).below hb9; obtain ⟨i0, i1, i2, f0, f1, f2⟩ := hBr.cells))
   refine bodyPost_ret (by have q0 := fun u0 u1 u2 => (hBr.set u0 u1 u2).cells.1; have q1 := fun u0 u1 u2 => (hBr.set u0 u1 u2).cells.2.1; have q2 := fun u0 u1 u2 => (hBr.set u0 u1 u2).cells.2.2.1; simp [results, Tryz.results42, go_sem, q0, q1, q2]) rfl (RatRet.put hBr (by omega) Pg.bel rfl rfl rfl h11 h12 rfl rfl)
  ·have Hq := hid (Hge.out hs hc)
   obtain ⟨cm, hcm0⟩ : ∃ cm, cm = cmpv n1 n2 := ⟨_, rfl⟩
   have hcp : 0 ≤ cm := by
    rw [hcm0]
    rcases Nat.lt_or_eq_of_le hc with h | h
    ·rw [cmpv_gt h]; omega
    ·rw [cmpv_eq h.symm]; omega
   have hcm := hid hcm0.symm
   have lsub := Nat.le_trans (limbs_mono (Nat.sub_le n1 n2)) ln1
   clear hs Hadd Hge Hlt hc hcm0
   go_wp2_with (first
    | (go_at_call 75; refine (rCmpE A7 A8 _ c7 _ c8 _ _ _ n1 n2 cm (by repeat first | assumption | apply Pg.Row.below (hb := by assumption) | apply Pg.Row.alloc | apply Pg.Row.drewN) (by repeat first | assumption | apply Pg.Row.below (hb := by assumption) | apply Pg.Row.alloc | apply Pg.Row.drewN) (val_limbs _) (val_limbs _) (by first | omega | assumption) (by first | omega | assumption) hcm.out).mono ?_; rintro e w7 ⟨rfl, hb7⟩; clear k0 k1 k2; obtain ⟨k0, k1, k2, _, _, _⟩ := (hB1.below hb7).cells)
    | (go_at_call 76; refine (rSub_N A7 A8 _ c7 _ c8 _ _ _ n1 n2 (by repeat first | assumption | apply Pg.Row.below (hb := by assumption) | apply Pg.Row.alloc | apply Pg.Row.drewN) (by repeat first | assumption | apply Pg.Row.below (hb := by assumption) | apply Pg.Row.alloc | apply Pg.Row.drewN) (val_limbs _) (val_limbs _) (by first | omega | assumption) (by first | omega | assumption)).mono ?_; rintro e w8 ⟨A10, c10, rfl, h10, hb8⟩; clear k0 k1 k2; obtain ⟨k0, k1, k2, _, _, _⟩ := ((hB1.below hb7).below hb8).cells)
    | (go_at_call 63; refine (r2Of_E (rneg p) A10 A9 _ c10 _ c9 (n1 - n2) dd _ _ (p + q) _ (by repeat first | assumption | apply Pg.Row.below (hb := by assumption) | apply Pg.Row.alloc | apply Pg.Row.drewN) (by repeat first | assumption | apply Pg.Row.below (hb := by assumption) | apply Pg.Row.alloc | apply Pg.Row.drewN) (val_limbs _) (val_limbs _) (by first | omega | assumption) (by first | omega | assumption) Hq.out).mono ?_; rintro e w9 ⟨A11, c11, A12, c12, rfl, h11, h12, hb9⟩; have hBr := ((hBz.below hb7).below hb8).below hb9; obtain ⟨i0, i1, i2, f0, f1, f2⟩ := hBr.cells))
   refine bodyPost_ret (by have q0 := fun u0 u1 u2 => (hBr.set u0 u1 u2).cells.1; have q1 := fun u0 u1 u2 => (hBr.set u0 u1 u2).cells.2.1; have q2 := fun u0 u1 u2 => (hBr.set u0 u1 u2).cells.2.2.1; simp [results, Tryz.results42, go_sem, q0, q1, q2]) rfl (RatRet.put hBr (by omega) Pg.bel rfl rfl rfl h11 h12 rfl rfl)
end Go.Proofs.YtahdlpkncemmaaaGreat
namespace Go.Proofs.YtahdlpkncemmaaaGreat
open Go.RowKit Pg
end Go.Proofs.YtahdlpkncemmaaaGreat
namespace Pg
theorem blen_upto {q k : Nat} (h : q < 2 ^ k) : blen q ≤ k := by
 by_cases h0 : q = 0
 ·subst h0; rw [show blen 0 = 0 from rfl]; omega
 ·have := (blen_bounds h0).2.1
  have h2 : 2 ^ (blen q - 1) < 2 ^ k := Nat.lt_of_le_of_lt this h
  have := (Nat.pow_lt_pow_iff_right (a := 2) (by omega)).1 h2
  omega
end Pg
namespace Go.Proofs.YtahdlpkncemmaaaGreat
open Go.RowKit Pg
theorem CmpE (A A' : Option Addr) (n c n' c' : Nat) (xs ys : List Nat) (w : World) (a b : Nat) (r : Int) (h : Row w A n c xs) (h' : Row w A' n' c' ys) (ea : val xs = a) (eb : val ys = b) (er : cmpv a b = r) :
  Calls Tryz.prog 66 #[.slice A n c, .slice A' n' c'] w (fun e w' => e = .returned (.int .i64 r) ∧ Below w.heap.size w w') := by
 subst ea eb er; exact Cmp_any A A' n c n' c' xs ys w h h'
end Go.Proofs.YtahdlpkncemmaaaGreat
namespace Pg
end Pg
namespace Pg
end Pg
namespace Go.Proofs.YtahdlpkncemmaaaGreat
open Go.RowKit Pg
end Go.Proofs.YtahdlpkncemmaaaGreat
namespace Pg
end Pg
namespace Go.Proofs.YtahdlpkncemmaaaGreat
open Go.RowKit Pg
end Go.Proofs.YtahdlpkncemmaaaGreat
namespace Pg
end Pg
namespace Go.Proofs.YtahdlpkncemmaaaGreat
open Go.RowKit Pg
end Go.Proofs.YtahdlpkncemmaaaGreat
namespace Pg
open Ieee
end Pg
namespace Pg
open Ieee
end Pg
namespace Pg
open Ieee
end Pg
