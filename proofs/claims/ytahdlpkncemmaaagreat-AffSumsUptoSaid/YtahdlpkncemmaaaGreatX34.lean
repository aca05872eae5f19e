/- Walks · Walks · The functions of rat and pantographref2 . Conditions: those that each theorem names. -/
import Derived.Test.YtahdlpkncemmaaaGreatX33
import Derived.Test.YtahdlpkncemmaaaGreatX29
import Derived.Test.YtahdlpkncemmaaaGreatX17
import Derived.Test.YtahdlpkncemmaaaGreatX31
import Derived.Test.YtahdlpkncemmaaaGreatX28
set_option maxRecDepth 100000
set_option maxHeartbeats 8000000
set_option linter.unusedSimpArgs false
set_option linter.unusedVariables false
namespace Go.Proofs.YtahdlpkncemmaaaGreat
open Go.RowKit Pg
def DivRet (w : World) (q : Rat) (b : Bool) (e : Ending) (w' : World) : Prop := ∃ v, e = .returned (.tuple #[v, .bool b]) ∧ RatRet w q (.returned v) w'
theorem Int_E (n : Int) (q : Rat) (w : World) (h1 : -9223372036854775808 ≤ n) (h2 : n ≤ 9223372036854775807) (hq : (n : Rat) = q) :
  Calls Tryz.prog 58 #[.int .i64 n] w (RatRet w q) := by subst hq; exact Int_any n w h1 h2
theorem RArg.inv {w : World} {q : Rat} {A A' : Option Addr} {c c' k : Nat} (h : Row w A (limbs (rnum q)).length c (limbs (rnum q))) (h' : Row w A' (limbs q.den).length c' (limbs q.den)) (hn : (limbs (rnum q)).length ≤ k) (hn' : (limbs q.den).length ≤ k) :
  RArg w (.agg #[.bool (rneg q), .slice A' (limbs q.den).length c', .slice A (limbs (rnum q)).length c]) (q⁻¹) k :=
 ⟨_, _, _, _, _, _, _, _, _, rfl, h', h, hn', hn, by rw [val_limbs, val_limbs, rv_inv]⟩
theorem nonzero_len {q : Rat} (h : q ≠ 0) : (((limbs (rnum q)).length : Int) == 0) = false := beq_eq_false_iff_ne.2 (fun e => h ((rnum_len q).1 (by omega)))
theorem zero_len {q : Rat} (h : q = 0) : (((limbs (rnum q)).length : Int)) = 0 := by have := (rnum_len q).2 h; omega
theorem Div_R {va vb : Value} {p q : Rat} {k : Nat} (w : World) (ha : RArg w va p k) (hb : RArg w vb q k) (hk : k ≤ 262144) (hk1 : 1 ≤ k) :
  Calls Tryz.prog 85 #[va, vb] w (DivRet w (p / q) (decide (q ≠ 0))) := by
 obtain ⟨E, hE⟩ : ∃ E, decide (q ≠ 0) = E := ⟨_, rfl⟩
 obtain ⟨r, hr⟩ : ∃ r, p / q = r := ⟨_, rfl⟩
 rw [hE, hr]
 obtain ⟨lq1, lq2⟩ := hb.short hk1
 have HP := hid ha
 obtain ⟨s1, A, n, c, A', n', c', xs, ys, rfl, _, _, _, _, _⟩ := ha
 obtain ⟨s2, C, m, d, C', m', d', us, vs, rfl, g, g', hm, hm', hq⟩ := hb
 have hQ := fun W (hW : Below w.heap.size w W) => Rnorm_any s2 C C' m d m' d' us vs W (g.below hW) (g'.below hW) (by omega) (by omega)
 rw [hq] at hQ
 have HQ := hid hQ
 clear g g' hQ hq
 have HX := hid (((B3.new w 24 (.bool s1) (.slice A n c) (.slice A' n' c')).alloc (.cells #[.bool s2, .slice C m d, .slice C' m' d'] 24)).alloc (.cells #[.bool false, .slice none 0 0, .slice none 0 0] 24))
 have HY := hid ((B3.new2 w (.cells #[.bool s1, .slice A n c, .slice A' n' c'] 24) 24 (.bool s2) (.slice C m d) (.slice C' m' d') _ rfl).alloc (.cells #[.bool false, .slice none 0 0, .slice none 0 0] 24))
 have HZ := hid (B3.newg ((w.alloc (.cells #[.bool s1, .slice A n c, .slice A' n' c'] 24)).alloc (.cells #[.bool s2, .slice C m d, .slice C' m' d'] 24)) 24 (.bool false) (.slice none 0 0) (.slice none 0 0) (w.heap.size + 2) (by simp))
 obtain ⟨k0, k1, k2, _, _, _⟩ := HY.out.cells
 go_enter Tryz.func85, Tryz.ntmps85
 go_upto_region 2 with (go_at_call 40; refine (HQ.out _ Pg.bel).mono ?_; rintro e w1 ⟨A1, c1, A2, c2, rfl, hr1, hr2, hb1⟩; have hBr := HY.out.below hb1; clear k0 k1 k2; obtain ⟨k0, k1, k2, f0, f1, f2⟩ := hBr.cells)
 have hw1 : Below w.heap.size w w1 := Pg.bel
 have hB2 := hBr.set (.bool (rneg q)) (.slice A1 (limbs (rnum q)).length c1) (.slice A2 (limbs q.den).length c2)
 have hs1 := hBr.row hr1 (.bool (rneg q)) (.slice A1 (limbs (rnum q)).length c1) (.slice A2 (limbs q.den).length c2)
 have hs2 := hBr.row hr2 (.bool (rneg q)) (.slice A1 (limbs (rnum q)).length c1) (.slice A2 (limbs q.den).length c2)
 have hbs := B3.belowSet hw1 (by omega : w.heap.size ≤ w.heap.size + 1) (.bool (rneg q)) (.slice A1 (limbs (rnum q)).length c1) (.slice A2 (limbs q.den).length c2)
 have HX1 := hid ((HX.out.below hb1).other3 (by omega : w.heap.size ≠ w.heap.size + 1) (.bool (rneg q)) (.slice A1 (limbs (rnum q)).length c1) (.slice A2 (limbs q.den).length c2))
 have HZ1 := hid ((HZ.out.below hb1).other3 (by omega : w.heap.size + 2 ≠ w.heap.size + 1) (.bool (rneg q)) (.slice A1 (limbs (rnum q)).length c1) (.slice A2 (limbs q.den).length c2))
 generalize ((w1.setCell ⟨w.heap.size + 1, 0, none⟩ (.bool (rneg q))).setCell ⟨w.heap.size + 1, 1, none⟩ (.slice A1 (limbs (rnum q)).length c1)).setCell ⟨w.heap.size + 1, 2, none⟩ (.slice A2 (limbs q.den).length c2) = w2 at *
 clear hBr hr1 hr2 hb1 hw1 HX HY HQ HZ k0 k1 k2 f0 f1 f2
 obtain ⟨k0, k1, k2, _, _, _⟩ := hB2.cells
 obtain ⟨j0, j1, j2, _, _, _⟩ := HX1.out.cells
 by_cases hq0 : q = 0
 ·have hl := zero_len hq0
  have hz : r = 0 := by rw [← hr, hq0, Rat.div_def, Rat.inv_zero, Rat.mul_zero]
  clear hr
  subst hz
  have hd : E = false := by rw [← hE]; exact decide_eq_false (fun h : q ≠ 0 => h hq0)
  subst hd
  clear hE
  clear hq0
  go_wp2_with (go_at_call 58; refine (Int_E 0 0 _ (by omega) (by omega) rfl).mono ?_; rintro e w3 ⟨A3, c3, A4, c4, rfl, hr3, hr4, hb3⟩; have hBr := HZ1.out.below hb3; clear k0 k1 k2 j0 j1 j2; obtain ⟨k0, k1, k2, f0, f1, f2⟩ := hBr.cells)
  refine bodyPost_ret (by have q0 := fun u0 u1 u2 => (hBr.set u0 u1 u2).cells.1; have q1 := fun u0 u1 u2 => (hBr.set u0 u1 u2).cells.2.1; have q2 := fun u0 u1 u2 => (hBr.set u0 u1 u2).cells.2.2.1; simp [results, Tryz.results85, go_sem, q0, q1, q2]) rfl ⟨_, rfl, RatRet.put hBr (by omega) (Below.then_ hbs hb3) rfl rfl rfl hr3 hr4 rfl rfl⟩
 ·have hl := nonzero_len hq0
  have hd : E = true := by rw [← hE]; exact decide_eq_true (show q ≠ 0 from hq0)
  subst hd
  clear hE
  have hz := hid ((Rat.div_def p q).symm.trans hr)
  clear hr
  clear hq0
  go_wp2_with (go_at_call 44; refine (Mul_R _ (HP.out.below hbs) (RArg.inv hs1 hs2 lq1 lq2) hk hk1).mono ?_; rw [hz.out]; rintro e w3 ⟨A3, c3, A4, c4, rfl, hr3, hr4, hb3⟩; have hBr := HZ1.out.below hb3; clear k0 k1 k2 j0 j1 j2; obtain ⟨k0, k1, k2, f0, f1, f2⟩ := hBr.cells)
  refine bodyPost_ret (by have q0 := fun u0 u1 u2 => (hBr.set u0 u1 u2).cells.1; have q1 := fun u0 u1 u2 => (hBr.set u0 u1 u2).cells.2.1; have q2 := fun u0 u1 u2 => (hBr.set u0 u1 u2).cells.2.2.1; simp [results, Tryz.results85, go_sem, q0, q1, q2]) rfl ⟨_, rfl, RatRet.put hBr (by omega) (Below.then_ hbs hb3) rfl rfl rfl hr3 hr4 rfl rfl⟩
end Go.Proofs.YtahdlpkncemmaaaGreat
namespace Pg
open Go Go.RowKit
open Go.Proofs.YtahdlpkncemmaaaGreat (isT)
theorem isT_iff {xs : List Nat} (h : Ok xs) : isT xs = true ↔ limbs (val xs) = xs := by
 unfold isT
 rw [decide_eq_true_eq]
 constructor
 ·intro e
  have := limbs_val_take h
  unfold tl at e
  rw [e, List.take_length] at this
  exact this
 ·intro e; unfold tl; rw [e]
theorem norm_parts (s : Bool) {xs ys : List Nat} (hx : Ok xs) (hy : Ok ys) : RW.norm ⟨s, xs, ys⟩ = (isT xs && isT ys && decide (0 < ys.length) && !(s && decide (xs.length = 0)) && (cmpv (Nat.gcd (val xs) (val ys)) 1 == 0)) := by
 have hc : (cmpv (Nat.gcd (val xs) (val ys)) 1 == 0) = (Nat.gcd (val xs) (val ys) == 1) := by
  generalize Nat.gcd (val xs) (val ys) = G
  rcases Nat.lt_trichotomy G 1 with h | h | h
  ·rw [cmpv_lt h, beq_eq_false_iff_ne.2 (show G ≠ 1 by omega)]; rfl
  ·rw [cmpv_eq h, h]; rfl
  ·rw [cmpv_gt h, beq_eq_false_iff_ne.2 (show G ≠ 1 by omega)]; rfl
 rw [hc]
 rw [Bool.eq_iff_iff]
 simp only [RW.norm, RW.q, Bool.and_eq_true, beq_iff_eq, decide_eq_true_eq, Bool.not_eq_true', Bool.and_eq_false_imp, isT_iff hx, isT_iff hy, decide_eq_false_iff_not]
 constructor
 ·rintro ⟨⟨h1, h2⟩, h3⟩
  generalize rv s (val xs) (val ys) = q at *
  subst h2 h3
  simp only [val_limbs]
  have hd := (tl_top q.den_nz).1
  refine ⟨⟨⟨⟨trivial, trivial⟩, hd⟩, fun hs h0 => ?_⟩, gcd_q q⟩
  have hz : q = 0 := (by
   refine rnum_zero_iff.1 (Classical.byContradiction fun hn => ?_)
   have := (tl_top hn).1
   omega)
  rw [hs, hz, rneg_zero] at h1
  cases h1
 ·rintro ⟨⟨⟨⟨h1, h2⟩, h3⟩, h4⟩, h5⟩
  have hD : val ys ≠ 0 := fun e => by rw [e, limbs_zero] at h2; rw [← h2] at h3; simp at h3
  have e1 : rnum (rv s (val xs) (val ys)) = val xs := by rw [rv_num _ _ hD, h5, Nat.div_one]
  have e2 : (rv s (val xs) (val ys)).den = val ys := by rw [rv_den _ _ hD, h5, Nat.div_one]
  refine ⟨⟨?_, by rw [e1, h1]⟩, by rw [e2, h2]⟩
  by_cases hN : val xs = 0
  ·rw [rv_zero (.inl hN), rneg_zero]
   have hx0 : xs.length = 0 := by rw [← h1, hN]; rfl
   cases s
   ·rfl
   ·exact absurd hx0 (h4 rfl)
  ·exact (rv_neg hN hD).symm
end Pg
namespace Go.Proofs.YtahdlpkncemmaaaGreat
open Go.RowKit Pg
theorem rIs_any {v0 v1 v2 : Value} {r : RW} (w : World) (h : RowsAt w r v0 v1 v2) (hr : r.Le 262144) :
  Calls Tryz.prog 37 #[.agg #[v0, v1, v2]] w fun e w' => e = .returned (.bool r.norm) ∧ Below w.heap.size w w' := by
 obtain ⟨s, xs, ys⟩ := r
 obtain ⟨A, n, c, A', n', c', rfl, rfl, rfl, h1, h2, _, _⟩ := h
 obtain ⟨m1, m2⟩ := hr
 have e := norm_parts s h1.ok h2.ok
 have l1 := h1.len
 have l2 := h2.len
 simp only at h1 h2 l1 l2 m1 m2
 rw [l1, l2] at e
 obtain ⟨E, hE⟩ : ∃ E, RW.norm ⟨s, xs, ys⟩ = E := ⟨_, rfl⟩
 rw [hE] at e
 show Calls _ _ _ _ fun e' w' => e' = .returned (.bool (RW.norm ⟨s, xs, ys⟩)) ∧ _
 rw [hE]
 clear hE
 have HX := hid (B3.new w 24 (.bool s) (.slice A n c) (.slice A' n' c'))
 obtain ⟨k0, k1, k2, _, _, _⟩ := HX.out.cells
 have I1 := fun W (hW : Below w.heap.size w W) => is_any A n c xs W (h1.below hW)
 have I2 := fun W (hW : Below w.heap.size w W) => is_any A' n' c' ys W (h2.below hW)
 obtain ⟨G, hG⟩ : ∃ G, Nat.gcd (val xs) (val ys) = G := ⟨_, rfl⟩
 rw [hG] at e
 have HG := hid fun W (hW : Below w.heap.size w W) => Gcd_E A A' n c n' c' xs ys W (val xs) (val ys) G (h1.below hW) (h2.below hW) rfl rfl (by omega) (by omega) hG
 clear hG h1 h2
 obtain ⟨cm, hcm⟩ : ∃ cm, cmpv G 1 = cm := ⟨_, rfl⟩
 rw [hcm] at e
 have HC := hid hcm
 generalize isT xs = b1 at *
 generalize isT ys = b2 at *
 have I1 := hid I1
 have I2 := hid I2
 clear l1 l2 hcm
 by_cases hn : n = 0
 ·have hn1 : (n : Int) = 0 := by omega
  rw [decide_eq_true hn] at e
  by_cases hn' : n' = 0
  ·have hn1' : (n' : Int) = 0 := by omega
   rw [decide_eq_false (show ¬ 0 < n' by omega)] at e
   have He := hid e
   clear e hn hn'
   rcases b1 with _ | _ <;> rcases b2 with _ | _ <;> rcases s with _ | _
   all_goals 
    go_enter Tryz.func37, Tryz.ntmps37
    go_wp2_with (first
     | (go_at_call 65; (with_reducible refine (I1.out _ Pg.bel).mono ?_); rintro e w1 ⟨rfl, rfl⟩)
     | (go_at_call 65; (with_reducible refine (I2.out _ Pg.bel).mono ?_); rintro e w1 ⟨rfl, rfl⟩)
     | (go_at_call 67; (with_reducible refine (HG.out _ Pg.bel).mono ?_); rintro e w2 ⟨A2, c2, rfl, hr2, hb2⟩)
     | (go_at_call 68; refine (Of_I 1 _ _ (by omega) (by omega)).mono ?_; rintro e w3 ⟨A3, c3, rfl, hr3, hb3⟩)
     | (go_at_call 66; refine (CmpE A2 A3 _ c2 _ c3 _ _ _ G 1 cm (hr2.below hb3) hr3 (val_limbs _) (val_limbs _) HC.out).mono ?_; rintro e w4 ⟨rfl, hb4⟩))
    go_ret
    exact ⟨by rw [He.out]; rfl, Pg.bel⟩
  ·have hn1' : ((n' : Int) == 0) = false := beq_eq_false_iff_ne.2 (by omega)
   rw [decide_eq_true (show 0 < n' by omega)] at e
   have He := hid e
   clear e hn hn'
   rcases b1 with _ | _ <;> rcases b2 with _ | _ <;> rcases s with _ | _
   all_goals 
    go_enter Tryz.func37, Tryz.ntmps37
    go_wp2_with (first
     | (go_at_call 65; (with_reducible refine (I1.out _ Pg.bel).mono ?_); rintro e w1 ⟨rfl, rfl⟩)
     | (go_at_call 65; (with_reducible refine (I2.out _ Pg.bel).mono ?_); rintro e w1 ⟨rfl, rfl⟩)
     | (go_at_call 67; (with_reducible refine (HG.out _ Pg.bel).mono ?_); rintro e w2 ⟨A2, c2, rfl, hr2, hb2⟩)
     | (go_at_call 68; refine (Of_I 1 _ _ (by omega) (by omega)).mono ?_; rintro e w3 ⟨A3, c3, rfl, hr3, hb3⟩)
     | (go_at_call 66; refine (CmpE A2 A3 _ c2 _ c3 _ _ _ G 1 cm (hr2.below hb3) hr3 (val_limbs _) (val_limbs _) HC.out).mono ?_; rintro e w4 ⟨rfl, hb4⟩))
    go_ret
    exact ⟨by rw [He.out]; rfl, Pg.bel⟩
 ·have hn1 : ((n : Int) == 0) = false := beq_eq_false_iff_ne.2 (by omega)
  rw [decide_eq_false hn] at e
  by_cases hn' : n' = 0
  ·have hn1' : (n' : Int) = 0 := by omega
   rw [decide_eq_false (show ¬ 0 < n' by omega)] at e
   have He := hid e
   clear e hn hn'
   rcases b1 with _ | _ <;> rcases b2 with _ | _ <;> rcases s with _ | _
   all_goals 
    go_enter Tryz.func37, Tryz.ntmps37
    go_wp2_with (first
     | (go_at_call 65; (with_reducible refine (I1.out _ Pg.bel).mono ?_); rintro e w1 ⟨rfl, rfl⟩)
     | (go_at_call 65; (with_reducible refine (I2.out _ Pg.bel).mono ?_); rintro e w1 ⟨rfl, rfl⟩)
     | (go_at_call 67; (with_reducible refine (HG.out _ Pg.bel).mono ?_); rintro e w2 ⟨A2, c2, rfl, hr2, hb2⟩)
     | (go_at_call 68; refine (Of_I 1 _ _ (by omega) (by omega)).mono ?_; rintro e w3 ⟨A3, c3, rfl, hr3, hb3⟩)
     | (go_at_call 66; refine (CmpE A2 A3 _ c2 _ c3 _ _ _ G 1 cm (hr2.below hb3) hr3 (val_limbs _) (val_limbs _) HC.out).mono ?_; rintro e w4 ⟨rfl, hb4⟩))
    go_ret
    exact ⟨by rw [He.out]; rfl, Pg.bel⟩
  ·have hn1' : ((n' : Int) == 0) = false := beq_eq_false_iff_ne.2 (by omega)
   rw [decide_eq_true (show 0 < n' by omega)] at e
   have He := hid e
   clear e hn hn'
   rcases b1 with _ | _ <;> rcases b2 with _ | _ <;> rcases s with _ | _
   all_goals 
    go_enter Tryz.func37, Tryz.ntmps37
    go_wp2_with (first
     | (go_at_call 65; (with_reducible refine (I1.out _ Pg.bel).mono ?_); rintro e w1 ⟨rfl, rfl⟩)
     | (go_at_call 65; (with_reducible refine (I2.out _ Pg.bel).mono ?_); rintro e w1 ⟨rfl, rfl⟩)
     | (go_at_call 67; (with_reducible refine (HG.out _ Pg.bel).mono ?_); rintro e w2 ⟨A2, c2, rfl, hr2, hb2⟩)
     | (go_at_call 68; refine (Of_I 1 _ _ (by omega) (by omega)).mono ?_; rintro e w3 ⟨A3, c3, rfl, hr3, hb3⟩)
     | (go_at_call 66; refine (CmpE A2 A3 _ c2 _ c3 _ _ _ G 1 cm (hr2.below hb3) hr3 (val_limbs _) (val_limbs _) HC.out).mono ?_; rintro e w4 ⟨rfl, hb4⟩))
    go_ret
    exact ⟨by rw [He.out]; rfl, Pg.bel⟩
theorem Large_R {va : Value} {p : Rat} {k : Nat} (w : World) (ha : RArg w va p k) (hk : k ≤ 262144) :
  Calls Tryz.prog 120 #[va] w fun e w' => e = .returned (.bool (largeQ p)) ∧ Below w.heap.size w w' := by
 obtain ⟨s, A, n, c, A', n', c', xs, ys, rfl, h, h', hn, hn', hp⟩ := ha
 have hP := fun W (hW : Below w.heap.size w W) => Rnorm_any s A A' n c n' c' xs ys W (h.below hW) (h'.below hW) (by omega) (by omega)
 rw [hp] at hP
 have HP := hid hP
 obtain ⟨E, hE⟩ : ∃ E, largeQ p = E := ⟨_, rfl⟩
 rw [hE]
 unfold largeQ at hE
 clear hP h h' hp
 have HX := hid (B3.new w 24 (.bool s) (.slice A n c) (.slice A' n' c'))
 obtain ⟨k0, k1, k2, _, _, _⟩ := HX.out.cells
 go_enter Tryz.func120, Tryz.ntmps120
 go_upto_region 2 with (go_at_call 40; refine (HP.out _ Pg.bel).mono ?_; rintro e w1 ⟨A1, c1, A2, c2, rfl, hr1, hr2, hb1⟩; have hBr := HX.out.below hb1; clear k0 k1 k2; obtain ⟨k0, k1, k2, f0, f1, f2⟩ := hBr.cells)
 have hw1 : Below w.heap.size w w1 := Pg.bel
 have hB2 := hBr.set (.bool (rneg p)) (.slice A1 (limbs (rnum p)).length c1) (.slice A2 (limbs p.den).length c2)
 have hbs := B3.belowSet hw1 (Nat.le_refl _) (.bool (rneg p)) (.slice A1 (limbs (rnum p)).length c1) (.slice A2 (limbs p.den).length c2)
 generalize ((w1.setCell ⟨w.heap.size, 0, none⟩ (.bool (rneg p))).setCell ⟨w.heap.size, 1, none⟩ (.slice A1 (limbs (rnum p)).length c1)).setCell ⟨w.heap.size, 2, none⟩ (.slice A2 (limbs p.den).length c2) = w2 at *
 clear hBr hr1 hr2 hb1 hw1 HX HP k0 k1 k2 f0 f1 f2
 obtain ⟨k0, k1, k2, _, _, _⟩ := hB2.cells
 generalize (limbs (rnum p)).length = L1 at *
 generalize (limbs p.den).length = L2 at *
 by_cases g1 : 16 < L1
 ·have d1 : decide ((16 : Int) < (L1 : Int)) = true := decide_eq_true (by omega)
  have HE : Hid (true = E) := hid (by rw [← hE, decide_eq_true g1]; rfl)
  clear hE g1
  go_wp2_with fail
  go_ret
  exact ⟨by rw [← HE.out]; rfl, hbs⟩
 ·have d1 : decide ((16 : Int) < (L1 : Int)) = false := decide_eq_false (by omega)
  have HE : Hid (decide ((16 : Int) < (L2 : Int)) = E) := hid (by rw [← hE, decide_eq_false g1, Bool.false_or, decide_eq_decide]; omega)
  clear hE g1
  go_wp2_with fail
  go_ret
  exact ⟨by rw [← HE.out]; rfl, hbs⟩
theorem norm_eqB (s : Bool) (xs ys : List Nat) : RW.norm ⟨s, xs, ys⟩ = ((s == rneg (rv s (val xs) (val ys))) && eqB xs (limbs (rnum (rv s (val xs) (val ys)))) && eqB ys (limbs (rv s (val xs) (val ys)).den)) := by
 rw [Bool.eq_iff_iff]
 simp only [RW.norm, RW.q, eqB, Bool.and_eq_true, beq_iff_eq, decide_eq_true_eq]
theorem r2Is_any {v0 v1 v2 : Value} {r : RW} (w : World) (h : RowsAt w r v0 v1 v2) (hr : r.Le 262144) :
  Calls Tryz.prog 38 #[.agg #[v0, v1, v2]] w fun e w' => e = .returned (.bool r.norm) ∧ Below w.heap.size w w' := by
 obtain ⟨s, xs, ys⟩ := r
 obtain ⟨A, n, c, A', n', c', rfl, rfl, rfl, h1, h2, _, _⟩ := h
 obtain ⟨m1, m2⟩ := hr
 have e := norm_eqB s xs ys
 have l1 := h1.len
 have l2 := h2.len
 simp only at h1 h2 l1 l2 m1 m2
 show Calls _ _ _ _ fun e' w' => e' = .returned (.bool (RW.norm ⟨s, xs, ys⟩)) ∧ _
 obtain ⟨E, hE⟩ : ∃ E, RW.norm ⟨s, xs, ys⟩ = E := ⟨_, rfl⟩
 rw [hE] at e ⊢
 clear hE
 have hP := fun W (hW : Below w.heap.size w W) => r2Norm_any s A A' n c n' c' xs ys W (h1.below hW) (h2.below hW) (by omega) (by omega)
 generalize rv s (val xs) (val ys) = q at *
 have HP := hid hP
 clear hP
 have HX := hid (B3.new w 24 (.bool s) (.slice A n c) (.slice A' n' c'))
 obtain ⟨k0, k1, k2, _, _, _⟩ := HX.out.cells
 go_enter Tryz.func38, Tryz.ntmps38
 go_upto_region 2 with (go_at_call 46; refine (HP.out _ Pg.bel).mono ?_; rintro e w1 ⟨A1, c1, A2, c2, rfl, hr1, hr2, hb1⟩; clear k0 k1 k2)
 have hB2 := B3.new w1 24 (.bool (rneg q)) (.slice A1 (limbs (rnum q)).length c1) (.slice A2 (limbs q.den).length c2)
 have hB1 := (HX.out.below hb1).alloc (.cells #[.bool (rneg q), .slice A1 (limbs (rnum q)).length c1, .slice A2 (limbs q.den).length c2] 24)
 have hbs : Below w.heap.size w (w1.alloc (.cells #[.bool (rneg q), .slice A1 (limbs (rnum q)).length c1, .slice A2 (limbs q.den).length c2] 24)) := Pg.bel
 have hs1 := hr1.alloc (.cells #[.bool (rneg q), .slice A1 (limbs (rnum q)).length c1, .slice A2 (limbs q.den).length c2] 24)
 have hs2 := hr2.alloc (.cells #[.bool (rneg q), .slice A1 (limbs (rnum q)).length c1, .slice A2 (limbs q.den).length c2] 24)
 generalize w1.alloc (.cells #[.bool (rneg q), .slice A1 (limbs (rnum q)).length c1, .slice A2 (limbs q.den).length c2] 24) = w2 at *
 generalize w1.heap.size = g2 at *
 clear hr1 hr2 hb1 HX HP
 have L1 := hid fun W (hW : Below w2.heap.size w2 W) => limbs_ref2 A A1 n c _ c1 xs _ W ((h1.below hbs).below hW) (hs1.below hW)
 have L2 := hid fun W (hW : Below w2.heap.size w2 W) => limbs_ref2 A' A2 n' c' _ c2 ys _ W ((h2.below hbs).below hW) (hs2.below hW)
 clear h1 h2 hs1 hs2 l1 l2
 obtain ⟨k0, k1, k2, _, _, _⟩ := hB1.cells
 obtain ⟨j0, j1, j2, _, _, _⟩ := hB2.cells
 generalize rneg q = S at *
 generalize eqB xs (limbs (rnum q)) = E1 at *
 generalize eqB ys (limbs q.den) = E2 at *
 generalize (limbs (rnum q)).length = N1 at *
 generalize (limbs q.den).length = N2 at *
 have HB1 := hid hB1
 have HB2 := hid hB2
 clear hB1 hB2
 have He := hid e
 clear e
 rcases s with _ | _ <;> rcases S with _ | _ <;> rcases E1 with _ | _ <;> rcases E2 with _ | _
 all_goals
  go_wp2_with (first
   | (go_at_call 47; (with_reducible refine (L1.out _ (Below.refl _ _)).mono ?_); rintro e w3 ⟨rfl, hb3⟩; clear k0 k1 k2 j0 j1 j2; obtain ⟨k0, k1, k2, _, _, _⟩ := (HB1.out.below hb3).cells; obtain ⟨j0, j1, j2, _, _, _⟩ := (HB2.out.below hb3).cells)
   | (go_at_call 47; (with_reducible refine (L2.out _ hb3).mono ?_); rintro e w4 ⟨rfl, hb4⟩))
  go_ret
  exact ⟨by rw [He.out]; rfl, Pg.bel⟩
theorem rows_arg {w : World} {r : RW} {v0 v1 v2 : Value} {k : Nat} (h : RowsAt w r v0 v1 v2) (hr : r.Le k) : RArg w (.agg #[v0, v1, v2]) r.q k := by
 obtain ⟨A, n, c, A', n', c', rfl, rfl, rfl, h1, h2, _, _⟩ := h
 exact ⟨_, _, _, _, _, _, _, _, _, rfl, h1, h2, by rw [← h1.len]; exact hr.1, by rw [← h2.len]; exact hr.2, rfl⟩
theorem rows_b3 {w : World} {r : RW} {v0 v1 v2 : Value} (h : RowsAt w r v0 v1 v2) : ∃ A n c A' n' c', v0 = .bool r.s ∧ v1 = .slice A n c ∧ v2 = .slice A' n' c' := by
 obtain ⟨A, n, c, A', n', c', rfl, rfl, rfl, _⟩ := h
 exact ⟨A, n, c, A', n', c', rfl, rfl, rfl⟩
end Go.Proofs.YtahdlpkncemmaaaGreat
namespace Pg
open Go Go.RowKit
open Go.Proofs.YtahdlpkncemmaaaGreat
def RetQ (w : World) (q : Rat) (e : Ending) (w' : World) : Prop := ∃ y : RV, e = .returned (.agg #[.bool y.s, .slice y.A y.n y.c, .slice y.A' y.n' y.c']) ∧ y.at w' (rwOf q) ∧ Below w.heap.size w w'
theorem RetQ.of {w w' : World} {q : Rat} {e : Ending} {k : Nat} (h : RatRet w q e w') (hs : Short q k) (hk : k ≤ 1000000) : RetQ w q e w' := by
 obtain ⟨A, c, A', c', rfl, h1, h2, h3⟩ := h
 have a1 := hs.1
 have a2 := hs.2
 exact ⟨⟨rneg q, A, _, c, A', _, c'⟩, rfl, ⟨A, _, c, A', _, c', rfl, rfl, rfl, h1, h2, Nat.le_trans a1 (by omega), Nat.le_trans a2 (by omega)⟩, h3⟩
theorem RV.at.below {w w' : World} {y : RV} {r : RW} (h : y.at w r) (hw : Below w.heap.size w w') : y.at w' r := RowsAt.below h hw
theorem RV.at.arg {w : World} {y : RV} {r : RW} {k : Nat} (h : y.at w r) (hr : r.Le k) : RArg w (.agg #[.bool y.s, .slice y.A y.n y.c, .slice y.A' y.n' y.c']) r.q k := Go.Proofs.YtahdlpkncemmaaaGreat.rows_arg h hr
theorem RV.at.short {w : World} {y : RV} {r : RW} {k : Nat} (h : y.at w r) (hr : r.Le k) (hk : 1 ≤ k) : Short r.q k := (h.arg hr).short hk
theorem short_le {q : Rat} {k : Nat} (h : Short q k) : (rwOf q).Le k := h
end Pg
namespace Go.Proofs.YtahdlpkncemmaaaGreat
open Go.RowKit Pg
section
variable {x y : RV} {r s : RW} {k : Nat}
theorem Mul_Q (w : World) (hx : x.at w r) (hy : y.at w s) (hr : r.Le k) (hs : s.Le k) (hk : k ≤ 262144) (hk1 : 1 ≤ k) {q : Rat} (hq : r.q * s.q = q) :
  Calls Tryz.prog 44 #[.agg #[.bool x.s, .slice x.A x.n x.c, .slice x.A' x.n' x.c'], .agg #[.bool y.s, .slice y.A y.n y.c, .slice y.A' y.n' y.c']] w (RetQ w q) := by
 subst hq; exact (Mul_R w (hx.arg hr) (hy.arg hs) hk hk1).mono fun e w' h => RetQ.of h ((hx.short hr hk1).mul (hy.short hs hk1)) (by omega)
theorem r2Mul_Q (w : World) (hx : x.at w r) (hy : y.at w s) (hr : r.Le k) (hs : s.Le k) (hk : k ≤ 262144) (hk1 : 1 ≤ k) {q : Rat} (hq : r.q * s.q = q) :
  Calls Tryz.prog 45 #[.agg #[.bool x.s, .slice x.A x.n x.c, .slice x.A' x.n' x.c'], .agg #[.bool y.s, .slice y.A y.n y.c, .slice y.A' y.n' y.c']] w (RetQ w q) := by
 subst hq; exact (r2Mul_R w (hx.arg hr) (hy.arg hs) hk hk1).mono fun e w' h => RetQ.of h ((hx.short hr hk1).mul (hy.short hs hk1)) (by omega)
theorem Add_Q (w : World) (hx : x.at w r) (hy : y.at w s) (hr : r.Le k) (hs : s.Le k) (hk : k ≤ 262144) (hk1 : 1 ≤ k) {q : Rat} (hq : r.q + s.q = q) :
  Calls Tryz.prog 39 #[.agg #[.bool x.s, .slice x.A x.n x.c, .slice x.A' x.n' x.c'], .agg #[.bool y.s, .slice y.A y.n y.c, .slice y.A' y.n' y.c']] w (RetQ w q) := by
 subst hq; exact (Add_R w (hx.arg hr) (hy.arg hs) hk hk1).mono fun e w' h => RetQ.of h ((hx.short hr hk1).add (hy.short hs hk1)) (by omega)
theorem r2Add_Q (w : World) (hx : x.at w r) (hy : y.at w s) (hr : r.Le k) (hs : s.Le k) (hk : k ≤ 262144) (hk1 : 1 ≤ k) {q : Rat} (hq : r.q + s.q = q) :
  Calls Tryz.prog 42 #[.agg #[.bool x.s, .slice x.A x.n x.c, .slice x.A' x.n' x.c'], .agg #[.bool y.s, .slice y.A y.n y.c, .slice y.A' y.n' y.c']] w (RetQ w q) := by
 subst hq; exact (r2Add_R w (hx.arg hr) (hy.arg hs) hk hk1).mono fun e w' h => RetQ.of h ((hx.short hr hk1).add (hy.short hs hk1)) (by omega)
theorem Short.sub {p q : Rat} {k l : Nat} (hp : Short p k) (hq : Short q l) : Short (p - q) (k + l + 1) := by rw [Rat.sub_eq_add_neg]; exact hp.add hq.neg
theorem Norm_Q (w : World) (hx : x.at w r) (hr : r.Le k) (hk : k ≤ 262144) (hk1 : 1 ≤ k) :
  Calls Tryz.prog 40 #[.agg #[.bool x.s, .slice x.A x.n x.c, .slice x.A' x.n' x.c']] w (RetQ w r.q) := by
 have hs := hx.short hr hk1
 obtain ⟨A, n, c, A', n', c', e0, e1, e2, h1, h2, h3⟩ := hx
 rw [e0, e1, e2]
 have g1 := h1.len
 have g2 := h2.len
 have l1 := hr.1
 have l2 := hr.2
 exact (Rnorm_any _ _ _ _ _ _ _ _ _ w h1 h2 (by omega) (by omega)).mono fun e w' h => RetQ.of h hs (by omega)
theorem r2Norm_Q (w : World) (hx : x.at w r) (hr : r.Le k) (hk : k ≤ 262144) (hk1 : 1 ≤ k) :
  Calls Tryz.prog 46 #[.agg #[.bool x.s, .slice x.A x.n x.c, .slice x.A' x.n' x.c']] w (RetQ w r.q) := by
 have hs := hx.short hr hk1
 obtain ⟨A, n, c, A', n', c', e0, e1, e2, h1, h2, h3⟩ := hx
 rw [e0, e1, e2]
 have g1 := h1.len
 have g2 := h2.len
 have l1 := hr.1
 have l2 := hr.2
 exact (r2Norm_any _ _ _ _ _ _ _ _ _ w h1 h2 (by omega) (by omega)).mono fun e w' h => RetQ.of h hs (by omega)
def RetQB (w : World) (q : Rat) (b : Bool) (e : Ending) (w' : World) : Prop := ∃ y : RV, e = .returned (.tuple #[.agg #[.bool y.s, .slice y.A y.n y.c, .slice y.A' y.n' y.c'], .bool b]) ∧ y.at w' (rwOf q) ∧ Below w.heap.size w w'
theorem RetQB.of {w w' : World} {q : Rat} {b : Bool} {e : Ending} {k : Nat} (h : DivRet w q b e w') (hs : Short q k) (hk : k ≤ 1000000) : RetQB w q b e w' := by
 obtain ⟨v, rfl, h⟩ := h
 obtain ⟨y, e, h1, h2⟩ := RetQ.of h hs hk
 injection e with e
 subst e
 exact ⟨y, rfl, h1, h2⟩
theorem Short.div {p q : Rat} {k l : Nat} (hp : Short p k) (hq : Short q l) : Short (p / q) (k + l) := by rw [Rat.div_def]; exact hp.mul hq.inv
theorem Div_Q (w : World) (hx : x.at w r) (hy : y.at w s) (hr : r.Le k) (hs : s.Le k) (hk : k ≤ 262144) (hk1 : 1 ≤ k) {q : Rat} {b : Bool} (hq : r.q / s.q = q) (hb : decide (s.q ≠ 0) = b) :
  Calls Tryz.prog 85 #[.agg #[.bool x.s, .slice x.A x.n x.c, .slice x.A' x.n' x.c'], .agg #[.bool y.s, .slice y.A y.n y.c, .slice y.A' y.n' y.c']] w (RetQB w q b) := by
 subst hq hb; exact (Div_R w (hx.arg hr) (hy.arg hs) hk hk1).mono fun e w' h => RetQB.of h ((hx.short hr hk1).div (hy.short hs hk1)) (by omega)
theorem Int_Q (n : Int) (w : World) (h1 : -1 ≤ n) (h2 : n ≤ 2) {q : Rat} (hq : (n : Rat) = q) : Calls Tryz.prog 58 #[.int .i64 n] w (RetQ w q) := by
 subst hq
 have hs : Short (n : Rat) 1 := by
  match n, h1, h2 with
  | -1, _, _ => exact ⟨by rw [rnum_int]; exact length_limbs_le (by decide), by rw [rden_int]; exact length_limbs_le (by decide)⟩
  | 0, _, _ => exact short_zero
  | 1, _, _ => exact short_one
  | 2, _, _ => exact ⟨by rw [rnum_int]; exact length_limbs_le (by decide), by rw [rden_int]; exact length_limbs_le (by decide)⟩
 exact (Int_any n w (by omega) (by omega)).mono fun e w' h => RetQ.of h hs (by omega)
theorem r2Int_Q (n : Int) (w : World) (h1 : -1 ≤ n) (h2 : n ≤ 2) {q : Rat} (hq : (n : Rat) = q) : Calls Tryz.prog 36 #[.int .i64 n] w (RetQ w q) := by
 subst hq
 have hs : Short (n : Rat) 1 := by
  match n, h1, h2 with
  | -1, _, _ => exact ⟨by rw [rnum_int]; exact length_limbs_le (by decide), by rw [rden_int]; exact length_limbs_le (by decide)⟩
  | 0, _, _ => exact short_zero
  | 1, _, _ => exact short_one
  | 2, _, _ => exact ⟨by rw [rnum_int]; exact length_limbs_le (by decide), by rw [rden_int]; exact length_limbs_le (by decide)⟩
 exact (r2Int_any n w (by omega) (by omega)).mono fun e w' h => RetQ.of h hs (by omega)
theorem Same_Q (w : World) (hx : x.at w r) (hy : y.at w s) (hr : r.Le k) (hs : s.Le k) (hk : k ≤ 262144) {b : Bool} (hb : eqQ r.q s.q = b) :
  Calls Tryz.prog 49 #[.agg #[.bool x.s, .slice x.A x.n x.c, .slice x.A' x.n' x.c'], .agg #[.bool y.s, .slice y.A y.n y.c, .slice y.A' y.n' y.c']] w fun e w' => e = .returned (.bool b) ∧ Below w.heap.size w w' := by
 subst hb
 obtain ⟨A, n, c, A', n', c', e0, e1, e2, h1, h2, h3⟩ := hx
 obtain ⟨C, m, d, C', m', d', f0, f1, f2, i1, i2, i3⟩ := hy
 rw [e0, e1, e2, f0, f1, f2]
 have a1 := h1.len
 have a2 := h2.len
 have b1 := i1.len
 have b2 := i2.len
 have l1 := hr.1
 have l2 := hr.2
 have m1 := hs.1
 have m2 := hs.2
 exact Same_any _ _ _ _ _ _ _ _ _ _ _ _ _ _ _ _ _ _ w h1 h2 i1 i2 (by omega) (by omega) (by omega) (by omega)
theorem r2Same_Q (w : World) (hx : x.at w r) (hy : y.at w s) (hr : r.Le k) (hs : s.Le k) (hk : k ≤ 262144) {b : Bool} (hb : eqQ r.q s.q = b) :
  Calls Tryz.prog 24 #[.agg #[.bool x.s, .slice x.A x.n x.c, .slice x.A' x.n' x.c'], .agg #[.bool y.s, .slice y.A y.n y.c, .slice y.A' y.n' y.c']] w fun e w' => e = .returned (.bool b) ∧ Below w.heap.size w w' := by
 subst hb
 obtain ⟨A, n, c, A', n', c', e0, e1, e2, h1, h2, h3⟩ := hx
 obtain ⟨C, m, d, C', m', d', f0, f1, f2, i1, i2, i3⟩ := hy
 rw [e0, e1, e2, f0, f1, f2]
 have a1 := h1.len
 have a2 := h2.len
 have b1 := i1.len
 have b2 := i2.len
 have l1 := hr.1
 have l2 := hr.2
 have m1 := hs.1
 have m2 := hs.2
 exact r2Same_any _ _ _ _ _ _ _ _ _ _ _ _ _ _ _ _ _ _ w h1 h2 i1 i2 (by omega) (by omega) (by omega) (by omega)
theorem Zero_Q (w : World) (hx : x.at w r) (hr : r.Le k) (hk : k ≤ 262144) {b : Bool} (hb : decide (r.q = 0) = b) :
  Calls Tryz.prog 41 #[.agg #[.bool x.s, .slice x.A x.n x.c, .slice x.A' x.n' x.c']] w fun e w' => e = .returned (.bool b) ∧ Below w.heap.size w w' := by
 subst hb; exact Zero_R w (hx.arg hr) hk
theorem r2Zero_Q (w : World) (hx : x.at w r) (hr : r.Le k) (hk : k ≤ 262144) {b : Bool} (hb : decide (r.q = 0) = b) :
  Calls Tryz.prog 77 #[.agg #[.bool x.s, .slice x.A x.n x.c, .slice x.A' x.n' x.c']] w fun e w' => e = .returned (.bool b) ∧ Below w.heap.size w w' := by
 subst hb; exact r2Zero_R w (hx.arg hr) hk
end
end Go.Proofs.YtahdlpkncemmaaaGreat
namespace Pg
theorem exactQ_hit {q : Rat} {j : Nat} (hj : j < 61) (h : rnum q * 10 ^ j % q.den = 0) : exactQ q = true := by
 unfold exactQ
 rw [List.any_eq_true]
 exact ⟨j, List.mem_range.2 hj, by rw [h]; rfl⟩
theorem exactQ_miss {q : Rat} (h : ∀ j, j < 61 → rnum q * 10 ^ j % q.den ≠ 0) : exactQ q = false := by
 unfold exactQ
 rw [List.any_eq_false]
 intro j hj
 have := h j (List.mem_range.1 hj)
 simpa using this
end Pg
namespace Go.Proofs.YtahdlpkncemmaaaGreat
open Go.RowKit Pg
theorem ratRet_parts {w : World} {q : Rat} {N D : Nat} {S : Bool} (hN : rnum q = N) (hD : q.den = D) (hS : rneg q = S) : RatRet w q = fun e w' =>
  ∃ A c A' c', e = .returned (.agg #[.bool S, .slice A (limbs N).length c, .slice A' (limbs D).length c']) ∧ Row w' A (limbs N).length c (limbs N) ∧ Row w' A' (limbs D).length c' (limbs D) ∧ Below w.heap.size w w' := by
 subst hN hD hS; rfl
theorem dExact_any {v : Value} {q : Rat} (w : World) (ha : RArg w v q 1000) :
  Calls Tryz.prog 121 #[v] w fun e w' => ∃ s, e = .returned (.tuple #[.string s, .bool (exactQ q)]) ∧ Below w.heap.size w w' := by
 have hs := ha.short (by omega)
 obtain ⟨E, hE⟩ : ∃ E, exactQ q = E := ⟨_, rfl⟩
 rw [hE]
 obtain ⟨s, A, n, c, A', n', c', xs, ys, rfl, h, h', hn, hn', hp⟩ := ha
 have hO := fun W (hW : Below w.heap.size w W) => Rnorm_any s A A' n c n' c' xs ys W (h.below hW) (h'.below hW) (by omega) (by omega)
 rw [hp] at hO
 obtain ⟨N, hN⟩ : ∃ N, rnum q = N := ⟨_, rfl⟩
 obtain ⟨D, hD⟩ : ∃ D, q.den = D := ⟨_, rfl⟩
 obtain ⟨S, hS⟩ : ∃ S, rneg q = S := ⟨_, rfl⟩
 have lN : (limbs N).length ≤ 1000 := by rw [← hN]; exact hs.1
 have lD : (limbs D).length ≤ 1000 := by rw [← hD]; exact hs.2
 have HO := hid fun W hW => (ratRet_parts hN hD hS) ▸ hO W hW
 have HN := hid hN
 have HD := hid hD
 clear hO h h' hp hn hn' hN hD hS hs
 have HB := hid (B3.new w 24 (.bool s) (.slice A n c) (.slice A' n' c'))
 obtain ⟨k0, k1, k2, _, _, _⟩ := HB.out.cells
 go_enter Tryz.func121, Tryz.ntmps121
 go_upto_region 2 with (go_at_call 40; refine (HO.out _ Pg.bel).mono ?_; rintro e w1 ⟨A1, c1, A2, c2, rfl, hr1, hr2, hb1⟩; have hBr := HB.out.below hb1; clear k0 k1 k2; obtain ⟨k0, k1, k2, f0, f1, f2⟩ := hBr.cells)
 have hw1 : Below w.heap.size w w1 := Pg.bel
 have hB2 := hBr.set (.bool (S)) (.slice A1 (limbs N).length c1) (.slice A2 (limbs D).length c2)
 have hs1 := hBr.row hr1 (.bool (S)) (.slice A1 (limbs N).length c1) (.slice A2 (limbs D).length c2)
 have hs2 := hBr.row hr2 (.bool (S)) (.slice A1 (limbs N).length c1) (.slice A2 (limbs D).length c2)
 have hbs := B3.belowSet hw1 (Nat.le_refl _) (.bool (S)) (.slice A1 (limbs N).length c1) (.slice A2 (limbs D).length c2)
 generalize ((w1.setCell ⟨w.heap.size, 0, none⟩ (.bool (S))).setCell ⟨w.heap.size, 1, none⟩ (.slice A1 (limbs N).length c1)).setCell ⟨w.heap.size, 2, none⟩ (.slice A2 (limbs D).length c2) = w2 at *
 clear hBr hr1 hr2 hb1 hw1 HB HO k0 k1 k2 f0 f1 f2
 go_wp2_with fail
 go_loopw [10] (fun i wr => ∃ j : Nat, j ≤ 61 ∧ i = .int .i64 ((j : Nat) : Int) ∧ Hid (∀ k, k < j → rnum q * 10 ^ k % q.den ≠ 0) ∧ Below w2.heap.size w2 wr) (fun i _ => 61 - (intOf i).toNat)
 case atStart => exact ⟨0, by omega, rfl, hid fun k hk => absurd hk (by omega), Below.refl _ _⟩
 case round =>
  obtain ⟨j, hj, rfl, HA, hbel⟩ := hrel
  by_cases hlt : j < 61
  ·have HTen := hid fun W => dten_any j W (by omega)
   obtain ⟨T, hT⟩ : ∃ T, 10 ^ j = T := ⟨_, rfl⟩
   have lT := limbs_ten j
   rw [hT] at lT
   have hD0 : D ≠ 0 := by rw [← HD.out]; exact q.den_nz
   have lNT : (limbs (N * T)).length ≤ 2000 := by
    have := limbs_mul_len (k := 1000) lN (show (limbs T).length ≤ 1000 by omega)
    omega
   obtain ⟨Q, eq⟩ : ∃ x, N * T / D = x := ⟨_, rfl⟩
   obtain ⟨R, er'⟩ : ∃ x, N * T % D = x := ⟨_, rfl⟩
   have er : dmr (N * T) D = R := by unfold dmr; rw [if_neg hD0]; exact er'
   have ebd : dmb D = true := by simp [dmb, hD0]
   have lq := Nat.le_trans (limbs_mono (show Q ≤ N * T by rw [← eq]; exact Nat.div_le_self _ _)) lNT
   have lr := Nat.le_trans (limbs_mono (show R ≤ N * T by rw [← er']; exact Nat.mod_le _ _)) lNT
   have EQ := hid eq
   have ER := hid er
   have EB := hid ebd
   have HM : Hid (rnum q * 10 ^ j % q.den = R) := hid (by rw [hT, HN.out, HD.out]; exact er')
   rw [hT] at HTen
   have HBX := hid (hB2.below hbel)
   have h1 := hs1.below hbel
   have h2 := hs2.below hbel
   have hbw := Below.then_ hbs hbel
   have hb0k := hbel
   clear hB2 hs1 hs2 hbel hbs eq er' er ebd hT
   obtain ⟨k, hk⟩ : ∃ k, k = j := ⟨_, rfl⟩
   subst hk
   go_upto_region 5 with fail
   refine draw_hd [14, 15, 16, 17, 18, 19, 20, 21, 13, 22, 23, 24, 5, 6, 7] [.is (.pointer (some ⟨w.heap.size, 1, none⟩)), .is (.slice A1 (limbs N).length c1), .is (.int .i64 (k : Int)), .row T, .row (N * T), .is (.pointer (some ⟨w.heap.size, 2, none⟩)), .is (.slice A2 (limbs D).length c2), .such (Pr Q R), .such (Pr Q R), .row Q, .row R, .is (.bool true), .row Q, .row R, .is (.bool true)]
    (by kernel_rfl) (by kernel_rfl) (by kernel_rfl) (by decide) (by kernel_rfl) (by kernel_rfl) ?_ ?_
   ·refine ⟨?_, ?_, ?_, ?_, ?_, ?_, ?_, ?_, ?_, ?_, ?_, ?_, ?_, ?_, ?_, trivial⟩
    ·intro a w3 hA K hK
     have t1 := hA.old 1 _ rfl rfl
     go_simp
     exact hK _ _ Pg.fi_ (Below.refl _ _)
    ·intro a w3 hA K hK
     have t14 := bt_is hA 0 14
     obtain ⟨k0, k1, k2, _, _, _⟩ := (HBX.out.below hA.below).cells
     go_simp
     exact hK _ _ Pg.fi_ (Below.refl _ _)
    ·intro a w3 hA K hK
     have t4 := hA.old 4 _ rfl rfl
     go_simp
     exact hK _ _ Pg.fi_ (Below.refl _ _)
    ·intro a w3 hA K hK
     have t16 := bt_is hA 2 16
     have hC := HTen.out w3
     go_simp
     refine hC.mono ?_
     rintro e w4 ⟨A3, c3, rfl, hr, hb⟩
     exact hK _ _ ⟨_, _, rfl, hr⟩ hb
    ·intro a w3 hA K hK
     have t15 := bt_is hA 1 15
     obtain ⟨A17, c17, t17, r17⟩ := bt_row hA 3 17
     have hC := Mul_N A1 A17 _ c1 _ c17 _ _ w3 N T (h1.below hA.below) r17 (val_limbs _) (val_limbs _) (by omega) (by omega)
     go_simp
     refine hC.mono ?_
     rintro e w4 ⟨A3, c3, rfl, hr, hb⟩
     exact hK _ _ ⟨_, _, rfl, hr⟩ hb
    ·intro a w3 hA K hK
     have t1 := hA.old 1 _ rfl rfl
     go_simp
     exact hK _ _ Pg.fi_ (Below.refl _ _)
    ·intro a w3 hA K hK
     have t19 := bt_is hA 5 19
     obtain ⟨k0, k1, k2, _, _, _⟩ := (HBX.out.below hA.below).cells
     go_simp
     exact hK _ _ Pg.fi_ (Below.refl _ _)
    ·intro a w3 hA K hK
     obtain ⟨A18, c18, t18, r18⟩ := bt_row hA 4 18
     have t20 := bt_is hA 6 20
     have hC := DivMod_E A18 A2 _ c18 _ c2 _ _ w3 (N * T) D Q R true r18 (h2.below hA.below) (val_limbs _) (val_limbs _) (by omega) (by omega) EQ.out ER.out EB.out
     go_simp
     refine hC.mono ?_
     rintro e w4 ⟨Aq, cq, Ar, cr, rfl, hq, hr, hb⟩
     exact hK _ _ (fun w5 h5 => ⟨_, _, _, _, rfl, hq.below h5, hr.below h5⟩) hb
    ·intro a w3 hA K hK
     obtain ⟨v21, t21, p21⟩ := bt_such hA 7 21
     go_simp
     exact hK _ _ p21 (Below.refl _ _)
    ·intro a w3 hA K hK
     obtain ⟨v13, t13, p13⟩ := bt_such hA 8 13
     obtain ⟨Aq, cq, Ar, cr, hv, hq, hr⟩ := p13 w3 (Below.refl _ _)
     subst hv
     go_simp
     exact hK _ _ ⟨_, _, rfl, hq⟩ (Below.refl _ _)
    ·intro a w3 hA K hK
     obtain ⟨v13, t13, p13⟩ := bt_such hA 8 13
     obtain ⟨Aq, cq, Ar, cr, hv, hq, hr⟩ := p13 w3 (Below.refl _ _)
     subst hv
     go_simp
     exact hK _ _ ⟨_, _, rfl, hr⟩ (Below.refl _ _)
    ·intro a w3 hA K hK
     obtain ⟨v13, t13, p13⟩ := bt_such hA 8 13
     obtain ⟨Aq, cq, Ar, cr, hv, hq, hr⟩ := p13 w3 (Below.refl _ _)
     subst hv
     go_simp
     exact hK _ _ Pg.fi_ (Below.refl _ _)
    ·intro a w3 hA K hK
     obtain ⟨A22, c22, t22, r22⟩ := bt_row hA 9 22
     go_simp
     exact hK _ _ ⟨_, _, rfl, r22⟩ (Below.refl _ _)
    ·intro a w3 hA K hK
     obtain ⟨A23, c23, t23, r23⟩ := bt_row hA 10 23
     go_simp
     exact hK _ _ ⟨_, _, rfl, r23⟩ (Below.refl _ _)
    ·intro a w3 hA K hK
     have t24 := bt_is hA 11 24
     go_simp
     exact hK _ _ Pg.fi_ (Below.refl _ _)
   rintro vs w5 hV hb5 act hact
   have hV' := hV.is_
   clear hV
   obtain ⟨_, rfl, hV⟩ := hV'
   have hV' := hV.is_
   clear hV
   obtain ⟨_, rfl, hV⟩ := hV'
   have hV' := hV.is_
   clear hV
   obtain ⟨_, rfl, hV⟩ := hV'
   have hV' := hV.row_
   clear hV
   obtain ⟨A17, c17, _, rfl, r17, hV⟩ := hV'
   have hV' := hV.row_
   clear hV
   obtain ⟨A18, c18, _, rfl, r18, hV⟩ := hV'
   have hV' := hV.is_
   clear hV
   obtain ⟨_, rfl, hV⟩ := hV'
   have hV' := hV.is_
   clear hV
   obtain ⟨_, rfl, hV⟩ := hV'
   have hV' := hV.such_
   clear hV
   obtain ⟨v21, _, rfl, p21, hV⟩ := hV'
   have hV' := hV.such_
   clear hV
   obtain ⟨v13, _, rfl, p13, hV⟩ := hV'
   have hV' := hV.row_
   clear hV
   obtain ⟨A22, c22, _, rfl, r22, hV⟩ := hV'
   have hV' := hV.row_
   clear hV
   obtain ⟨A23, c23, _, rfl, r23, hV⟩ := hV'
   have hV' := hV.is_
   clear hV
   obtain ⟨_, rfl, hV⟩ := hV'
   have hV' := hV.row_
   clear hV
   obtain ⟨A5, c5, _, rfl, r5, hV⟩ := hV'
   have hV' := hV.row_
   clear hV
   obtain ⟨A6, c6, _, rfl, r6, hV⟩ := hV'
   have hV' := hV.is_
   clear hV
   obtain ⟨_, rfl, hV⟩ := hV'
   obtain rfl := hV.nil_
   clear hV
   simp only [puts] at hact
   subst hact
   go_simp
   obtain ⟨k0, k1, k2, _, _, _⟩ := (HBX.out.below hb5).cells
   have hq5 := r5
   clear r5 r6
   by_cases hR : R = 0
   ·have hl0 : (((limbs R).length : Int)) = 0 := by rw [hR]; rfl
    have HE : Hid (E = true) := hid (by rw [← hE]; exact exactQ_hit hlt (HM.out.trans hR))
    clear hE hR
    have ldt := dtext_len lq
    have ldp := length_dtext_pos Q
    have lpt := pt_len (dtext Q) k
    have lst := stext_len S
    have q4 : ∀ W, (Op.stringOp .add (str (stext S)) (str (pt (dtext Q) k))).run Tryz.prog W = .ok (.string (str (stext S ++ pt (dtext Q) k))) W := fun W => add_text _ _ (by omega) W
    go_wp2_with (first
     | (go_at_call 132; refine (dsign_any S _ _ _).mono ?_; rintro e w6 ⟨rfl, hb6⟩)
     | (go_at_call 134; refine (Print_any _ _ _ _ _ (hq5.below hb6) (by omega)).mono ?_; rw [val_limbs]; rintro e w7 ⟨rfl, hb7⟩)
     | (go_at_call 133; refine (pointed_any _ k _ (by omega) ldp (by omega)).mono ?_; rintro e w8 ⟨rfl, hb8⟩))
    go_ret2
    exact ⟨_, by rw [HE.out]; rfl, Pg.bel⟩
   ·have hl0 : (((limbs R).length : Int) == 0) = false := beq_eq_false_iff_ne.2 (by have := (tl_top hR).1; omega)
    have HR := hid hR
    clear hR
    go_wp2_with fail
    go_roundw
    case rel =>
     refine ⟨k + 1, by omega, by go_num, hid fun i hi => ?_, Below.then_ (Below.then_ hb0k hb5) (Below.refl _ _)⟩
     by_cases hik : i = k
     ·subst hik; rw [HM.out]; exact HR.out
     ·exact HA.out i (by omega)
    case measure => simp [intOf]; omega
  ·have hj1 : j = 61 := by omega
   subst hj1
   have HE : Hid (E = false) := hid (by rw [← hE]; exact exactQ_miss HA.out)
   clear hE
   go_wp2_with fail
   go_ret2
   exact ⟨_, by rw [HE.out]; rfl, Below.then_ hbs hbel⟩
end Go.Proofs.YtahdlpkncemmaaaGreat
namespace Go.Proofs.YtahdlpkncemmaaaGreat
open Go.RowKit Pg
end Go.Proofs.YtahdlpkncemmaaaGreat
