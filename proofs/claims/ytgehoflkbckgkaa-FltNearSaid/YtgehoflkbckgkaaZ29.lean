/- Walk: the law FltNear. Conditions: those that each theorem names. -/
import Derived.Test.YtgehoflkbckgkaaZ24
namespace Pg
theorem kind_fin {u : Nat} (h : fKind u ≤ 2) : fErr u = 0 := by
  unfold fErr
  rw [if_neg (by omega), if_neg (by omega)]
theorem fw_bound {p : Rat} {u : Nat} (h : fw p = u) : u ≤ 18442240474082181120 ∧ (u ≠ 0 → u ≠ 9223372036854775808) := by
  obtain ⟨R, _, h1, h2 | h2 | h2⟩ := fw_cases p <;> omega
theorem mk_le (z : Int) {C : Nat} (hC : C ≠ 0) : rnum (mkRat z C) ≤ z.natAbs ∧ (mkRat z C).den ≤ C := by
  have e : mkRat z C = rv (decide (z < 0)) z.natAbs C := by unfold rv; rw [sg_self]
  rw [e, rv_num _ _ hC, rv_den _ _ hC]
  exact ⟨Nat.div_le_self _ _, Nat.div_le_self _ _⟩
end Pg
namespace Go.Proofs.Ytgehoflkbckgkaa
open Go.RowKit Pg
theorem Short.add {p q : Rat} {k : Nat} (hp : Short p k) (hq : Short q k) : Short (p + q) (k + k + 1) := by
  rw [rv_add]
  obtain ⟨h1, h2⟩ := mk_le (sg (rneg p) (rnum p * q.den) + sg (rneg q) (rnum q * p.den)) (Nat.mul_ne_zero p.den_nz q.den_nz)
  have h3 : (sg (rneg p) (rnum p * q.den) + sg (rneg q) (rnum q * p.den)).natAbs ≤ rnum p * q.den + rnum q * p.den := by
    have e1 := sg_natAbs (rneg p) (rnum p * q.den)
    have e2 := sg_natAbs (rneg q) (rnum q * p.den)
    omega
  exact ⟨Nat.le_trans (limbs_mono (Nat.le_trans h1 h3)) (limbs_add_len (limbs_mul_len hp.1 hq.2) (limbs_mul_len hq.1 hp.2)), Nat.le_trans (limbs_mono h2) (Nat.le_trans (limbs_mul_len hp.2 hq.2) (by omega))⟩
theorem Short.sub {p q : Rat} {k : Nat} (hp : Short p k) (hq : Short q k) : Short (p - q) (k + k + 1) := by
  rw [Rat.sub_eq_add_neg]; exact hp.add hq.neg
theorem limbs_of_blen {N k m : Nat} (h : Pg.blen N ≤ k) (hm : k ≤ 32 * m) : (limbs N).length ≤ m := by
  refine length_limbs_le ?_
  rw [base_pow]
  by_cases h0 : N = 0
  · subst h0; exact Nat.two_pow_pos (32 * m)
  · exact Nat.lt_of_lt_of_le (blen_bounds h0).2.2 (Nat.pow_le_pow_right (by omega) (by omega))
theorem short_fQ (u : Nat) : Short (fQ u) 126 := by
  obtain ⟨h1, h2⟩ := blen_fQ u
  exact ⟨limbs_of_blen h1 (by omega), limbs_of_blen h2 (by omega)⟩
theorem short_zero : Short 0 126 := by
  unfold Short
  rw [rnum_zero, rden_zero, limbs_zero, limbs_one]
  exact ⟨by simp, by simp⟩
/-- pantographref4.From, the rows. -/
theorem r4From_R (u : Nat) (w : World) (hu : u < 18446744073709551616) :
    Calls Try.prog 14 #[.float .f64 u] w fun e w' => ∃ q A c A' c', (fErr u = 0 → q = fQ u) ∧ Short q 126 ∧ e = .returned (.tuple #[.agg #[.bool (rneg q), .slice A (limbs (rnum q)).length c, .slice A' (limbs q.den).length c'], .int .i64 (fErr u : Int)]) ∧ Row w' A (limbs (rnum q)).length c (limbs (rnum q)) ∧ Row w' A' (limbs q.den).length c' (limbs q.den) ∧ Below w.heap.size w w' := by
  refine (r4From_any u w hu).mono ?_
  rintro e w' ⟨v, rfl, hv, hb⟩
  by_cases h0 : fErr u = 0
  · rw [if_pos h0] at hv
    obtain ⟨A, c, A', c', rfl, h1, h2⟩ := hv
    exact ⟨_, A, c, A', c', fun _ => rfl, short_fQ u, rfl, h1, h2, hb⟩
  · rw [if_neg h0] at hv
    obtain ⟨A, c, A', c', rfl, h1, h2⟩ := hv
    exact ⟨_, A, c, A', c', fun h => absurd h h0, short_zero, rfl, h1, h2, hb⟩
theorem r4From_ok {u : Nat} (hu : u < 18446744073709551616) (h0 : fErr u = 0) : Hid (∀ w, Calls Try.prog 14 #[.float .f64 u] w fun e w' => ∃ q A c A' c', Hid (q = fQ u) ∧ Short q 126 ∧ e = .returned (.tuple #[.agg #[.bool (rneg q), .slice A (limbs (rnum q)).length c, .slice A' (limbs q.den).length c'], .int .i64 0]) ∧ Row w' A (limbs (rnum q)).length c (limbs (rnum q)) ∧ Row w' A' (limbs q.den).length c' (limbs q.den) ∧ Below w.heap.size w w') := hid fun w => by
  refine (r4From_R u w hu).mono ?_
  rintro e w' ⟨q, A, c, A', c', h1, h2, rfl, h3, h4, h5⟩
  rw [h0]
  exact ⟨q, A, c, A', c', hid (h1 h0), h2, rfl, h3, h4, h5⟩
theorem r4From_err {u : Nat} (hu : u < 18446744073709551616) (E : Int) (hE : (fErr u : Int) = E) : Hid (∀ w, Calls Try.prog 14 #[.float .f64 u] w fun e w' => ∃ q A c A' c', Short q 126 ∧ e = .returned (.tuple #[.agg #[.bool (rneg q), .slice A (limbs (rnum q)).length c, .slice A' (limbs q.den).length c'], .int .i64 E]) ∧ Row w' A (limbs (rnum q)).length c (limbs (rnum q)) ∧ Row w' A' (limbs q.den).length c' (limbs q.den) ∧ Below w.heap.size w w') := hid fun w => by
  subst hE
  refine (r4From_R u w hu).mono ?_
  rintro e w' ⟨q, A, c, A', c', h1, h2, rfl, h3, h4, h5⟩
  exact ⟨q, A, c, A', c', h2, rfl, h3, h4, h5⟩
/-- pantographref2.Sub of what is written out. -/
theorem r2Sub_S {va vb : Value} {p q : Rat} (w : World) (ha : RArg w va p 126) (hb : RArg w vb q 126) (hp : Short p 126) (hq : Short q 126) :
    Calls Try.prog 29 #[va, vb] w fun e w' => ∃ r A c A' c', Hid (r = p - q) ∧ Short r 253 ∧ e = .returned (.agg #[.bool (rneg r), .slice A (limbs (rnum r)).length c, .slice A' (limbs r.den).length c']) ∧ Row w' A (limbs (rnum r)).length c (limbs (rnum r)) ∧ Row w' A' (limbs r.den).length c' (limbs r.den) ∧ Below w.heap.size w w' := by
  refine (r2Sub_R w ha hb (by omega) (by omega)).mono ?_
  rintro e w' ⟨A, c, A', c', rfl, h1, h2, hb⟩
  exact ⟨_, A, c, A', c', hid rfl, hp.sub hq, rfl, h1, h2, hb⟩
/-- The sign struck. -/
theorem RArg.abs {w : World} {r : Rat} {A A' : Option Addr} {c c' k : Nat} (h : Row w A (limbs (rnum r)).length c (limbs (rnum r))) (h' : Row w A' (limbs r.den).length c' (limbs r.den)) (hs : Short r k) :
    RArg w (.agg #[.bool false, .slice A (limbs (rnum r)).length c, .slice A' (limbs r.den).length c']) (absq r) k := by
  have := RArg.mk (s := false) h h' hs.1 hs.2
  rwa [val_limbs, val_limbs, rv_absq] at this

set_option maxRecDepth 100000 in
set_option maxHeartbeats 4000000 in
theorem law_FltNear (v : Value) (p : Rat) (w : World) (ha : RArg w v p 140737488355328) :
    Calls Try.prog 6 #[v] w fun e w' => e = .returned (.bool true) ∧ Below w.heap.size w w' := by
  obtain ⟨s, A, n, c, A', n', c', xs, ys, rfl, h, h', hn, hn', hp⟩ := ha
  have HR0 : Hid (n ≤ 16 → n' ≤ 16 → RArg w (.agg #[.bool s, .slice A n c, .slice A' n' c']) p 16) := hid fun h1 h2 => ⟨_, _, _, _, _, _, _, _, _, rfl, h, h', h1, h2, hp⟩
  have HX := hid ((B3.new w 28 (.bool s) (.slice A n c) (.slice A' n' c')).alloc (.cells #[.bool s, .slice A n c, .slice A' n' c'] 28))
  have HB := hid (big_one (B3.newg (w.alloc (.cells #[.bool s, .slice A n c, .slice A' n' c'] 28)) 28 (.bool s) (.slice A n c) (.slice A' n' c') (w.heap.size + 1) (by simp)) hn hn' 1)
  obtain ⟨k0, k1, k2, _, _, _⟩ := (B3.new w 28 (.bool s) (.slice A n c) (.slice A' n' c')).cells
  have hult := fw_lt p
  have HT : Hid (∀ W, n ≤ 16 → n' ≤ 16 → Below w.heap.size w W → Calls Try.prog 27 #[(.agg #[.bool s, .slice A n c, .slice A' n' c'])] W fun e w' => e = .returned (.float .f64 (fw p)) ∧ Below W.heap.size W w') := hid fun W h1 h2 hb => fltTo_R W ((HR0.out h1 h2).below hb) (by omega : (16 : Nat) ≤ 120) (by omega)
  clear h h' hp
  obtain ⟨u, hu⟩ : ∃ u, fw p = u := ⟨_, rfl⟩
  have hnear := fun v => @near_words p u v hu
  have HU := hid hu
  rw [hu] at HT hult
  clear hu
  have HKd := hid fun W => fltKind_any u W hult
  have HSm := hid fun W => small4_any u W hult
  by_cases hk : fKind u ≤ 2
  · have herr := kind_fin hk
    have hfin := (fErr_zero_iff u).1 herr
    have HN := hid fun v h1 h2 => hnear v hfin h1 h2
    have HF : Hid (∀ W, Calls Try.prog 14 #[.float .f64 u] W fun e w' => ∃ q A c A' c', Hid (q = fQ u) ∧ Short q 126 ∧ e = .returned (.tuple #[.agg #[.bool (rneg q), .slice A (limbs (rnum q)).length c, .slice A' (limbs q.den).length c'], .int .i64 0]) ∧ Row w' A (limbs (rnum q)).length c (limbs (rnum q)) ∧ Row w' A' (limbs q.den).length c' (limbs q.den) ∧ Below W.heap.size W w') := hid fun W => by
      refine (r4From_R u W hult).mono ?_
      rintro e w' ⟨q, A, c, A', c', h1, h2, rfl, h3, h4, h5⟩
      rw [herr]
      exact ⟨q, A, c, A', c', hid (h1 herr), h2, rfl, h3, h4, h5⟩
    have hkk : (fKind u : Int) ≤ 2 := by omega
    generalize (fKind u : Int) = kk at *
    have Hu := hid (show u ≤ 18442240474082181120 ∧ (u ≠ 0 → u ≠ 9223372036854775808) from fw_bound HU.out)
    clear hnear hk herr hfin hult
    go_enter Try.func6, Try.ntmps6
    go_wp2_with (first
      | (go_at_call 22; refine HB.out.mono ?_; rintro e w1 ⟨b, rfl, hb16, hb1⟩; rcases b with _ | _; all_goals (have hXc := (HX.out.below hb1).cells; clear k0 k1 k2; obtain ⟨k0, k1, k2, _⟩ := hXc))
      | (go_at_call 27; refine (HT.out _ (by have := hb16 trivial; omega) (by have := hb16 trivial; omega) (by repeat first | exact Below.refl _ _ | assumption | refine Pg.Below.then_ ?_ (by assumption) | refine Pg.Below.new_ ?_ _ | refine Pg.Below.drewN_ ?_ _)).mono ?_; rintro e w2 ⟨rfl, hb2⟩; have hXc := ((HX.out.below hb1).below hb2).cells; clear k0 k1 k2; obtain ⟨k0, k1, k2, _⟩ := hXc)
      | (go_at_call 12; refine (HSm.out _).mono ?_; rintro e w3 ⟨b, rfl, rfl⟩; rcases b with _ | _)
      | (go_at_call 19; refine (HKd.out _).mono ?_; rintro e w3 ⟨rfl, rfl⟩)
      | (go_at_call 21; refine (known4_any _).mono ?_; rintro e w6 ⟨rfl, hb6⟩)
      | (go_at_call 14; refine (HF.out _).mono ?_; rintro e w3 ⟨q, A1, c1, A2, c2, hq, hsq, rfl, hr1, hr2, hb3⟩; have hXc := (((HX.out.below hb1).below hb2).below hb3).alloc (.cells #[.bool (rneg q), .slice A1 (limbs (rnum q)).length c1, .slice A2 (limbs q.den).length c2] 28); clear k0 k1 k2; obtain ⟨k0, k1, k2, _⟩ := hXc.cells))
    · go_ret
      exact ⟨rfl, (by repeat first | exact Below.refl _ _ | assumption | refine Pg.Below.then_ ?_ (by assumption) | refine Pg.Below.new_ ?_ _ | refine Pg.Below.drewN_ ?_ _)⟩
    · have h16 : n ≤ 16 ∧ n' ≤ 16 := by have := hb16 trivial; omega
      have hR := HR0.out h16.1 h16.2
      have hsp := (hR.short (by omega)).mono (by omega : 16 ≤ 126)
      have HR := hid (hR.mono (by omega : 16 ≤ 126))
      have hbw : Below w.heap.size w (w3.alloc (.cells #[.bool (rneg q), .slice A1 (limbs (rnum q)).length c1, .slice A2 (limbs q.den).length c2] 28)) := (by repeat first | exact Below.refl _ _ | assumption | refine Pg.Below.then_ ?_ (by assumption) | refine Pg.Below.new_ ?_ _ | refine Pg.Below.drewN_ ?_ _)
      clear k0 k1 k2 hR h16 hb16 HB HT HR0 HKd HSm HF
      refine (r2Sub_S _ (RArg.norm (hr1.alloc _) (hr2.alloc _) hsq.1 hsq.2) (HR.out.below hbw) hsq hsp).mono ?_
      rintro e w4 ⟨r, A3, c3, A4, c4, hr, hsr, rfl, hr3, hr4, hb4⟩
      have Hr := hid (hr.out.trans (by rw [hq.out]))
      have hX5 := ((((HX.out.below hb1).below hb2).below hb3).alloc (.cells #[.bool (rneg q), .slice A1 (limbs (rnum q)).length c1, .slice A2 (limbs q.den).length c2] 28)).below hb4
      have hbw := Below.then_ hbw hb4
      clear hr1 hr2 hsq hr hq HX hb1 hb2 hb3 hb4
      go_upto_region 8 with fail
      have hBd := B3.new w4 28 (.bool (rneg r)) (.slice A3 (limbs (rnum r)).length c3) (.slice A4 (limbs r.den).length c4)
      have hne : w.heap.size ≠ w4.heap.size := by have := hX5.lt; omega
      have hX5 := hX5.alloc (.cells #[.bool (rneg r), .slice A3 (limbs (rnum r)).length c3, .slice A4 (limbs r.den).length c4] 28)
      have hr3 := hr3.alloc (.cells #[.bool (rneg r), .slice A3 (limbs (rnum r)).length c3, .slice A4 (limbs r.den).length c4] 28)
      have hr4 := hr4.alloc (.cells #[.bool (rneg r), .slice A3 (limbs (rnum r)).length c3, .slice A4 (limbs r.den).length c4] 28)
      have hgle : w.heap.size ≤ w4.heap.size := by have := hbw.size; omega
      have hbw := Below.new_ hbw (.cells #[.bool (rneg r), .slice A3 (limbs (rnum r)).length c3, .slice A4 (limbs r.den).length c4] 28)
      generalize w4.alloc (.cells #[.bool (rneg r), .slice A3 (limbs (rnum r)).length c3, .slice A4 (limbs r.den).length c4] 28) = w5 at *
      generalize w4.heap.size = g at *
      have hap3 := hBd.apart hr3
      have hap4 := hBd.apart hr4
      have hBd6 := hBd.set0 (.bool false)
      have hX6 := hX5.setOther hne 0 (.bool false)
      have hr3 := row_set_other hr3 ⟨g, 0, none⟩ (.bool false) hap3
      have hr4 := row_set_other hr4 ⟨g, 0, none⟩ (.bool false) hap4
      have hbw := hbw.setCell (p := ⟨g, 0, none⟩) hgle (.bool false)
      obtain ⟨k0, k1, k2, f0, f1, f2⟩ := hBd.cells
      have q1 := fun W => run_f64bits u W
      obtain ⟨z, hz⟩ : ∃ z : Int, (u : Int) = z := ⟨_, rfl⟩
      rw [hz] at q1
      have Hz := hid hz
      have hz0 : 0 ≤ z := by omega
      clear hz
      go_wp2_with fail
      clear k0 k1 k2 f0 f1 f2 hap3 hap4 hBd hX5 hne q1
      generalize w5.setCell ⟨g, 0, none⟩ (.bool false) = w6 at *
      have HRD := hid (RArg.abs hr3 hr4 hsr)
      have hBd := hid hBd6
      have hX := hid hX6
      clear hr3 hr4 hX6 hBd6 hsr
      go_loopw [8] (fun i wr => ∃ k : Nat, k ≤ 2 ∧ i = .int .i64 k ∧ Below w6.heap.size w6 wr) (fun i _ => 2 - (intOf i).toNat)
      case atStart => exact ⟨0, by omega, rfl, Below.refl _ _⟩
      case round =>
        obtain ⟨k, hk, rfl, hbr⟩ := hrel
        by_cases h0 : k = 0
        · subst h0
          rw [show ((0 : Nat) : Int) = 0 from rfl]
          have hz1 : z ≤ 18442240474082181120 := by have := Hu.out.1; have := Hz.out; omega
          have q2 := fun W => run_f64from (z + 1) (u + 1) (by have := Hz.out; omega) W
          by_cases hev : fErr (u + 1) = 0 
          · have HF := r4From_ok (u := u + 1) (by have := Hu.out.1; omega) hev
            have HNv := hid (HN.out (u + 1) (.inl rfl) hev)
            clear hev
            go_wp2_with (first
              | (go_at_call 14; refine (HF.out _).mono ?_; rintro e w7 ⟨q7, A5, c5, A6, c6, hq7, hsq7, rfl, hr5, hr6, hb7⟩; have hb7 := Below.new_ (Below.then_ hbr hb7) (.cells #[.bool (rneg q7), .slice A5 (limbs (rnum q7)).length c5, .slice A6 (limbs q7.den).length c6] 28); have hr5 := hr5.alloc (.cells #[.bool (rneg q7), .slice A5 (limbs (rnum q7)).length c5, .slice A6 (limbs q7.den).length c6] 28); have hr6 := hr6.alloc (.cells #[.bool (rneg q7), .slice A5 (limbs (rnum q7)).length c5, .slice A6 (limbs q7.den).length c6] 28); obtain ⟨k0, k1, k2, _⟩ := (hX.out.below hb7).cells)
              | (go_at_call 29; refine (r2Sub_S _ (RArg.norm hr5 hr6 hsq7.1 hsq7.2) (HR.out.below (Below.then_ hbw hb7)) hsq7 hsp).mono ?_; rintro e w8 ⟨r8, A7, c7, A8, c8, hr8, hsr8, rfl, hr7, hr9, hb8⟩; have hb8 := Below.new_ (Below.then_ hb7 hb8) (.cells #[.bool false, .slice A7 (limbs (rnum r8)).length c7, .slice A8 (limbs r8.den).length c8] 28); have hr7 := hr7.alloc (.cells #[.bool false, .slice A7 (limbs (rnum r8)).length c7, .slice A8 (limbs r8.den).length c8] 28); have hr9 := hr9.alloc (.cells #[.bool false, .slice A7 (limbs (rnum r8)).length c7, .slice A8 (limbs r8.den).length c8] 28); clear k0 k1 k2; obtain ⟨k0, k1, k2, _⟩ := (hBd.out.below hb8).cells)
              | (go_at_call 30; refine (r2Cmp_R _ (RArg.abs hr7 hr9 hsr8) (HRD.out.below hb8) (by omega : (253 : Nat) ≤ 262144) (by omega)).mono ?_; rintro e w9 ⟨rfl, hb9⟩; have hcz : ¬ cmpq (absq r8) (absq r) < 0 := by {have hq7 := hq7.out; have hr8 := hr8.out; have hr0 := Hr.out; rw [hr8, hq7, hr0]; have := HNv.out; omega}; generalize cmpq (absq r8) (absq r) = cz at *))
            exact ⟨⟨1, by omega, rfl, Below.then_ hb8 hb9⟩, by simp [intOf]⟩
          · have hE : ((fErr (u + 1) : Int) == 0) = false := beq_eq_false_iff_ne.2 (by omega)
            have HF := r4From_err (u := u + 1) (by have := Hu.out.1; omega) _ rfl
            clear hev
            generalize (fErr (u + 1) : Int) = E at *
            go_wp2_with (first
              | (go_at_call 14; refine (HF.out _).mono ?_; rintro e w7 ⟨q7, A5, c5, A6, c6, hsq7, rfl, hr5, hr6, hb7⟩; have hb7 := Below.new_ (Below.then_ hbr hb7) (.cells #[.bool (rneg q7), .slice A5 (limbs (rnum q7)).length c5, .slice A6 (limbs q7.den).length c6] 28); have hr5 := hr5.alloc (.cells #[.bool (rneg q7), .slice A5 (limbs (rnum q7)).length c5, .slice A6 (limbs q7.den).length c6] 28); have hr6 := hr6.alloc (.cells #[.bool (rneg q7), .slice A5 (limbs (rnum q7)).length c5, .slice A6 (limbs q7.den).length c6] 28); obtain ⟨k0, k1, k2, _⟩ := (hX.out.below hb7).cells)
              | (go_at_call 29; refine (r2Sub_S _ (RArg.norm hr5 hr6 hsq7.1 hsq7.2) (HR.out.below (Below.then_ hbw hb7)) hsq7 hsp).mono ?_; rintro e w8 ⟨r8, A7, c7, A8, c8, hr8, hsr8, rfl, hr7, hr9, hb8⟩; have hb8 := Below.new_ (Below.then_ hb7 hb8) (.cells #[.bool false, .slice A7 (limbs (rnum r8)).length c7, .slice A8 (limbs r8.den).length c8] 28); clear k0 k1 k2; obtain ⟨k0, k1, k2, _⟩ := (hBd.out.below hb8).cells))
            exact ⟨⟨1, by omega, rfl, hb8⟩, by simp [intOf]⟩
        · by_cases h1 : k = 1
          · subst h1
            by_cases hu0 : u = 0
            · have hz1 : z = 0 := by have := Hz.out; omega
              go_wp2_with (go_at_call 21; refine (known4_any _).mono ?_; rintro e w6 ⟨rfl, hb6⟩)
              go_ret
              exact ⟨rfl, (by repeat first | exact Below.refl _ _ | assumption | refine Pg.Below.then_ ?_ (by assumption) | refine Pg.Below.new_ ?_ _ | refine Pg.Below.drewN_ ?_ _)⟩
            · have hz1 : z ≤ 18442240474082181120 := by have := Hu.out.1; have := Hz.out; omega
              have hz2 : 1 ≤ z := by have := Hz.out; omega
              have hz3 : (IntKind.u64.wrap (z * 2) == 0) = false := beq_eq_false_iff_ne.2 (by have h4 := Hu.out.2 hu0; have := Hz.out; rw [IntKind.wrap_u64]; omega)
              have q2 := fun W => run_f64from (z - 1) (u - 1) (by have := Hz.out; omega) W
              by_cases hev : fErr (u - 1) = 0 
              · have HF := r4From_ok (u := u - 1) (by have := Hu.out.1; omega) hev
                have HNv := hid (HN.out (u - 1) (.inr ⟨hu0, rfl⟩) hev)
                clear hev
                go_wp2_with (first
                  | (go_at_call 14; refine (HF.out _).mono ?_; rintro e w7 ⟨q7, A5, c5, A6, c6, hq7, hsq7, rfl, hr5, hr6, hb7⟩; have hb7 := Below.new_ (Below.then_ hbr hb7) (.cells #[.bool (rneg q7), .slice A5 (limbs (rnum q7)).length c5, .slice A6 (limbs q7.den).length c6] 28); have hr5 := hr5.alloc (.cells #[.bool (rneg q7), .slice A5 (limbs (rnum q7)).length c5, .slice A6 (limbs q7.den).length c6] 28); have hr6 := hr6.alloc (.cells #[.bool (rneg q7), .slice A5 (limbs (rnum q7)).length c5, .slice A6 (limbs q7.den).length c6] 28); obtain ⟨k0, k1, k2, _⟩ := (hX.out.below hb7).cells)
                  | (go_at_call 29; refine (r2Sub_S _ (RArg.norm hr5 hr6 hsq7.1 hsq7.2) (HR.out.below (Below.then_ hbw hb7)) hsq7 hsp).mono ?_; rintro e w8 ⟨r8, A7, c7, A8, c8, hr8, hsr8, rfl, hr7, hr9, hb8⟩; have hb8 := Below.new_ (Below.then_ hb7 hb8) (.cells #[.bool false, .slice A7 (limbs (rnum r8)).length c7, .slice A8 (limbs r8.den).length c8] 28); have hr7 := hr7.alloc (.cells #[.bool false, .slice A7 (limbs (rnum r8)).length c7, .slice A8 (limbs r8.den).length c8] 28); have hr9 := hr9.alloc (.cells #[.bool false, .slice A7 (limbs (rnum r8)).length c7, .slice A8 (limbs r8.den).length c8] 28); clear k0 k1 k2; obtain ⟨k0, k1, k2, _⟩ := (hBd.out.below hb8).cells)
                  | (go_at_call 30; refine (r2Cmp_R _ (RArg.abs hr7 hr9 hsr8) (HRD.out.below hb8) (by omega : (253 : Nat) ≤ 262144) (by omega)).mono ?_; rintro e w9 ⟨rfl, hb9⟩; have hcz : ¬ cmpq (absq r8) (absq r) < 0 := by {have hq7 := hq7.out; have hr8 := hr8.out; have hr0 := Hr.out; rw [hr8, hq7, hr0]; have := HNv.out; omega}; generalize cmpq (absq r8) (absq r) = cz at *))
                exact ⟨⟨2, by omega, rfl, Below.then_ hb8 hb9⟩, by simp [intOf]⟩
              · have hE : ((fErr (u - 1) : Int) == 0) = false := beq_eq_false_iff_ne.2 (by omega)
                have HF := r4From_err (u := u - 1) (by have := Hu.out.1; omega) _ rfl
                clear hev
                generalize (fErr (u - 1) : Int) = E at *
                go_wp2_with (first
                  | (go_at_call 14; refine (HF.out _).mono ?_; rintro e w7 ⟨q7, A5, c5, A6, c6, hsq7, rfl, hr5, hr6, hb7⟩; have hb7 := Below.new_ (Below.then_ hbr hb7) (.cells #[.bool (rneg q7), .slice A5 (limbs (rnum q7)).length c5, .slice A6 (limbs q7.den).length c6] 28); have hr5 := hr5.alloc (.cells #[.bool (rneg q7), .slice A5 (limbs (rnum q7)).length c5, .slice A6 (limbs q7.den).length c6] 28); have hr6 := hr6.alloc (.cells #[.bool (rneg q7), .slice A5 (limbs (rnum q7)).length c5, .slice A6 (limbs q7.den).length c6] 28); obtain ⟨k0, k1, k2, _⟩ := (hX.out.below hb7).cells)
                  | (go_at_call 29; refine (r2Sub_S _ (RArg.norm hr5 hr6 hsq7.1 hsq7.2) (HR.out.below (Below.then_ hbw hb7)) hsq7 hsp).mono ?_; rintro e w8 ⟨r8, A7, c7, A8, c8, hr8, hsr8, rfl, hr7, hr9, hb8⟩; have hb8 := Below.new_ (Below.then_ hb7 hb8) (.cells #[.bool false, .slice A7 (limbs (rnum r8)).length c7, .slice A8 (limbs r8.den).length c8] 28); clear k0 k1 k2; obtain ⟨k0, k1, k2, _⟩ := (hBd.out.below hb8).cells))
                exact ⟨⟨2, by omega, rfl, hb8⟩, by simp [intOf]⟩
          · have h2 : k = 2 := by omega
            subst h2
            go_wp2_with (go_at_call 21; refine (known4_any _).mono ?_; rintro e w6 ⟨rfl, hb6⟩)
            go_ret
            exact ⟨rfl, (by repeat first | exact Below.refl _ _ | assumption | refine Pg.Below.then_ ?_ (by assumption) | refine Pg.Below.new_ ?_ _ | refine Pg.Below.drewN_ ?_ _)⟩
    · go_ret
      exact ⟨rfl, (by repeat first | exact Below.refl _ _ | assumption | refine Pg.Below.then_ ?_ (by assumption) | refine Pg.Below.new_ ?_ _ | refine Pg.Below.drewN_ ?_ _)⟩
  · have hkk : (2 : Int) < (fKind u : Int) := by omega
    generalize (fKind u : Int) = kk at *
    clear hnear hk hult
    go_enter Try.func6, Try.ntmps6
    go_wp2_with (first
      | (go_at_call 22; refine HB.out.mono ?_; rintro e w1 ⟨b, rfl, hb16, hb1⟩; rcases b with _ | _; all_goals (have hXc := (HX.out.below hb1).cells; clear k0 k1 k2; obtain ⟨k0, k1, k2, _⟩ := hXc))
      | (go_at_call 27; refine (HT.out _ (by have := hb16 trivial; omega) (by have := hb16 trivial; omega) (by repeat first | exact Below.refl _ _ | assumption | refine Pg.Below.then_ ?_ (by assumption) | refine Pg.Below.new_ ?_ _ | refine Pg.Below.drewN_ ?_ _)).mono ?_; rintro e w2 ⟨rfl, hb2⟩)
      | (go_at_call 12; refine (HSm.out _).mono ?_; rintro e w3 ⟨b, rfl, rfl⟩; rcases b with _ | _)
      | (go_at_call 19; refine (HKd.out _).mono ?_; rintro e w3 ⟨rfl, rfl⟩)
      | (go_at_call 21; refine (known4_any _).mono ?_; rintro e w6 ⟨rfl, hb6⟩))
    all_goals
      go_ret
      exact ⟨rfl, (by repeat first | exact Below.refl _ _ | assumption | refine Pg.Below.then_ ?_ (by assumption) | refine Pg.Below.new_ ?_ _ | refine Pg.Below.drewN_ ?_ _)⟩
end Go.Proofs.Ytgehoflkbckgkaa
