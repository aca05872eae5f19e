/- Walks: pantographref2.Norm, Of. Conditions: rows of at most 2^20 limbs. -/
import Derived.Test.YtgehoflkbckgkaaRa
import Derived.Test.YtgehoflkbckgkaaWz
namespace Go.Proofs.Ytgehoflkbckgkaa
open Go.RowKit Pg

theorem rDivMod_E (A A' : Option Addr) (n c n' c' : Nat) (xs ys : List Nat) (w : World) (a b N M : Nat) (B : Bool) (h : Row w A n c xs) (h' : Row w A' n' c' ys) (ea : val xs = a) (eb : val ys = b) (hb : n ≤ 1048576) (hb' : n' ≤ 1048576)
    (eN : a / b = N) (eM : dmr a b = M) (eB : dmb b = B) : Calls Try.prog 63 #[.slice A n c, .slice A' n' c'] w (Ret3 w N M B) := by
  subst ea eb eN eM eB; exact rDivMod_any A A' n c n' c' xs ys w h h' hb hb'
theorem rGcd_E (A A' : Option Addr) (n c n' c' : Nat) (xs ys : List Nat) (w : World) (a b G : Nat) (h : Row w A n c xs) (h' : Row w A' n' c' ys) (ea : val xs = a) (eb : val ys = b) (hb : n ≤ 1048576) (hb' : n' ≤ 1048576)
    (eG : Nat.gcd a b = G) : Calls Try.prog 62 #[.slice A n c, .slice A' n' c'] w (Ret w G) := by
  subst ea eb eG; exact rGcd_any A A' n c n' c' xs ys w h h' hb hb'
theorem B3.drew {w : World} {g : Nat} {t : TypeId} {v0 v1 v2 : Value} (h : B3 w g t v0 v1 v2) : B3 w.drew g t v0 v1 v2 := h

set_option maxHeartbeats 2000000 in
/-- pantographref2.Norm. -/
theorem r2Norm_any (neg : Bool) (A A' : Option Addr) (n c n' c' : Nat) (xs ys : List Nat) (w : World) (h : Row w A n c xs) (h' : Row w A' n' c' ys) (hb : n ≤ 1048576) (hb' : n' ≤ 1048576) :
    Calls Try.prog 38 #[.agg #[.bool neg, .slice A n c, .slice A' n' c']] w (RatRet w (rv neg (val xs) (val ys))) := by
  have l1 : (limbs (val xs)).length ≤ 1048576 := by have := tl_le h.ok; rw [h.len] at this; unfold tl at this; omega
  have l2 : (limbs (val ys)).length ≤ 1048576 := by have := tl_le h'.ok; rw [h'.len] at this; unfold tl at this; omega
  have hT : Hid (∀ W, Below w.heap.size w W → Calls Try.prog 60 #[.slice A n c] W (Ret W (val xs))) := hid fun W hW => rTrim_any A n c xs W (h.below hW) (by omega)
  have hT' : Hid (∀ W, Below w.heap.size w W → Calls Try.prog 60 #[.slice A' n' c'] W (Ret W (val ys))) := hid fun W hW => rTrim_any A' n' c' ys W (h'.below hW) (by omega)
  clear h h'
  generalize val xs = N at *
  generalize val ys = D at *
  obtain ⟨q, hq⟩ : ∃ q, q = rv neg N D := ⟨_, rfl⟩
  rw [← hq]
  have HQ := hid hq
  clear hq
  have HB := hid (B3.new2 w (.cells #[.bool neg, .slice A n c, .slice A' n' c'] 28) 28 (.bool false) (.slice none 0 0) (.slice none 0 0) _ rfl)
  have HX := hid ((B3.new w 28 (.bool neg) (.slice A n c) (.slice A' n' c')).alloc (.cells #[.bool false, .slice none 0 0, .slice none 0 0] 28))
  obtain ⟨w0, hw0⟩ : ∃ w0, w0 = (w.alloc (.cells #[.bool neg, .slice A n c, .slice A' n' c'] 28)).alloc (.cells #[.bool false, .slice none 0 0, .slice none 0 0] 28) := ⟨_, rfl⟩
  go_enter Try.func38, Try.ntmps38
  go_upto_region 1 with fail
  have hb0 : Below w.heap.size w w0 := by rw [hw0]; exact Below.new_ (Below.new_ (Below.refl _ _) _) _
  rw [← hw0] at HB HX ⊢
  clear hw0
  go_cut [3, 4] (fun s3 s4 wc => ∃ A1 c1 A2 c2, s3 = .slice A1 (limbs N).length c1 ∧ s4 = .slice A2 (limbs D).length c2 ∧ Row wc A1 (limbs N).length c1 (limbs N) ∧ Row wc A2 (limbs D).length c2 (limbs D) ∧ Below w0.heap.size w0 wc)
  case first =>
    obtain ⟨k0, k1, k2, f0, f1, f2⟩ := HX.out.drew.cells
    go_region_law (first
      | (go_simp; go_at_call 60; ((with_reducible refine (hT.out _ (by repeat first | exact Below.refl _ _ | assumption | refine Pg.Below.then_ ?_ (by assumption) | refine Pg.Below.new_ ?_ _ | refine Go.RowKit.Below.drew ?_ | refine Pg.Below.drewN_ ?_ _)).mono ?_); rintro e w1 ⟨A1, c1, rfl, hr1, hb1⟩; obtain ⟨j0, j1, j2, _, _, _⟩ := (HX.out.drew.below hb1).cells))
      | (go_simp; go_at_call 60; ((with_reducible refine (hT'.out _ (by repeat first | exact Below.refl _ _ | assumption | refine Pg.Below.then_ ?_ (by assumption) | refine Pg.Below.new_ ?_ _ | refine Go.RowKit.Below.drew ?_ | refine Pg.Below.drewN_ ?_ _)).mono ?_); rintro e w2 ⟨A2, c2, rfl, hr2, hb2⟩)))
    all_goals
      go_wp2_with fail
      go_meet
      exact ⟨A1, c1, A2, c2, rfl, rfl, hr1.below hb2, hr2, Below.trans (Below.refl _ _).drew (Below.then_ hb1 hb2)⟩
  case rest =>
    obtain ⟨A1, c1, A2, c2, rfl, rfl, hr1, hr2, hbc⟩ := hcut
    have HBc := hid (HB.out.below hbc)
    have HXc := hid (HX.out.below hbc)
    have hbw := Below.then_ hb0 hbc
    clear HB HX hbc hb0 hT hT'
    by_cases hz : N = 0 ∨ D = 0
    · have HQ0 : Hid (q = 0) := hid (by rw [HQ.out, rv_zero hz])
      have hz2 : D = 0 ∨ (D ≠ 0 ∧ N = 0) := by omega
      obtain ⟨k0, k1, k2, f0, f1, f2⟩ := (HBc.out.alloc (.cells #[.int .u32 1] 50)).cells
      have hBr := HBc.out.alloc (.cells #[.int .u32 1] 50)
      have hBR := hid hBr
      clear hz hBr
      have e0 : (limbs 0).length = 0 := rfl
      rcases hz2 with rfl | ⟨hn, rfl⟩
      · go_wp2_with fail
        have hBr := hBR.out
        refine bodyPost_ret (by have q0 := fun u0 u1 u2 => (hBr.set u0 u1 u2).cells.1; have q1 := fun u0 u1 u2 => (hBr.set u0 u1 u2).cells.2.1; have q2 := fun u0 u1 u2 => (hBr.set u0 u1 u2).cells.2.2.1; simp [results, Try.results38, go_sem, q0, q1, q2]) rfl (RatRet.put hBr (by omega) (by repeat first | exact Below.refl _ _ | assumption | refine Pg.Below.then_ ?_ (by assumption) | refine Pg.Below.new_ ?_ _ | refine Go.RowKit.Below.drew ?_ | refine Pg.Below.drewN_ ?_ _) (by rw [HQ0.out]; first | done | rfl) (by rw [HQ0.out]; first | done | rfl) (by rw [HQ0.out]; first | done | rfl) (Row.nil _) (Row.one _ _ _ 1 _ rfl rfl (by omega)) rfl limbs_one.symm)
      · have l0 : (((limbs D).length : Int) == 0) = false := by have := (tl_top hn).1; exact beq_eq_false_iff_ne.2 (by omega)
        clear hn
        go_wp2_with fail
        have hBr := hBR.out
        refine bodyPost_ret (by have q0 := fun u0 u1 u2 => (hBr.set u0 u1 u2).cells.1; have q1 := fun u0 u1 u2 => (hBr.set u0 u1 u2).cells.2.1; have q2 := fun u0 u1 u2 => (hBr.set u0 u1 u2).cells.2.2.1; simp [results, Try.results38, go_sem, q0, q1, q2]) rfl (RatRet.put hBr (by omega) (by repeat first | exact Below.refl _ _ | assumption | refine Pg.Below.then_ ?_ (by assumption) | refine Pg.Below.new_ ?_ _ | refine Go.RowKit.Below.drew ?_ | refine Pg.Below.drewN_ ?_ _) (by rw [HQ0.out]; first | done | rfl) (by rw [HQ0.out]; first | done | rfl) (by rw [HQ0.out]; first | done | rfl) (Row.nil _) (Row.one _ _ _ 1 _ rfl rfl (by omega)) rfl limbs_one.symm)
    · have hn : N ≠ 0 := by omega
      have hd : D ≠ 0 := by omega
      have l0 : (((limbs N).length : Int) == 0) = false := by have := (tl_top hn).1; exact beq_eq_false_iff_ne.2 (by omega)
      have l0' : (((limbs D).length : Int) == 0) = false := by have := (tl_top hd).1; exact beq_eq_false_iff_ne.2 (by omega)
      have hq1 : neg = rneg q := by rw [HQ.out, rv_neg hn hd]
      have hq2 : N / Nat.gcd N D = rnum q := by rw [HQ.out, rv_num neg N hd]
      have hq3 : D / Nat.gcd N D = q.den := by rw [HQ.out, rv_den neg N hd]
      have hgp : 0 < Nat.gcd N D := Nat.gcd_pos_of_pos_left _ (by omega)
      have hgl := Nat.le_trans (limbs_mono (Nat.gcd_le_left D (by omega : 0 < N))) l1
      obtain ⟨G, hG⟩ : ∃ G, Nat.gcd N D = G := ⟨_, rfl⟩
      rw [hG] at hq2 hq3 hgp hgl
      have HQ2 := hid (And.intro hq1 (And.intro hq2 hq3))
      have HG := hid hG
      have E3 : Hid (dmb G = true) := hid (by simp [dmb]; omega)
      clear hq1 hq2 hq3 hG hz hn hd hgp
      go_wp2_with (first
        | (go_at_call 62; ((with_reducible refine (rGcd_E A1 A2 _ c1 _ c2 _ _ _ N D G hr1 hr2 (val_limbs _) (val_limbs _) (by first | omega | assumption) (by first | omega | assumption) HG.out).mono ?_)); rintro e w3 ⟨A3, c3, rfl, hr3, hb3⟩)
        | (go_at_call 63; ((with_reducible refine (rDivMod_E A1 A3 _ c1 _ c3 _ _ _ N G (rnum q) _ true (hr1.below hb3) hr3 (val_limbs _) (val_limbs _) (by first | omega | assumption) (by first | omega | assumption) HQ2.out.2.1 rfl E3.out).mono ?_)); rintro e w4 ⟨A4, c4, A5, c5, rfl, hr4, hr5, hb4⟩)
        | (go_at_call 63; ((with_reducible refine (rDivMod_E A2 A3 _ c2 _ c3 _ _ _ D G q.den _ true ((hr2.below hb3).below hb4) (hr3.below hb4) (val_limbs _) (val_limbs _) (by first | omega | assumption) (by first | omega | assumption) HQ2.out.2.2 rfl E3.out).mono ?_)); rintro e w5 ⟨A6, c6, A7, c7, rfl, hr6, hr7, hb5⟩; have hBr := ((HBc.out.below hb3).below hb4).below hb5; obtain ⟨k0, k1, k2, f0, f1, f2⟩ := hBr.cells; obtain ⟨j0, j1, j2, i0, i1, i2⟩ := (((HXc.out.below hb3).below hb4).below hb5).cells))
      refine bodyPost_ret (by have q0 := fun u0 u1 u2 => (hBr.set u0 u1 u2).cells.1; have q1 := fun u0 u1 u2 => (hBr.set u0 u1 u2).cells.2.1; have q2 := fun u0 u1 u2 => (hBr.set u0 u1 u2).cells.2.2.1; simp [results, Try.results38, go_sem, q0, q1, q2]) rfl (RatRet.put hBr (by omega) (by repeat first | exact Below.refl _ _ | assumption | refine Pg.Below.then_ ?_ (by assumption) | refine Pg.Below.new_ ?_ _ | refine Go.RowKit.Below.drew ?_ | refine Pg.Below.drewN_ ?_ _) HQ2.out.1 rfl rfl (hr4.below hb5) hr6 rfl rfl)
end Go.Proofs.Ytgehoflkbckgkaa
