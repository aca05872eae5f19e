/- Walks: pantographref2.Of, Same. Conditions: rows of at most 2^20 limbs. -/
import Derived.Test.YtgehoflkbckgkaaRb
import Derived.Test.YtgehoflkbckgkaaLimbs
import Derived.Test.YtgehoflkbckgkaaPair
namespace Go.Proofs.Ytgehoflkbckgkaa
open Go.RowKit Pg

set_option maxHeartbeats 1000000 in
/-- pantographref2.Of. -/
theorem r2Of_any (neg : Bool) (A A' : Option Addr) (n c n' c' : Nat) (xs ys : List Nat) (w : World) (h : Row w A n c xs) (h' : Row w A' n' c' ys) (hb : n ≤ 1048576) (hb' : n' ≤ 1048576) :
    Calls Try.prog 24 #[.bool neg, .slice A n c, .slice A' n' c'] w (RatRet w (rv neg (val xs) (val ys))) := by
  have HB := hid (B3.new w 28 (.bool false) (.slice none 0 0) (.slice none 0 0))
  have hO := fun W (hW : Below w.heap.size w W) => r2Norm_any neg A A' n c n' c' xs ys W (h.below hW) (h'.below hW) hb hb'
  generalize rv neg (val xs) (val ys) = q at *
  have HO := hid hO
  clear hO
  go_enter Try.func24, Try.ntmps24
  go_wp2_with (go_at_call 38; refine (HO.out _ (by repeat first | exact Below.refl _ _ | assumption | refine Pg.Below.then_ ?_ (by assumption) | refine Pg.Below.new_ ?_ _ | refine Pg.Below.drewN_ ?_ _)).mono ?_; rintro e w1 ⟨A1, c1, A2, c2, rfl, hr1, hr2, hb1⟩; have hBr := HB.out.below hb1; obtain ⟨k0, k1, k2, f0, f1, f2⟩ := hBr.cells)
  refine bodyPost_ret (by have q0 := fun u0 u1 u2 => (hBr.set u0 u1 u2).cells.1; have q1 := fun u0 u1 u2 => (hBr.set u0 u1 u2).cells.2.1; have q2 := fun u0 u1 u2 => (hBr.set u0 u1 u2).cells.2.2.1; simp [results, Try.results24, go_sem, q0, q1, q2]) rfl (RatRet.put hBr (Nat.le_refl _) (by repeat first | exact Below.refl _ _ | assumption | refine Pg.Below.then_ ?_ (by assumption) | refine Pg.Below.new_ ?_ _ | refine Pg.Below.drewN_ ?_ _) rfl rfl rfl hr1 hr2 rfl rfl)

/-- Two rationals, are they one? -/
def eqQ (p q : Rat) : Bool := decide (p = q)
theorem eqQ_parts (p q : Rat) : eqQ p q = ((rneg p == rneg q) && eqB (limbs (rnum p)) (limbs (rnum q)) && eqB (limbs p.den) (limbs q.den)) := by
  rw [Bool.eq_iff_iff]
  simp only [eqQ, eqB, decide_eq_true_eq, Bool.and_eq_true, beq_iff_eq]
  constructor
  · rintro rfl; exact ⟨⟨rfl, rfl⟩, rfl⟩
  · rintro ⟨⟨h1, h2⟩, h3⟩; exact rv_eq h1 (limbs_inj h2) (limbs_inj h3)

theorem Hld.b3 {w : World} {g : Nat} {v0 v1 v2 : Value} (h : Hld w g (.agg #[v0, v1, v2])) : B3 w g 28 v0 v1 v2 := by
  obtain ⟨u0, u1, u2, e, h⟩ := h
  injection e with e
  simp only [Array.mk.injEq, List.cons.injEq, and_true] at e
  obtain ⟨rfl, rfl, rfl⟩ := e
  exact h

set_option maxHeartbeats 4000000 in
/-- pantographref2.Same. -/
theorem r2Same_any (s1 s2 : Bool) (A A' C C' : Option Addr) (n c n' c' m d m' d' : Nat) (xs ys us vs : List Nat) (w : World) (h : Row w A n c xs) (h' : Row w A' n' c' ys) (g : Row w C m d us) (g' : Row w C' m' d' vs) (hb : n ≤ 1048576) (hb' : n' ≤ 1048576) (gb : m ≤ 1048576) (gb' : m' ≤ 1048576) :
    Calls Try.prog 17 #[.agg #[.bool s1, .slice A n c, .slice A' n' c'], .agg #[.bool s2, .slice C m d, .slice C' m' d']] w fun e w' => e = .returned (.bool (eqQ (rv s1 (val xs) (val ys)) (rv s2 (val us) (val vs)))) ∧ Below w.heap.size w w' := by
  have HP := hid fun W (hW : Below w.heap.size w W) => r2Norm_any s1 A A' n c n' c' xs ys W (h.below hW) (h'.below hW) hb hb'
  have HQ := hid fun W (hW : Below w.heap.size w W) => r2Norm_any s2 C C' m d m' d' us vs W (g.below hW) (g'.below hW) gb gb'
  generalize rv s1 (val xs) (val ys) = p at *
  generalize rv s2 (val us) (val vs) = q at *
  clear h h' g g'
  have HX := hid ((B3.new w 28 (.bool s1) (.slice A n c) (.slice A' n' c')).alloc (.cells #[.bool s2, .slice C m d, .slice C' m' d'] 28))
  have HY := hid (B3.new2 w (.cells #[.bool s1, .slice A n c, .slice A' n' c'] 28) 28 (.bool s2) (.slice C m d) (.slice C' m' d') _ rfl)
  obtain ⟨w0, hw0⟩ : ∃ w0, w0 = (w.alloc (.cells #[.bool s1, .slice A n c, .slice A' n' c'] 28)).alloc (.cells #[.bool s2, .slice C m d, .slice C' m' d'] 28) := ⟨_, rfl⟩
  go_enter Try.func17, Try.ntmps17
  go_upto_region 1 with fail
  have hb0 : Below w.heap.size w w0 := by rw [hw0]; exact Below.new_ (Below.new_ (Below.refl _ _) _) _
  rw [← hw0] at HX HY ⊢
  clear hw0
  refine pair_region 38 38 2 3 7 8 9 10 5 6 w.heap.size (w.heap.size + 1) _ _ _ _ _ _ p q rfl (by decide) (by kernel_rfl) (by kernel_rfl) (by kernel_rfl) (by kernel_rfl) (by kernel_rfl) (by kernel_rfl) (by kernel_rfl) (by kernel_rfl) rfl rfl HX.out HY.out (fun _ _ => by kernel_rfl) (fun _ _ => by kernel_rfl) (fun W hW => HP.out W (Below.then_ hb0 hW)) (fun W hW => HQ.out W (Below.then_ hb0 hW)) ?_
  rintro v1 v3 g1 g2 wc ⟨A1, c1, A2, c2, rfl, hr1, hr2⟩ ⟨A3, c3, A4, c4, rfl, hr3, hr4⟩ hH1 hH2 _ _ _ hbc
  have hbw := Below.then_ hb0 hbc
  have HE := hid (eqQ_parts p q)
  have HB1 := hH1.b3
  have HB2 := hH2.b3
  clear HX HY HP HQ hb0 hbc hH1 hH2
  obtain ⟨b1, hb1⟩ : ∃ b, rneg p = b := ⟨_, rfl⟩
  obtain ⟨b2, hb2⟩ : ∃ b, rneg q = b := ⟨_, rfl⟩
  rw [hb1] at HB1 HE
  rw [hb2] at HB2 HE
  rw [hb1, hb2]
  clear hb1 hb2
  have hL1 : ∀ W, Below wc.heap.size wc W → Calls Try.prog 39 #[.slice A1 (limbs (rnum p)).length c1, .slice A3 (limbs (rnum q)).length c3] W fun e w' => e = .returned (.bool (eqB (limbs (rnum p)) (limbs (rnum q)))) ∧ Below W.heap.size W w' := fun W hW => limbs_ref2 _ _ _ _ _ _ _ _ W (hr1.below hW) (hr3.below hW)
  have hL2 : ∀ W, Below wc.heap.size wc W → Calls Try.prog 39 #[.slice A2 (limbs p.den).length c2, .slice A4 (limbs q.den).length c4] W fun e w' => e = .returned (.bool (eqB (limbs p.den) (limbs q.den))) ∧ Below W.heap.size W w' := fun W hW => limbs_ref2 _ _ _ _ _ _ _ _ W (hr2.below hW) (hr4.below hW)
  generalize eqB (limbs (rnum p)) (limbs (rnum q)) = E1 at *
  generalize eqB (limbs p.den) (limbs q.den) = E2 at *
  obtain ⟨k0, k1, k2, _, _, _⟩ := HB1.cells
  obtain ⟨l0, l1, l2, _, _, _⟩ := HB2.cells
  have HL1 := hid hL1
  have HL2 := hid hL2
  clear hL1 hL2
  have HB1 := hid HB1
  have HB2 := hid HB2
  rcases b1 with _ | _ <;> rcases b2 with _ | _ <;> rcases E1 with _ | _ <;> rcases E2 with _ | _
  all_goals
    go_wp2_with (first
      | (go_at_call 39; ((with_reducible refine (HL1.out _ (Below.refl _ _)).mono ?_); rintro e w1 ⟨rfl, hb1⟩; obtain ⟨k0', k1', k2', _, _, _⟩ := (HB1.out.below hb1).cells; obtain ⟨l0', l1', l2', _, _, _⟩ := (HB2.out.below hb1).cells))
      | (go_at_call 39; ((with_reducible refine (HL2.out _ hb1).mono ?_); rintro e w2 ⟨rfl, hb2⟩)))
    go_ret
    exact ⟨by rw [HE.out]; rfl, (by repeat first | exact Below.refl _ _ | assumption | refine Pg.Below.then_ ?_ (by assumption) | refine Pg.Below.new_ ?_ _ | refine Pg.Below.drewN_ ?_ _)⟩
end Go.Proofs.Ytgehoflkbckgkaa
