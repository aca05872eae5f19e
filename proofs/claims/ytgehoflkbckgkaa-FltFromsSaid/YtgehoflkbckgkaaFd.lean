/- Walks: pantographlaw4's one, small, known. Conditions: none. -/
import Derived.Test.YtgehoflkbckgkaaFc
namespace Pg
theorem rv_isQ (q : Rat) : rv (rneg q) (val (limbs (rnum q))) (val (limbs q.den)) = q := by rw [val_limbs, val_limbs, rv_self]
theorem fQ_half : rneg (fQ 4602678819172646912) = false ∧ rnum (fQ 4602678819172646912) = 1 ∧ (fQ 4602678819172646912).den = 2 := by
  have e1 : fE 4602678819172646912 = 1022 := by decide
  have e2 : fM 4602678819172646912 = 4503599627370496 := by decide
  have e3 : fNeg 4602678819172646912 = false := by decide
  have e4 : fQ 4602678819172646912 = rv false 4503599627370496 9007199254740992 := by
    unfold fQ
    rw [e1, e2, e3, if_neg (by decide)]
  rw [e4]
  exact ⟨rv_neg (by decide) (by decide), by rw [rv_num _ _ (by decide)]; decide, by rw [rv_den _ _ (by decide)]; decide⟩
theorem limbs_two : limbs 2 = [2] := by
  have := limbs_val (xs := [2]) (ok_cons.2 ⟨by omega, ok_nil⟩) (by simp [Trimmed])
  simpa [val] using this
end Pg
namespace Go.Proofs.Ytgehoflkbckgkaa
open Go.RowKit Pg

theorem fQ_len (u : Nat) : (limbs (rnum (fQ u))).length ≤ 1048576 ∧ (limbs (fQ u).den).length ≤ 1048576 := by
  have hM : fM u < 9007199254740992 := by have := fFrac_lt u; unfold fM; split <;> omega
  have hE : fE u ≤ 2047 := by have := fExp_lt u; unfold fE; split <;> omega
  have key : ∀ (s : Bool) (N D : Nat), D ≠ 0 → (limbs N).length ≤ 1048576 → (limbs D).length ≤ 1048576 → (limbs (rnum (rv s N D))).length ≤ 1048576 ∧ (limbs (rv s N D).den).length ≤ 1048576 := fun s N D hD h1 h2 => by
    rw [rv_num s N hD, rv_den s N hD]
    exact ⟨Nat.le_trans (limbs_mono (Nat.div_le_self _ _)) h1, Nat.le_trans (limbs_mono (Nat.div_le_self _ _)) h2⟩
  have hp : ∀ D, D ≤ 1075 → (limbs (2 ^ D)).length ≤ 1048576 := fun D hD => by have := limbs_shl (M := 1) (by omega) hD; rwa [Nat.one_mul] at this
  unfold fQ
  split
  · exact key _ _ _ (by omega) (limbs_shl hM (by omega)) (limbs_small (N := 1) (k := 1) (by omega) (by omega))
  · exact key _ _ _ (Nat.pos_iff_ne_zero.1 (Nat.two_pow_pos _)) (limbs_small (N := fM u) (k := 2) (by omega) (by omega)) (hp _ (by omega))

theorem r2Same_T (s1 s2 : Bool) (A A' C C' : Option Addr) (n c n' c' m d m' d' : Nat) (xs ys us vs : List Nat) (w : World) (h : Row w A n c xs) (h' : Row w A' n' c' ys) (g : Row w C m d us) (g' : Row w C' m' d' vs) (hb : n ≤ 1048576) (hb' : n' ≤ 1048576) (gb : m ≤ 1048576) (gb' : m' ≤ 1048576)
    (e : rv s1 (val xs) (val ys) = rv s2 (val us) (val vs)) :
    Calls Try.prog 17 #[.agg #[.bool s1, .slice A n c, .slice A' n' c'], .agg #[.bool s2, .slice C m d, .slice C' m' d']] w fun e w' => e = .returned (.bool true) ∧ Below w.heap.size w w' := by
  have := r2Same_any s1 s2 A A' C C' n c n' c' m d m' d' xs ys us vs w h h' g g' hb hb' gb gb'
  rwa [e, show eqQ (rv s2 (val us) (val vs)) (rv s2 (val us) (val vs)) = true by simp [eqQ]] at this

set_option maxHeartbeats 1000000 in
/-- pantographlaw4.one, of two that are one. -/
theorem one_T (s : Bool) (A A' C C' : Option Addr) (n c n' c' m d m' d' : Nat) (xs ys us vs : List Nat) (w : World) (h : Row w A n c xs) (h' : Row w A' n' c' ys) (g : Row w C m d us) (g' : Row w C' m' d' vs) (e1 : xs = us) (e2 : ys = vs) :
    Calls Try.prog 18 #[.agg #[.bool s, .slice A n c, .slice A' n' c'], .agg #[.bool s, .slice C m d, .slice C' m' d']] w fun e w' => e = .returned (.bool true) ∧ Below w.heap.size w w' := by
  have HX := hid ((B3.new w 28 (.bool s) (.slice A n c) (.slice A' n' c')).alloc (.cells #[.bool s, .slice C m d, .slice C' m' d'] 28))
  have HY := hid (B3.new2 w (.cells #[.bool s, .slice A n c, .slice A' n' c'] 28) 28 (.bool s) (.slice C m d) (.slice C' m' d') _ rfl)
  have HL1 := hid fun W (hW : Below w.heap.size w W) => limbs_law4_T _ _ _ _ _ _ _ _ W (h.below hW) (g.below hW) e1
  have HL2 := hid fun W (hW : Below w.heap.size w W) => limbs_law4_T _ _ _ _ _ _ _ _ W (h'.below hW) (g'.below hW) e2
  clear h h' g g' e1 e2
  rcases s with _ | _
  all_goals
    go_enter Try.func18, Try.ntmps18
    go_wp2_with (first
      | (go_at_call 40; ((with_reducible refine (HL1.out _ (by repeat first | exact Below.refl _ _ | assumption | refine Pg.Below.then_ ?_ (by assumption) | refine Pg.Below.new_ ?_ _ | refine Pg.Below.drewN_ ?_ _)).mono ?_); rintro e w1 ⟨rfl, hb1⟩; obtain ⟨k0', k1', k2', _, _, _⟩ := (HX.out.below hb1).cells; obtain ⟨l0', l1', l2', _, _, _⟩ := (HY.out.below hb1).cells))
      | (go_at_call 40; ((with_reducible refine (HL2.out _ (by repeat first | exact Below.refl _ _ | assumption | refine Pg.Below.then_ ?_ (by assumption) | refine Pg.Below.new_ ?_ _ | refine Pg.Below.drewN_ ?_ _)).mono ?_); rintro e w2 ⟨rfl, hb2⟩)))
    go_ret
    exact ⟨rfl, (by repeat first | exact Below.refl _ _ | assumption | refine Pg.Below.then_ ?_ (by assumption) | refine Pg.Below.new_ ?_ _ | refine Pg.Below.drewN_ ?_ _)⟩

/-- Some bool. -/
def SomeB (w : World) (e : Ending) (w' : World) : Prop := ∃ b : Bool, e = .returned (.bool b) ∧ w = w'
set_option maxHeartbeats 400000 in
theorem small4_any (u : Nat) (w : World) (hu : u < 18446744073709551616) :
    Calls Try.prog 12 #[.float .f64 u] w (SomeB w) := by
  have HB := hid (r4Bits_any u w hu)
  have hE := fExp_lt u
  generalize fExp u = E at *
  generalize fFrac u = F at *
  generalize fNeg u = S at *
  go_enter Try.func12, Try.ntmps12
  go_wp2_with (go_at_call 16; refine (HB.out).mono ?_; rintro e w1 ⟨rfl, rfl⟩)
  all_goals
    go_ret
    exact ⟨_, rfl, rfl⟩

set_option maxHeartbeats 1000000 in
theorem known4_any (w : World) : Calls Try.prog 21 #[] w fun e w' => e = .returned (.bool true) ∧ Below w.heap.size w w' := by
  have HF1 : Hid (∀ W, Calls Try.prog 13 #[.float .f64 4602678819172646912] W fun e w' => ∃ A c A' c', e = .returned (.tuple #[.agg #[.bool false, .slice A (limbs 1).length c, .slice A' (limbs 2).length c'], .int .i64 0]) ∧ Row w' A (limbs 1).length c (limbs 1) ∧ Row w' A' (limbs 2).length c' (limbs 2) ∧ Below W.heap.size W w') := hid fun W => by
    refine (From_any 4602678819172646912 W (by decide)).mono ?_
    rintro e w' ⟨v, rfl, hv, hb⟩
    have e0 : fErr 4602678819172646912 = 0 := by decide
    rw [if_pos e0] at hv
    obtain ⟨A, c, A', c', rfl, h1, h2⟩ := hv
    obtain ⟨q1, q2, q3⟩ := fQ_half
    rw [q2] at h1
    rw [q3] at h2
    rw [e0, q1, q2, q3]
    exact ⟨A, c, A', c', rfl, h1, h2, hb⟩
  have HF2 : Hid (∀ W, Calls Try.prog 13 #[.float .f64 9221120237041090561] W fun e w' => e = .returned (.tuple #[.agg #[.bool false, .slice none 0 0, .slice none 0 0], .int .i64 16]) ∧ Below W.heap.size W w') := hid fun W => by
    refine (From_any 9221120237041090561 W (by decide)).mono ?_
    rintro e w' ⟨v, rfl, hv, hb⟩
    have e0 : fErr 9221120237041090561 = 16 := by decide
    rw [e0, if_neg (by decide)] at hv
    subst hv
    rw [e0]
    exact ⟨rfl, hb⟩
  have HK : Hid (∀ W, Calls Try.prog 19 #[.float .f64 9223372036854775808] W fun e w' => e = .returned (.int .i64 2) ∧ W = w') := hid fun W => by
    have := fltKind_any 9223372036854775808 W (by decide)
    rwa [show fKind 9223372036854775808 = 2 by decide] at this
  have q1 := fun W => run_f64from 9221120237041090561 9221120237041090561 rfl W
  have q2 := fun W => run_f64from 9223372036854775808 9223372036854775808 rfl W
  go_enter Try.func21, Try.ntmps21
  go_wp2_with (first
    | (go_at_call 13; ((with_reducible refine (HF1.out _).mono ?_); rintro e w1 ⟨A1, c1, A2, c2, rfl, hr1, hr2, hb1⟩))
    | (go_at_call 13; ((with_reducible refine (HF2.out _).mono ?_); rintro e w2 ⟨rfl, hb2⟩; have hBa := (B3.new w1 28 (.bool false) (.slice A1 (limbs 1).length c1) (.slice A2 (limbs 2).length c2)).below hb2; obtain ⟨k0, k1, k2, _, _, _⟩ := hBa.cells; have hlt := hBa.lt))
    | (go_at_call 19; ((with_reducible refine (HK.out _).mono ?_); rintro e w2 ⟨rfl, rfl⟩))
    | (go_at_call 18; refine (one_T false _ _ _ _ _ _ _ _ _ _ _ _ (limbs 1) (limbs 2) [1] [2] _ (by repeat first | assumption | exact Pg.Row.one _ _ _ _ _ (by simp) (by first | rfl | omega) (by omega) | apply Pg.Row.drew | apply Pg.Row.below (hb := by assumption) | apply Pg.Row.alloc) (by repeat first | assumption | exact Pg.Row.one _ _ _ _ _ (by simp) (by first | rfl | omega) (by omega) | apply Pg.Row.drew | apply Pg.Row.below (hb := by assumption) | apply Pg.Row.alloc) (by repeat first | assumption | exact Pg.Row.one _ _ _ _ _ (by simp) (by first | rfl | omega) (by omega) | apply Pg.Row.drew | apply Pg.Row.below (hb := by assumption) | apply Pg.Row.alloc) (by repeat first | assumption | exact Pg.Row.one _ _ _ _ _ (by simp) (by first | rfl | omega) (by omega) | apply Pg.Row.drew | apply Pg.Row.below (hb := by assumption) | apply Pg.Row.alloc) limbs_one limbs_two).mono ?_; rintro e w3 ⟨rfl, hb3⟩))
  go_ret
  exact ⟨rfl, (by repeat first | exact Below.refl _ _ | assumption | refine Pg.Below.then_ ?_ (by assumption) | refine Pg.Below.new_ ?_ _ | refine Pg.Below.drewN_ ?_ _)⟩
end Go.Proofs.Ytgehoflkbckgkaa
