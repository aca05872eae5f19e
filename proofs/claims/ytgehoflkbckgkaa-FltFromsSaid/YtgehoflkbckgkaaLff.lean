/- Walk: the law FltFroms. Conditions: none. -/
import Derived.Test.YtgehoflkbckgkaaFd
namespace Go.Proofs.Ytgehoflkbckgkaa
open Go.RowKit Pg

set_option maxHeartbeats 2000000 in
theorem law_FltFroms (z : Int) (w : World) (hz0 : 0 ≤ z) (hz1 : z ≤ 18446744073709551615) :
    Calls Try.prog 3 #[.int .u64 z] w fun e w' => e = .returned (.bool true) ∧ Below w.heap.size w w' := by
  obtain ⟨u, rfl⟩ : ∃ u : Nat, z = (u : Int) := ⟨z.toNat, by omega⟩
  have hu : u < 18446744073709551616 := by omega
  have q0 := fun W => run_f64from (u : Int) u rfl W
  have HS := hid fun W => small4_any u W hu
  have HF := fun W => From_any u W hu
  have HG := fun W => r4From_any u W hu
  have HB1 := hid fun W => fltBits_any u W hu
  have HB2 := hid fun W => r4Bits_any u W hu
  have HK1 := hid fun W => fltKind_any u W hu
  have HK2 := hid fun W => r4Kind_any u W hu
  generalize fExp u = E at *
  generalize fFrac u = F at *
  generalize fNeg u = S at *
  generalize fKind u = K at *
  by_cases h0 : fErr u = 0
  · have HF1 : Hid (∀ W, Calls Try.prog 13 #[.float .f64 u] W fun e w' => ∃ A c A' c', e = .returned (.tuple #[.agg #[.bool (rneg (fQ u)), .slice A (limbs (rnum (fQ u))).length c, .slice A' (limbs (fQ u).den).length c'], .int .i64 0]) ∧ Row w' A (limbs (rnum (fQ u))).length c (limbs (rnum (fQ u))) ∧ Row w' A' (limbs (fQ u).den).length c' (limbs (fQ u).den) ∧ Below W.heap.size W w') := hid fun W => by
      refine (HF W).mono ?_
      rintro e w' ⟨v, rfl, hv, hb⟩
      rw [if_pos h0] at hv
      obtain ⟨A, c, A', c', rfl, h1, h2⟩ := hv
      rw [h0]
      exact ⟨A, c, A', c', rfl, h1, h2, hb⟩
    have HG1 : Hid (∀ W, Calls Try.prog 14 #[.float .f64 u] W fun e w' => ∃ A c A' c', e = .returned (.tuple #[.agg #[.bool (rneg (fQ u)), .slice A (limbs (rnum (fQ u))).length c, .slice A' (limbs (fQ u).den).length c'], .int .i64 0]) ∧ Row w' A (limbs (rnum (fQ u))).length c (limbs (rnum (fQ u))) ∧ Row w' A' (limbs (fQ u).den).length c' (limbs (fQ u).den) ∧ Below W.heap.size W w') := hid fun W => by
      refine (HG W).mono ?_
      rintro e w' ⟨v, rfl, hv, hb⟩
      rw [if_pos h0] at hv
      obtain ⟨A, c, A', c', rfl, h1, h2⟩ := hv
      rw [h0]
      exact ⟨A, c, A', c', rfl, h1, h2, hb⟩
    obtain ⟨l1, l2⟩ := fQ_len u
    clear HF HG h0
    generalize fQ u = q at *
    go_enter Try.func3, Try.ntmps3
    go_wp2_with (go_at_call 12; refine (HS.out _).mono ?_; rintro e w1 ⟨b, rfl, rfl⟩; rcases b with _ | _)
    · go_ret
      exact ⟨rfl, Below.refl _ _⟩
    · go_wp2_with (first
        | (go_at_call 13; refine (HF1.out _).mono ?_; rintro e w1 ⟨A1, c1, A2, c2, rfl, hr1, hr2, hb1⟩)
        | (go_at_call 14; refine (HG1.out _).mono ?_; rintro e w2 ⟨A3, c3, A4, c4, rfl, hr3, hr4, hb2⟩; have hBa := (B3.new w1 28 (.bool (rneg q)) (.slice A1 (limbs (rnum q)).length c1) (.slice A2 (limbs q.den).length c2)).below hb2; have HBa := hid hBa; obtain ⟨k0, k1, k2, _, _, _⟩ := hBa.cells; have hlt := hBa.lt; clear hBa)
        | (go_at_call 15; refine (HB1.out _).mono ?_; rintro e w3 ⟨rfl, rfl⟩)
        | (go_at_call 16; refine (HB2.out _).mono ?_; rintro e w3 ⟨rfl, rfl⟩)
        | (go_at_call 19; refine (HK1.out _).mono ?_; rintro e w3 ⟨rfl, rfl⟩)
        | (go_at_call 20; refine (HK2.out _).mono ?_; rintro e w3 ⟨rfl, rfl⟩)
        | (go_at_call 17; refine (r2Same_T _ _ _ _ _ _ _ _ _ _ _ _ _ _ _ _ _ _ _ (by repeat first | assumption | apply Pg.Row.below (hb := by assumption) | apply Pg.Row.alloc | apply Pg.Row.drewN) (by repeat first | assumption | apply Pg.Row.below (hb := by assumption) | apply Pg.Row.alloc | apply Pg.Row.drewN) (by repeat first | assumption | apply Pg.Row.below (hb := by assumption) | apply Pg.Row.alloc | apply Pg.Row.drewN) (by repeat first | assumption | apply Pg.Row.below (hb := by assumption) | apply Pg.Row.alloc | apply Pg.Row.drewN) (by first | omega | assumption) (by first | omega | assumption) (by first | omega | assumption) (by first | omega | assumption) rfl).mono ?_; rintro e w4 ⟨rfl, hb4⟩; obtain ⟨k0', k1', k2', _, _, _⟩ := ((HBa.out.alloc _).below hb4).cells; obtain ⟨l0', l1', l2', _, _, _⟩ := ((B3.new w2 28 (.bool (rneg q)) (.slice A3 (limbs (rnum q)).length c3) (.slice A4 (limbs q.den).length c4)).below hb4).cells)
        | (go_at_call 18; refine (one_T _ _ _ _ _ _ _ _ _ _ _ _ _ _ _ _ _ _ (by repeat first | assumption | apply Pg.Row.below (hb := by assumption) | apply Pg.Row.alloc | apply Pg.Row.drewN) (by repeat first | assumption | apply Pg.Row.below (hb := by assumption) | apply Pg.Row.alloc | apply Pg.Row.drewN) (by repeat first | assumption | apply Pg.Row.below (hb := by assumption) | apply Pg.Row.alloc | apply Pg.Row.drewN) (by repeat first | assumption | apply Pg.Row.below (hb := by assumption) | apply Pg.Row.alloc | apply Pg.Row.drewN) rfl rfl).mono ?_; rintro e w5 ⟨rfl, hb5⟩)
        | (go_at_call 21; refine (known4_any _).mono ?_; rintro e w6 ⟨rfl, hb6⟩))
      go_ret
      exact ⟨rfl, (by repeat first | exact Below.refl _ _ | assumption | refine Pg.Below.then_ ?_ (by assumption) | refine Pg.Below.new_ ?_ _ | refine Pg.Below.drewN_ ?_ _)⟩
  · have hne : (fErr u : Int) ≠ 0 := by omega
    have hb0 : ((fErr u : Int) != 0) = true := by simp; omega
    have HF1 : Hid (∀ W, Calls Try.prog 13 #[.float .f64 u] W fun e w' => e = .returned (.tuple #[.agg #[.bool false, .slice none 0 0, .slice none 0 0], .int .i64 (fErr u : Int)]) ∧ Below W.heap.size W w') := hid fun W => by
      refine (HF W).mono ?_
      rintro e w' ⟨v, rfl, hv, hb⟩
      rw [if_neg h0] at hv
      subst hv
      exact ⟨rfl, hb⟩
    have HG1 : Hid (∀ W, Calls Try.prog 14 #[.float .f64 u] W fun e w' => ∃ A c A' c', e = .returned (.tuple #[.agg #[.bool false, .slice A (limbs 0).length c, .slice A' (limbs 1).length c'], .int .i64 (fErr u : Int)]) ∧ Row w' A (limbs 0).length c (limbs 0) ∧ Row w' A' (limbs 1).length c' (limbs 1) ∧ Below W.heap.size W w') := hid fun W => by
      refine (HG W).mono ?_
      rintro e w' ⟨v, rfl, hv, hb⟩
      rw [if_neg h0] at hv
      obtain ⟨A, c, A', c', rfl, h1, h2⟩ := hv
      exact ⟨A, c, A', c', rfl, h1, h2, hb⟩
    have lone : (limbs 1).length ≤ 1048576 := limbs_small (N := 1) (k := 1) (by omega) (by omega)
    have lz : (limbs 0).length ≤ 1048576 := by rw [limbs_zero]; simp
    have hz : rv false (val []) (val []) = rv false (val (limbs 0)) (val (limbs 1)) := (rv_zero (.inl rfl)).trans (rv_zero (.inl (val_limbs 0))).symm
    have HZ := hid hz
    clear HF HG h0 hz hne
    generalize fErr u = Er at *
    generalize limbs 0 = L0 at *
    generalize limbs 1 = L1 at *
    go_enter Try.func3, Try.ntmps3
    go_wp2_with (go_at_call 12; refine (HS.out _).mono ?_; rintro e w1 ⟨b, rfl, rfl⟩; rcases b with _ | _)
    · go_ret
      exact ⟨rfl, Below.refl _ _⟩
    · go_wp2_with (first
        | (go_at_call 13; refine (HF1.out _).mono ?_; rintro e w1 ⟨rfl, hb1⟩)
        | (go_at_call 14; refine (HG1.out _).mono ?_; rintro e w2 ⟨A3, c3, A4, c4, rfl, hr3, hr4, hb2⟩; have hBa := (B3.new w1 28 (.bool false) (.slice none 0 0) (.slice none 0 0)).below hb2; have HBa := hid hBa; obtain ⟨k0, k1, k2, _, _, _⟩ := hBa.cells; have hlt := hBa.lt; clear hBa)
        | (go_at_call 15; refine (HB1.out _).mono ?_; rintro e w3 ⟨rfl, rfl⟩)
        | (go_at_call 16; refine (HB2.out _).mono ?_; rintro e w3 ⟨rfl, rfl⟩)
        | (go_at_call 19; refine (HK1.out _).mono ?_; rintro e w3 ⟨rfl, rfl⟩)
        | (go_at_call 20; refine (HK2.out _).mono ?_; rintro e w3 ⟨rfl, rfl⟩)
        | (go_at_call 17; refine (r2Same_T _ _ _ _ _ _ _ _ _ _ _ _ _ _ [] [] _ _ _ (Row.nil _) (Row.nil _) (by repeat first | assumption | apply Pg.Row.below (hb := by assumption) | apply Pg.Row.alloc | apply Pg.Row.drewN) (by repeat first | assumption | apply Pg.Row.below (hb := by assumption) | apply Pg.Row.alloc | apply Pg.Row.drewN) (by omega) (by omega) (by first | omega | assumption) (by first | omega | assumption) HZ.out).mono ?_; rintro e w4 ⟨rfl, hb4⟩)
        | (go_at_call 21; refine (known4_any _).mono ?_; rintro e w6 ⟨rfl, hb6⟩))
      go_ret
      exact ⟨rfl, (by repeat first | exact Below.refl _ _ | assumption | refine Pg.Below.then_ ?_ (by assumption) | refine Pg.Below.new_ ?_ _ | refine Pg.Below.drewN_ ?_ _)⟩
end Go.Proofs.Ytgehoflkbckgkaa
