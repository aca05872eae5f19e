/- Walk: the law FltInts. Conditions: those that each theorem names. -/
import Derived.Test.YtgehoflkbckgkaaZ23
import Derived.Test.YtgehoflkbckgkaaZ18
namespace Go.Proofs.Ytgehoflkbckgkaa
open Go.RowKit Pg
set_option maxHeartbeats 2000000 in
theorem law_FltInts (z : Int) (w : World) (hz0 : -9223372036854775808 ≤ z) (hz1 : z ≤ 9223372036854775807) :
    Calls Try.prog 9 #[.int .i64 z] w fun e w' => e = .returned (.bool true) ∧ Below w.heap.size w w' := by
  by_cases hz : -9007199254740992 ≤ z ∧ z ≤ 9007199254740992
  · obtain ⟨h1, h2⟩ := hz
    have HI := fun W => r2Int_any z W hz0 hz1
    obtain ⟨f1, f2, f3, f4, f5⟩ := fw_whole z h1 h2
    have hb := blen_fQ (fw (z : Rat))
    rw [f4] at hb
    obtain ⟨b1, b2⟩ := hb
    have HF := fun W => From_any (fw (z : Rat)) W f2
    rw [f4] at HF
    have ho : FloatKind.f64.format.order (fw (z : Rat)) (fw (z : Rat)) = some .eq := by
      have h3 := fw_order (z : Rat) (z : Rat)
      rw [show compare (fs (z : Rat)) (fs (z : Rat)) = .eq by simp [compare, compareOfLessAndEq]] at h3
      exact h3
    generalize (z : Rat) = q at *
    have HT := hid fun W A A' c c' (h : Row W A (limbs (rnum q)).length c (limbs (rnum q))) (h' : Row W A' (limbs q.den).length c' (limbs q.den)) => fltTo_Q q A A' c c' W h h' b1 b2
    have HF1 : Hid (∀ W, Calls Try.prog 13 #[.float .f64 (fw q)] W fun e w' => ∃ A c A' c', e = .returned (.tuple #[.agg #[.bool (rneg q), .slice A (limbs (rnum q)).length c, .slice A' (limbs q.den).length c'], .int .i64 0]) ∧ Row w' A (limbs (rnum q)).length c (limbs (rnum q)) ∧ Row w' A' (limbs q.den).length c' (limbs q.den) ∧ Below W.heap.size W w') := hid fun W => by
      refine (HF W).mono ?_
      rintro e w' ⟨v, rfl, hv, hb⟩
      rw [if_pos f3] at hv
      obtain ⟨A, c, A', c', rfl, h1, h2⟩ := hv
      rw [f3]
      exact ⟨A, c, A', c', rfl, h1, h2, hb⟩
    have HI := hid HI
    have hfl := f1
    clear f1 f2 f3 f4 f5 HF b1 b2 hz0 hz1
    generalize fw q = x at *
    go_enter Try.func9, Try.ntmps9
    go_wp2_with (first
      | (go_at_call 31; refine (HI.out _).mono ?_; rintro e w1 ⟨A1, c1, A2, c2, rfl, hr1, hr2, hb1⟩; have hB1 := B3.new w1 28 (.bool (rneg q)) (.slice A1 (limbs (rnum q)).length c1) (.slice A2 (limbs q.den).length c2); obtain ⟨k0, k1, k2, _, _, _⟩ := hB1.cells)
      | (go_at_call 27; refine (HT.out _ _ _ _ _ (by repeat first | assumption | apply Pg.Row.below (hb := by assumption) | apply Pg.Row.alloc | apply Pg.Row.drewN) (by repeat first | assumption | apply Pg.Row.below (hb := by assumption) | apply Pg.Row.alloc | apply Pg.Row.drewN)).mono ?_; rintro e w2 ⟨rfl, hb2⟩)
      | (go_at_call 13; refine (HF1.out _).mono ?_; rintro e w3 ⟨A3, c3, A4, c4, rfl, hr3, hr4, hb3⟩; obtain ⟨k0', k1', k2', _, _, _⟩ := (((hB1.below hb2).below hb3).alloc (.cells #[.bool (rneg q), .slice A3 (limbs (rnum q)).length c3, .slice A4 (limbs q.den).length c4] 28)).cells)
      | (go_at_call 18; refine (one_T _ _ _ _ _ _ _ _ _ _ _ _ _ _ _ _ _ _ (by repeat first | assumption | apply Pg.Row.below (hb := by assumption) | apply Pg.Row.alloc | apply Pg.Row.drewN) (by repeat first | assumption | apply Pg.Row.below (hb := by assumption) | apply Pg.Row.alloc | apply Pg.Row.drewN) (by repeat first | assumption | apply Pg.Row.below (hb := by assumption) | apply Pg.Row.alloc | apply Pg.Row.drewN) (by repeat first | assumption | apply Pg.Row.below (hb := by assumption) | apply Pg.Row.alloc | apply Pg.Row.drewN) rfl rfl).mono ?_; rintro e w5 ⟨rfl, hb5⟩)
      | (go_at_call 21; refine (known4_any _).mono ?_; rintro e w6 ⟨rfl, hb6⟩))
    go_ret
    exact ⟨rfl, (by repeat first | exact Below.refl _ _ | assumption | refine Pg.Below.then_ ?_ (by assumption) | refine Pg.Below.new_ ?_ _ | refine Pg.Below.drewN_ ?_ _)⟩
  · by_cases h0 : z < -9007199254740992
    · clear hz
      go_enter Try.func9, Try.ntmps9
      go_wp2_with (go_at_call 21; refine (known4_any _).mono ?_; rintro e w6 ⟨rfl, hb6⟩)
      go_ret
      exact ⟨rfl, (by repeat first | exact Below.refl _ _ | assumption | refine Pg.Below.then_ ?_ (by assumption) | refine Pg.Below.new_ ?_ _ | refine Pg.Below.drewN_ ?_ _)⟩
    · have h1 : 9007199254740992 < z := by omega
      clear hz
      go_enter Try.func9, Try.ntmps9
      go_wp2_with (go_at_call 21; refine (known4_any _).mono ?_; rintro e w6 ⟨rfl, hb6⟩)
      go_ret
      exact ⟨rfl, (by repeat first | exact Below.refl _ _ | assumption | refine Pg.Below.then_ ?_ (by assumption) | refine Pg.Below.new_ ?_ _ | refine Pg.Below.drewN_ ?_ _)⟩
end Go.Proofs.Ytgehoflkbckgkaa
