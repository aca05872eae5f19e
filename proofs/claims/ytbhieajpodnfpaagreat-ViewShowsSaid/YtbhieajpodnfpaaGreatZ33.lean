/- Walks: dec.units; pantographref3.ten, units · Walks: dec.Round, Fixed; pantographref3.sign, digits, point, Fixed · Walks: pantographref3.point, Fixed. Conditions: those that each theorem names. -/
import Derived.Test.YtbhieajpodnfpaaGreatZ31
import Derived.Test.YtbhieajpodnfpaaGreatZ22
import Derived.Test.YtbhieajpodnfpaaGreatZ32
namespace Pg
open Go Go.RowKit
theorem rnd_cases2 {n d q r u : Nat} (hq : n / d = q) (hr : n % d = r) (hu : u = rnd n d) :
    ∃ b : Bool, ∃ cm : Int, Hid (u = if b then q + 1 else q) ∧ Hid (cm = cmpv (r + r) d) ∧ ((cm = 1 ∧ b = true) ∨ (cm = 0 ∧ q % 2 = 1 ∧ b = true) ∨ (cm = 0 ∧ q % 2 = 0 ∧ b = false) ∨ (cm = -1 ∧ b = false)) := by
  rcases rnd_casesR hq hr hu with ⟨h1, h2⟩ | ⟨h1, h2, h3⟩ | ⟨h1, h2, h3⟩ | ⟨h1, h2⟩
  · exact ⟨true, _, hid h2, hid rfl, .inl ⟨h1, rfl⟩⟩
  · exact ⟨true, _, hid h3, hid rfl, .inr (.inl ⟨h1, h2, rfl⟩)⟩
  · exact ⟨false, _, hid h3, hid rfl, .inr (.inr (.inl ⟨h1, h2, rfl⟩))⟩
  · exact ⟨false, _, hid h2, hid rfl, .inr (.inr (.inr ⟨h1, rfl⟩))⟩
end Pg
namespace Go.Proofs.YtbhieajpodnfpaaGreat
open Go.RowKit Pg
/-- A quotient and what is left, and true. -/
def Pr (N M : Nat) (w : World) (v : Value) : Prop := ∃ A c A' c', v = .tuple #[.slice A (limbs N).length c, .slice A' (limbs M).length c', .bool true] ∧ Row w A (limbs N).length c (limbs N) ∧ Row w A' (limbs M).length c' (limbs M)
set_option maxHeartbeats 1000000 in
/-- pantographref3.ten. -/
theorem rten_any (k : Nat) (w : World) (hk : k ≤ 60) : Calls Tryz.prog 44 #[.int .i64 (k : Int)] w (Ret w (10 ^ k)) := by
  have l10 : (limbs 10).length = 1 := by decide +kernel
  go_enter Tryz.func44, Tryz.ntmps44
  go_wp2_with fail
  have hr1 : Row (w.alloc (.cells #[.int .u32 1] 79)) (some ⟨w.heap.size, 0, none⟩) 1 1 [1] := Row.one _ _ _ _ _ rfl rfl (by omega)
  have hb1 : Below w.heap.size w (w.alloc (.cells #[.int .u32 1] 79)) := Below.new_ (Below.refl _ _) _
  generalize w.alloc (.cells #[.int .u32 1] 79) = w1 at *
  go_loopw [3, 4] (fun s3 i wr => ∃ j P A c, j ≤ k ∧ i = .int .i64 ((j : Nat) : Int) ∧ s3 = .slice A (limbs P).length c ∧ Row wr A (limbs P).length c (limbs P) ∧ (limbs P).length ≤ 61 ∧ Hid (P = 10 ^ j) ∧ Below w.heap.size w wr) (fun _ i _ => k - (intOf i).toNat)
  case atStart => exact ⟨0, 1, _, _, by omega, rfl, by rw [limbs_one]; rfl, by rw [limbs_one]; exact hr1, by rw [limbs_one]; decide, hid rfl, hb1⟩
  case round =>
    obtain ⟨j, P, A2, c2, hj, rfl, rfl, hr, hl, hP, hbel⟩ := hrel
    clear hr1 hb1
    by_cases hlt : j < k
    · go_wp2_with (go_at_call 73; refine (rMul_E _ _ _ _ _ _ _ _ _ P 10 (P * 10) (by repeat first | assumption | exact Pg.Row.one _ _ _ _ _ (by simp) (by first | rfl | omega) (by omega) | apply Pg.Row.drew | apply Pg.Row.below (hb := by assumption) | apply Pg.Row.alloc) (by repeat first | assumption | exact Pg.Row.one _ _ _ _ _ (by simp) (by first | rfl | omega) (by omega) | apply Pg.Row.drew | apply Pg.Row.below (hb := by assumption) | apply Pg.Row.alloc) (val_limbs _) (val_one 10) (by omega) (by omega) rfl).mono ?_; rintro e w3 ⟨A4, c4, rfl, hr4, hb4⟩)
      have hl2 := limbs_ten (j + 1)
      have hP2 : P * 10 = 10 ^ (j + 1) := by rw [hP.out, Nat.pow_succ]
      refine ⟨⟨j + 1, P * 10, A4, c4, by omega, by go_num, rfl, hr4, by rw [hP2]; omega, hid hP2, (by repeat first | exact Below.refl _ _ | assumption | refine Pg.Below.then_ ?_ (by assumption) | refine Pg.Below.new_ ?_ _ | refine Pg.Below.drewN_ ?_ _)⟩, by simp [intOf]; omega⟩
    · have : j = k := by omega
      subst this
      go_wp2_with fail
      go_ret
      exact Ret.of_row hr (by rw [hP.out]) hbel

set_option maxRecDepth 100000 in
set_option maxHeartbeats 4000000 in
/-- dec.units. -/
theorem dunits_any (S : Bool) (N D k : Nat) (A1 A2 : Option Addr) (c1 c2 : Nat) (w : World) (h1 : Row w A1 (limbs N).length c1 (limbs N)) (h2 : Row w A2 (limbs D).length c2 (limbs D)) (lN : (limbs N).length ≤ 1000) (lD : (limbs D).length ≤ 1000) (hD : D ≠ 0) (hk : k ≤ 60) :
    Calls Tryz.prog 35 #[.agg #[.bool S, .slice A1 (limbs N).length c1, .slice A2 (limbs D).length c2], .int .i64 (k : Int)] w (Ret w (rnd (N * 10 ^ k) D)) := by
  have HTen := hid fun W => dten_any k W hk
  have lT := limbs_ten k
  obtain ⟨T, hT⟩ : ∃ T, 10 ^ k = T := ⟨_, rfl⟩
  rw [hT] at HTen lT
  have lNT : (limbs (N * T)).length ≤ 2000 := by
    have := limbs_mul_len (k := 1000) lN (show (limbs T).length ≤ 1000 by omega)
    omega
  obtain ⟨Q, eq⟩ : ∃ x, N * T / D = x := ⟨_, rfl⟩
  obtain ⟨R, er'⟩ : ∃ x, N * T % D = x := ⟨_, rfl⟩
  have er : dmr (N * T) D = R := by unfold dmr; rw [if_neg hD]; exact er'
  have ebd : dmb D = true := by simp [dmb, hD]
  have lq := Nat.le_trans (limbs_mono (show Q ≤ N * T by rw [← eq]; exact Nat.div_le_self _ _)) lNT
  have lr := Nat.le_trans (limbs_mono (show R ≤ N * T by rw [← er']; exact Nat.mod_le _ _)) lNT
  have lrr : (limbs (R + R)).length ≤ 2001 := limbs_add_len lr lr
  obtain ⟨u, hu⟩ : ∃ u, u = rnd (N * T) D := ⟨_, rfl⟩
  obtain ⟨b, cm, hub, hcm, hcs⟩ := rnd_cases2 eq er' hu
  have EQ := hid eq
  have ER := hid er
  have EB := hid ebd
  rw [hT, ← hu]
  have HBX := hid (B3.new w 53 (.bool S) (.slice A1 (limbs N).length c1) (.slice A2 (limbs D).length c2))
  have h1 := h1.alloc (.cells #[.bool S, .slice A1 (limbs N).length c1, .slice A2 (limbs D).length c2] 53)
  have h2 := h2.alloc (.cells #[.bool S, .slice A1 (limbs N).length c1, .slice A2 (limbs D).length c2] 53)
  have hb0 : Below w.heap.size w (w.alloc (.cells #[.bool S, .slice A1 (limbs N).length c1, .slice A2 (limbs D).length c2] 53)) := Below.new_ (Below.refl _ _) _
  go_enter Tryz.func35, Tryz.ntmps35
  go_upto_region 1 with fail
  clear hT eq er' er ebd hu
  generalize w.alloc (.cells #[.bool S, .slice A1 (limbs N).length c1, .slice A2 (limbs D).length c2] 53) = w1 at *
  refine draw_hd [10, 11, 12, 13, 14, 15, 16, 17, 9, 18, 19, 20, 5, 6, 7] [.is (.pointer (some ⟨w.heap.size, 1, none⟩)), .is (.slice A1 (limbs N).length c1), .is (.int .i64 (k : Int)), .row T, .row (N * T), .is (.pointer (some ⟨w.heap.size, 2, none⟩)), .is (.slice A2 (limbs D).length c2), .such (Pr Q R), .such (Pr Q R), .row Q, .row R, .is (.bool true), .row Q, .row R, .is (.bool true)]
    (by kernel_rfl) (by kernel_rfl) (by kernel_rfl) (by decide) (by kernel_rfl) (by kernel_rfl) ?_ ?_
  · refine ⟨?_, ?_, ?_, ?_, ?_, ?_, ?_, ?_, ?_, ?_, ?_, ?_, ?_, ?_, ?_, trivial⟩
    · intro a w3 hA K hK
      have t2 := hA.old 2 _ rfl rfl
      go_simp
      exact hK _ _ (by first | rfl | exact congrArg _ (by first | rfl | omega | (rw [IntKind.wrap_i64]; omega))) (Below.refl _ _)
    · intro a w3 hA K hK
      have t10 := bt_is hA 0 10 rfl rfl (by kernel_rfl)
      obtain ⟨k0, k1, k2, _, _, _⟩ := (HBX.out.below hA.below).cells
      go_simp
      exact hK _ _ (by first | rfl | exact congrArg _ (by first | rfl | omega | (rw [IntKind.wrap_i64]; omega))) (Below.refl _ _)
    · intro a w3 hA K hK
      have t1 := hA.old 1 _ rfl rfl
      go_simp
      exact hK _ _ (by first | rfl | exact congrArg _ (by first | rfl | omega | (rw [IntKind.wrap_i64]; omega))) (Below.refl _ _)
    · intro a w3 hA K hK
      have t12 := bt_is hA 2 12 rfl rfl (by kernel_rfl)
      have hC := HTen.out w3
      go_simp
      refine hC.mono ?_
      rintro e w4 ⟨A3, c3, rfl, hr, hb⟩
      exact hK _ _ ⟨_, _, rfl, hr⟩ hb
    · intro a w3 hA K hK
      have t11 := bt_is hA 1 11 rfl rfl (by kernel_rfl)
      obtain ⟨A13, c13, t13, r13⟩ := bt_row hA 3 13 rfl rfl (by kernel_rfl)
      have hC := Mul_N A1 A13 _ c1 _ c13 _ _ w3 N T (h1.below hA.below) r13 (val_limbs _) (val_limbs _) (by omega) (by omega)
      go_simp
      refine hC.mono ?_
      rintro e w4 ⟨A3, c3, rfl, hr, hb⟩
      exact hK _ _ ⟨_, _, rfl, hr⟩ hb
    · intro a w3 hA K hK
      have t2 := hA.old 2 _ rfl rfl
      go_simp
      exact hK _ _ (by first | rfl | exact congrArg _ (by first | rfl | omega | (rw [IntKind.wrap_i64]; omega))) (Below.refl _ _)
    · intro a w3 hA K hK
      have t15 := bt_is hA 5 15 rfl rfl (by kernel_rfl)
      obtain ⟨k0, k1, k2, _, _, _⟩ := (HBX.out.below hA.below).cells
      go_simp
      exact hK _ _ (by first | rfl | exact congrArg _ (by first | rfl | omega | (rw [IntKind.wrap_i64]; omega))) (Below.refl _ _)
    · intro a w3 hA K hK
      obtain ⟨A14, c14, t14, r14⟩ := bt_row hA 4 14 rfl rfl (by kernel_rfl)
      have t16 := bt_is hA 6 16 rfl rfl (by kernel_rfl)
      have hC := DivMod_E A14 A2 _ c14 _ c2 _ _ w3 (N * T) D Q R true r14 (h2.below hA.below) (val_limbs _) (val_limbs _) (by omega) (by omega) EQ.out ER.out EB.out
      go_simp
      refine hC.mono ?_
      rintro e w4 ⟨Aq, cq, Ar, cr, rfl, hq, hr, hb⟩
      exact hK _ _ (fun w5 h5 => ⟨_, _, _, _, rfl, hq.below h5, hr.below h5⟩) hb
    · intro a w3 hA K hK
      obtain ⟨v17, t17, p17⟩ := bt_such hA 7 17 rfl rfl (by kernel_rfl)
      go_simp
      exact hK _ _ p17 (Below.refl _ _)
    · intro a w3 hA K hK
      obtain ⟨v9, t9, p9⟩ := bt_such hA 8 9 rfl rfl (by kernel_rfl)
      obtain ⟨Aq, cq, Ar, cr, hv, hq, hr⟩ := p9 w3 (Below.refl _ _)
      subst hv
      go_simp
      exact hK _ _ ⟨_, _, rfl, hq⟩ (Below.refl _ _)
    · intro a w3 hA K hK
      obtain ⟨v9, t9, p9⟩ := bt_such hA 8 9 rfl rfl (by kernel_rfl)
      obtain ⟨Aq, cq, Ar, cr, hv, hq, hr⟩ := p9 w3 (Below.refl _ _)
      subst hv
      go_simp
      exact hK _ _ ⟨_, _, rfl, hr⟩ (Below.refl _ _)
    · intro a w3 hA K hK
      obtain ⟨v9, t9, p9⟩ := bt_such hA 8 9 rfl rfl (by kernel_rfl)
      obtain ⟨Aq, cq, Ar, cr, hv, hq, hr⟩ := p9 w3 (Below.refl _ _)
      subst hv
      go_simp
      exact hK _ _ (by first | rfl | exact congrArg _ (by first | rfl | omega | (rw [IntKind.wrap_i64]; omega))) (Below.refl _ _)
    · intro a w3 hA K hK
      obtain ⟨A18, c18, t18, r18⟩ := bt_row hA 9 18 rfl rfl (by kernel_rfl)
      go_simp
      exact hK _ _ ⟨_, _, rfl, r18⟩ (Below.refl _ _)
    · intro a w3 hA K hK
      obtain ⟨A19, c19, t19, r19⟩ := bt_row hA 10 19 rfl rfl (by kernel_rfl)
      go_simp
      exact hK _ _ ⟨_, _, rfl, r19⟩ (Below.refl _ _)
    · intro a w3 hA K hK
      have t20 := bt_is hA 11 20 rfl rfl (by kernel_rfl)
      go_simp
      exact hK _ _ (by first | rfl | exact congrArg _ (by first | rfl | omega | (rw [IntKind.wrap_i64]; omega))) (Below.refl _ _)
  rintro vs w5 hV hb5 act hact
  have hV' := hV.is_
  clear hV
  obtain ⟨_, rfl, hV⟩ := hV'
  have hV' := hV.is_
  clear hV
  obtain ⟨_, rfl, hV⟩ := hV'
  have hV' := hV.is_
  clear hV
  obtain ⟨_, rfl, hV⟩ := hV'
  have hV' := hV.row_
  clear hV
  obtain ⟨A13, c13, _, rfl, r13, hV⟩ := hV'
  have hV' := hV.row_
  clear hV
  obtain ⟨A14, c14, _, rfl, r14, hV⟩ := hV'
  have hV' := hV.is_
  clear hV
  obtain ⟨_, rfl, hV⟩ := hV'
  have hV' := hV.is_
  clear hV
  obtain ⟨_, rfl, hV⟩ := hV'
  have hV' := hV.such_
  clear hV
  obtain ⟨v17, _, rfl, p17, hV⟩ := hV'
  have hV' := hV.such_
  clear hV
  obtain ⟨v9, _, rfl, p9, hV⟩ := hV'
  have hV' := hV.row_
  clear hV
  obtain ⟨A18, c18, _, rfl, r18, hV⟩ := hV'
  have hV' := hV.row_
  clear hV
  obtain ⟨A19, c19, _, rfl, r19, hV⟩ := hV'
  have hV' := hV.is_
  clear hV
  obtain ⟨_, rfl, hV⟩ := hV'
  have hV' := hV.row_
  clear hV
  obtain ⟨A5, c5, _, rfl, r5, hV⟩ := hV'
  have hV' := hV.row_
  clear hV
  obtain ⟨A6, c6, _, rfl, r6, hV⟩ := hV'
  have hV' := hV.is_
  clear hV
  obtain ⟨_, rfl, hV⟩ := hV'
  obtain rfl := hV.nil_
  clear hV
  simp only [puts] at hact
  subst hact
  go_simp
  have HBX2 := hid (HBX.out.below hb5)
  have h2b := h2.below hb5
  go_upto_region 2 with fail
  refine draw_hd [21, 22, 23, 24, 25, 8] [.is (.slice A6 (limbs R).length c6), .row (R + R), .is (.pointer (some ⟨w.heap.size, 2, none⟩)), .is (.slice A2 (limbs D).length c2), .is (.int .i64 cm), .is (.int .i64 cm)]
    (by kernel_rfl) (by kernel_rfl) (by kernel_rfl) (by decide) (by kernel_rfl) (by kernel_rfl) ?_ ?_
  · refine ⟨?_, ?_, ?_, ?_, ?_, ?_, trivial⟩
    · intro a w3 hA K hK
      have t6 := hA.old 6 _ rfl rfl
      go_simp
      exact hK _ _ (by first | rfl | exact congrArg _ (by first | rfl | omega | (rw [IntKind.wrap_i64]; omega))) (Below.refl _ _)
    · intro a w3 hA K hK
      have t21 := bt_is hA 0 21 rfl rfl (by kernel_rfl)
      have hC := Shift_LN A6 _ c6 1 _ w3 R 1 (R + R) (r6.below hA.below) (val_limbs _) rfl (by omega) (by omega) (by omega)
      go_simp
      refine hC.mono ?_
      rintro e w4 ⟨A3, c3, rfl, hr, hb⟩
      exact hK _ _ ⟨_, _, rfl, hr⟩ hb
    · intro a w3 hA K hK
      have t2 := hA.old 2 _ rfl rfl
      go_simp
      exact hK _ _ (by first | rfl | exact congrArg _ (by first | rfl | omega | (rw [IntKind.wrap_i64]; omega))) (Below.refl _ _)
    · intro a w3 hA K hK
      have t23 := bt_is hA 2 23 rfl rfl (by kernel_rfl)
      obtain ⟨k0, k1, k2, _, _, _⟩ := (HBX2.out.below hA.below).cells
      go_simp
      exact hK _ _ (by first | rfl | exact congrArg _ (by first | rfl | omega | (rw [IntKind.wrap_i64]; omega))) (Below.refl _ _)
    · intro a w3 hA K hK
      obtain ⟨A22, c22, t22, r22⟩ := bt_row hA 1 22 rfl rfl (by kernel_rfl)
      have t24 := bt_is hA 3 24 rfl rfl (by kernel_rfl)
      have hC := CmpE A22 A2 _ c22 _ c2 _ _ w3 (R + R) D cm r22 (h2b.below hA.below) (val_limbs _) (val_limbs _) hcm.out.symm
      go_simp
      refine hC.mono ?_
      rintro e w4 ⟨rfl, hb⟩
      exact hK _ _ rfl hb
    · intro a w3 hA K hK
      have t25 := bt_is hA 4 25 rfl rfl (by kernel_rfl)
      go_simp
      exact hK _ _ (by first | rfl | exact congrArg _ (by first | rfl | omega | (rw [IntKind.wrap_i64]; omega))) (Below.refl _ _)
  rintro vs w7 hV hb7 act hact
  have hV' := hV.is_
  clear hV
  obtain ⟨_, rfl, hV⟩ := hV'
  have hV' := hV.row_
  clear hV
  obtain ⟨A22, c22, _, rfl, r22, hV⟩ := hV'
  have hV' := hV.is_
  clear hV
  obtain ⟨_, rfl, hV⟩ := hV'
  have hV' := hV.is_
  clear hV
  obtain ⟨_, rfl, hV⟩ := hV'
  have hV' := hV.is_
  clear hV
  obtain ⟨_, rfl, hV⟩ := hV'
  have hV' := hV.is_
  clear hV
  obtain ⟨_, rfl, hV⟩ := hV'
  obtain rfl := hV.nil_
  clear hV
  simp only [puts] at hact
  subst hact
  have hbw := Below.then_ (Below.then_ hb0 hb5) hb7
  have hq := r5.below hb7
  go_simp
  clear h1 h2 HBX HTen hb0 hb5 hb7
  go_upto_region 3 with fail
  go_cut [43] (fun s38 wd => s38 = .bool b ∧ wd = w7)
  case first =>
    by_cases hq0 : Q = 0
    · have hl0 : (((limbs Q).length : Int)) = 0 := by rw [hq0]; rfl
      rcases hcs with ⟨rfl, rfl⟩ | ⟨rfl, hm, rfl⟩ | ⟨rfl, hm, rfl⟩ | ⟨rfl, rfl⟩
      all_goals
        first
        | (exfalso; omega)
        | (clear hq0
           go_wp2_with fail
           go_meet
           exact ⟨rfl, rfl⟩)
    · have hlp := (tl_top hq0).1
      obtain ⟨bq, oq, rfl, hcq⟩ := hq.at_ hlp
      have hc0 := hcq 0 hlp
      rw [Nat.add_zero, show lim (limbs Q) 0 = Q % 4294967296 by rw [limbs_pos hq0]; rfl] at hc0
      have hbo := bits32_one (Q % 4294967296) (Nat.mod_lt _ (by decide))
      rw [show Q % 4294967296 % 2 = Q % 2 by omega] at hbo
      clear hcq hq0 hq
      generalize Q % 4294967296 = q0 at *
      rcases hcs with ⟨rfl, rfl⟩ | ⟨rfl, hm, rfl⟩ | ⟨rfl, hm, rfl⟩ | ⟨rfl, rfl⟩
      all_goals
        try rw [hm] at hbo
        go_wp2_with fail
        go_meet
        exact ⟨rfl, rfl⟩
  case rest =>
    obtain ⟨rfl, rfl⟩ := hcut
    clear hcs hcm
    rcases b with _ | _
    · have hub' := hub.out
      simp only [Bool.false_eq_true, if_false] at hub'
      go_wp2_with fail
      go_ret
      exact ⟨_, _, by rw [hub']; rfl, by rw [hub']; exact hq, hbw⟩
    · have hub' := hub.out
      simp only [if_true] at hub'
      go_wp2_with (first | (go_at_call 66; refine (Of_one _).mono ?_; rintro e w8 ⟨A8, c8, rfl, h8, hb8⟩) | (go_at_call 65; refine (Add_N _ _ _ _ _ _ _ _ _ Q 1 (by repeat first | assumption | apply Pg.Row.below (hb := by assumption) | apply Pg.Row.alloc | apply Pg.Row.drewN) (by repeat first | assumption | apply Pg.Row.below (hb := by assumption) | apply Pg.Row.alloc | apply Pg.Row.drewN) (val_limbs _) (val_limbs _) (by omega) (by rw [limbs_one]; decide)).mono ?_; rintro e w9 ⟨A9, c9, rfl, h9, hb9⟩))
      go_ret
      exact ⟨_, _, by rw [hub']; rfl, by rw [hub']; exact h9, (by repeat first | exact Below.refl _ _ | assumption | refine Pg.Below.then_ ?_ (by assumption) | refine Pg.Below.new_ ?_ _ | refine Pg.Below.drewN_ ?_ _)⟩

set_option maxRecDepth 100000 in
set_option maxHeartbeats 4000000 in
/-- pantographref3.units. -/
theorem runits_any {v : Value} {q : Rat} (k : Nat) (w : World) (ha : RArg w v q 1000) (hk : k ≤ 60) :
    Calls Tryz.prog 41 #[v, .int .i64 (k : Int)] w (Ret w (unitsN q k)) := by
  have hs := ha.short (by omega)
  obtain ⟨s, A, n, c, A', n', c', xs, ys, rfl, h, h', hn, hn', hp⟩ := ha
  have hP := fun W (hW : Below w.heap.size w W) => r2Norm_any s A A' n c n' c' xs ys W (h.below hW) (h'.below hW) (by omega) (by omega)
  rw [hp] at hP
  have HP := hid hP
  clear h h' hP hp
  obtain ⟨k0, k1, k2, _, _, _⟩ := (B3.new w 53 (.bool s) (.slice A n c) (.slice A' n' c')).cells
  have hb00 : Below w.heap.size w (w.alloc (.cells #[.bool s, .slice A n c, .slice A' n' c'] 53)) := Below.new_ (Below.refl _ _) _
  go_enter Tryz.func41, Tryz.ntmps41
  go_upto_region 2 with (go_at_call 40; refine (HP.out _ hb00).mono ?_; rintro e w1 ⟨A1, c1, A2, c2, rfl, hr1, hr2, hb1⟩)
  clear k0 k1 k2
  have hD := q.den_nz
  obtain ⟨lN, lD⟩ := hs
  have hun : unitsN q k = rnd (rnum q * 10 ^ k) q.den := rfl
  have HBX := hid (B3.new w1 53 (.bool (rneg q)) (.slice A1 (limbs (rnum q)).length c1) (.slice A2 (limbs q.den).length c2))
  have h1 := hr1.alloc (.cells #[.bool (rneg q), .slice A1 (limbs (rnum q)).length c1, .slice A2 (limbs q.den).length c2] 53)
  have h2 := hr2.alloc (.cells #[.bool (rneg q), .slice A1 (limbs (rnum q)).length c1, .slice A2 (limbs q.den).length c2] 53)
  have hb0 := Below.new_ (Below.then_ hb00 hb1) (.cells #[.bool (rneg q), .slice A1 (limbs (rnum q)).length c1, .slice A2 (limbs q.den).length c2] 53)
  clear hr1 hr2 hb1 hb00 HP
  generalize w1.alloc (.cells #[.bool (rneg q), .slice A1 (limbs (rnum q)).length c1, .slice A2 (limbs q.den).length c2] 53) = w2 at *
  generalize w1.heap.size = g at *
  generalize rnum q = N at *
  generalize q.den = D at *
  generalize rneg q = S at *
  have HTen := hid fun W => rten_any k W hk
  have lT := limbs_ten k
  obtain ⟨T, hT⟩ : ∃ T, 10 ^ k = T := ⟨_, rfl⟩
  rw [hT] at HTen lT
  have lNT : (limbs (N * T)).length ≤ 2000 := by
    have := limbs_mul_len (k := 1000) lN (show (limbs T).length ≤ 1000 by omega)
    omega
  obtain ⟨Q, eq⟩ : ∃ x, N * T / D = x := ⟨_, rfl⟩
  obtain ⟨R, er'⟩ : ∃ x, N * T % D = x := ⟨_, rfl⟩
  have er : dmr (N * T) D = R := by unfold dmr; rw [if_neg hD]; exact er'
  have ebd : dmb D = true := by simp [dmb, hD]
  have lq := Nat.le_trans (limbs_mono (show Q ≤ N * T by rw [← eq]; exact Nat.div_le_self _ _)) lNT
  have lr := Nat.le_trans (limbs_mono (show R ≤ N * T by rw [← er']; exact Nat.mod_le _ _)) lNT
  have lrr : (limbs (R + R)).length ≤ 2001 := limbs_add_len lr lr
  obtain ⟨u, hu⟩ : ∃ u, u = rnd (N * T) D := ⟨_, rfl⟩
  obtain ⟨b, cm, hub, hcm, hcs⟩ := rnd_cases2 eq er' hu
  have EQ := hid eq
  have ER := hid er
  have EB := hid ebd
  rw [hT, ← hu] at hun
  have HUN := hid hun
  clear hun
  clear hT eq er' er ebd hu
  refine draw_hd [13, 14, 15, 16, 17, 18, 19, 20, 12, 21, 22, 23, 6, 7, 8] [.is (.pointer (some ⟨g, 1, none⟩)), .is (.slice A1 (limbs N).length c1), .is (.int .i64 (k : Int)), .row T, .row (N * T), .is (.pointer (some ⟨g, 2, none⟩)), .is (.slice A2 (limbs D).length c2), .such (Pr Q R), .such (Pr Q R), .row Q, .row R, .is (.bool true), .row Q, .row R, .is (.bool true)]
    (by kernel_rfl) (by kernel_rfl) (by kernel_rfl) (by decide) (by kernel_rfl) (by kernel_rfl) ?_ ?_
  · refine ⟨?_, ?_, ?_, ?_, ?_, ?_, ?_, ?_, ?_, ?_, ?_, ?_, ?_, ?_, ?_, trivial⟩
    · intro a w3 hA K hK
      have t5 := hA.old 5 _ rfl rfl
      go_simp
      exact hK _ _ (by first | rfl | exact congrArg _ (by first | rfl | omega | (rw [IntKind.wrap_i64]; omega))) (Below.refl _ _)
    · intro a w3 hA K hK
      have t13 := bt_is hA 0 13 rfl rfl (by kernel_rfl)
      obtain ⟨k0, k1, k2, _, _, _⟩ := (HBX.out.below hA.below).cells
      go_simp
      exact hK _ _ (by first | rfl | exact congrArg _ (by first | rfl | omega | (rw [IntKind.wrap_i64]; omega))) (Below.refl _ _)
    · intro a w3 hA K hK
      have t1 := hA.old 1 _ rfl rfl
      go_simp
      exact hK _ _ (by first | rfl | exact congrArg _ (by first | rfl | omega | (rw [IntKind.wrap_i64]; omega))) (Below.refl _ _)
    · intro a w3 hA K hK
      have t15 := bt_is hA 2 15 rfl rfl (by kernel_rfl)
      have hC := HTen.out w3
      go_simp
      refine hC.mono ?_
      rintro e w4 ⟨A3, c3, rfl, hr, hb⟩
      exact hK _ _ ⟨_, _, rfl, hr⟩ hb
    · intro a w3 hA K hK
      have t14 := bt_is hA 1 14 rfl rfl (by kernel_rfl)
      obtain ⟨A16, c16, t16, r16⟩ := bt_row hA 3 16 rfl rfl (by kernel_rfl)
      have hC := rMul_N A1 A16 _ c1 _ c16 _ _ w3 N T (h1.below hA.below) r16 (val_limbs _) (val_limbs _) (by omega) (by omega)
      go_simp
      refine hC.mono ?_
      rintro e w4 ⟨A3, c3, rfl, hr, hb⟩
      exact hK _ _ ⟨_, _, rfl, hr⟩ hb
    · intro a w3 hA K hK
      have t5 := hA.old 5 _ rfl rfl
      go_simp
      exact hK _ _ (by first | rfl | exact congrArg _ (by first | rfl | omega | (rw [IntKind.wrap_i64]; omega))) (Below.refl _ _)
    · intro a w3 hA K hK
      have t18 := bt_is hA 5 18 rfl rfl (by kernel_rfl)
      obtain ⟨k0, k1, k2, _, _, _⟩ := (HBX.out.below hA.below).cells
      go_simp
      exact hK _ _ (by first | rfl | exact congrArg _ (by first | rfl | omega | (rw [IntKind.wrap_i64]; omega))) (Below.refl _ _)
    · intro a w3 hA K hK
      obtain ⟨A17, c17, t17, r17⟩ := bt_row hA 4 17 rfl rfl (by kernel_rfl)
      have t19 := bt_is hA 6 19 rfl rfl (by kernel_rfl)
      have hC := rDivMod_E A17 A2 _ c17 _ c2 _ _ w3 (N * T) D Q R true r17 (h2.below hA.below) (val_limbs _) (val_limbs _) (by omega) (by omega) EQ.out ER.out EB.out
      go_simp
      refine hC.mono ?_
      rintro e w4 ⟨Aq, cq, Ar, cr, rfl, hq, hr, hb⟩
      exact hK _ _ (fun w5 h5 => ⟨_, _, _, _, rfl, hq.below h5, hr.below h5⟩) hb
    · intro a w3 hA K hK
      obtain ⟨v20, t20, p20⟩ := bt_such hA 7 20 rfl rfl (by kernel_rfl)
      go_simp
      exact hK _ _ p20 (Below.refl _ _)
    · intro a w3 hA K hK
      obtain ⟨v12, t12, p12⟩ := bt_such hA 8 12 rfl rfl (by kernel_rfl)
      obtain ⟨Aq, cq, Ar, cr, hv, hq, hr⟩ := p12 w3 (Below.refl _ _)
      subst hv
      go_simp
      exact hK _ _ ⟨_, _, rfl, hq⟩ (Below.refl _ _)
    · intro a w3 hA K hK
      obtain ⟨v12, t12, p12⟩ := bt_such hA 8 12 rfl rfl (by kernel_rfl)
      obtain ⟨Aq, cq, Ar, cr, hv, hq, hr⟩ := p12 w3 (Below.refl _ _)
      subst hv
      go_simp
      exact hK _ _ ⟨_, _, rfl, hr⟩ (Below.refl _ _)
    · intro a w3 hA K hK
      obtain ⟨v12, t12, p12⟩ := bt_such hA 8 12 rfl rfl (by kernel_rfl)
      obtain ⟨Aq, cq, Ar, cr, hv, hq, hr⟩ := p12 w3 (Below.refl _ _)
      subst hv
      go_simp
      exact hK _ _ (by first | rfl | exact congrArg _ (by first | rfl | omega | (rw [IntKind.wrap_i64]; omega))) (Below.refl _ _)
    · intro a w3 hA K hK
      obtain ⟨A21, c21, t21, r21⟩ := bt_row hA 9 21 rfl rfl (by kernel_rfl)
      go_simp
      exact hK _ _ ⟨_, _, rfl, r21⟩ (Below.refl _ _)
    · intro a w3 hA K hK
      obtain ⟨A22, c22, t22, r22⟩ := bt_row hA 10 22 rfl rfl (by kernel_rfl)
      go_simp
      exact hK _ _ ⟨_, _, rfl, r22⟩ (Below.refl _ _)
    · intro a w3 hA K hK
      have t23 := bt_is hA 11 23 rfl rfl (by kernel_rfl)
      go_simp
      exact hK _ _ (by first | rfl | exact congrArg _ (by first | rfl | omega | (rw [IntKind.wrap_i64]; omega))) (Below.refl _ _)
  rintro vs w5 hV hb5 act hact
  have hV' := hV.is_
  clear hV
  obtain ⟨_, rfl, hV⟩ := hV'
  have hV' := hV.is_
  clear hV
  obtain ⟨_, rfl, hV⟩ := hV'
  have hV' := hV.is_
  clear hV
  obtain ⟨_, rfl, hV⟩ := hV'
  have hV' := hV.row_
  clear hV
  obtain ⟨A16, c16, _, rfl, r16, hV⟩ := hV'
  have hV' := hV.row_
  clear hV
  obtain ⟨A17, c17, _, rfl, r17, hV⟩ := hV'
  have hV' := hV.is_
  clear hV
  obtain ⟨_, rfl, hV⟩ := hV'
  have hV' := hV.is_
  clear hV
  obtain ⟨_, rfl, hV⟩ := hV'
  have hV' := hV.such_
  clear hV
  obtain ⟨v20, _, rfl, p20, hV⟩ := hV'
  have hV' := hV.such_
  clear hV
  obtain ⟨v12, _, rfl, p12, hV⟩ := hV'
  have hV' := hV.row_
  clear hV
  obtain ⟨A21, c21, _, rfl, r21, hV⟩ := hV'
  have hV' := hV.row_
  clear hV
  obtain ⟨A22, c22, _, rfl, r22, hV⟩ := hV'
  have hV' := hV.is_
  clear hV
  obtain ⟨_, rfl, hV⟩ := hV'
  have hV' := hV.row_
  clear hV
  obtain ⟨A6, c6, _, rfl, r6, hV⟩ := hV'
  have hV' := hV.row_
  clear hV
  obtain ⟨A7, c7, _, rfl, r7, hV⟩ := hV'
  have hV' := hV.is_
  clear hV
  obtain ⟨_, rfl, hV⟩ := hV'
  obtain rfl := hV.nil_
  clear hV
  simp only [puts] at hact
  subst hact
  go_simp
  have HBX2 := hid (HBX.out.below hb5)
  have h2b := h2.below hb5
  go_upto_region 3 with fail
  refine draw_hd [24, 25, 26, 27, 28, 29, 9] [.is (.slice A7 (limbs R).length c7), .is (.slice A7 (limbs R).length c7), .row (R + R), .is (.pointer (some ⟨g, 2, none⟩)), .is (.slice A2 (limbs D).length c2), .is (.int .i64 cm), .is (.int .i64 cm)]
    (by kernel_rfl) (by kernel_rfl) (by kernel_rfl) (by decide) (by kernel_rfl) (by kernel_rfl) ?_ ?_
  · refine ⟨?_, ?_, ?_, ?_, ?_, ?_, ?_, trivial⟩
    · intro a w3 hA K hK
      have t7 := hA.old 7 _ rfl rfl
      go_simp
      exact hK _ _ (by first | rfl | exact congrArg _ (by first | rfl | omega | (rw [IntKind.wrap_i64]; omega))) (Below.refl _ _)
    · intro a w3 hA K hK
      have t7 := hA.old 7 _ rfl rfl
      go_simp
      exact hK _ _ (by first | rfl | exact congrArg _ (by first | rfl | omega | (rw [IntKind.wrap_i64]; omega))) (Below.refl _ _)
    · intro a w3 hA K hK
      have t24 := bt_is hA 0 24 rfl rfl (by kernel_rfl)
      have t25 := bt_is hA 1 25 rfl rfl (by kernel_rfl)
      have hC := rAddE A7 A7 _ c7 _ c7 _ _ w3 R R (R + R) (r7.below hA.below) (r7.below hA.below) (val_limbs _) (val_limbs _) (by omega) (by omega) rfl
      go_simp
      refine hC.mono ?_
      rintro e w4 ⟨A3, c3, rfl, hr, hb⟩
      exact hK _ _ ⟨_, _, rfl, hr⟩ hb
    · intro a w3 hA K hK
      have t5 := hA.old 5 _ rfl rfl
      go_simp
      exact hK _ _ (by first | rfl | exact congrArg _ (by first | rfl | omega | (rw [IntKind.wrap_i64]; omega))) (Below.refl _ _)
    · intro a w3 hA K hK
      have t27 := bt_is hA 3 27 rfl rfl (by kernel_rfl)
      obtain ⟨k0, k1, k2, _, _, _⟩ := (HBX2.out.below hA.below).cells
      go_simp
      exact hK _ _ (by first | rfl | exact congrArg _ (by first | rfl | omega | (rw [IntKind.wrap_i64]; omega))) (Below.refl _ _)
    · intro a w3 hA K hK
      obtain ⟨A26, c26, t26, r26⟩ := bt_row hA 2 26 rfl rfl (by kernel_rfl)
      have t28 := bt_is hA 4 28 rfl rfl (by kernel_rfl)
      have hC := rCmpE A26 A2 _ c26 _ c2 _ _ w3 (R + R) D cm r26 (h2b.below hA.below) (val_limbs _) (val_limbs _) (by omega) (by omega) hcm.out.symm
      go_simp
      refine hC.mono ?_
      rintro e w4 ⟨rfl, hb⟩
      exact hK _ _ rfl hb
    · intro a w3 hA K hK
      have t29 := bt_is hA 5 29 rfl rfl (by kernel_rfl)
      go_simp
      exact hK _ _ (by first | rfl | exact congrArg _ (by first | rfl | omega | (rw [IntKind.wrap_i64]; omega))) (Below.refl _ _)
  rintro vs w7 hV hb7 act hact
  have hV' := hV.is_
  clear hV
  obtain ⟨_, rfl, hV⟩ := hV'
  have hV' := hV.is_
  clear hV
  obtain ⟨_, rfl, hV⟩ := hV'
  have hV' := hV.row_
  clear hV
  obtain ⟨A26, c26, _, rfl, r26, hV⟩ := hV'
  have hV' := hV.is_
  clear hV
  obtain ⟨_, rfl, hV⟩ := hV'
  have hV' := hV.is_
  clear hV
  obtain ⟨_, rfl, hV⟩ := hV'
  have hV' := hV.is_
  clear hV
  obtain ⟨_, rfl, hV⟩ := hV'
  have hV' := hV.is_
  clear hV
  obtain ⟨_, rfl, hV⟩ := hV'
  obtain rfl := hV.nil_
  clear hV
  simp only [puts] at hact
  subst hact
  have hbw := Below.then_ (Below.then_ hb0 hb5) hb7
  have hq := r6.below hb7
  go_simp
  clear h1 h2 HBX HTen hb0 hb5 hb7
  go_upto_region 4 with fail
  go_cut [47] (fun s38 wd => s38 = .bool b ∧ wd = w7)
  case first =>
    by_cases hq0 : Q = 0
    · have hl0 : (((limbs Q).length : Int)) = 0 := by rw [hq0]; rfl
      rcases hcs with ⟨rfl, rfl⟩ | ⟨rfl, hm, rfl⟩ | ⟨rfl, hm, rfl⟩ | ⟨rfl, rfl⟩
      all_goals
        first
        | (exfalso; omega)
        | (clear hq0
           go_wp2_with fail
           go_meet
           exact ⟨rfl, rfl⟩)
    · have hlp := (tl_top hq0).1
      obtain ⟨bq, oq, rfl, hcq⟩ := hq.at_ hlp
      have hc0 := hcq 0 hlp
      rw [Nat.add_zero, show lim (limbs Q) 0 = Q % 4294967296 by rw [limbs_pos hq0]; rfl] at hc0
      have hbo := bits32_one (Q % 4294967296) (Nat.mod_lt _ (by decide))
      rw [show Q % 4294967296 % 2 = Q % 2 by omega] at hbo
      clear hcq hq0 hq
      generalize Q % 4294967296 = q0 at *
      rcases hcs with ⟨rfl, rfl⟩ | ⟨rfl, hm, rfl⟩ | ⟨rfl, hm, rfl⟩ | ⟨rfl, rfl⟩
      all_goals
        try rw [hm] at hbo
        go_wp2_with fail
        go_meet
        exact ⟨rfl, rfl⟩
  case rest =>
    obtain ⟨rfl, rfl⟩ := hcut
    clear hcs hcm
    rcases b with _ | _
    · have hub' := hub.out
      simp only [Bool.false_eq_true, if_false] at hub'
      go_wp2_with fail
      go_ret
      exact ⟨_, _, by rw [HUN.out, hub']; rfl, by rw [HUN.out, hub']; exact hq, hbw⟩
    · have hub' := hub.out
      simp only [if_true] at hub'
      go_wp2_with (go_at_call 74; (with_reducible refine (rAddE _ _ _ _ _ _ (limbs Q) [1] _ Q 1 (Q + 1) (by repeat first | assumption | exact Pg.Row.one _ _ _ _ _ (by simp) (by first | rfl | omega) (by omega) | apply Pg.Row.drew | apply Pg.Row.below (hb := by assumption) | apply Pg.Row.alloc) (by repeat first | assumption | exact Pg.Row.one _ _ _ _ _ (by simp) (by first | rfl | omega) (by omega) | apply Pg.Row.drew | apply Pg.Row.below (hb := by assumption) | apply Pg.Row.alloc) (val_limbs _) (val_one 1) (by first | omega | assumption) (by first | omega | assumption) rfl).mono ?_); rintro e w9 ⟨A9, c9, rfl, h9, hb9⟩)
      go_ret
      exact ⟨_, _, by rw [HUN.out, hub']; rfl, by rw [HUN.out, hub']; exact h9, (by repeat first | exact Below.refl _ _ | assumption | refine Pg.Below.then_ ?_ (by assumption) | refine Pg.Below.new_ ?_ _ | refine Pg.Below.drewN_ ?_ _)⟩
end Go.Proofs.YtbhieajpodnfpaaGreat
namespace Pg
theorem dtext_len {N k : Nat} (h : (limbs N).length ≤ k) : (dtext N).length ≤ 10 * k + 1 := by
  by_cases h0 : N = 0
  · subst h0; rw [dtext_zero]; simp
  · rw [dtext_pos h0, List.length_reverse, List.length_map]
    have h1 : N < 10 ^ (10 * k) := Nat.lt_of_lt_of_le (Nat.lt_of_lt_of_le (lt_pow_length N) (Nat.pow_le_pow_right (by omega) h)) (by rw [Nat.pow_mul]; exact Nat.pow_le_pow_left (by decide) k)
    exact Nat.le_trans (length_dig_le h1) (by omega)
theorem pt_len (l : List UInt8) (k : Nat) : (pt l k).length ≤ l.length + k + 2 := by
  unfold pt pad
  split
  · omega
  · simp only [List.length_append, List.length_take, List.length_cons, List.length_drop, List.length_replicate]; omega
theorem stext_len (b : Bool) : (stext b).length ≤ 1 := by cases b <;> decide
theorem fixedT_eq (q : Rat) (k : Nat) : stext (rneg (roundQ q k)) ++ ptext (unitsN q k) k = fixedT q k := by unfold fixedT; rw [roundQ_neg]
end Pg
namespace Go.Proofs.YtbhieajpodnfpaaGreat
open Go.RowKit Pg
theorem units_len {q : Rat} {k : Nat} (h : Short q 1000) (hk : k ≤ 60) : (limbs (unitsN q k)).length ≤ 2002 := by
  have h1 := limbs_mul_len (k := 1000) h.1 (show (limbs (10 ^ k)).length ≤ 1000 by have := limbs_ten k; omega)
  have h2 := limbs_add_len (k := 2001) (a := rnum q * 10 ^ k) (b := 1) (by omega) (by rw [limbs_one]; decide)
  exact Nat.le_trans (limbs_mono (unitsN_le q k)) h2
theorem round_short {q : Rat} {k : Nat} (h : Short q 1000) (hk : k ≤ 60) : Short (roundQ q k) 2002 := by
  unfold roundQ
  exact Short.rv (Nat.pos_iff_ne_zero.1 (Nat.pow_pos (by omega))) (units_len h hk) (by have := limbs_ten k; omega)

set_option maxRecDepth 100000 in
set_option maxHeartbeats 4000000 in
/-- dec.Round. -/
theorem Round_any {v : Value} {q : Rat} (k : Nat) (w : World) (ha : RArg w v q 1000) (hk : k ≤ 9) :
    Calls Tryz.prog 23 #[v, .int .i64 (k : Int)] w (RatRet w (roundQ q k)) := by
  have hs := ha.short (by omega)
  obtain ⟨s, A, n, c, A', n', c', xs, ys, rfl, h, h', hn, hn', hp⟩ := ha
  have hO := fun W (hW : Below w.heap.size w W) => Rnorm_any s A A' n c n' c' xs ys W (h.below hW) (h'.below hW) (by omega) (by omega)
  rw [hp] at hO
  have HO := hid hO
  clear hO h h' hp hn hn'
  have HB := hid ((B3.new w 53 (.bool s) (.slice A n c) (.slice A' n' c')).alloc (.cells #[.bool false, .slice none 0 0, .slice none 0 0] 53))
  have HZ := hid (B3.newg (w.alloc (.cells #[.bool s, .slice A n c, .slice A' n' c'] 53)) 53 (.bool false) (.slice none 0 0) (.slice none 0 0) (w.heap.size + 1) (by simp))
  obtain ⟨k0, k1, k2, _, _, _⟩ := HB.out.cells
  have lU := units_len hs (show k ≤ 60 by omega)
  have lT := limbs_ten k
  go_enter Tryz.func23, Tryz.ntmps23
  go_upto_region 2 with (first
    | (go_at_call 30; refine (HO.out _ (by repeat first | exact Below.refl _ _ | assumption | refine Pg.Below.then_ ?_ (by assumption) | refine Pg.Below.new_ ?_ _ | refine Pg.Below.drewN_ ?_ _)).mono ?_; rintro e w1 ⟨A1, c1, A2, c2, rfl, hr1, hr2, hb1⟩; have hBr := HB.out.below hb1; clear k0 k1 k2; obtain ⟨k0, k1, k2, f0, f1, f2⟩ := hBr.cells)
    | (go_at_call 31; refine (held_any k _ hk).mono ?_; rintro e w' ⟨rfl, rfl⟩))
  have hw1 : Below w.heap.size w w1 := (by repeat first | exact Below.refl _ _ | assumption | refine Pg.Below.then_ ?_ (by assumption) | refine Pg.Below.new_ ?_ _ | refine Pg.Below.drewN_ ?_ _)
  have hB2 := hBr.set (.bool (rneg q)) (.slice A1 (limbs (rnum q)).length c1) (.slice A2 (limbs q.den).length c2)
  have hs1 := hBr.row hr1 (.bool (rneg q)) (.slice A1 (limbs (rnum q)).length c1) (.slice A2 (limbs q.den).length c2)
  have hs2 := hBr.row hr2 (.bool (rneg q)) (.slice A1 (limbs (rnum q)).length c1) (.slice A2 (limbs q.den).length c2)
  have hbs := B3.belowSet hw1 (Nat.le_refl _) (.bool (rneg q)) (.slice A1 (limbs (rnum q)).length c1) (.slice A2 (limbs q.den).length c2)
  have HZ1 := hid ((HZ.out.below hb1).other3 (by omega : w.heap.size + 1 ≠ w.heap.size) (.bool (rneg q)) (.slice A1 (limbs (rnum q)).length c1) (.slice A2 (limbs q.den).length c2))
  generalize ((w1.setCell ⟨w.heap.size, 0, none⟩ (.bool (rneg q))).setCell ⟨w.heap.size, 1, none⟩ (.slice A1 (limbs (rnum q)).length c1)).setCell ⟨w.heap.size, 2, none⟩ (.slice A2 (limbs q.den).length c2) = w2 at *
  have HBX := hid hB2
  clear hBr hr1 hr2 hb1 hw1 HB HO k0 k1 k2 f0 f1 f2 hB2
  refine draw_last [9, 10, 11, 12, 13, 14, 15, 16] [.is (.pointer (some ⟨w.heap.size, 0, none⟩)), .is (.bool (rneg q)), .is (.agg #[.bool (rneg q), .slice A1 (limbs (rnum q)).length c1, .slice A2 (limbs q.den).length c2]), .is (.int .i64 (k : Int)), .row (unitsN q k), .is (.int .i64 (k : Int)), .row (10 ^ k), .rat (roundQ q k)]
    (by kernel_rfl) (by kernel_rfl) (by kernel_rfl) (by decide) (by kernel_rfl) (by kernel_rfl) (by kernel_rfl) rfl ?_ ?_
  · refine ⟨?_, ?_, ?_, ?_, ?_, ?_, ?_, ?_, trivial⟩
    · intro a w3 hA K hK
      have t2 := hA.old 2 _ rfl rfl
      go_simp
      exact hK _ _ (by first | rfl | exact congrArg _ (by first | rfl | omega | (rw [IntKind.wrap_i64]; omega))) (Below.refl _ _)
    · intro a w3 hA K hK
      have t9 := bt_is hA 0 9 rfl rfl (by kernel_rfl)
      obtain ⟨k0, k1, k2, _, _, _⟩ := (HBX.out.below hA.below).cells
      go_simp
      exact hK _ _ (by first | rfl | exact congrArg _ (by first | rfl | omega | (rw [IntKind.wrap_i64]; omega))) (Below.refl _ _)
    · intro a w3 hA K hK
      have t2 := hA.old 2 _ rfl rfl
      obtain ⟨k0, k1, k2, _, _, _⟩ := (HBX.out.below hA.below).cells
      go_simp
      exact hK _ _ (by first | rfl | exact congrArg _ (by first | rfl | omega | (rw [IntKind.wrap_i64]; omega))) (Below.refl _ _)
    · intro a w3 hA K hK
      have t1 := hA.old 1 _ rfl rfl
      go_simp
      exact hK _ _ (by first | rfl | exact congrArg _ (by first | rfl | omega | (rw [IntKind.wrap_i64]; omega))) (Below.refl _ _)
    · intro a w3 hA K hK
      have t11 := bt_is hA 2 11 rfl rfl (by kernel_rfl)
      have t12 := bt_is hA 3 12 rfl rfl (by kernel_rfl)
      have hC := dunits_any (rneg q) (rnum q) q.den k A1 A2 c1 c2 w3 (hs1.below hA.below) (hs2.below hA.below) hs.1 hs.2 q.den_nz (by omega)
      go_simp
      refine hC.mono ?_
      rintro e w4 ⟨A3, c3, rfl, hr, hb⟩
      exact hK _ _ ⟨_, _, rfl, hr⟩ hb
    · intro a w3 hA K hK
      have t1 := hA.old 1 _ rfl rfl
      go_simp
      exact hK _ _ (by first | rfl | exact congrArg _ (by first | rfl | omega | (rw [IntKind.wrap_i64]; omega))) (Below.refl _ _)
    · intro a w3 hA K hK
      have t14 := bt_is hA 5 14 rfl rfl (by kernel_rfl)
      have hC := dten_any k w3 (by omega)
      go_simp
      refine hC.mono ?_
      rintro e w4 ⟨A3, c3, rfl, hr, hb⟩
      exact hK _ _ ⟨_, _, rfl, hr⟩ hb
    · intro a w3 hA K hK
      have t10 := bt_is hA 1 10 rfl rfl (by kernel_rfl)
      obtain ⟨A13, c13, t13, r13⟩ := bt_row hA 4 13 rfl rfl (by kernel_rfl)
      obtain ⟨A15, c15, t15, r15⟩ := bt_row hA 6 15 rfl rfl (by kernel_rfl)
      have hC := Rof_E (rneg q) A13 A15 _ c13 _ c15 (unitsN q k) (10 ^ k) _ _ (roundQ q k) w3 r13 r15 (val_limbs _) (val_limbs _) (by omega) (by omega) rfl
      go_simp
      refine hC.mono ?_
      rintro e w4 ⟨A3, c3, A4, c4, rfl, hr, hr', hb⟩
      exact hK _ _ ⟨_, _, _, _, rfl, hr, hr'⟩ hb
  rintro vs w5 hV hb5 act hact hold hnew K hK
  have hV' := hV.is_
  clear hV
  obtain ⟨_, rfl, hV⟩ := hV'
  have hV' := hV.is_
  clear hV
  obtain ⟨_, rfl, hV⟩ := hV'
  have hV' := hV.is_
  clear hV
  obtain ⟨_, rfl, hV⟩ := hV'
  have hV' := hV.is_
  clear hV
  obtain ⟨_, rfl, hV⟩ := hV'
  have hV' := hV.row_
  clear hV
  obtain ⟨A13, c13, _, rfl, r13, hV⟩ := hV'
  have hV' := hV.is_
  clear hV
  obtain ⟨_, rfl, hV⟩ := hV'
  have hV' := hV.row_
  clear hV
  obtain ⟨A15, c15, _, rfl, r15, hV⟩ := hV'
  have hV' := hV.rat_
  clear hV
  obtain ⟨A16, c16, B16, d16, _, rfl, r16, s16, hV⟩ := hV'
  obtain rfl := hV.nil_
  clear hV
  simp only [puts] at hact
  have tq1 := hold 4 _ rfl rfl
  have tq2 := hnew 7 16 _ rfl rfl
  clear hold hnew
  have Hact := hid hact
  clear hact
  have hBz := HZ1.out.below hb5
  obtain ⟨k0, k1, k2, f0, f1, f2⟩ := hBz.cells
  go_simp
  refine hK _ _ ?_
  have hact := Hact.out
  clear Hact tq1 tq2
  subst hact
  go_simp
  go_wp2_with fail
  have hBr := hBz
  refine bodyPost_ret (by have q0 := fun u0 u1 u2 => (hBr.set u0 u1 u2).cells.1; have q1 := fun u0 u1 u2 => (hBr.set u0 u1 u2).cells.2.1; have q2 := fun u0 u1 u2 => (hBr.set u0 u1 u2).cells.2.2.1; simp [results, Tryz.results23, go_sem, q0, q1, q2]) rfl (RatRet.put hBr (by omega) (Below.then_ hbs hb5) rfl rfl rfl r16 s16 rfl rfl)

set_option maxRecDepth 100000 in
set_option maxHeartbeats 4000000 in
/-- dec.Fixed. -/
theorem Fixed_any {v : Value} {q : Rat} (k : Nat) (w : World) (ha : RArg w v q 1000) (hk : k ≤ 9) :
    Calls Tryz.prog 21 #[v, .int .i64 (k : Int)] w fun e w' => e = .returned (.string (str (fixedT q k))) ∧ Below w.heap.size w w' := by
  have hs := ha.short (by omega)
  obtain ⟨s, A, n, c, A', n', c', xs, ys, rfl, h, h', hn, hn', hp⟩ := ha
  have hO := fun W (hW : Below w.heap.size w W) => Rnorm_any s A A' n c n' c' xs ys W (h.below hW) (h'.below hW) (by omega) (by omega)
  rw [hp] at hO
  have HO := hid hO
  clear hO h h' hp hn hn'
  have HB := hid (B3.new w 53 (.bool s) (.slice A n c) (.slice A' n' c'))
  obtain ⟨k0, k1, k2, _, _, _⟩ := HB.out.cells
  have lU := units_len hs (show k ≤ 60 by omega)
  have ld := dtext_len lU
  have ld0 := length_dtext_pos (unitsN q k)
  have lp := pt_len (dtext (unitsN q k)) k
  rw [pt_dtext] at lp
  have ls := stext_len (rneg (roundQ q k))
  go_enter Tryz.func21, Tryz.ntmps21
  go_upto_region 2 with (first
    | (go_at_call 30; refine (HO.out _ (by repeat first | exact Below.refl _ _ | assumption | refine Pg.Below.then_ ?_ (by assumption) | refine Pg.Below.new_ ?_ _ | refine Pg.Below.drewN_ ?_ _)).mono ?_; rintro e w1 ⟨A1, c1, A2, c2, rfl, hr1, hr2, hb1⟩; have hBr := HB.out.below hb1; clear k0 k1 k2; obtain ⟨k0, k1, k2, f0, f1, f2⟩ := hBr.cells)
    | (go_at_call 31; refine (held_any k _ hk).mono ?_; rintro e w' ⟨rfl, rfl⟩))
  have hw1 : Below w.heap.size w w1 := (by repeat first | exact Below.refl _ _ | assumption | refine Pg.Below.then_ ?_ (by assumption) | refine Pg.Below.new_ ?_ _ | refine Pg.Below.drewN_ ?_ _)
  have hB2 := hBr.set (.bool (rneg q)) (.slice A1 (limbs (rnum q)).length c1) (.slice A2 (limbs q.den).length c2)
  have hs1 := hBr.row hr1 (.bool (rneg q)) (.slice A1 (limbs (rnum q)).length c1) (.slice A2 (limbs q.den).length c2)
  have hs2 := hBr.row hr2 (.bool (rneg q)) (.slice A1 (limbs (rnum q)).length c1) (.slice A2 (limbs q.den).length c2)
  have hbs := B3.belowSet hw1 (Nat.le_refl _) (.bool (rneg q)) (.slice A1 (limbs (rnum q)).length c1) (.slice A2 (limbs q.den).length c2)
  generalize ((w1.setCell ⟨w.heap.size, 0, none⟩ (.bool (rneg q))).setCell ⟨w.heap.size, 1, none⟩ (.slice A1 (limbs (rnum q)).length c1)).setCell ⟨w.heap.size, 2, none⟩ (.slice A2 (limbs q.den).length c2) = w2 at *
  have HBX := hid hB2
  clear hBr hr1 hr2 hb1 hw1 HB HO k0 k1 k2 f0 f1 f2 hB2
  refine draw_hd [9, 10, 11, 12, 13, 14, 15, 16, 17, 18, 19, 4] [.is (.agg #[.bool (rneg q), .slice A1 (limbs (rnum q)).length c1, .slice A2 (limbs q.den).length c2]), .is (.int .i64 (k : Int)), .rat (roundQ q k), .is (.string (str (stext (rneg (roundQ q k))))), .is (.agg #[.bool (rneg q), .slice A1 (limbs (rnum q)).length c1, .slice A2 (limbs q.den).length c2]), .is (.int .i64 (k : Int)), .row (unitsN q k), .is (.string (str (dtext (unitsN q k)))), .is (.int .i64 (k : Int)), .is (.string (str (ptext (unitsN q k) k))), .is (.string (str (fixedT q k))), .is (.string (str (fixedT q k)))]
    (by kernel_rfl) (by kernel_rfl) (by kernel_rfl) (by decide) (by kernel_rfl) (by kernel_rfl) ?_ ?_
  · refine ⟨?_, ?_, ?_, ?_, ?_, ?_, ?_, ?_, ?_, ?_, ?_, ?_, trivial⟩
    · intro a w3 hA K hK
      have t2 := hA.old 2 _ rfl rfl
      obtain ⟨k0, k1, k2, _, _, _⟩ := (HBX.out.below hA.below).cells
      go_simp
      exact hK _ _ (by first | rfl | exact congrArg _ (by first | rfl | omega | (rw [IntKind.wrap_i64]; omega))) (Below.refl _ _)
    · intro a w3 hA K hK
      have t1 := hA.old 1 _ rfl rfl
      go_simp
      exact hK _ _ (by first | rfl | exact congrArg _ (by first | rfl | omega | (rw [IntKind.wrap_i64]; omega))) (Below.refl _ _)
    · intro a w3 hA K hK
      have t9 := bt_is hA 0 9 rfl rfl (by kernel_rfl)
      have t10 := bt_is hA 1 10 rfl rfl (by kernel_rfl)
      have hC := Round_any k w3 (RArg.norm (hs1.below hA.below) (hs2.below hA.below) hs.1 hs.2) hk
      go_simp
      refine hC.mono ?_
      rintro e w4 ⟨A3, c3, A4, c4, rfl, hr, hr', hb⟩
      exact hK _ _ ⟨_, _, _, _, rfl, hr, hr'⟩ hb
    · intro a w3 hA K hK
      obtain ⟨A11, c11, B11, d11, t11, r11, s11⟩ := bt_rat hA 2 11 rfl rfl (by kernel_rfl)
      have hC := dsign_any (rneg (roundQ q k)) (.slice A11 (limbs (rnum (roundQ q k))).length c11) (.slice B11 (limbs (roundQ q k).den).length d11) w3
      go_simp
      refine hC.mono ?_
      rintro e w4 ⟨rfl, hb⟩
      exact hK _ _ rfl hb
    · intro a w3 hA K hK
      have t2 := hA.old 2 _ rfl rfl
      obtain ⟨k0, k1, k2, _, _, _⟩ := (HBX.out.below hA.below).cells
      go_simp
      exact hK _ _ (by first | rfl | exact congrArg _ (by first | rfl | omega | (rw [IntKind.wrap_i64]; omega))) (Below.refl _ _)
    · intro a w3 hA K hK
      have t1 := hA.old 1 _ rfl rfl
      go_simp
      exact hK _ _ (by first | rfl | exact congrArg _ (by first | rfl | omega | (rw [IntKind.wrap_i64]; omega))) (Below.refl _ _)
    · intro a w3 hA K hK
      have t13 := bt_is hA 4 13 rfl rfl (by kernel_rfl)
      have t14 := bt_is hA 5 14 rfl rfl (by kernel_rfl)
      have hC := dunits_any (rneg q) (rnum q) q.den k A1 A2 c1 c2 w3 (hs1.below hA.below) (hs2.below hA.below) hs.1 hs.2 q.den_nz (by omega)
      go_simp
      refine hC.mono ?_
      rintro e w4 ⟨A3, c3, rfl, hr, hb⟩
      exact hK _ _ ⟨_, _, rfl, hr⟩ hb
    · intro a w3 hA K hK
      obtain ⟨A15, c15, t15, r15⟩ := bt_row hA 6 15 rfl rfl (by kernel_rfl)
      have hC := Print_any A15 _ c15 _ w3 r15 (by omega)
      rw [val_limbs] at hC
      go_simp
      refine hC.mono ?_
      rintro e w4 ⟨rfl, hb⟩
      exact hK _ _ rfl hb
    · intro a w3 hA K hK
      have t1 := hA.old 1 _ rfl rfl
      go_simp
      exact hK _ _ (by first | rfl | exact congrArg _ (by first | rfl | omega | (rw [IntKind.wrap_i64]; omega))) (Below.refl _ _)
    · intro a w3 hA K hK
      have t16 := bt_is hA 7 16 rfl rfl (by kernel_rfl)
      have t17 := bt_is hA 8 17 rfl rfl (by kernel_rfl)
      have hC := pointed_any (dtext (unitsN q k)) k w3 (by omega) ld0 (by omega)
      go_simp
      refine hC.mono ?_
      rintro e w4 ⟨rfl, hb⟩
      exact hK _ _ rfl hb
    · intro a w3 hA K hK
      have t12 := bt_is hA 3 12 rfl rfl (by kernel_rfl)
      have t18 := bt_is hA 9 18 rfl rfl (by kernel_rfl)
      have q1 := add_text (stext (rneg (roundQ q k))) (ptext (unitsN q k) k) (by omega) w3
      rw [fixedT_eq] at q1
      go_simp
      exact hK _ _ rfl (Below.refl _ _)
    · intro a w3 hA K hK
      have t19 := bt_is hA 10 19 rfl rfl (by kernel_rfl)
      go_simp
      exact hK _ _ (by first | rfl | exact congrArg _ (by first | rfl | omega | (rw [IntKind.wrap_i64]; omega))) (Below.refl _ _)
  rintro vs w5 hV hb5 act hact
  have hV' := hV.is_
  clear hV
  obtain ⟨_, rfl, hV⟩ := hV'
  have hV' := hV.is_
  clear hV
  obtain ⟨_, rfl, hV⟩ := hV'
  have hV' := hV.rat_
  clear hV
  obtain ⟨A11, c11, B11, d11, _, rfl, r11, s11, hV⟩ := hV'
  have hV' := hV.is_
  clear hV
  obtain ⟨_, rfl, hV⟩ := hV'
  have hV' := hV.is_
  clear hV
  obtain ⟨_, rfl, hV⟩ := hV'
  have hV' := hV.is_
  clear hV
  obtain ⟨_, rfl, hV⟩ := hV'
  have hV' := hV.row_
  clear hV
  obtain ⟨A15, c15, _, rfl, r15, hV⟩ := hV'
  have hV' := hV.is_
  clear hV
  obtain ⟨_, rfl, hV⟩ := hV'
  have hV' := hV.is_
  clear hV
  obtain ⟨_, rfl, hV⟩ := hV'
  have hV' := hV.is_
  clear hV
  obtain ⟨_, rfl, hV⟩ := hV'
  have hV' := hV.is_
  clear hV
  obtain ⟨_, rfl, hV⟩ := hV'
  have hV' := hV.is_
  clear hV
  obtain ⟨_, rfl, hV⟩ := hV'
  obtain rfl := hV.nil_
  clear hV
  simp only [puts] at hact
  subst hact
  go_simp
  go_wp2_with fail
  go_ret
  exact ⟨rfl, Below.then_ hbs hb5⟩

/-- pantographref3.sign. -/
theorem rsign_any (b : Bool) (w : World) : Calls Tryz.prog 69 #[.bool b] w fun e w' => e = .returned (.string (str (stext b))) ∧ w = w' := by
  rcases b with _ | _
  all_goals
    go_enter Tryz.func69, Tryz.ntmps69
    go_wp2_with fail
    go_ret
    exact ⟨rfl, rfl⟩
set_option maxHeartbeats 1000000 in
/-- pantographref3.digits. -/
theorem digits_any (A : Option Addr) (c N k : Nat) (z : Int) (w : World) (h : Row w A (limbs N).length c (limbs N)) (lN : (limbs N).length ≤ 5000) (hz : z = ((k + 1 : Nat) : Int)) (hk : k ≤ 60) :
    Calls Tryz.prog 68 #[.slice A (limbs N).length c, .int .i64 z] w fun e w' => e = .returned (.string (str (pad k (dtext N)))) ∧ Below w.heap.size w w' := by
  subst hz
  have hP := rPrint_any A _ c _ w h (by omega)
  rw [val_limbs] at hP
  have HP := hid hP
  have ld := dtext_len lN
  clear hP h
  generalize dtext N = l at *
  go_enter Tryz.func68, Tryz.ntmps68
  go_wp2_with (go_at_call 90; refine HP.out.mono ?_; rintro e w1 ⟨rfl, hb1⟩)
  go_loopw [5] (fun s wr => ∃ j : Nat, j ≤ k + 1 - l.length ∧ s = .string (str (List.replicate j 48 ++ l)) ∧ wr = w1) (fun s _ => k + 1 - (match s with | .string b => b.size | _ => 0))
  case atStart => exact ⟨0, by omega, rfl, rfl⟩
  case round =>
    obtain ⟨j, hj, rfl, rfl⟩ := hrel
    obtain ⟨L, hL⟩ : ∃ L, List.replicate j (48 : UInt8) ++ l = L := ⟨_, rfl⟩
    have hLl : L.length = j + l.length := by rw [← hL, List.length_append, List.length_replicate]
    have sz := str_size L
    rw [hL]
    have q1 : ∀ W, (Op.stringOp .add ⟨#[48]⟩ (str L)).run Tryz.prog W = .ok (.string (str (48 :: L))) W := fun W => add_text [48] L (by rw [List.length_singleton]; omega) W
    by_cases hlt : L.length < k + 1
    · have hlt' : (L.length : Int) < ((k : Int) + 1) := by omega
      go_wp2_with fail
      have sz2 := str_size (48 :: L)
      refine ⟨⟨j + 1, by omega, by rw [List.replicate_succ, List.cons_append, hL], trivial⟩, ?_⟩
      simp only [sz, sz2, List.length_cons]
      omega
    · have hlt' : ¬ (L.length : Int) < ((k : Int) + 1) := by omega
      go_wp2_with fail
      go_ret
      refine ⟨?_, hb1⟩
      have : pad k l = L := by unfold pad; rw [← hL]; congr 2; omega
      rw [this]; rfl
end Go.Proofs.YtbhieajpodnfpaaGreat
namespace Go.Proofs.YtbhieajpodnfpaaGreat
open Go.RowKit Pg

set_option maxHeartbeats 2000000 in
/-- pantographref3.point. -/
theorem point_any (b : Bool) (A : Option Addr) (c N k : Nat) (w : World) (h : Row w A (limbs N).length c (limbs N)) (lN : (limbs N).length ≤ 5000) (hk : k ≤ 60) :
    Calls Tryz.prog 39 #[.bool b, .slice A (limbs N).length c, .int .i64 (k : Int)] w fun e w' => e = .returned (.string (str (stext (b && decide (0 < N)) ++ ptext N k))) ∧ Below w.heap.size w w' := by
  have HD := hid fun (z : Int) (hz : z = ((k + 1 : Nat) : Int)) => digits_any A c N k z w h lN hz hk
  have ld := dtext_len lN
  have ld0 := length_dtext_pos N
  have hp := pad_length k (dtext N)
  have hpl : (pad k (dtext N)).length ≤ 100100 := by unfold pad; rw [List.length_append, List.length_replicate]; omega
  have HG := hid fun (B : Bool) (W : World) => rsign_any B W
  have hlz : decide (0 < N) = decide ((0 : Int) < ((limbs N).length : Int)) := by
    by_cases h0 : N = 0
    · subst h0; rfl
    · have := (tl_top h0).1
      rw [decide_eq_true (by omega), decide_eq_true (by omega)]
  have hls := stext_len (b && decide (0 < N))
  obtain ⟨B, hB⟩ : ∃ B, (b && decide (0 < N)) = B := ⟨_, rfl⟩
  rw [hB] at hls ⊢
  rw [hlz] at hB
  have hcm := h.cm
  have hnc := h.nc
  clear h hlz
  generalize (limbs N).length = m at *
  by_cases h0 : k = 0
  · subst h0
    have hpt : ptext N 0 = pad 0 (dtext N) := by unfold ptext; rw [if_pos rfl, pad_zero _ ld0]
    rw [hpt]
    obtain ⟨L, hL⟩ : ∃ L, pad 0 (dtext N) = L := ⟨_, rfl⟩
    rw [hL] at HD hp hpl ⊢
    have q4 : ∀ W, (Op.stringOp .add (str (stext B)) (str L)).run Tryz.prog W = .ok (.string (str (stext B ++ L))) W := fun W => add_text _ _ (by omega) W
    clear hL hpt ld ld0
    rcases b with _ | _
    · have hB' : B = false := by rw [← hB]; rfl
      subst hB'
      go_enter Tryz.func39, Tryz.ntmps39
      go_wp2_with (first
        | (go_at_call 68; refine (HD.out _ (by omega)).mono ?_; rintro e w1 ⟨rfl, hb1⟩)
        | (go_at_call 69; refine (HG.out _ _).mono ?_; rintro e w2 ⟨rfl, rfl⟩))
      go_ret
      exact ⟨rfl, (by repeat first | exact Below.refl _ _ | assumption | refine Pg.Below.then_ ?_ (by assumption) | refine Pg.Below.new_ ?_ _ | refine Pg.Below.drewN_ ?_ _)⟩
    · by_cases hz : 0 < m
      · have hB' : B = true := by rw [← hB, decide_eq_true (show (0 : Int) < (m : Int) by omega)]; rfl
        subst hB'
        have hzd : decide (0 < m) = true := decide_eq_true hz
        clear hB
        go_enter Tryz.func39, Tryz.ntmps39
        go_wp2_with (first
          | (go_at_call 68; refine (HD.out _ (by omega)).mono ?_; rintro e w1 ⟨rfl, hb1⟩)
          | (go_at_call 69; refine (HG.out _ _).mono ?_; rintro e w2 ⟨rfl, rfl⟩))
        go_ret
        exact ⟨rfl, (by repeat first | exact Below.refl _ _ | assumption | refine Pg.Below.then_ ?_ (by assumption) | refine Pg.Below.new_ ?_ _ | refine Pg.Below.drewN_ ?_ _)⟩
      · have hB' : B = false := by rw [← hB, decide_eq_false (show ¬ (0 : Int) < (m : Int) by omega)]; rfl
        subst hB'
        have hz0 : (m : Int) = 0 := by omega
        clear hB hz
        go_enter Tryz.func39, Tryz.ntmps39
        go_wp2_with (first
          | (go_at_call 68; refine (HD.out _ (by omega)).mono ?_; rintro e w1 ⟨rfl, hb1⟩)
          | (go_at_call 69; refine (HG.out _ _).mono ?_; rintro e w2 ⟨rfl, rfl⟩))
        go_ret
        exact ⟨rfl, (by repeat first | exact Below.refl _ _ | assumption | refine Pg.Below.then_ ?_ (by assumption) | refine Pg.Below.new_ ?_ _ | refine Pg.Below.drewN_ ?_ _)⟩
  · have hpt : ptext N k = (pad k (dtext N)).take ((pad k (dtext N)).length - k) ++ 46 :: (pad k (dtext N)).drop ((pad k (dtext N)).length - k) := by
      unfold ptext; rw [if_neg h0]
    rw [hpt]
    obtain ⟨L, hL⟩ : ∃ L, pad k (dtext N) = L := ⟨_, rfl⟩
    rw [hL] at HD hp hpl ⊢
    have sz := str_size L
    have q2 : ∀ W, (Instr.slice 9 (.string (str L)) none (some (.int .i64 ((L.length : Int) - (k : Int)))) none).run Tryz.prog W = .ok (.string (str (L.take (L.length - k)))) W := fun W => by
      rw [run_slice_string_h W _ _ Tryz.underlying9 _ _ (by omega) (by rw [sz]; omega)]
      rw [show ((L.length : Int) - (k : Int)).toNat = L.length - k by omega, str_extract]
    have q3 : ∀ W, (Instr.slice 9 (.string (str L)) (some (.int .i64 ((L.length : Int) - (k : Int)))) none none).run Tryz.prog W = .ok (.string (str (L.drop (L.length - k)))) W := fun W => by
      rw [run_slice_string_l W _ _ Tryz.underlying9 _ _ (by omega) (by rw [sz]; omega)]
      rw [show ((L.length : Int) - (k : Int)).toNat = L.length - k by omega, str_extract_end]
    have q4 : ∀ W, (Op.stringOp .add (str (L.take (L.length - k))) ⟨#[46]⟩).run Tryz.prog W = .ok (.string (str (L.take (L.length - k) ++ [46]))) W := fun W => add_text (L.take (L.length - k)) [46] (by rw [List.length_take, List.length_singleton]; omega) W
    have q5 : ∀ W, (Op.stringOp .add (str (L.take (L.length - k) ++ [46])) (str (L.drop (L.length - k)))).run Tryz.prog W = .ok (.string (str (L.take (L.length - k) ++ 46 :: L.drop (L.length - k)))) W := fun W => by
      have := add_text (L.take (L.length - k) ++ [46]) (L.drop (L.length - k)) (by simp only [List.length_append, List.length_take, List.length_drop, List.length_singleton]; omega) W
      rwa [List.append_assoc] at this
    obtain ⟨M, hM⟩ : ∃ M, L.take (L.length - k) ++ 46 :: L.drop (L.length - k) = M := ⟨_, rfl⟩
    have hMl : M.length ≤ 100200 := by rw [← hM]; simp only [List.length_append, List.length_take, List.length_cons, List.length_drop]; omega
    rw [hM] at q5 ⊢
    have q6 : ∀ W, (Op.stringOp .add (str (stext B)) (str M)).run Tryz.prog W = .ok (.string (str (stext B ++ M))) W := fun W => add_text _ _ (by omega) W
    have hw : IntKind.i64.wrap ((L.length : Int) - (k : Int)) = (L.length : Int) - (k : Int) := by rw [IntKind.wrap_i64]; omega
    have hk0 : (0 : Int) < (k : Int) := by omega
    clear hL hpt ld ld0 hM h0
    rcases b with _ | _
    · have hB' : B = false := by rw [← hB]; rfl
      subst hB'
      go_enter Tryz.func39, Tryz.ntmps39
      go_upto_region 3 with (go_at_call 68; refine (HD.out _ (by omega)).mono ?_; rintro e w1 ⟨rfl, hb1⟩)
      go_quiet (fail)
      go_wp2_with (go_at_call 69; refine (HG.out _ _).mono ?_; rintro e w2 ⟨rfl, rfl⟩)
      go_ret
      exact ⟨rfl, (by repeat first | exact Below.refl _ _ | assumption | refine Pg.Below.then_ ?_ (by assumption) | refine Pg.Below.new_ ?_ _ | refine Pg.Below.drewN_ ?_ _)⟩
    · by_cases hz : 0 < m
      · have hB' : B = true := by rw [← hB, decide_eq_true (show (0 : Int) < (m : Int) by omega)]; rfl
        subst hB'
        have hzd : decide (0 < m) = true := decide_eq_true hz
        clear hB
        go_enter Tryz.func39, Tryz.ntmps39
        go_upto_region 3 with (go_at_call 68; refine (HD.out _ (by omega)).mono ?_; rintro e w1 ⟨rfl, hb1⟩)
        go_quiet (fail)
        go_wp2_with (go_at_call 69; refine (HG.out _ _).mono ?_; rintro e w2 ⟨rfl, rfl⟩)
        go_ret
        exact ⟨rfl, (by repeat first | exact Below.refl _ _ | assumption | refine Pg.Below.then_ ?_ (by assumption) | refine Pg.Below.new_ ?_ _ | refine Pg.Below.drewN_ ?_ _)⟩
      · have hB' : B = false := by rw [← hB, decide_eq_false (show ¬ (0 : Int) < (m : Int) by omega)]; rfl
        subst hB'
        have hz0 : (m : Int) = 0 := by omega
        clear hB hz
        go_enter Tryz.func39, Tryz.ntmps39
        go_upto_region 3 with (go_at_call 68; refine (HD.out _ (by omega)).mono ?_; rintro e w1 ⟨rfl, hb1⟩)
        go_quiet (fail)
        go_wp2_with (go_at_call 69; refine (HG.out _ _).mono ?_; rintro e w2 ⟨rfl, rfl⟩)
        go_ret
        exact ⟨rfl, (by repeat first | exact Below.refl _ _ | assumption | refine Pg.Below.then_ ?_ (by assumption) | refine Pg.Below.new_ ?_ _ | refine Pg.Below.drewN_ ?_ _)⟩

set_option maxRecDepth 100000 in
set_option maxHeartbeats 4000000 in
/-- pantographref3.Fixed. -/
theorem rFixed_any {v : Value} {q : Rat} (k : Nat) (w : World) (ha : RArg w v q 1000) (hk : k ≤ 9) :
    Calls Tryz.prog 24 #[v, .int .i64 (k : Int)] w fun e w' => e = .returned (.string (str (fixedT q k))) ∧ Below w.heap.size w w' := by
  have HA := hid ha
  have hs := ha.short (by omega)
  obtain ⟨s, A, n, c, A', n', c', xs, ys, rfl, h, h', hn, hn', hp⟩ := ha
  have hO := fun W (hW : Below w.heap.size w W) => r2Norm_any s A A' n c n' c' xs ys W (h.below hW) (h'.below hW) (by omega) (by omega)
  rw [hp] at hO
  have HO := hid hO
  clear hO h h' hp hn hn'
  have HB := hid (B3.new w 53 (.bool s) (.slice A n c) (.slice A' n' c'))
  have lU := units_len hs (show k ≤ 60 by omega)
  have hb0 : Below w.heap.size w (w.alloc (.cells #[.bool s, .slice A n c, .slice A' n' c'] 53)) := Below.new_ (Below.refl _ _) _
  have hkm : min (max (k : Int) 0) 9 = (k : Int) := by omega
  go_enter Tryz.func24, Tryz.ntmps24
  go_upto_region 2 with fail
  try rw [hkm]
  generalize w.alloc (.cells #[.bool s, .slice A n c, .slice A' n' c'] 53) = w1 at *
  refine draw_hd [8, 9, 10, 11, 12, 13, 14, 15, 4] [.is (.agg #[.bool s, .slice A n c, .slice A' n' c']), .rat q, .is (.bool (rneg q)), .is (.agg #[.bool s, .slice A n c, .slice A' n' c']), .is (.int .i64 (k : Int)), .row (unitsN q k), .is (.int .i64 (k : Int)), .is (.string (str (fixedT q k))), .is (.string (str (fixedT q k)))]
    (by kernel_rfl) (by kernel_rfl) (by kernel_rfl) (by decide) (by kernel_rfl) (by kernel_rfl) ?_ ?_
  · refine ⟨?_, ?_, ?_, ?_, ?_, ?_, ?_, ?_, ?_, trivial⟩
    · intro a w3 hA K hK
      have t2 := hA.old 2 _ rfl rfl
      obtain ⟨k0, k1, k2, _, _, _⟩ := (HB.out.below hA.below).cells
      go_simp
      exact hK _ _ (by first | rfl | exact congrArg _ (by first | rfl | omega | (rw [IntKind.wrap_i64]; omega))) (Below.refl _ _)
    · intro a w3 hA K hK
      have t8 := bt_is hA 0 8 rfl rfl (by kernel_rfl)
      have hC := HO.out w3 (Below.then_ hb0 hA.below)
      go_simp
      refine hC.mono ?_
      rintro e w4 ⟨A3, c3, A4, c4, rfl, hr, hr', hb⟩
      exact hK _ _ ⟨_, _, _, _, rfl, hr, hr'⟩ hb
    · intro a w3 hA K hK
      obtain ⟨A9, c9, B9, d9, t9, r9, s9⟩ := bt_rat hA 1 9 rfl rfl (by kernel_rfl)
      go_simp
      exact hK _ _ (by first | rfl | exact congrArg _ (by first | rfl | omega | (rw [IntKind.wrap_i64]; omega))) (Below.refl _ _)
    · intro a w3 hA K hK
      have t2 := hA.old 2 _ rfl rfl
      obtain ⟨k0, k1, k2, _, _, _⟩ := (HB.out.below hA.below).cells
      go_simp
      exact hK _ _ (by first | rfl | exact congrArg _ (by first | rfl | omega | (rw [IntKind.wrap_i64]; omega))) (Below.refl _ _)
    · intro a w3 hA K hK
      have t1 := hA.old 1 _ rfl rfl
      go_simp
      exact hK _ _ (by first | rfl | exact congrArg _ (by first | rfl | omega | (rw [IntKind.wrap_i64]; omega))) (Below.refl _ _)
    · intro a w3 hA K hK
      have t11 := bt_is hA 3 11 rfl rfl (by kernel_rfl)
      have t12 := bt_is hA 4 12 rfl rfl (by kernel_rfl)
      have hC := runits_any k w3 (HA.out.below (Below.then_ hb0 hA.below)) (by omega)
      go_simp
      refine hC.mono ?_
      rintro e w4 ⟨A3, c3, rfl, hr, hb⟩
      exact hK _ _ ⟨_, _, rfl, hr⟩ hb
    · intro a w3 hA K hK
      have t1 := hA.old 1 _ rfl rfl
      go_simp
      exact hK _ _ (by first | rfl | exact congrArg _ (by first | rfl | omega | (rw [IntKind.wrap_i64]; omega))) (Below.refl _ _)
    · intro a w3 hA K hK
      have t10 := bt_is hA 2 10 rfl rfl (by kernel_rfl)
      obtain ⟨A13, c13, t13, r13⟩ := bt_row hA 5 13 rfl rfl (by kernel_rfl)
      have t14 := bt_is hA 6 14 rfl rfl (by kernel_rfl)
      have hC := point_any (rneg q) A13 c13 (unitsN q k) k w3 r13 (by omega) (by omega)
      go_simp
      refine hC.mono ?_
      rintro e w4 ⟨rfl, hb⟩
      exact hK _ _ rfl hb
    · intro a w3 hA K hK
      have t15 := bt_is hA 7 15 rfl rfl (by kernel_rfl)
      go_simp
      exact hK _ _ (by first | rfl | exact congrArg _ (by first | rfl | omega | (rw [IntKind.wrap_i64]; omega))) (Below.refl _ _)
  rintro vs w5 hV hb5 act hact
  have hV' := hV.is_
  clear hV
  obtain ⟨_, rfl, hV⟩ := hV'
  have hV' := hV.rat_
  clear hV
  obtain ⟨A9, c9, B9, d9, _, rfl, r9, s9, hV⟩ := hV'
  have hV' := hV.is_
  clear hV
  obtain ⟨_, rfl, hV⟩ := hV'
  have hV' := hV.is_
  clear hV
  obtain ⟨_, rfl, hV⟩ := hV'
  have hV' := hV.is_
  clear hV
  obtain ⟨_, rfl, hV⟩ := hV'
  have hV' := hV.row_
  clear hV
  obtain ⟨A13, c13, _, rfl, r13, hV⟩ := hV'
  have hV' := hV.is_
  clear hV
  obtain ⟨_, rfl, hV⟩ := hV'
  have hV' := hV.is_
  clear hV
  obtain ⟨_, rfl, hV⟩ := hV'
  have hV' := hV.is_
  clear hV
  obtain ⟨_, rfl, hV⟩ := hV'
  obtain rfl := hV.nil_
  clear hV
  simp only [puts] at hact
  subst hact
  go_simp
  go_wp2_with fail
  go_ret
  exact ⟨rfl, Below.then_ hb0 hb5⟩
end Go.Proofs.YtbhieajpodnfpaaGreat
