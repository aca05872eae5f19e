/- Walk: the law FltTos. Conditions: those that each theorem names. -/
import Derived.Test.YtgehoflkbckgkaaZ24
namespace Go.Proofs.Ytgehoflkbckgkaa
open Go.RowKit Pg

set_option maxRecDepth 100000 in
set_option maxHeartbeats 4000000 in
theorem law_FltTos (v : Value) (p : Rat) (by_ : Int) (w : World) (ha : RArg w v p 140737488355328) :
    Calls Try.prog 4 #[v, .int .i64 by_] w fun e w' => e = .returned (.bool true) ∧ Below w.heap.size w w' := by
  obtain ⟨s, A, n, c, A', n', c', xs, ys, rfl, h, h', hn, hn', hp⟩ := ha
  have HR0 : Hid (n ≤ 16 → n' ≤ 16 → RArg w (.agg #[.bool s, .slice A n c, .slice A' n' c']) p 16) := hid fun h1 h2 => ⟨_, _, _, _, _, _, _, _, _, rfl, h, h', h1, h2, hp⟩
  have HX := hid ((B3.new w 28 (.bool s) (.slice A n c) (.slice A' n' c')).alloc (.cells #[.bool s, .slice A n c, .slice A' n' c'] 28))
  have HB := hid (big_one (B3.newg (w.alloc (.cells #[.bool s, .slice A n c, .slice A' n' c'] 28)) 28 (.bool s) (.slice A n c) (.slice A' n' c') (w.heap.size + 1) (by simp)) hn hn' 1)
  obtain ⟨k0, k1, k2, _, _, _⟩ := (B3.new w 28 (.bool s) (.slice A n c) (.slice A' n' c')).cells
  clear h h' hp
  by_cases hi0 : -40 ≤ by_
  · by_cases hi1 : by_ ≤ 40
    · by_cases hi2 : 0 ≤ by_
      · obtain ⟨m, hm⟩ : ∃ m : Nat, by_ = (m : Int) := ⟨by_.toNat, by omega⟩
        have hm40 : m ≤ 40 := by omega
        go_enter Try.func4, Try.ntmps4
        go_wp2_with (go_at_call 22; refine HB.out.mono ?_; rintro e w1 ⟨b, rfl, hb16, hb1⟩; rcases b with _ | _; all_goals (have hXc := (HX.out.below hb1).cells; clear k0 k1 k2; obtain ⟨k0, k1, k2, _⟩ := hXc))
        · skip
          have hs16 : n ≤ 16 ∧ n' ≤ 16 := by have := hb16 trivial; omega
          have HR := hid (HR0.out hs16.1 hs16.2)
          have hb0 : Below w.heap.size w (w1.alloc (.cells #[.bool s, .slice A n c, .slice A' n' c'] 28)) := Below.new_ (Below.then_ (Below.new_ (Below.new_ (Below.refl _ _) _) _) hb1) _
          have HX1 := hid ((HX.out.below hb1).alloc (.cells #[.bool s, .slice A n c, .slice A' n' c'] 28))
          have HZ1 := hid (B3.new w1 28 (.bool s) (.slice A n c) (.slice A' n' c'))
          have hgw : w.heap.size ≤ w1.heap.size := by have := hb1.size; simp at this; omega
          have hsp := HR.out.short (by omega)
          clear HB HX HR0 hb16 hs16 hn hn'
          clear hb1 k0 k1 k2
          generalize hW : w1.alloc (.cells #[.bool s, .slice A n c, .slice A' n' c'] 28) = w2 at *
          have HS1 := hid fun W (k : Int) (hk : k = ((m : Nat) : Int)) => shifted_any (m) k W hk (by omega)
          have HS2 := hid fun W (k : Int) (hk : k = ((0 : Nat) : Int)) => shifted_any (0) k W hk (by omega)
          have l1 := limbs_shifted (m)
          have l2 := limbs_shifted (0)
          have hP2 : 2 ^ (32 * (0)) ≠ 0 := Nat.pos_iff_ne_zero.1 (Nat.two_pow_pos _)
          generalize 2 ^ (32 * (m)) = P1 at *
          generalize 2 ^ (32 * (0)) = P2 at *
          obtain ⟨r, hr⟩ : ∃ r, rv false P1 P2 = r := ⟨_, rfl⟩
          have hsr : Short r 42 := by rw [← hr]; exact Short.rv hP2 (by omega) (by omega)
          have hsq := hsp.mul hsr
          obtain ⟨z1, z2⟩ := hsr
          have Hr := hid hr
          clear hr hP2
          refine draw_last [16, 17, 18, 19, 20, 21, 22, 23, 24, 25] [.is (.agg #[.bool s, .slice A n c, .slice A' n' c']), .is (.int .i64 by_), .is (.int .i64 (m : Int)), .row P1, .is (.int .i64 by_), .is (.int .i64 (-(m : Int))), .is (.int .i64 0), .row P2, .rat r, .rat (p * r)]
            (by kernel_rfl) (by kernel_rfl) (by kernel_rfl) (by decide) (by kernel_rfl) (by kernel_rfl) (by kernel_rfl) rfl ?_ ?_
          · refine ⟨?_, ?_, ?_, ?_, ?_, ?_, ?_, ?_, ?_, ?_, trivial⟩
            · intro a w3 hA K hK
              have t2 := hA.old 2 _ rfl rfl
              obtain ⟨k0, k1, k2, _, _, _⟩ := (HX1.out.below hA.below).cells
              go_simp
              exact hK _ _ (by first | rfl | exact congrArg _ (by first | rfl | omega | (rw [IntKind.wrap_i64]; omega))) (Below.refl _ _)
            · intro a w3 hA K hK
              have t1 := hA.old 1 _ rfl rfl
              go_simp
              exact hK _ _ (by first | rfl | exact congrArg _ (by first | rfl | omega | (rw [IntKind.wrap_i64]; omega))) (Below.refl _ _)
            · intro a w3 hA K hK
              have t17 := bt_is hA 1 17 rfl rfl (by kernel_rfl)
              go_simp
              exact hK _ _ (by first | rfl | exact congrArg _ (by first | rfl | omega | (rw [IntKind.wrap_i64]; omega))) (Below.refl _ _)
            · intro a w3 hA K hK
              have t18 := bt_is hA 2 18 rfl rfl (by kernel_rfl)
              have hC := HS1.out w3 (m : Int) (by omega)
              go_simp
              refine hC.mono ?_
              rintro e w4 ⟨A3, c3, rfl, hr, hb⟩
              exact hK _ _ ⟨_, _, rfl, hr⟩ hb
            · intro a w3 hA K hK
              have t1 := hA.old 1 _ rfl rfl
              go_simp
              exact hK _ _ (by first | rfl | exact congrArg _ (by first | rfl | omega | (rw [IntKind.wrap_i64]; omega))) (Below.refl _ _)
            · intro a w3 hA K hK
              have t20 := bt_is hA 4 20 rfl rfl (by kernel_rfl)
              go_simp
              exact hK _ _ (by first | rfl | exact congrArg _ (by first | rfl | omega | (rw [IntKind.wrap_i64]; omega))) (Below.refl _ _)
            · intro a w3 hA K hK
              have t21 := bt_is hA 5 21 rfl rfl (by kernel_rfl)
              go_simp
              exact hK _ _ (by first | rfl | exact congrArg _ (by first | rfl | omega | (rw [IntKind.wrap_i64]; omega))) (Below.refl _ _)
            · intro a w3 hA K hK
              have t22 := bt_is hA 6 22 rfl rfl (by kernel_rfl)
              have hC := HS2.out w3 0 (by omega)
              go_simp
              refine hC.mono ?_
              rintro e w4 ⟨A3, c3, rfl, hr, hb⟩
              exact hK _ _ ⟨_, _, rfl, hr⟩ hb
            · intro a w3 hA K hK
              obtain ⟨A19, c19, t19, r19⟩ := bt_row hA 3 19 rfl rfl (by kernel_rfl)
              obtain ⟨A23, c23, t23, r23⟩ := bt_row hA 7 23 rfl rfl (by kernel_rfl)
              have hC := r2Of_E false A19 A23 _ c19 _ c23 P1 P2 _ _ r w3 r19 r23 (val_limbs _) (val_limbs _) (by omega) (by omega) Hr.out
              go_simp
              refine hC.mono ?_
              rintro e w4 ⟨A3, c3, A4, c4, rfl, hr, hr', hb⟩
              exact hK _ _ ⟨_, _, _, _, rfl, hr, hr'⟩ hb
            · intro a w3 hA K hK
              have t16 := bt_is hA 0 16 rfl rfl (by kernel_rfl)
              obtain ⟨A24, c24, B24, d24, t24, r24, s24⟩ := bt_rat hA 8 24 rfl rfl (by kernel_rfl)
              have hC := r2Mul_R w3 ((HR.out.below (Below.then_ hb0 hA.below)).mono (by omega : 16 ≤ 60)) (RArg.norm r24 s24 (by omega) (by omega)) (by omega : (60 : Nat) ≤ 262144) (by omega)
              go_simp
              refine hC.mono ?_
              rintro e w4 ⟨A3, c3, A4, c4, rfl, hr, hr', hb⟩
              exact hK _ _ ⟨_, _, _, _, rfl, hr, hr'⟩ hb
          rintro vs w5 hV hb5 act hact hold hnew K hK
          have hV' := hV.is_
          clear hV
          obtain ⟨_, rfl, hV⟩ := hV'
          have hV' := hV.is_
          clear hV
          obtain ⟨_, rfl, hV⟩ := hV'
          have hV' := hV.is_
          clear hV
          obtain ⟨_, rfl, hV⟩ := hV'
          have hV' := hV.row_
          clear hV
          obtain ⟨A19, c19, _, rfl, r19, hV⟩ := hV'
          have hV' := hV.is_
          clear hV
          obtain ⟨_, rfl, hV⟩ := hV'
          have hV' := hV.is_
          clear hV
          obtain ⟨_, rfl, hV⟩ := hV'
          have hV' := hV.is_
          clear hV
          obtain ⟨_, rfl, hV⟩ := hV'
          have hV' := hV.row_
          clear hV
          obtain ⟨A23, c23, _, rfl, r23, hV⟩ := hV'
          have hV' := hV.rat_
          clear hV
          obtain ⟨A24, c24, B24, d24, _, rfl, r24, s24, hV⟩ := hV'
          have hV' := hV.rat_
          clear hV
          obtain ⟨A25, c25, B25, d25, _, rfl, r25, s25, hV⟩ := hV'
          obtain rfl := hV.nil_
          clear hV
          simp only [puts] at hact
          have tq1 := hold 5 _ rfl rfl
          have tq2 := hnew 9 25 _ rfl rfl
          clear hold hnew
          have Hact := hid hact
          clear hact
          have hBr := HZ1.out.below hb5
          obtain ⟨k0, k1, k2, f0, f1, f2⟩ := hBr.cells
          go_simp
          refine hK _ _ ?_
          have hact := Hact.out
          clear Hact tq1 tq2
          subst hact
          go_simp
          have HBX := hid (hBr.set (.bool (rneg (p * r))) (.slice A25 (limbs (rnum (p * r))).length c25) (.slice B25 (limbs (p * r).den).length d25))
          have hR1 := hBr.row r25 (.bool (rneg (p * r))) (.slice A25 (limbs (rnum (p * r))).length c25) (.slice B25 (limbs (p * r).den).length d25)
          have hR2 := hBr.row s25 (.bool (rneg (p * r))) (.slice A25 (limbs (rnum (p * r))).length c25) (.slice B25 (limbs (p * r).den).length d25)
          have HRA := hid ((RArg.norm hR1 hR2 hsq.1 hsq.2).mono (by omega : 16 + 42 ≤ 60))
          have hbw := B3.belowSet (Below.then_ hb0 hb5) hgw (.bool (rneg (p * r))) (.slice A25 (limbs (rnum (p * r))).length c25) (.slice B25 (limbs (p * r).den).length d25)
          clear hR1 hR2 hBr k0 k1 k2 f0 f1 f2 r25 s25 r24 s24 r19 r23 hb5
          generalize ((w5.setCell ⟨w1.heap.size, 0, none⟩ (.bool (rneg (p * r)))).setCell ⟨w1.heap.size, 1, none⟩ (.slice A25 (limbs (rnum (p * r))).length c25)).setCell ⟨w1.heap.size, 2, none⟩ (.slice B25 (limbs (p * r).den).length d25) = w6 at *
          go_upto_region 6 with fail
          obtain ⟨x, hx⟩ : ∃ x, fw (p * r) = x := ⟨_, rfl⟩
          have Hx := hid hx
          clear hx
          refine draw_hd [26, 27, 28, 29, 30, 31, 32, 33, 34, 35, 4] [.is (.agg #[.bool (rneg (p * r)), .slice A25 (limbs (rnum (p * r))).length c25, .slice B25 (limbs (p * r).den).length d25]), .is (.float .f64 x), .is (.int .u64 (x : Int)), .is (.agg #[.bool (rneg (p * r)), .slice A25 (limbs (rnum (p * r))).length c25, .slice B25 (limbs (p * r).den).length d25]), .is (.float .f64 x), .is (.int .u64 (x : Int)), .is (.bool true), .is (.bool true), .is (.bool true), .is (.bool true), .is (.bool true)]
            (by kernel_rfl) (by kernel_rfl) (by kernel_rfl) (by decide) (by kernel_rfl) (by kernel_rfl) ?_ ?_
          · refine ⟨?_, ?_, ?_, ?_, ?_, ?_, ?_, ?_, ?_, ?_, ?_, trivial⟩
            · intro a w3 hA K hK
              have t5 := hA.old 5 _ rfl rfl
              obtain ⟨k0, k1, k2, _, _, _⟩ := (HBX.out.below hA.below).cells
              go_simp
              exact hK _ _ (by first | rfl | exact congrArg _ (by first | rfl | omega | (rw [IntKind.wrap_i64]; omega))) (Below.refl _ _)
            · intro a w3 hA K hK
              have t26 := bt_is hA 0 26 rfl rfl (by kernel_rfl)
              have hC := fltTo_R w3 (HRA.out.below hA.below) (by omega : (60 : Nat) ≤ 120) (by omega)
              rw [Hx.out] at hC
              go_simp
              refine hC.mono ?_
              rintro e w4 ⟨rfl, hb⟩
              exact hK _ _ rfl hb
            · intro a w3 hA K hK
              have t27 := bt_is hA 1 27 rfl rfl (by kernel_rfl)
              have q1 := run_f64bits x w3
              go_simp
              exact hK _ _ rfl (Below.refl _ _)
            · intro a w3 hA K hK
              have t5 := hA.old 5 _ rfl rfl
              obtain ⟨k0, k1, k2, _, _, _⟩ := (HBX.out.below hA.below).cells
              go_simp
              exact hK _ _ (by first | rfl | exact congrArg _ (by first | rfl | omega | (rw [IntKind.wrap_i64]; omega))) (Below.refl _ _)
            · intro a w3 hA K hK
              have t29 := bt_is hA 3 29 rfl rfl (by kernel_rfl)
              have hC := r4To_R w3 (HRA.out.below hA.below) (by omega : (60 : Nat) ≤ 120) (by omega)
              rw [Hx.out] at hC
              go_simp
              refine hC.mono ?_
              rintro e w4 ⟨rfl, hb⟩
              exact hK _ _ rfl hb
            · intro a w3 hA K hK
              have t30 := bt_is hA 4 30 rfl rfl (by kernel_rfl)
              have q1 := run_f64bits x w3
              go_simp
              exact hK _ _ rfl (Below.refl _ _)
            · intro a w3 hA K hK
              have t28 := bt_is hA 2 28 rfl rfl (by kernel_rfl)
              have t31 := bt_is hA 5 31 rfl rfl (by kernel_rfl)
              go_simp
              exact hK _ _ (by first | rfl | exact congrArg _ (by first | rfl | omega | (rw [IntKind.wrap_i64]; omega))) (Below.refl _ _)
            · intro a w3 hA K hK
              have t32 := bt_is hA 6 32 rfl rfl (by kernel_rfl)
              go_simp
              exact hK _ _ (by first | rfl | exact congrArg _ (by first | rfl | omega | (rw [IntKind.wrap_i64]; omega))) (Below.refl _ _)
            · intro a w3 hA K hK
              have hC := known4_any w3
              go_simp
              refine hC.mono ?_
              rintro e w4 ⟨rfl, hb⟩
              exact hK _ _ rfl hb
            · intro a w3 hA K hK
              have t33 := bt_is hA 7 33 rfl rfl (by kernel_rfl)
              have t34 := bt_is hA 8 34 rfl rfl (by kernel_rfl)
              go_simp
              exact hK _ _ (by first | rfl | exact congrArg _ (by first | rfl | omega | (rw [IntKind.wrap_i64]; omega))) (Below.refl _ _)
            · intro a w3 hA K hK
              have t35 := bt_is hA 9 35 rfl rfl (by kernel_rfl)
              go_simp
              exact hK _ _ (by first | rfl | exact congrArg _ (by first | rfl | omega | (rw [IntKind.wrap_i64]; omega))) (Below.refl _ _)
          rintro vs w7 hV hb7 act hact
          have hV' := hV.is_
          clear hV
          obtain ⟨_, rfl, hV⟩ := hV'
          have hV' := hV.is_
          clear hV
          obtain ⟨_, rfl, hV⟩ := hV'
          have hV' := hV.is_
          clear hV
          obtain ⟨_, rfl, hV⟩ := hV'
          have hV' := hV.is_
          clear hV
          obtain ⟨_, rfl, hV⟩ := hV'
          have hV' := hV.is_
          clear hV
          obtain ⟨_, rfl, hV⟩ := hV'
          have hV' := hV.is_
          clear hV
          obtain ⟨_, rfl, hV⟩ := hV'
          have hV' := hV.is_
          clear hV
          obtain ⟨_, rfl, hV⟩ := hV'
          have hV' := hV.is_
          clear hV
          obtain ⟨_, rfl, hV⟩ := hV'
          have hV' := hV.is_
          clear hV
          obtain ⟨_, rfl, hV⟩ := hV'
          have hV' := hV.is_
          clear hV
          obtain ⟨_, rfl, hV⟩ := hV'
          have hV' := hV.is_
          clear hV
          obtain ⟨_, rfl, hV⟩ := hV'
          obtain rfl := hV.nil_
          clear hV
          simp only [puts] at hact
          subst hact
          go_simp
          go_wp2_with fail
          go_ret
          exact ⟨rfl, Below.then_ hbw hb7⟩
        · go_ret
          exact ⟨rfl, (by repeat first | exact Below.refl _ _ | assumption | refine Pg.Below.then_ ?_ (by assumption) | refine Pg.Below.new_ ?_ _ | refine Pg.Below.drewN_ ?_ _)⟩
      · obtain ⟨m, hm⟩ : ∃ m : Nat, by_ = -(m : Int) := ⟨(-by_).toNat, by omega⟩
        have hm40 : m ≤ 40 := by omega
        go_enter Try.func4, Try.ntmps4
        go_wp2_with (go_at_call 22; refine HB.out.mono ?_; rintro e w1 ⟨b, rfl, hb16, hb1⟩; rcases b with _ | _; all_goals (have hXc := (HX.out.below hb1).cells; clear k0 k1 k2; obtain ⟨k0, k1, k2, _⟩ := hXc))
        · skip
          have hs16 : n ≤ 16 ∧ n' ≤ 16 := by have := hb16 trivial; omega
          have HR := hid (HR0.out hs16.1 hs16.2)
          have hb0 : Below w.heap.size w (w1.alloc (.cells #[.bool s, .slice A n c, .slice A' n' c'] 28)) := Below.new_ (Below.then_ (Below.new_ (Below.new_ (Below.refl _ _) _) _) hb1) _
          have HX1 := hid ((HX.out.below hb1).alloc (.cells #[.bool s, .slice A n c, .slice A' n' c'] 28))
          have HZ1 := hid (B3.new w1 28 (.bool s) (.slice A n c) (.slice A' n' c'))
          have hgw : w.heap.size ≤ w1.heap.size := by have := hb1.size; simp at this; omega
          have hsp := HR.out.short (by omega)
          clear HB HX HR0 hb16 hs16 hn hn'
          clear hb1 k0 k1 k2
          generalize hW : w1.alloc (.cells #[.bool s, .slice A n c, .slice A' n' c'] 28) = w2 at *
          have HS1 := hid fun W (k : Int) (hk : k = ((0 : Nat) : Int)) => shifted_any (0) k W hk (by omega)
          have HS2 := hid fun W (k : Int) (hk : k = ((m : Nat) : Int)) => shifted_any (m) k W hk (by omega)
          have l1 := limbs_shifted (0)
          have l2 := limbs_shifted (m)
          have hP2 : 2 ^ (32 * (m)) ≠ 0 := Nat.pos_iff_ne_zero.1 (Nat.two_pow_pos _)
          generalize 2 ^ (32 * (0)) = P1 at *
          generalize 2 ^ (32 * (m)) = P2 at *
          obtain ⟨r, hr⟩ : ∃ r, rv false P1 P2 = r := ⟨_, rfl⟩
          have hsr : Short r 42 := by rw [← hr]; exact Short.rv hP2 (by omega) (by omega)
          have hsq := hsp.mul hsr
          obtain ⟨z1, z2⟩ := hsr
          have Hr := hid hr
          clear hr hP2
          refine draw_last [16, 17, 18, 19, 20, 21, 22, 23, 24, 25] [.is (.agg #[.bool s, .slice A n c, .slice A' n' c']), .is (.int .i64 by_), .is (.int .i64 0), .row P1, .is (.int .i64 by_), .is (.int .i64 (m : Int)), .is (.int .i64 (m : Int)), .row P2, .rat r, .rat (p * r)]
            (by kernel_rfl) (by kernel_rfl) (by kernel_rfl) (by decide) (by kernel_rfl) (by kernel_rfl) (by kernel_rfl) rfl ?_ ?_
          · refine ⟨?_, ?_, ?_, ?_, ?_, ?_, ?_, ?_, ?_, ?_, trivial⟩
            · intro a w3 hA K hK
              have t2 := hA.old 2 _ rfl rfl
              obtain ⟨k0, k1, k2, _, _, _⟩ := (HX1.out.below hA.below).cells
              go_simp
              exact hK _ _ (by first | rfl | exact congrArg _ (by first | rfl | omega | (rw [IntKind.wrap_i64]; omega))) (Below.refl _ _)
            · intro a w3 hA K hK
              have t1 := hA.old 1 _ rfl rfl
              go_simp
              exact hK _ _ (by first | rfl | exact congrArg _ (by first | rfl | omega | (rw [IntKind.wrap_i64]; omega))) (Below.refl _ _)
            · intro a w3 hA K hK
              have t17 := bt_is hA 1 17 rfl rfl (by kernel_rfl)
              go_simp
              exact hK _ _ (by first | rfl | exact congrArg _ (by first | rfl | omega | (rw [IntKind.wrap_i64]; omega))) (Below.refl _ _)
            · intro a w3 hA K hK
              have t18 := bt_is hA 2 18 rfl rfl (by kernel_rfl)
              have hC := HS1.out w3 0 (by omega)
              go_simp
              refine hC.mono ?_
              rintro e w4 ⟨A3, c3, rfl, hr, hb⟩
              exact hK _ _ ⟨_, _, rfl, hr⟩ hb
            · intro a w3 hA K hK
              have t1 := hA.old 1 _ rfl rfl
              go_simp
              exact hK _ _ (by first | rfl | exact congrArg _ (by first | rfl | omega | (rw [IntKind.wrap_i64]; omega))) (Below.refl _ _)
            · intro a w3 hA K hK
              have t20 := bt_is hA 4 20 rfl rfl (by kernel_rfl)
              go_simp
              exact hK _ _ (by first | rfl | exact congrArg _ (by first | rfl | omega | (rw [IntKind.wrap_i64]; omega))) (Below.refl _ _)
            · intro a w3 hA K hK
              have t21 := bt_is hA 5 21 rfl rfl (by kernel_rfl)
              go_simp
              exact hK _ _ (by first | rfl | exact congrArg _ (by first | rfl | omega | (rw [IntKind.wrap_i64]; omega))) (Below.refl _ _)
            · intro a w3 hA K hK
              have t22 := bt_is hA 6 22 rfl rfl (by kernel_rfl)
              have hC := HS2.out w3 (m : Int) (by omega)
              go_simp
              refine hC.mono ?_
              rintro e w4 ⟨A3, c3, rfl, hr, hb⟩
              exact hK _ _ ⟨_, _, rfl, hr⟩ hb
            · intro a w3 hA K hK
              obtain ⟨A19, c19, t19, r19⟩ := bt_row hA 3 19 rfl rfl (by kernel_rfl)
              obtain ⟨A23, c23, t23, r23⟩ := bt_row hA 7 23 rfl rfl (by kernel_rfl)
              have hC := r2Of_E false A19 A23 _ c19 _ c23 P1 P2 _ _ r w3 r19 r23 (val_limbs _) (val_limbs _) (by omega) (by omega) Hr.out
              go_simp
              refine hC.mono ?_
              rintro e w4 ⟨A3, c3, A4, c4, rfl, hr, hr', hb⟩
              exact hK _ _ ⟨_, _, _, _, rfl, hr, hr'⟩ hb
            · intro a w3 hA K hK
              have t16 := bt_is hA 0 16 rfl rfl (by kernel_rfl)
              obtain ⟨A24, c24, B24, d24, t24, r24, s24⟩ := bt_rat hA 8 24 rfl rfl (by kernel_rfl)
              have hC := r2Mul_R w3 ((HR.out.below (Below.then_ hb0 hA.below)).mono (by omega : 16 ≤ 60)) (RArg.norm r24 s24 (by omega) (by omega)) (by omega : (60 : Nat) ≤ 262144) (by omega)
              go_simp
              refine hC.mono ?_
              rintro e w4 ⟨A3, c3, A4, c4, rfl, hr, hr', hb⟩
              exact hK _ _ ⟨_, _, _, _, rfl, hr, hr'⟩ hb
          rintro vs w5 hV hb5 act hact hold hnew K hK
          have hV' := hV.is_
          clear hV
          obtain ⟨_, rfl, hV⟩ := hV'
          have hV' := hV.is_
          clear hV
          obtain ⟨_, rfl, hV⟩ := hV'
          have hV' := hV.is_
          clear hV
          obtain ⟨_, rfl, hV⟩ := hV'
          have hV' := hV.row_
          clear hV
          obtain ⟨A19, c19, _, rfl, r19, hV⟩ := hV'
          have hV' := hV.is_
          clear hV
          obtain ⟨_, rfl, hV⟩ := hV'
          have hV' := hV.is_
          clear hV
          obtain ⟨_, rfl, hV⟩ := hV'
          have hV' := hV.is_
          clear hV
          obtain ⟨_, rfl, hV⟩ := hV'
          have hV' := hV.row_
          clear hV
          obtain ⟨A23, c23, _, rfl, r23, hV⟩ := hV'
          have hV' := hV.rat_
          clear hV
          obtain ⟨A24, c24, B24, d24, _, rfl, r24, s24, hV⟩ := hV'
          have hV' := hV.rat_
          clear hV
          obtain ⟨A25, c25, B25, d25, _, rfl, r25, s25, hV⟩ := hV'
          obtain rfl := hV.nil_
          clear hV
          simp only [puts] at hact
          have tq1 := hold 5 _ rfl rfl
          have tq2 := hnew 9 25 _ rfl rfl
          clear hold hnew
          have Hact := hid hact
          clear hact
          have hBr := HZ1.out.below hb5
          obtain ⟨k0, k1, k2, f0, f1, f2⟩ := hBr.cells
          go_simp
          refine hK _ _ ?_
          have hact := Hact.out
          clear Hact tq1 tq2
          subst hact
          go_simp
          have HBX := hid (hBr.set (.bool (rneg (p * r))) (.slice A25 (limbs (rnum (p * r))).length c25) (.slice B25 (limbs (p * r).den).length d25))
          have hR1 := hBr.row r25 (.bool (rneg (p * r))) (.slice A25 (limbs (rnum (p * r))).length c25) (.slice B25 (limbs (p * r).den).length d25)
          have hR2 := hBr.row s25 (.bool (rneg (p * r))) (.slice A25 (limbs (rnum (p * r))).length c25) (.slice B25 (limbs (p * r).den).length d25)
          have HRA := hid ((RArg.norm hR1 hR2 hsq.1 hsq.2).mono (by omega : 16 + 42 ≤ 60))
          have hbw := B3.belowSet (Below.then_ hb0 hb5) hgw (.bool (rneg (p * r))) (.slice A25 (limbs (rnum (p * r))).length c25) (.slice B25 (limbs (p * r).den).length d25)
          clear hR1 hR2 hBr k0 k1 k2 f0 f1 f2 r25 s25 r24 s24 r19 r23 hb5
          generalize ((w5.setCell ⟨w1.heap.size, 0, none⟩ (.bool (rneg (p * r)))).setCell ⟨w1.heap.size, 1, none⟩ (.slice A25 (limbs (rnum (p * r))).length c25)).setCell ⟨w1.heap.size, 2, none⟩ (.slice B25 (limbs (p * r).den).length d25) = w6 at *
          go_upto_region 6 with fail
          obtain ⟨x, hx⟩ : ∃ x, fw (p * r) = x := ⟨_, rfl⟩
          have Hx := hid hx
          clear hx
          refine draw_hd [26, 27, 28, 29, 30, 31, 32, 33, 34, 35, 4] [.is (.agg #[.bool (rneg (p * r)), .slice A25 (limbs (rnum (p * r))).length c25, .slice B25 (limbs (p * r).den).length d25]), .is (.float .f64 x), .is (.int .u64 (x : Int)), .is (.agg #[.bool (rneg (p * r)), .slice A25 (limbs (rnum (p * r))).length c25, .slice B25 (limbs (p * r).den).length d25]), .is (.float .f64 x), .is (.int .u64 (x : Int)), .is (.bool true), .is (.bool true), .is (.bool true), .is (.bool true), .is (.bool true)]
            (by kernel_rfl) (by kernel_rfl) (by kernel_rfl) (by decide) (by kernel_rfl) (by kernel_rfl) ?_ ?_
          · refine ⟨?_, ?_, ?_, ?_, ?_, ?_, ?_, ?_, ?_, ?_, ?_, trivial⟩
            · intro a w3 hA K hK
              have t5 := hA.old 5 _ rfl rfl
              obtain ⟨k0, k1, k2, _, _, _⟩ := (HBX.out.below hA.below).cells
              go_simp
              exact hK _ _ (by first | rfl | exact congrArg _ (by first | rfl | omega | (rw [IntKind.wrap_i64]; omega))) (Below.refl _ _)
            · intro a w3 hA K hK
              have t26 := bt_is hA 0 26 rfl rfl (by kernel_rfl)
              have hC := fltTo_R w3 (HRA.out.below hA.below) (by omega : (60 : Nat) ≤ 120) (by omega)
              rw [Hx.out] at hC
              go_simp
              refine hC.mono ?_
              rintro e w4 ⟨rfl, hb⟩
              exact hK _ _ rfl hb
            · intro a w3 hA K hK
              have t27 := bt_is hA 1 27 rfl rfl (by kernel_rfl)
              have q1 := run_f64bits x w3
              go_simp
              exact hK _ _ rfl (Below.refl _ _)
            · intro a w3 hA K hK
              have t5 := hA.old 5 _ rfl rfl
              obtain ⟨k0, k1, k2, _, _, _⟩ := (HBX.out.below hA.below).cells
              go_simp
              exact hK _ _ (by first | rfl | exact congrArg _ (by first | rfl | omega | (rw [IntKind.wrap_i64]; omega))) (Below.refl _ _)
            · intro a w3 hA K hK
              have t29 := bt_is hA 3 29 rfl rfl (by kernel_rfl)
              have hC := r4To_R w3 (HRA.out.below hA.below) (by omega : (60 : Nat) ≤ 120) (by omega)
              rw [Hx.out] at hC
              go_simp
              refine hC.mono ?_
              rintro e w4 ⟨rfl, hb⟩
              exact hK _ _ rfl hb
            · intro a w3 hA K hK
              have t30 := bt_is hA 4 30 rfl rfl (by kernel_rfl)
              have q1 := run_f64bits x w3
              go_simp
              exact hK _ _ rfl (Below.refl _ _)
            · intro a w3 hA K hK
              have t28 := bt_is hA 2 28 rfl rfl (by kernel_rfl)
              have t31 := bt_is hA 5 31 rfl rfl (by kernel_rfl)
              go_simp
              exact hK _ _ (by first | rfl | exact congrArg _ (by first | rfl | omega | (rw [IntKind.wrap_i64]; omega))) (Below.refl _ _)
            · intro a w3 hA K hK
              have t32 := bt_is hA 6 32 rfl rfl (by kernel_rfl)
              go_simp
              exact hK _ _ (by first | rfl | exact congrArg _ (by first | rfl | omega | (rw [IntKind.wrap_i64]; omega))) (Below.refl _ _)
            · intro a w3 hA K hK
              have hC := known4_any w3
              go_simp
              refine hC.mono ?_
              rintro e w4 ⟨rfl, hb⟩
              exact hK _ _ rfl hb
            · intro a w3 hA K hK
              have t33 := bt_is hA 7 33 rfl rfl (by kernel_rfl)
              have t34 := bt_is hA 8 34 rfl rfl (by kernel_rfl)
              go_simp
              exact hK _ _ (by first | rfl | exact congrArg _ (by first | rfl | omega | (rw [IntKind.wrap_i64]; omega))) (Below.refl _ _)
            · intro a w3 hA K hK
              have t35 := bt_is hA 9 35 rfl rfl (by kernel_rfl)
              go_simp
              exact hK _ _ (by first | rfl | exact congrArg _ (by first | rfl | omega | (rw [IntKind.wrap_i64]; omega))) (Below.refl _ _)
          rintro vs w7 hV hb7 act hact
          have hV' := hV.is_
          clear hV
          obtain ⟨_, rfl, hV⟩ := hV'
          have hV' := hV.is_
          clear hV
          obtain ⟨_, rfl, hV⟩ := hV'
          have hV' := hV.is_
          clear hV
          obtain ⟨_, rfl, hV⟩ := hV'
          have hV' := hV.is_
          clear hV
          obtain ⟨_, rfl, hV⟩ := hV'
          have hV' := hV.is_
          clear hV
          obtain ⟨_, rfl, hV⟩ := hV'
          have hV' := hV.is_
          clear hV
          obtain ⟨_, rfl, hV⟩ := hV'
          have hV' := hV.is_
          clear hV
          obtain ⟨_, rfl, hV⟩ := hV'
          have hV' := hV.is_
          clear hV
          obtain ⟨_, rfl, hV⟩ := hV'
          have hV' := hV.is_
          clear hV
          obtain ⟨_, rfl, hV⟩ := hV'
          have hV' := hV.is_
          clear hV
          obtain ⟨_, rfl, hV⟩ := hV'
          have hV' := hV.is_
          clear hV
          obtain ⟨_, rfl, hV⟩ := hV'
          obtain rfl := hV.nil_
          clear hV
          simp only [puts] at hact
          subst hact
          go_simp
          go_wp2_with fail
          go_ret
          exact ⟨rfl, Below.then_ hbw hb7⟩
        · go_ret
          exact ⟨rfl, (by repeat first | exact Below.refl _ _ | assumption | refine Pg.Below.then_ ?_ (by assumption) | refine Pg.Below.new_ ?_ _ | refine Pg.Below.drewN_ ?_ _)⟩
    · have hd : decide (by_ ≤ 40) = false := by simpa using hi1
      go_enter Try.func4, Try.ntmps4
      go_wp2_with (go_at_call 22; refine HB.out.mono ?_; rintro e w1 ⟨b, rfl, hb16, hb1⟩; rcases b with _ | _; all_goals (have hXc := (HX.out.below hb1).cells; clear k0 k1 k2; obtain ⟨k0, k1, k2, _⟩ := hXc))
      · skip
        have hs16 : n ≤ 16 ∧ n' ≤ 16 := by have := hb16 trivial; omega
        have HR := hid (HR0.out hs16.1 hs16.2)
        have hb0 : Below w.heap.size w (w1.alloc (.cells #[.bool s, .slice A n c, .slice A' n' c'] 28)) := Below.new_ (Below.then_ (Below.new_ (Below.new_ (Below.refl _ _) _) _) hb1) _
        have HX1 := hid ((HX.out.below hb1).alloc (.cells #[.bool s, .slice A n c, .slice A' n' c'] 28))
        have HZ1 := hid (B3.new w1 28 (.bool s) (.slice A n c) (.slice A' n' c'))
        have hgw : w.heap.size ≤ w1.heap.size := by have := hb1.size; simp at this; omega
        have hsp := HR.out.short (by omega)
        clear HB HX HR0 hb16 hs16 hn hn'
        clear hb1 k0 k1 k2
        generalize hW : w1.alloc (.cells #[.bool s, .slice A n c, .slice A' n' c'] 28) = w2 at *
        have HBX := HZ1
        have HRA := hid ((HR.out.below hb0).mono (by omega : 16 ≤ 60))
        have hbw := hb0
        obtain ⟨x, hx⟩ : ∃ x, fw p = x := ⟨_, rfl⟩
        have Hx := hid hx
        clear hx
        refine draw_hd [26, 27, 28, 29, 30, 31, 32, 33, 34, 35, 4] [.is (.agg #[.bool s, .slice A n c, .slice A' n' c']), .is (.float .f64 x), .is (.int .u64 (x : Int)), .is (.agg #[.bool s, .slice A n c, .slice A' n' c']), .is (.float .f64 x), .is (.int .u64 (x : Int)), .is (.bool true), .is (.bool true), .is (.bool true), .is (.bool true), .is (.bool true)]
          (by kernel_rfl) (by kernel_rfl) (by kernel_rfl) (by decide) (by kernel_rfl) (by kernel_rfl) ?_ ?_
        · refine ⟨?_, ?_, ?_, ?_, ?_, ?_, ?_, ?_, ?_, ?_, ?_, trivial⟩
          · intro a w3 hA K hK
            have t5 := hA.old 5 _ rfl rfl
            obtain ⟨k0, k1, k2, _, _, _⟩ := (HBX.out.below hA.below).cells
            go_simp
            exact hK _ _ (by first | rfl | exact congrArg _ (by first | rfl | omega | (rw [IntKind.wrap_i64]; omega))) (Below.refl _ _)
          · intro a w3 hA K hK
            have t26 := bt_is hA 0 26 rfl rfl (by kernel_rfl)
            have hC := fltTo_R w3 (HRA.out.below hA.below) (by omega : (60 : Nat) ≤ 120) (by omega)
            rw [Hx.out] at hC
            go_simp
            refine hC.mono ?_
            rintro e w4 ⟨rfl, hb⟩
            exact hK _ _ rfl hb
          · intro a w3 hA K hK
            have t27 := bt_is hA 1 27 rfl rfl (by kernel_rfl)
            have q1 := run_f64bits x w3
            go_simp
            exact hK _ _ rfl (Below.refl _ _)
          · intro a w3 hA K hK
            have t5 := hA.old 5 _ rfl rfl
            obtain ⟨k0, k1, k2, _, _, _⟩ := (HBX.out.below hA.below).cells
            go_simp
            exact hK _ _ (by first | rfl | exact congrArg _ (by first | rfl | omega | (rw [IntKind.wrap_i64]; omega))) (Below.refl _ _)
          · intro a w3 hA K hK
            have t29 := bt_is hA 3 29 rfl rfl (by kernel_rfl)
            have hC := r4To_R w3 (HRA.out.below hA.below) (by omega : (60 : Nat) ≤ 120) (by omega)
            rw [Hx.out] at hC
            go_simp
            refine hC.mono ?_
            rintro e w4 ⟨rfl, hb⟩
            exact hK _ _ rfl hb
          · intro a w3 hA K hK
            have t30 := bt_is hA 4 30 rfl rfl (by kernel_rfl)
            have q1 := run_f64bits x w3
            go_simp
            exact hK _ _ rfl (Below.refl _ _)
          · intro a w3 hA K hK
            have t28 := bt_is hA 2 28 rfl rfl (by kernel_rfl)
            have t31 := bt_is hA 5 31 rfl rfl (by kernel_rfl)
            go_simp
            exact hK _ _ (by first | rfl | exact congrArg _ (by first | rfl | omega | (rw [IntKind.wrap_i64]; omega))) (Below.refl _ _)
          · intro a w3 hA K hK
            have t32 := bt_is hA 6 32 rfl rfl (by kernel_rfl)
            go_simp
            exact hK _ _ (by first | rfl | exact congrArg _ (by first | rfl | omega | (rw [IntKind.wrap_i64]; omega))) (Below.refl _ _)
          · intro a w3 hA K hK
            have hC := known4_any w3
            go_simp
            refine hC.mono ?_
            rintro e w4 ⟨rfl, hb⟩
            exact hK _ _ rfl hb
          · intro a w3 hA K hK
            have t33 := bt_is hA 7 33 rfl rfl (by kernel_rfl)
            have t34 := bt_is hA 8 34 rfl rfl (by kernel_rfl)
            go_simp
            exact hK _ _ (by first | rfl | exact congrArg _ (by first | rfl | omega | (rw [IntKind.wrap_i64]; omega))) (Below.refl _ _)
          · intro a w3 hA K hK
            have t35 := bt_is hA 9 35 rfl rfl (by kernel_rfl)
            go_simp
            exact hK _ _ (by first | rfl | exact congrArg _ (by first | rfl | omega | (rw [IntKind.wrap_i64]; omega))) (Below.refl _ _)
        rintro vs w7 hV hb7 act hact
        have hV' := hV.is_
        clear hV
        obtain ⟨_, rfl, hV⟩ := hV'
        have hV' := hV.is_
        clear hV
        obtain ⟨_, rfl, hV⟩ := hV'
        have hV' := hV.is_
        clear hV
        obtain ⟨_, rfl, hV⟩ := hV'
        have hV' := hV.is_
        clear hV
        obtain ⟨_, rfl, hV⟩ := hV'
        have hV' := hV.is_
        clear hV
        obtain ⟨_, rfl, hV⟩ := hV'
        have hV' := hV.is_
        clear hV
        obtain ⟨_, rfl, hV⟩ := hV'
        have hV' := hV.is_
        clear hV
        obtain ⟨_, rfl, hV⟩ := hV'
        have hV' := hV.is_
        clear hV
        obtain ⟨_, rfl, hV⟩ := hV'
        have hV' := hV.is_
        clear hV
        obtain ⟨_, rfl, hV⟩ := hV'
        have hV' := hV.is_
        clear hV
        obtain ⟨_, rfl, hV⟩ := hV'
        have hV' := hV.is_
        clear hV
        obtain ⟨_, rfl, hV⟩ := hV'
        obtain rfl := hV.nil_
        clear hV
        simp only [puts] at hact
        subst hact
        go_simp
        go_wp2_with fail
        go_ret
        exact ⟨rfl, Below.then_ hbw hb7⟩
      · go_ret
        exact ⟨rfl, (by repeat first | exact Below.refl _ _ | assumption | refine Pg.Below.then_ ?_ (by assumption) | refine Pg.Below.new_ ?_ _ | refine Pg.Below.drewN_ ?_ _)⟩
  · have hd : decide (-40 ≤ by_) = false := by simpa using hi0
    go_enter Try.func4, Try.ntmps4
    go_wp2_with (go_at_call 22; refine HB.out.mono ?_; rintro e w1 ⟨b, rfl, hb16, hb1⟩; rcases b with _ | _; all_goals (have hXc := (HX.out.below hb1).cells; clear k0 k1 k2; obtain ⟨k0, k1, k2, _⟩ := hXc))
    · skip
      have hs16 : n ≤ 16 ∧ n' ≤ 16 := by have := hb16 trivial; omega
      have HR := hid (HR0.out hs16.1 hs16.2)
      have hb0 : Below w.heap.size w (w1.alloc (.cells #[.bool s, .slice A n c, .slice A' n' c'] 28)) := Below.new_ (Below.then_ (Below.new_ (Below.new_ (Below.refl _ _) _) _) hb1) _
      have HX1 := hid ((HX.out.below hb1).alloc (.cells #[.bool s, .slice A n c, .slice A' n' c'] 28))
      have HZ1 := hid (B3.new w1 28 (.bool s) (.slice A n c) (.slice A' n' c'))
      have hgw : w.heap.size ≤ w1.heap.size := by have := hb1.size; simp at this; omega
      have hsp := HR.out.short (by omega)
      clear HB HX HR0 hb16 hs16 hn hn'
      clear hb1 k0 k1 k2
      generalize hW : w1.alloc (.cells #[.bool s, .slice A n c, .slice A' n' c'] 28) = w2 at *
      have HBX := HZ1
      have HRA := hid ((HR.out.below hb0).mono (by omega : 16 ≤ 60))
      have hbw := hb0
      obtain ⟨x, hx⟩ : ∃ x, fw p = x := ⟨_, rfl⟩
      have Hx := hid hx
      clear hx
      refine draw_hd [26, 27, 28, 29, 30, 31, 32, 33, 34, 35, 4] [.is (.agg #[.bool s, .slice A n c, .slice A' n' c']), .is (.float .f64 x), .is (.int .u64 (x : Int)), .is (.agg #[.bool s, .slice A n c, .slice A' n' c']), .is (.float .f64 x), .is (.int .u64 (x : Int)), .is (.bool true), .is (.bool true), .is (.bool true), .is (.bool true), .is (.bool true)]
        (by kernel_rfl) (by kernel_rfl) (by kernel_rfl) (by decide) (by kernel_rfl) (by kernel_rfl) ?_ ?_
      · refine ⟨?_, ?_, ?_, ?_, ?_, ?_, ?_, ?_, ?_, ?_, ?_, trivial⟩
        · intro a w3 hA K hK
          have t5 := hA.old 5 _ rfl rfl
          obtain ⟨k0, k1, k2, _, _, _⟩ := (HBX.out.below hA.below).cells
          go_simp
          exact hK _ _ (by first | rfl | exact congrArg _ (by first | rfl | omega | (rw [IntKind.wrap_i64]; omega))) (Below.refl _ _)
        · intro a w3 hA K hK
          have t26 := bt_is hA 0 26 rfl rfl (by kernel_rfl)
          have hC := fltTo_R w3 (HRA.out.below hA.below) (by omega : (60 : Nat) ≤ 120) (by omega)
          rw [Hx.out] at hC
          go_simp
          refine hC.mono ?_
          rintro e w4 ⟨rfl, hb⟩
          exact hK _ _ rfl hb
        · intro a w3 hA K hK
          have t27 := bt_is hA 1 27 rfl rfl (by kernel_rfl)
          have q1 := run_f64bits x w3
          go_simp
          exact hK _ _ rfl (Below.refl _ _)
        · intro a w3 hA K hK
          have t5 := hA.old 5 _ rfl rfl
          obtain ⟨k0, k1, k2, _, _, _⟩ := (HBX.out.below hA.below).cells
          go_simp
          exact hK _ _ (by first | rfl | exact congrArg _ (by first | rfl | omega | (rw [IntKind.wrap_i64]; omega))) (Below.refl _ _)
        · intro a w3 hA K hK
          have t29 := bt_is hA 3 29 rfl rfl (by kernel_rfl)
          have hC := r4To_R w3 (HRA.out.below hA.below) (by omega : (60 : Nat) ≤ 120) (by omega)
          rw [Hx.out] at hC
          go_simp
          refine hC.mono ?_
          rintro e w4 ⟨rfl, hb⟩
          exact hK _ _ rfl hb
        · intro a w3 hA K hK
          have t30 := bt_is hA 4 30 rfl rfl (by kernel_rfl)
          have q1 := run_f64bits x w3
          go_simp
          exact hK _ _ rfl (Below.refl _ _)
        · intro a w3 hA K hK
          have t28 := bt_is hA 2 28 rfl rfl (by kernel_rfl)
          have t31 := bt_is hA 5 31 rfl rfl (by kernel_rfl)
          go_simp
          exact hK _ _ (by first | rfl | exact congrArg _ (by first | rfl | omega | (rw [IntKind.wrap_i64]; omega))) (Below.refl _ _)
        · intro a w3 hA K hK
          have t32 := bt_is hA 6 32 rfl rfl (by kernel_rfl)
          go_simp
          exact hK _ _ (by first | rfl | exact congrArg _ (by first | rfl | omega | (rw [IntKind.wrap_i64]; omega))) (Below.refl _ _)
        · intro a w3 hA K hK
          have hC := known4_any w3
          go_simp
          refine hC.mono ?_
          rintro e w4 ⟨rfl, hb⟩
          exact hK _ _ rfl hb
        · intro a w3 hA K hK
          have t33 := bt_is hA 7 33 rfl rfl (by kernel_rfl)
          have t34 := bt_is hA 8 34 rfl rfl (by kernel_rfl)
          go_simp
          exact hK _ _ (by first | rfl | exact congrArg _ (by first | rfl | omega | (rw [IntKind.wrap_i64]; omega))) (Below.refl _ _)
        · intro a w3 hA K hK
          have t35 := bt_is hA 9 35 rfl rfl (by kernel_rfl)
          go_simp
          exact hK _ _ (by first | rfl | exact congrArg _ (by first | rfl | omega | (rw [IntKind.wrap_i64]; omega))) (Below.refl _ _)
      rintro vs w7 hV hb7 act hact
      have hV' := hV.is_
      clear hV
      obtain ⟨_, rfl, hV⟩ := hV'
      have hV' := hV.is_
      clear hV
      obtain ⟨_, rfl, hV⟩ := hV'
      have hV' := hV.is_
      clear hV
      obtain ⟨_, rfl, hV⟩ := hV'
      have hV' := hV.is_
      clear hV
      obtain ⟨_, rfl, hV⟩ := hV'
      have hV' := hV.is_
      clear hV
      obtain ⟨_, rfl, hV⟩ := hV'
      have hV' := hV.is_
      clear hV
      obtain ⟨_, rfl, hV⟩ := hV'
      have hV' := hV.is_
      clear hV
      obtain ⟨_, rfl, hV⟩ := hV'
      have hV' := hV.is_
      clear hV
      obtain ⟨_, rfl, hV⟩ := hV'
      have hV' := hV.is_
      clear hV
      obtain ⟨_, rfl, hV⟩ := hV'
      have hV' := hV.is_
      clear hV
      obtain ⟨_, rfl, hV⟩ := hV'
      have hV' := hV.is_
      clear hV
      obtain ⟨_, rfl, hV⟩ := hV'
      obtain rfl := hV.nil_
      clear hV
      simp only [puts] at hact
      subst hact
      go_simp
      go_wp2_with fail
      go_ret
      exact ⟨rfl, Below.then_ hbw hb7⟩
    · go_ret
      exact ⟨rfl, (by repeat first | exact Below.refl _ _ | assumption | refine Pg.Below.then_ ?_ (by assumption) | refine Pg.Below.new_ ?_ _ | refine Pg.Below.drewN_ ?_ _)⟩
end Go.Proofs.Ytgehoflkbckgkaa
