/- Walk: the law FltOrder. Conditions: those that each theorem names. -/
import Derived.Test.YtgehoflkbckgkaaZ24
namespace Pg
open Ieee
theorem order_cases (p q : Rat) : (cmpq p q < 0 ∧ (double.order (fw p) (fw q) = some .lt ∨ double.order (fw p) (fw q) = some .eq)) ∨ (0 < cmpq p q ∧ (double.order (fw p) (fw q) = some .gt ∨ double.order (fw p) (fw q) = some .eq)) ∨ (cmpq p q = 0 ∧ double.order (fw p) (fw q) = some .eq) := by
  rw [fw_order]
  have h1 := cmpq_lt p q
  have h2 := cmpq_gt p q
  have m1 := @fs_mono p q
  have m2 := @fs_mono q p
  rcases Int.lt_trichotomy (cmpq p q) 0 with h | h | h
  · left
    refine ⟨h, ?_⟩
    have := m1 (Rat.le_of_lt (h1.1 h))
    rcases Int.lt_or_eq_of_le this with h3 | h3
    · exact .inl (congrArg some (compareOfLessAndEq_eq_lt.2 h3))
    · exact .inr (congrArg some (by rw [h3]; simp [compare, compareOfLessAndEq]))
  · right; right
    refine ⟨h, ?_⟩
    have e1 := m1 (Rat.not_lt.1 (fun x => by have := h2.2 x; omega))
    have e2 := m2 (Rat.not_lt.1 (fun x => by have := h1.2 x; omega))
    rw [show fs p = fs q by omega]
    simp [compare, compareOfLessAndEq]
  · right; left
    refine ⟨h, ?_⟩
    have := m2 (Rat.le_of_lt (h2.1 h))
    rcases Int.lt_or_eq_of_le this with h3 | h3
    · exact .inl (congrArg some (by simp only [compare, compareOfLessAndEq]; rw [if_neg (by omega), if_neg (by omega)]))
    · exact .inr (congrArg some (by rw [h3]; simp [compare, compareOfLessAndEq]))
end Pg
namespace Go.Proofs.Ytgehoflkbckgkaa
open Go.RowKit Pg
set_option maxRecDepth 100000 in
set_option maxHeartbeats 4000000 in
theorem law_FltOrder (v v' : Value) (p q : Rat) (w : World) (ha : RArg w v p 140737488355328) (ha' : RArg w v' q 140737488355328) :
    Calls Try.prog 8 #[v, v'] w fun e w' => e = .returned (.bool true) ∧ Below w.heap.size w w' := by
  obtain ⟨s, A, n, cA, A', n', cA', xs, ys, rfl, h, h', hn, hn', hp⟩ := ha
  obtain ⟨t, C, m, cC, C', m', cC', us, vs, rfl, g, g', hm, hm', hq⟩ := ha'
  have HR0 : Hid (n ≤ 16 → n' ≤ 16 → RArg w (.agg #[.bool s, .slice A n cA, .slice A' n' cA']) p 16) := hid fun h1 h2 => ⟨_, _, _, _, _, _, _, _, _, rfl, h, h', h1, h2, hp⟩
  have HS0 : Hid (m ≤ 16 → m' ≤ 16 → RArg w (.agg #[.bool t, .slice C m cC, .slice C' m' cC']) q 16) := hid fun h1 h2 => ⟨_, _, _, _, _, _, _, _, _, rfl, g, g', h1, h2, hq⟩
  have HX := hid (((B3.new w 28 (.bool s) (.slice A n cA) (.slice A' n' cA')).alloc (.cells #[.bool t, .slice C m cC, .slice C' m' cC'] 28)).alloc (.cells #[.bool s, .slice A n cA, .slice A' n' cA', .bool t, .slice C m cC, .slice C' m' cC'] 28))
  have HY := hid ((B3.newg (w.alloc (.cells #[.bool s, .slice A n cA, .slice A' n' cA'] 28)) 28 (.bool t) (.slice C m cC) (.slice C' m' cC') (w.heap.size + 1) (by simp)).alloc (.cells #[.bool s, .slice A n cA, .slice A' n' cA', .bool t, .slice C m cC, .slice C' m' cC'] 28))
  have HB := hid (big_two (B6.newg ((w.alloc (.cells #[.bool s, .slice A n cA, .slice A' n' cA'] 28)).alloc (.cells #[.bool t, .slice C m cC, .slice C' m' cC'] 28)) 28 (.bool s) (.slice A n cA) (.slice A' n' cA') (.bool t) (.slice C m cC) (.slice C' m' cC') (w.heap.size + 2) (by simp)) hn hn' hm hm' 2)
  obtain ⟨k0, k1, k2, _, _, _⟩ := ((B3.new w 28 (.bool s) (.slice A n cA) (.slice A' n' cA')).alloc (.cells #[.bool t, .slice C m cC, .slice C' m' cC'] 28)).cells
  obtain ⟨j0, j1, j2, _, _, _⟩ := (B3.newg (w.alloc (.cells #[.bool s, .slice A n cA, .slice A' n' cA'] 28)) 28 (.bool t) (.slice C m cC) (.slice C' m' cC') (w.heap.size + 1) (by simp)).cells
  clear h h' hp g g' hq
  go_enter Try.func8, Try.ntmps8
  go_wp2_with (go_at_call 22; refine HB.out.mono ?_; rintro e w1 ⟨b, rfl, hb16, hb1⟩; rcases b with _ | _; all_goals (have hXc := (HX.out.below hb1).cells; have hYc := (HY.out.below hb1).cells; clear k0 k1 k2 j0 j1 j2; obtain ⟨k0, k1, k2, _⟩ := hXc; obtain ⟨j0, j1, j2, _⟩ := hYc))
  · go_ret
    exact ⟨rfl, (by repeat first | exact Below.refl _ _ | assumption | refine Pg.Below.then_ ?_ (by assumption) | refine Pg.Below.new_ ?_ _ | refine Pg.Below.drewN_ ?_ _)⟩
  · have hs16 : n ≤ 16 ∧ n' ≤ 16 ∧ m ≤ 16 ∧ m' ≤ 16 := by have := hb16 trivial; omega
    obtain ⟨x1, x2, x3, x4⟩ := hs16
    have HR := hid (HR0.out x1 x2)
    have HS := hid (HS0.out x3 x4)
    have hb0 : Below w.heap.size w w1 := Below.then_ (Below.new_ (Below.new_ (Below.new_ (Below.refl _ _) _) _) _) hb1
    have HX1 := hid (HX.out.below hb1)
    have HY1 := hid (HY.out.below hb1)
    clear k0 k1 k2 j0 j1 j2 HB HX HY HR0 HS0 hb16 hn hn' hm hm' x1 x2 x3 x4
    clear hb1
    refine draw_hd [30, 31, 32, 33, 34, 35, 36, 5, 6, 7] [.is (.agg #[.bool s, .slice A n cA, .slice A' n' cA']), .is (.agg #[.bool t, .slice C m cC, .slice C' m' cC']), .is (.int .i64 (cmpq p q)), .is (.agg #[.bool s, .slice A n cA, .slice A' n' cA']), .is (.float .f64 (fw p)), .is (.agg #[.bool t, .slice C m cC, .slice C' m' cC']), .is (.float .f64 (fw q)), .is (.int .i64 (cmpq p q)), .is (.float .f64 (fw p)), .is (.float .f64 (fw q))]
      (by kernel_rfl) (by kernel_rfl) (by kernel_rfl) (by decide) (by kernel_rfl) (by kernel_rfl) ?_ ?_
    · refine ⟨?_, ?_, ?_, ?_, ?_, ?_, ?_, ?_, ?_, ?_, trivial⟩
      · intro a w3 hA K hK
        have t2 := hA.old 2 _ rfl rfl
        obtain ⟨k0, k1, k2, _, _, _⟩ := (HX1.out.below hA.below).cells
        go_simp
        exact hK _ _ (by first | rfl | exact congrArg _ (by first | rfl | omega | (rw [IntKind.wrap_i64]; omega))) (Below.refl _ _)
      · intro a w3 hA K hK
        have t3 := hA.old 3 _ rfl rfl
        obtain ⟨k0, k1, k2, _, _, _⟩ := (HY1.out.below hA.below).cells
        go_simp
        exact hK _ _ (by first | rfl | exact congrArg _ (by first | rfl | omega | (rw [IntKind.wrap_i64]; omega))) (Below.refl _ _)
      · intro a w3 hA K hK
        have t30 := bt_is hA 0 30 rfl rfl (by kernel_rfl)
        have t31 := bt_is hA 1 31 rfl rfl (by kernel_rfl)
        have hC := r2Cmp_R w3 (HR.out.below (Below.then_ hb0 hA.below)) (HS.out.below (Below.then_ hb0 hA.below)) (by omega : (16 : Nat) ≤ 262144) (by omega)
        go_simp
        refine hC.mono ?_
        rintro e w4 ⟨rfl, hb⟩
        exact hK _ _ rfl hb
      · intro a w3 hA K hK
        have t2 := hA.old 2 _ rfl rfl
        obtain ⟨k0, k1, k2, _, _, _⟩ := (HX1.out.below hA.below).cells
        go_simp
        exact hK _ _ (by first | rfl | exact congrArg _ (by first | rfl | omega | (rw [IntKind.wrap_i64]; omega))) (Below.refl _ _)
      · intro a w3 hA K hK
        have t33 := bt_is hA 3 33 rfl rfl (by kernel_rfl)
        have hC := fltTo_R w3 (HR.out.below (Below.then_ hb0 hA.below)) (by omega : (16 : Nat) ≤ 120) (by omega)
        go_simp
        refine hC.mono ?_
        rintro e w4 ⟨rfl, hb⟩
        exact hK _ _ rfl hb
      · intro a w3 hA K hK
        have t3 := hA.old 3 _ rfl rfl
        obtain ⟨k0, k1, k2, _, _, _⟩ := (HY1.out.below hA.below).cells
        go_simp
        exact hK _ _ (by first | rfl | exact congrArg _ (by first | rfl | omega | (rw [IntKind.wrap_i64]; omega))) (Below.refl _ _)
      · intro a w3 hA K hK
        have t35 := bt_is hA 5 35 rfl rfl (by kernel_rfl)
        have hC := fltTo_R w3 (HS.out.below (Below.then_ hb0 hA.below)) (by omega : (16 : Nat) ≤ 120) (by omega)
        go_simp
        refine hC.mono ?_
        rintro e w4 ⟨rfl, hb⟩
        exact hK _ _ rfl hb
      · intro a w3 hA K hK
        have t32 := bt_is hA 2 32 rfl rfl (by kernel_rfl)
        go_simp
        exact hK _ _ (by first | rfl | exact congrArg _ (by first | rfl | omega | (rw [IntKind.wrap_i64]; omega))) (Below.refl _ _)
      · intro a w3 hA K hK
        have t34 := bt_is hA 4 34 rfl rfl (by kernel_rfl)
        go_simp
        exact hK _ _ (by first | rfl | exact congrArg _ (by first | rfl | omega | (rw [IntKind.wrap_i64]; omega))) (Below.refl _ _)
      · intro a w3 hA K hK
        have t36 := bt_is hA 6 36 rfl rfl (by kernel_rfl)
        go_simp
        exact hK _ _ (by first | rfl | exact congrArg _ (by first | rfl | omega | (rw [IntKind.wrap_i64]; omega))) (Below.refl _ _)
    rintro vs w5 hV hb5 act hact
    have hV' := hV.is_
    clear hV
    obtain ⟨_, rfl, hV⟩ := hV'
    have hV' := hV.is_
    clear hV
    obtain ⟨_, rfl, hV⟩ := hV'
    have hV' := hV.is_
    clear hV
    obtain ⟨_, rfl, hV⟩ := hV'
    have hV' := hV.is_
    clear hV
    obtain ⟨_, rfl, hV⟩ := hV'
    have hV' := hV.is_
    clear hV
    obtain ⟨_, rfl, hV⟩ := hV'
    have hV' := hV.is_
    clear hV
    obtain ⟨_, rfl, hV⟩ := hV'
    have hV' := hV.is_
    clear hV
    obtain ⟨_, rfl, hV⟩ := hV'
    have hV' := hV.is_
    clear hV
    obtain ⟨_, rfl, hV⟩ := hV'
    have hV' := hV.is_
    clear hV
    obtain ⟨_, rfl, hV⟩ := hV'
    have hV' := hV.is_
    clear hV
    obtain ⟨_, rfl, hV⟩ := hV'
    obtain rfl := hV.nil_
    clear hV
    simp only [puts] at hact
    subst hact
    have ho := order_cases p q
    have hbw := Below.then_ hb0 hb5
    clear hb5 hb0 HX1 HY1 HR HS
    rw [show Ieee.double = FloatKind.f64.format from rfl] at ho
    generalize fw p = x at *
    generalize fw q = y at *
    generalize cmpq p q = z at *
    rcases ho with ⟨hz, ho | ho⟩ | ⟨hz, ho | ho⟩ | ⟨rfl, ho⟩
    all_goals
      go_wp2_with (go_at_call 21; refine (known4_any _).mono ?_; rintro e w6 ⟨rfl, hb6⟩)
      go_ret
      exact ⟨rfl, (by repeat first | exact Below.refl _ _ | assumption | refine Pg.Below.then_ ?_ (by assumption) | refine Pg.Below.new_ ?_ _ | refine Pg.Below.drewN_ ?_ _)⟩
  · go_ret
    exact ⟨rfl, (by repeat first | exact Below.refl _ _ | assumption | refine Pg.Below.then_ ?_ (by assumption) | refine Pg.Below.new_ ?_ _ | refine Pg.Below.drewN_ ?_ _)⟩
end Go.Proofs.Ytgehoflkbckgkaa
