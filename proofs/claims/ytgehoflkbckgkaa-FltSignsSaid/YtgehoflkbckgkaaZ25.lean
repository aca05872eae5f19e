/- Walk: the law FltSigns. Conditions: those that each theorem names. -/
import Derived.Test.YtgehoflkbckgkaaZ24
import Derived.Laws.Bits64
namespace Go.Proofs.Ytgehoflkbckgkaa
open Go.RowKit Pg
set_option maxRecDepth 100000 in
set_option maxHeartbeats 4000000 in
theorem law_FltSigns (v : Value) (p : Rat) (w : World) (ha : RArg w v p 140737488355328) :
    Calls Try.prog 10 #[v] w fun e w' => e = .returned (.bool true) ∧ Below w.heap.size w w' := by
  obtain ⟨s, A, n, c, A', n', c', xs, ys, rfl, h, h', hn, hn', hp⟩ := ha
  have HR0 : Hid (n ≤ 16 → n' ≤ 16 → RArg w (.agg #[.bool s, .slice A n c, .slice A' n' c']) p 16) := hid fun h1 h2 => ⟨_, _, _, _, _, _, _, _, _, rfl, h, h', h1, h2, hp⟩
  have HX := hid ((B3.new w 28 (.bool s) (.slice A n c) (.slice A' n' c')).alloc (.cells #[.bool s, .slice A n c, .slice A' n' c'] 28))
  have HB := hid (big_one (B3.newg (w.alloc (.cells #[.bool s, .slice A n c, .slice A' n' c'] 28)) 28 (.bool s) (.slice A n c) (.slice A' n' c') (w.heap.size + 1) (by simp)) hn hn' 1)
  obtain ⟨k0, k1, k2, _, _, _⟩ := (B3.new w 28 (.bool s) (.slice A n c) (.slice A' n' c')).cells
  clear h h' hp
  go_enter Try.func10, Try.ntmps10
  go_wp2_with (go_at_call 22; refine HB.out.mono ?_; rintro e w1 ⟨b, rfl, hb16, hb1⟩; rcases b with _ | _)
  · have hs16 : n ≤ 16 ∧ n' ≤ 16 := by have := hb16 trivial; omega
    have HR := hid (HR0.out hs16.1 hs16.2)
    have hb0 : Below w.heap.size w w1 := Below.then_ (Below.new_ (Below.new_ (Below.refl _ _) _) _) hb1
    have HX1 := hid (HX.out.below hb1)
    have hsn : Short (-p) 16 := (HR.out.short (by omega)).neg
    clear k0 k1 k2 HB HX HR0 hb16 hs16 hn hn'
    clear hb1
    refine draw_hd [8, 9, 10, 11, 12, 3, 4] [.is (.agg #[.bool s, .slice A n c, .slice A' n' c']), .is (.float .f64 (fw p)), .is (.agg #[.bool s, .slice A n c, .slice A' n' c']), .rat (-p), .is (.float .f64 (fw (-p))), .is (.float .f64 (fw p)), .is (.float .f64 (fw (-p)))]
      (by kernel_rfl) (by kernel_rfl) (by kernel_rfl) (by decide) (by kernel_rfl) (by kernel_rfl) ?_ ?_
    · refine ⟨?_, ?_, ?_, ?_, ?_, ?_, ?_, trivial⟩
      · intro a w3 hA K hK
        have t1 := hA.old 1 _ rfl rfl
        obtain ⟨k0, k1, k2, _, _, _⟩ := (HX1.out.below hA.below).cells
        go_simp
        exact hK _ _ (by first | rfl | exact congrArg _ (by first | rfl | omega | (rw [IntKind.wrap_i64]; omega))) (Below.refl _ _)
      · intro a w3 hA K hK
        have t8 := bt_is hA 0 8 rfl rfl (by kernel_rfl)
        have hC := fltTo_R w3 (HR.out.below (Below.then_ hb0 hA.below)) (by omega : (16 : Nat) ≤ 120) (by omega)
        go_simp
        refine hC.mono ?_
        rintro e w4 ⟨rfl, hb⟩
        exact hK _ _ rfl hb
      · intro a w3 hA K hK
        have t1 := hA.old 1 _ rfl rfl
        obtain ⟨k0, k1, k2, _, _, _⟩ := (HX1.out.below hA.below).cells
        go_simp
        exact hK _ _ (by first | rfl | exact congrArg _ (by first | rfl | omega | (rw [IntKind.wrap_i64]; omega))) (Below.refl _ _)
      · intro a w3 hA K hK
        have t10 := bt_is hA 2 10 rfl rfl (by kernel_rfl)
        have hC := r2Neg_R w3 (HR.out.below (Below.then_ hb0 hA.below)) (by omega : (16 : Nat) ≤ 262144)
        go_simp
        refine hC.mono ?_
        rintro e w4 ⟨A3, c3, A4, c4, rfl, hr, hr', hb⟩
        exact hK _ _ ⟨_, _, _, _, rfl, hr, hr'⟩ hb
      · intro a w3 hA K hK
        obtain ⟨A11, c11, B11, d11, t11, r11, s11⟩ := bt_rat hA 3 11 rfl rfl (by kernel_rfl)
        have hC := fltTo_R w3 (RArg.norm r11 s11 hsn.1 hsn.2) (by omega : (16 : Nat) ≤ 120) (by omega)
        go_simp
        refine hC.mono ?_
        rintro e w4 ⟨rfl, hb⟩
        exact hK _ _ rfl hb
      · intro a w3 hA K hK
        have t9 := bt_is hA 1 9 rfl rfl (by kernel_rfl)
        go_simp
        exact hK _ _ (by first | rfl | exact congrArg _ (by first | rfl | omega | (rw [IntKind.wrap_i64]; omega))) (Below.refl _ _)
      · intro a w3 hA K hK
        have t12 := bt_is hA 4 12 rfl rfl (by kernel_rfl)
        go_simp
        exact hK _ _ (by first | rfl | exact congrArg _ (by first | rfl | omega | (rw [IntKind.wrap_i64]; omega))) (Below.refl _ _)
    rintro vs w5 hV hb5 act hact
    have hV' := hV.is_
    clear hV
    obtain ⟨_, rfl, hV⟩ := hV'
    have hV' := hV.is_
    clear hV
    obtain ⟨_, rfl, hV⟩ := hV'
    have hV' := hV.is_
    clear hV
    obtain ⟨_, rfl, hV⟩ := hV'
    have hV' := hV.rat_
    clear hV
    obtain ⟨A11, c11, B11, d11, _, rfl, r11, s11, hV⟩ := hV'
    have hV' := hV.is_
    clear hV
    obtain ⟨_, rfl, hV⟩ := hV'
    have hV' := hV.is_
    clear hV
    obtain ⟨_, rfl, hV⟩ := hV'
    have hV' := hV.is_
    clear hV
    obtain ⟨_, rfl, hV⟩ := hV'
    obtain rfl := hV.nil_
    clear hV
    simp only [puts] at hact
    subst hact
    have hlt1 := fw_lt p
    have hlt2 := fw_lt (-p)
    obtain ⟨n1, n2⟩ := fw_neg p
    have HK1 := fun W => fltKind_any (fw p) W hlt1
    have HK2 := fun W => fltKind_any (fw (-p)) W hlt2
    have q1 := fun W => run_f64bits (fw p) W
    have q2 := fun W => run_f64bits (fw (-p)) W
    have hbw := Below.then_ hb0 hb5
    clear r11 s11 hb5 hb0 HX1 HR hsn
    generalize fw p = x at *
    generalize fw (-p) = y at *
    by_cases hx0 : x = 0
    · have hk1 := (kind_one hlt1).2 hx0
      have hk2 := (kind_one hlt2).2 (n1 hx0)
      rw [hk1] at HK1
      rw [hk2] at HK2
      have HK1 := hid HK1
      have HK2 := hid HK2
      clear hk1 hk2 n1 n2 hlt1 hlt2 hx0 q1 q2
      go_wp2_with (first
        | (go_at_call 19; (with_reducible refine (HK1.out _).mono ?_); rintro e w3 ⟨rfl, rfl⟩)
        | (go_at_call 19; (with_reducible refine (HK2.out _).mono ?_); rintro e w3 ⟨rfl, rfl⟩)
        | (go_at_call 21; refine (known4_any _).mono ?_; rintro e w6 ⟨rfl, hb6⟩))
      go_ret
      exact ⟨rfl, (by repeat first | exact Below.refl _ _ | assumption | refine Pg.Below.then_ ?_ (by assumption) | refine Pg.Below.new_ ?_ _ | refine Pg.Below.drewN_ ?_ _)⟩
    · have hk1 : ((fKind x : Int) == 1) = false := beq_eq_false_iff_ne.2 (by have := mt (kind_one hlt1).1 hx0; omega)
      have hxy : Hid (bits .xor .u64 (x : Int) (y : Int) = 9223372036854775808) := hid (by rw [bits_xor_u64_nat x y hlt1 hlt2, n2 hx0]; rfl)
      generalize (fKind x : Int) = kk at *
      have HK1 := hid HK1
      have hxb : (bits .xor .u64 (x : Int) (y : Int) == 9223372036854775808) = true := beq_iff_eq.2 hxy.out
      clear hx0 n1 n2 hlt1 hlt2 HK2
      go_wp2_with (first
        | (go_at_call 19; (with_reducible refine (HK1.out _).mono ?_); rintro e w3 ⟨rfl, rfl⟩)
        | (go_at_call 21; refine (known4_any _).mono ?_; rintro e w6 ⟨rfl, hb6⟩))
      all_goals first
        | exact absurd hxy.out ‹¬ _›
        | (go_ret; exact ⟨rfl, (by repeat first | exact Below.refl _ _ | assumption | refine Pg.Below.then_ ?_ (by assumption) | refine Pg.Below.new_ ?_ _ | refine Pg.Below.drewN_ ?_ _)⟩)
  · go_ret
    exact ⟨rfl, (by repeat first | exact Below.refl _ _ | assumption | refine Pg.Below.then_ ?_ (by assumption) | refine Pg.Below.new_ ?_ _ | refine Pg.Below.drewN_ ?_ _)⟩
end Go.Proofs.Ytgehoflkbckgkaa
