/- Walks: pantographref4.sign, To · Walk: pantographlaw4.shifted; what lies far, what is low · Walk: the law FltEdges. Conditions: those that each theorem names. -/
import Derived.Test.YtgehoflkbckgkaaZ18
import Derived.Test.YtgehoflkbckgkaaZ19
import Derived.Test.YtgehoflkbckgkaaZ20
namespace Pg
theorem or_sign (R : Nat) (h : R < 9223372036854775808) : Go.bits .or .u64 (R : Int) 9223372036854775808 = ((9223372036854775808 + R : Nat) : Int) := by
  have h1 := Go.u64_or_nat R 9223372036854775808 (by omega) (by omega)
  have j : R ||| 9223372036854775808 = 9223372036854775808 + R := by
    rw [Nat.or_comm]
    have := (Nat.two_pow_add_eq_or_of_lt (i := 63) (b := R) (by omega) 1).symm
    simpa using this
  rw [j] at h1
  exact h1
theorem fword_of {N D k u : Nat} (s : Bool) (hp : Place N D k u) : fword s N D = if u = 0 then 0 else if s then 9223372036854775808 + min (k * 4503599627370496 + u) 9218868437227405312 else min (k * 4503599627370496 + u) 9218868437227405312 := by
  unfold fword
  rw [hp.rung]
  have := hp.unorm
  by_cases h : u = 0
  · rw [if_pos h, if_pos]; rw [h, show k = 0 by omega]; rfl
  · rw [if_neg h, if_neg]; omega
theorem limbs_len2 {N k : Nat} (h : blen N ≤ k) (hk : k ≤ 30000000) : (limbs N).length ≤ 1048570 := by
  by_cases h0 : N = 0
  · subst h0; rw [limbs_zero]; simp
  · have hb := (blen_bounds h0).2.2
    refine Nat.le_trans (length_limbs_le (k := k / 32 + 1) (Nat.lt_of_lt_of_le hb ?_)) (by omega)
    rw [show (4294967296 : Nat) = 2 ^ 32 from rfl, ← Nat.pow_mul]
    exact Nat.pow_le_pow_right (by omega) (by omega)
end Pg
namespace Go.Proofs.Ytgehoflkbckgkaa
open Go.RowKit Pg
theorem sign_any (s : Bool) (w : World) : Calls Try.prog 52 #[.bool s] w fun e w' => e = .returned (.int .i64 (if s then -1 else 1)) ∧ w = w' := by
  rcases s with _ | _
  all_goals
    go_enter Try.func52, Try.ntmps52
    go_wp2_with fail
    go_ret
    exact ⟨rfl, rfl⟩
theorem sign_f (w : World) : Calls Try.prog 52 #[.bool false] w fun e w' => e = .returned (.int .i64 1) ∧ w = w' := sign_any false w
theorem sign_t (w : World) : Calls Try.prog 52 #[.bool true] w fun e w' => e = .returned (.int .i64 (-1)) ∧ w = w' := sign_any true w
theorem Inf_f (w : World) : Calls Try.prog 51 #[.int .i64 1] w fun e w' => e = .returned (.float .f64 9218868437227405312) ∧ w = w' := Inf_any false w
theorem Inf_t (w : World) : Calls Try.prog 51 #[.int .i64 (-1)] w fun e w' => e = .returned (.float .f64 18442240474082181120) ∧ w = w' := Inf_any true w
theorem rBitsN (A : Option Addr) (n c : Nat) (xs : List Nat) (w : World) (a : Nat) (h : Row w A n c xs) (ea : val xs = a) (hb : n ≤ 1073741824) :
    Calls Try.prog 49 #[.slice A n c] w fun e w' => e = .returned (.int .i64 ((blen a : Nat) : Int)) ∧ Below w.heap.size w w' := by
  subst ea; exact rBits_any A n c xs w h hb
theorem rToN (A : Option Addr) (n c : Nat) (xs : List Nat) (w : World) (a : Nat) (h : Row w A n c xs) (ea : val xs = a) (hb : n ≤ 1073741824) (ha : a ≤ 9007199254740992) :
    Calls Try.prog 53 #[.slice A n c] w fun e w' => e = .returned (.tuple #[.int .u64 (a : Int), .bool true]) ∧ Below w.heap.size w w' := by
  subst ea
  have := rTo_any A n c xs w h hb
  unfold to64 is64 at this
  rw [if_pos (by omega), show decide (val xs < 18446744073709551616) = true by simp; omega] at this
  exact this
/-- What stands behind the first estimate. -/
def RMid (w2 : World) (e : Int) (s4 : Value) (wc : World) : Prop := s4 = .int .i64 e ∧ Below w2.heap.size w2 wc

set_option maxRecDepth 100000 in
set_option maxHeartbeats 4000000 in
/-- pantographref4.To. -/
theorem r4To_F (F : Nat) (neg : Bool) (A A' : Option Addr) (n c n' c' : Nat) (xs ys : List Nat) (w : World) (h : Row w A n c xs) (h' : Row w A' n' c' ys) (hb : n ≤ 1048576) (hb' : n' ≤ 1048576) (q : Rat) (hq : rv neg (val xs) (val ys) = q)
    (hN : blen (rnum q) ≤ 4000) (hD : blen q.den ≤ 4000) (hF : F = fword (rneg q) (rnum q) q.den) :
    Calls Try.prog 28 #[.agg #[.bool neg, .slice A n c, .slice A' n' c']] w fun e w' => e = .returned (.float .f64 F) ∧ Below w.heap.size w w' := by
  have HB := hid (B3.new w 28 (.bool neg) (.slice A n c) (.slice A' n' c'))
  have hO := fun W (hW : Below w.heap.size w W) => r2Norm_any neg A A' n c n' c' xs ys W (h.below hW) (h'.below hW) hb hb'
  rw [hq] at hO
  have HO := hid hO
  clear hO h h' hb hb' hq
  have hD0 : q.den ≠ 0 := q.den_nz
  have l1 := limbs_len hN (by omega)
  have l2 := limbs_len hD (by omega)
  obtain ⟨k0, k1, k2, _, _, _⟩ := HB.out.cells
  go_enter Try.func28, Try.ntmps28
  go_upto_region 2 with (go_at_call 38; refine (HO.out _ (by repeat first | exact Below.refl _ _ | assumption | refine Pg.Below.then_ ?_ (by assumption) | refine Pg.Below.new_ ?_ _ | refine Pg.Below.drewN_ ?_ _)).mono ?_; rintro e w1 ⟨A1, c1, A2, c2, rfl, hr1, hr2, hb1⟩; clear k0 k1 k2)
  have hB2 := B3.new w1 28 (.bool (rneg q)) (.slice A1 (limbs (rnum q)).length c1) (.slice A2 (limbs q.den).length c2)
  have hs1 := hr1.alloc (.cells #[.bool (rneg q), .slice A1 (limbs (rnum q)).length c1, .slice A2 (limbs q.den).length c2] 28)
  have hs2 := hr2.alloc (.cells #[.bool (rneg q), .slice A1 (limbs (rnum q)).length c1, .slice A2 (limbs q.den).length c2] 28)
  have hbs : Below w.heap.size w (w1.alloc (.cells #[.bool (rneg q), .slice A1 (limbs (rnum q)).length c1, .slice A2 (limbs q.den).length c2] 28)) := (by repeat first | exact Below.refl _ _ | assumption | refine Pg.Below.then_ ?_ (by assumption) | refine Pg.Below.new_ ?_ _ | refine Pg.Below.drewN_ ?_ _)
  generalize w1.alloc (.cells #[.bool (rneg q), .slice A1 (limbs (rnum q)).length c1, .slice A2 (limbs q.den).length c2] 28) = w2 at *
  generalize w1.heap.size = g at *
  clear hr1 hr2 hb1 HB HO
  obtain ⟨k0, k1, k2, _, _, _⟩ := hB2.cells
  generalize rnum q = N at *
  generalize q.den = D at *
  generalize rneg q = S at *
  by_cases h0 : N = 0
  · subst h0
    have e0 : (limbs 0).length = 0 := rfl
    have HF0 := hid (hF.trans (fword_zero S hD0))
    clear hF hN hD hs1 hs2 l1 l2 hB2
    go_wp2_with fail
    go_ret
    exact ⟨by first | rfl | (rw [HF0.out]; rfl), hbs⟩
  have hlz : (((limbs N).length : Int) == 0) = false := beq_eq_false_iff_ne.2 (by
    intro e
    exact h0 (limbs_eq_nil.1 (List.length_eq_zero_iff.1 (by omega))))
  go_upto_region 4 with fail
  refine draw_hd [16, 17, 18, 19, 20, 21, 22, 4] [.is (.pointer (some ⟨g, 1, none⟩)), .is (.slice A1 (limbs N).length c1), .is (.int .i64 (blen N : Int)), .is (.pointer (some ⟨g, 2, none⟩)), .is (.slice A2 (limbs D).length c2), .is (.int .i64 (blen D : Int)), .is (.int .i64 ((blen N : Int) - (blen D : Int))), .is (.int .i64 ((blen N : Int) - (blen D : Int)))]
    (by kernel_rfl) (by kernel_rfl) (by kernel_rfl) (by decide) (by kernel_rfl) (by kernel_rfl) ?_ ?_
  · refine ⟨?_, ?_, ?_, ?_, ?_, ?_, ?_, ?_, trivial⟩
    · intro a w3 hA K hK
      have t3 := hA.old 3 _ rfl rfl
      go_simp
      exact hK _ _ (by first | rfl | exact congrArg _ (by first | rfl | omega | (rw [IntKind.wrap_i64]; omega))) (Below.refl _ _)
    · intro a w3 hA K hK
      have t16 := bt_is hA 0 16 rfl rfl (by kernel_rfl)
      obtain ⟨k0, k1, k2, _, _, _⟩ := (hB2.below hA.below).cells
      go_simp
      exact hK _ _ (by first | rfl | exact congrArg _ (by first | rfl | omega | (rw [IntKind.wrap_i64]; omega))) (Below.refl _ _)
    · intro a w3 hA K hK
      have t17 := bt_is hA 1 17 rfl rfl (by kernel_rfl)
      have hC := rBitsN A1 _ c1 _ w3 N (hs1.below hA.below) (val_limbs _) (by omega)
      go_simp
      refine hC.mono ?_
      rintro e w4 ⟨rfl, hb⟩
      exact hK _ _ rfl hb
    · intro a w3 hA K hK
      have t3 := hA.old 3 _ rfl rfl
      go_simp
      exact hK _ _ (by first | rfl | exact congrArg _ (by first | rfl | omega | (rw [IntKind.wrap_i64]; omega))) (Below.refl _ _)
    · intro a w3 hA K hK
      have t19 := bt_is hA 3 19 rfl rfl (by kernel_rfl)
      obtain ⟨k0, k1, k2, _, _, _⟩ := (hB2.below hA.below).cells
      go_simp
      exact hK _ _ (by first | rfl | exact congrArg _ (by first | rfl | omega | (rw [IntKind.wrap_i64]; omega))) (Below.refl _ _)
    · intro a w3 hA K hK
      have t20 := bt_is hA 4 20 rfl rfl (by kernel_rfl)
      have hC := rBitsN A2 _ c2 _ w3 D (hs2.below hA.below) (val_limbs _) (by omega)
      go_simp
      refine hC.mono ?_
      rintro e w4 ⟨rfl, hb⟩
      exact hK _ _ rfl hb
    · intro a w3 hA K hK
      have t18 := bt_is hA 2 18 rfl rfl (by kernel_rfl)
      have t21 := bt_is hA 5 21 rfl rfl (by kernel_rfl)
      go_simp
      exact hK _ _ (by first | rfl | exact congrArg _ (by first | rfl | omega | (rw [IntKind.wrap_i64]; omega))) (Below.refl _ _)
    · intro a w3 hA K hK
      have t22 := bt_is hA 6 22 rfl rfl (by kernel_rfl)
      go_simp
      exact hK _ _ (by first | rfl | exact congrArg _ (by first | rfl | omega | (rw [IntKind.wrap_i64]; omega))) (Below.refl _ _)
  rintro vs w3 hV hb3 act hact
  have hV' := hV.is_
  clear hV
  obtain ⟨_, rfl, hV⟩ := hV'
  have hV' := hV.is_
  clear hV
  obtain ⟨_, rfl, hV⟩ := hV'
  have hV' := hV.is_
  clear hV
  obtain ⟨_, rfl, hV⟩ := hV'
  have hV' := hV.is_
  clear hV
  obtain ⟨_, rfl, hV⟩ := hV'
  have hV' := hV.is_
  clear hV
  obtain ⟨_, rfl, hV⟩ := hV'
  have hV' := hV.is_
  clear hV
  obtain ⟨_, rfl, hV⟩ := hV'
  have hV' := hV.is_
  clear hV
  obtain ⟨_, rfl, hV⟩ := hV'
  have hV' := hV.is_
  clear hV
  obtain ⟨_, rfl, hV⟩ := hV'
  obtain rfl := hV.nil_
  clear hV
  simp only [puts] at hact
  subst hact

  go_simp
  obtain ⟨nx, hnx⟩ : ∃ x, N * 2 ^ (blen D - blen N) = x := ⟨_, rfl⟩
  obtain ⟨dx, hdx⟩ : ∃ x, D * 2 ^ (blen N - blen D) = x := ⟨_, rfl⟩
  obtain ⟨cm, hcm⟩ : ∃ x, cmpv nx dx = x := ⟨_, rfl⟩
  obtain ⟨b, hb⟩ : ∃ b, b = if nx < dx then 1 else 0 := ⟨_, rfl⟩
  have lnx := limbs_len (show blen nx ≤ 10000 by have := blen_shl N (blen D - blen N); rw [hnx] at this; omega) (by omega)
  have ldx := limbs_len (show blen dx ≤ 10000 by have := blen_shl D (blen N - blen D); rw [hdx] at this; omega) (by omega)
  have hbc : (b = 1 ∧ cm = -1) ∨ (b = 0 ∧ 0 ≤ cm) := by
    rcases Nat.lt_trichotomy nx dx with hl | hl | hl
    · rw [if_pos hl] at hb; rw [cmpv_lt hl] at hcm; exact .inl ⟨hb, hcm.symm⟩
    · rw [if_neg (by omega)] at hb; rw [cmpv_eq hl] at hcm; exact .inr ⟨hb, by omega⟩
    · rw [if_neg (by omega)] at hb; rw [cmpv_gt hl] at hcm; exact .inr ⟨hb, by omega⟩
  obtain ⟨k, hk⟩ : ∃ k, k = blen N + 1022 - blen D - b := ⟨_, rfl⟩
  have hp := ref_plan h0 hD0 (x := blen N - blen D) (y := blen D - blen N) rfl rfl b (by rw [hnx, hdx]; exact hb) hk
  have Hnx := hid hnx
  have Hdx := hid hdx
  have Hcm := hid hcm
  have Hp := hid hp
  clear hnx hdx hcm hb hp k0 k1 k2 h0 hlz
  go_upto_region 5 with fail
  refine draw_hd [23, 24, 25, 26, 27, 28, 29, 30, 31, 32, 33, 34, 5] [.is (.pointer (some ⟨g, 1, none⟩)), .is (.slice A1 (limbs N).length c1), .is (.int .i64 ((blen N : Int) - (blen D : Int))), .is (.int .i64 (-((blen N : Int) - (blen D : Int)))), .is (.int .i64 ((blen D - blen N : Nat) : Int)), .row nx, .is (.pointer (some ⟨g, 2, none⟩)), .is (.slice A2 (limbs D).length c2), .is (.int .i64 ((blen N : Int) - (blen D : Int))), .is (.int .i64 ((blen N - blen D : Nat) : Int)), .row dx, .is (.int .i64 cm), .is (.int .i64 cm)]
    (by kernel_rfl) (by kernel_rfl) (by kernel_rfl) (by decide) (by kernel_rfl) (by kernel_rfl) ?_ ?_
  · refine ⟨?_, ?_, ?_, ?_, ?_, ?_, ?_, ?_, ?_, ?_, ?_, ?_, ?_, trivial⟩
    · intro a w3 hA K hK
      have t3 := hA.old 3 _ rfl rfl
      go_simp
      exact hK _ _ (by first | rfl | exact congrArg _ (by first | rfl | omega | (rw [IntKind.wrap_i64]; omega))) (Below.refl _ _)
    · intro a w3 hA K hK
      have t23 := bt_is hA 0 23 rfl rfl (by kernel_rfl)
      obtain ⟨k0, k1, k2, _, _, _⟩ := (hB2.below (Below.then_ hb3 hA.below)).cells
      go_simp
      exact hK _ _ (by first | rfl | exact congrArg _ (by first | rfl | omega | (rw [IntKind.wrap_i64]; omega))) (Below.refl _ _)
    · intro a w3 hA K hK
      have t4 := hA.old 4 _ rfl rfl
      go_simp
      exact hK _ _ (by first | rfl | exact congrArg _ (by first | rfl | omega | (rw [IntKind.wrap_i64]; omega))) (Below.refl _ _)
    · intro a w3 hA K hK
      have t25 := bt_is hA 2 25 rfl rfl (by kernel_rfl)
      go_simp
      exact hK _ _ (by first | rfl | exact congrArg _ (by first | rfl | omega | (rw [IntKind.wrap_i64]; omega))) (Below.refl _ _)
    · intro a w3 hA K hK
      have t26 := bt_is hA 3 26 rfl rfl (by kernel_rfl)
      go_simp
      exact hK _ _ (by first | rfl | exact congrArg _ (by first | rfl | omega | (rw [IntKind.wrap_i64]; omega))) (Below.refl _ _)
    · intro a w3 hA K hK
      have t24 := bt_is hA 1 24 rfl rfl (by kernel_rfl)
      have t27 := bt_is hA 4 27 rfl rfl (by kernel_rfl)
      have hC := rShift_LN A1 _ c1 _ _ w3 N (blen D - blen N) nx (hs1.below (Below.then_ hb3 hA.below)) (val_limbs _) rfl (by omega) (by omega) Hnx.out
      go_simp
      refine hC.mono ?_
      rintro e w4 ⟨A3, c3, rfl, hr, hb⟩
      exact hK _ _ ⟨_, _, rfl, hr⟩ hb
    · intro a w3 hA K hK
      have t3 := hA.old 3 _ rfl rfl
      go_simp
      exact hK _ _ (by first | rfl | exact congrArg _ (by first | rfl | omega | (rw [IntKind.wrap_i64]; omega))) (Below.refl _ _)
    · intro a w3 hA K hK
      have t29 := bt_is hA 6 29 rfl rfl (by kernel_rfl)
      obtain ⟨k0, k1, k2, _, _, _⟩ := (hB2.below (Below.then_ hb3 hA.below)).cells
      go_simp
      exact hK _ _ (by first | rfl | exact congrArg _ (by first | rfl | omega | (rw [IntKind.wrap_i64]; omega))) (Below.refl _ _)
    · intro a w3 hA K hK
      have t4 := hA.old 4 _ rfl rfl
      go_simp
      exact hK _ _ (by first | rfl | exact congrArg _ (by first | rfl | omega | (rw [IntKind.wrap_i64]; omega))) (Below.refl _ _)
    · intro a w3 hA K hK
      have t31 := bt_is hA 8 31 rfl rfl (by kernel_rfl)
      go_simp
      exact hK _ _ (by first | rfl | exact congrArg _ (by first | rfl | omega | (rw [IntKind.wrap_i64]; omega))) (Below.refl _ _)
    · intro a w3 hA K hK
      have t30 := bt_is hA 7 30 rfl rfl (by kernel_rfl)
      have t32 := bt_is hA 9 32 rfl rfl (by kernel_rfl)
      have hC := rShift_LN A2 _ c2 _ _ w3 D (blen N - blen D) dx (hs2.below (Below.then_ hb3 hA.below)) (val_limbs _) rfl (by omega) (by omega) Hdx.out
      go_simp
      refine hC.mono ?_
      rintro e w4 ⟨A3, c3, rfl, hr, hb⟩
      exact hK _ _ ⟨_, _, rfl, hr⟩ hb
    · intro a w3 hA K hK
      obtain ⟨A28, c28, t28, r28⟩ := bt_row hA 5 28 rfl rfl (by kernel_rfl)
      obtain ⟨A33, c33, t33, r33⟩ := bt_row hA 10 33 rfl rfl (by kernel_rfl)
      have hC := rCmpE A28 A33 _ c28 _ c33 _ _ w3 nx dx cm r28 r33 (val_limbs _) (val_limbs _) (by omega) (by omega) Hcm.out
      go_simp
      refine hC.mono ?_
      rintro e w4 ⟨rfl, hb⟩
      exact hK _ _ rfl hb
    · intro a w3 hA K hK
      have t34 := bt_is hA 11 34 rfl rfl (by kernel_rfl)
      go_simp
      exact hK _ _ (by first | rfl | exact congrArg _ (by first | rfl | omega | (rw [IntKind.wrap_i64]; omega))) (Below.refl _ _)
  rintro vs w4 hV hb4 act hact
  have hV' := hV.is_
  clear hV
  obtain ⟨_, rfl, hV⟩ := hV'
  have hV' := hV.is_
  clear hV
  obtain ⟨_, rfl, hV⟩ := hV'
  have hV' := hV.is_
  clear hV
  obtain ⟨_, rfl, hV⟩ := hV'
  have hV' := hV.is_
  clear hV
  obtain ⟨_, rfl, hV⟩ := hV'
  have hV' := hV.is_
  clear hV
  obtain ⟨_, rfl, hV⟩ := hV'
  have hV' := hV.row_
  clear hV
  obtain ⟨A28, c28, _, rfl, r28, hV⟩ := hV'
  have hV' := hV.is_
  clear hV
  obtain ⟨_, rfl, hV⟩ := hV'
  have hV' := hV.is_
  clear hV
  obtain ⟨_, rfl, hV⟩ := hV'
  have hV' := hV.is_
  clear hV
  obtain ⟨_, rfl, hV⟩ := hV'
  have hV' := hV.is_
  clear hV
  obtain ⟨_, rfl, hV⟩ := hV'
  have hV' := hV.row_
  clear hV
  obtain ⟨A33, c33, _, rfl, r33, hV⟩ := hV'
  have hV' := hV.is_
  clear hV
  obtain ⟨_, rfl, hV⟩ := hV'
  have hV' := hV.is_
  clear hV
  obtain ⟨_, rfl, hV⟩ := hV'
  obtain rfl := hV.nil_
  clear hV
  simp only [puts] at hact
  subst hact

  go_simp
  have hX5 : Below w2.heap.size w2 w4 := (by repeat first | exact Below.refl _ _ | assumption | refine Pg.Below.then_ ?_ (by assumption) | refine Pg.Below.new_ ?_ _ | refine Pg.Below.drewN_ ?_ _)
  go_upto_if 36 with fail
  go_cut [4] (fun s4 wc => RMid w2 ((blen N : Int) - (blen D : Int) - (b : Int)) s4 wc)
  case first =>
    rcases hbc with ⟨rfl, rfl⟩ | ⟨rfl, h1⟩
    · go_wp2_with fail
      go_meet
      exact ⟨congrArg _ (by first | rfl | omega | (rw [IntKind.wrap_i64]; omega)), hX5⟩
    · go_wp2_with fail
      go_meet
      exact ⟨congrArg _ (by first | rfl | omega | (rw [IntKind.wrap_i64]; omega)), hX5⟩
  case rest =>
    obtain ⟨rfl, hbm⟩ := hcut
    clear hb3 hb4 hX5
    obtain ⟨k0, k1, k2, _, _, _⟩ := (hB2.below hbm).cells
    by_cases hbig : 1023 < (blen N : Int) - (blen D : Int) - (b : Int)
    · have hk2 : 2046 ≤ k := by omega
      have hp := Hp.out
      have hu : 4503599627370496 ≤ rnd (N * 2 ^ (1074 - k)) (D * 2 ^ (k - 1074)) := by have := hp.unorm; omega
      have hF2 : F = if S then 18442240474082181120 else 9218868437227405312 := by
        rw [hF, fword_of S hp, if_neg (by omega), Nat.min_eq_right (by omega)]
      have HF := hid hF2
      clear hF hF2 hp hu hk Hp
      rcases S with _ | _
      all_goals
        go_wp2_with (first | (go_at_call 52; refine (sign_f _).mono ?_; rintro e w' ⟨rfl, rfl⟩) | (go_at_call 52; refine (sign_t _).mono ?_; rintro e w' ⟨rfl, rfl⟩) | (go_at_call 51; refine (Inf_f _).mono ?_; rintro e w' ⟨rfl, rfl⟩) | (go_at_call 51; refine (Inf_t _).mono ?_; rintro e w' ⟨rfl, rfl⟩))
        go_ret
        exact ⟨by rw [HF.out]; rfl, hbs.trans (hbm.mono (by have := hbs.size; omega))⟩
    · have hk2 : k ≤ 2045 := by omega
      have hku : ((k : Int) - 1074) = max ((blen N : Int) - (blen D : Int) - (b : Int)) (-1022) - 52 := by omega
      obtain ⟨n0, hn0⟩ : ∃ x, N * 2 ^ (1074 - k) = x := ⟨_, rfl⟩
      obtain ⟨d0, hd0⟩ : ∃ x, D * 2 ^ (k - 1074) = x := ⟨_, rfl⟩
      obtain ⟨u, hu⟩ : ∃ x, x = rnd n0 d0 := ⟨_, rfl⟩
      have hd00 : d0 ≠ 0 := by rw [← hd0]; exact Nat.mul_ne_zero hD0 (Nat.pos_iff_ne_zero.1 (Nat.two_pow_pos _))
      have ln0 := limbs_len2 (show blen n0 ≤ 10000 by have := blen_shl N (1074 - k); rw [hn0] at this; omega) (by omega)
      have ld0 := limbs_len2 (show blen d0 ≤ 10000 by have := blen_shl D (k - 1074); rw [hd0] at this; omega) (by omega)
      have hp := Hp.out
      rw [hn0, hd0, ← hu] at hp
      have hule := hp.u_le
      have hun := hp.unorm
      have hF2 := hF.trans (fword_of S hp)
      have lu : (limbs u).length ≤ 1073741824 := Nat.le_trans (limbs_len (k := 60) (blen_upto (by omega)) (by omega)) (by omega)
      have Hn0 := hid hn0
      have Hd0 := hid hd0
      have Hu := hid hu
      have HF := hid hF2
      have HKU := hid hku
      clear hF hF2 hp hu hn0 hd0 Hp hku hk
      go_upto_region 11 with fail
      clear k0 k1 k2
      refine draw_hd [49, 50, 51, 52, 53, 54, 55, 56, 57, 58, 59, 60, 61, 48, 62, 63, 7, 8] [.is (.pointer (some ⟨g, 1, none⟩)), .is (.slice A1 (limbs N).length c1), .is (.int .i64 ((k : Int) - 1074)), .is (.int .i64 (-((k : Int) - 1074))), .is (.int .i64 ((1074 - k : Nat) : Int)), .row n0, .is (.pointer (some ⟨g, 2, none⟩)), .is (.slice A2 (limbs D).length c2), .is (.int .i64 ((k : Int) - 1074)), .is (.int .i64 ((k - 1074 : Nat) : Int)), .row d0, .row u, .is (.tuple #[.int .u64 (u : Int), .bool true]), .is (.tuple #[.int .u64 (u : Int), .bool true]), .is (.int .u64 (u : Int)), .is (.bool true), .is (.int .u64 (u : Int)), .is (.bool true)]
        (by kernel_rfl) (by kernel_rfl) (by kernel_rfl) (by decide) (by kernel_rfl) (by kernel_rfl) ?_ ?_
      · refine ⟨?_, ?_, ?_, ?_, ?_, ?_, ?_, ?_, ?_, ?_, ?_, ?_, ?_, ?_, ?_, ?_, ?_, ?_, trivial⟩
        · intro a w3 hA K hK
          have t3 := hA.old 3 _ rfl rfl
          go_simp
          exact hK _ _ (by first | rfl | exact congrArg _ (by first | rfl | omega | (rw [IntKind.wrap_i64]; omega))) (Below.refl _ _)
        · intro a w3 hA K hK
          have t49 := bt_is hA 0 49 rfl rfl (by kernel_rfl)
          obtain ⟨k0, k1, k2, _, _, _⟩ := (hB2.below (Below.then_ hbm hA.below)).cells
          go_simp
          exact hK _ _ (by first | rfl | exact congrArg _ (by first | rfl | omega | (rw [IntKind.wrap_i64]; omega))) (Below.refl _ _)
        · intro a w3 hA K hK
          have t6 := hA.old 6 _ rfl rfl
          go_simp
          exact hK _ _ (congrArg _ (by have := HKU.out; omega)) (Below.refl _ _)
        · intro a w3 hA K hK
          have t51 := bt_is hA 2 51 rfl rfl (by kernel_rfl)
          go_simp
          exact hK _ _ (by first | rfl | exact congrArg _ (by first | rfl | omega | (rw [IntKind.wrap_i64]; omega))) (Below.refl _ _)
        · intro a w3 hA K hK
          have t52 := bt_is hA 3 52 rfl rfl (by kernel_rfl)
          go_simp
          exact hK _ _ (by first | rfl | exact congrArg _ (by first | rfl | omega | (rw [IntKind.wrap_i64]; omega))) (Below.refl _ _)
        · intro a w3 hA K hK
          have t50 := bt_is hA 1 50 rfl rfl (by kernel_rfl)
          have t53 := bt_is hA 4 53 rfl rfl (by kernel_rfl)
          have hC := rShift_LN A1 _ c1 _ _ w3 N (1074 - k) n0 (hs1.below (Below.then_ hbm hA.below)) (val_limbs _) rfl (by omega) (by omega) Hn0.out
          go_simp
          refine hC.mono ?_
          rintro e w4 ⟨A3, c3, rfl, hr, hb⟩
          exact hK _ _ ⟨_, _, rfl, hr⟩ hb
        · intro a w3 hA K hK
          have t3 := hA.old 3 _ rfl rfl
          go_simp
          exact hK _ _ (by first | rfl | exact congrArg _ (by first | rfl | omega | (rw [IntKind.wrap_i64]; omega))) (Below.refl _ _)
        · intro a w3 hA K hK
          have t55 := bt_is hA 6 55 rfl rfl (by kernel_rfl)
          obtain ⟨k0, k1, k2, _, _, _⟩ := (hB2.below (Below.then_ hbm hA.below)).cells
          go_simp
          exact hK _ _ (by first | rfl | exact congrArg _ (by first | rfl | omega | (rw [IntKind.wrap_i64]; omega))) (Below.refl _ _)
        · intro a w3 hA K hK
          have t6 := hA.old 6 _ rfl rfl
          go_simp
          exact hK _ _ (congrArg _ (by have := HKU.out; omega)) (Below.refl _ _)
        · intro a w3 hA K hK
          have t57 := bt_is hA 8 57 rfl rfl (by kernel_rfl)
          go_simp
          exact hK _ _ (by first | rfl | exact congrArg _ (by first | rfl | omega | (rw [IntKind.wrap_i64]; omega))) (Below.refl _ _)
        · intro a w3 hA K hK
          have t56 := bt_is hA 7 56 rfl rfl (by kernel_rfl)
          have t58 := bt_is hA 9 58 rfl rfl (by kernel_rfl)
          have hC := rShift_LN A2 _ c2 _ _ w3 D (k - 1074) d0 (hs2.below (Below.then_ hbm hA.below)) (val_limbs _) rfl (by omega) (by omega) Hd0.out
          go_simp
          refine hC.mono ?_
          rintro e w4 ⟨A3, c3, rfl, hr, hb⟩
          exact hK _ _ ⟨_, _, rfl, hr⟩ hb
        · intro a w3 hA K hK
          obtain ⟨A54, c54, t54, r54⟩ := bt_row hA 5 54 rfl rfl (by kernel_rfl)
          obtain ⟨A59, c59, t59, r59⟩ := bt_row hA 10 59 rfl rfl (by kernel_rfl)
          have hC := near_any A54 A59 _ c54 _ c59 _ _ w3 n0 d0 u r54 r59 (val_limbs _) (val_limbs _) (by omega) (by omega) hd00 (by omega) (by omega) Hu.out
          go_simp
          refine hC.mono ?_
          rintro e w4 ⟨A3, c3, rfl, hr, hb⟩
          exact hK _ _ ⟨_, _, rfl, hr⟩ hb
        · intro a w3 hA K hK
          obtain ⟨A60, c60, t60, r60⟩ := bt_row hA 11 60 rfl rfl (by kernel_rfl)
          have hC := rToN A60 _ c60 _ w3 u r60 (val_limbs _) lu hule
          go_simp
          refine hC.mono ?_
          rintro e w4 ⟨rfl, hb⟩
          exact hK _ _ rfl hb
        · intro a w3 hA K hK
          have t61 := bt_is hA 12 61 rfl rfl (by kernel_rfl)
          go_simp
          exact hK _ _ (by first | rfl | exact congrArg _ (by first | rfl | omega | (rw [IntKind.wrap_i64]; omega))) (Below.refl _ _)
        · intro a w3 hA K hK
          have t48 := bt_is hA 13 48 rfl rfl (by kernel_rfl)
          go_simp
          exact hK _ _ (by first | rfl | exact congrArg _ (by first | rfl | omega | (rw [IntKind.wrap_i64]; omega))) (Below.refl _ _)
        · intro a w3 hA K hK
          have t48 := bt_is hA 13 48 rfl rfl (by kernel_rfl)
          go_simp
          exact hK _ _ (by first | rfl | exact congrArg _ (by first | rfl | omega | (rw [IntKind.wrap_i64]; omega))) (Below.refl _ _)
        · intro a w3 hA K hK
          have t62 := bt_is hA 14 62 rfl rfl (by kernel_rfl)
          go_simp
          exact hK _ _ (by first | rfl | exact congrArg _ (by first | rfl | omega | (rw [IntKind.wrap_i64]; omega))) (Below.refl _ _)
        · intro a w3 hA K hK
          have t63 := bt_is hA 15 63 rfl rfl (by kernel_rfl)
          go_simp
          exact hK _ _ (by first | rfl | exact congrArg _ (by first | rfl | omega | (rw [IntKind.wrap_i64]; omega))) (Below.refl _ _)
      rintro vs w5 hV hb5 act hact
      have hV' := hV.is_
      clear hV
      obtain ⟨_, rfl, hV⟩ := hV'
      have hV' := hV.is_
      clear hV
      obtain ⟨_, rfl, hV⟩ := hV'
      have hV' := hV.is_
      clear hV
      obtain ⟨_, rfl, hV⟩ := hV'
      have hV' := hV.is_
      clear hV
      obtain ⟨_, rfl, hV⟩ := hV'
      have hV' := hV.is_
      clear hV
      obtain ⟨_, rfl, hV⟩ := hV'
      have hV' := hV.row_
      clear hV
      obtain ⟨A54, c54, _, rfl, r54, hV⟩ := hV'
      have hV' := hV.is_
      clear hV
      obtain ⟨_, rfl, hV⟩ := hV'
      have hV' := hV.is_
      clear hV
      obtain ⟨_, rfl, hV⟩ := hV'
      have hV' := hV.is_
      clear hV
      obtain ⟨_, rfl, hV⟩ := hV'
      have hV' := hV.is_
      clear hV
      obtain ⟨_, rfl, hV⟩ := hV'
      have hV' := hV.row_
      clear hV
      obtain ⟨A59, c59, _, rfl, r59, hV⟩ := hV'
      have hV' := hV.row_
      clear hV
      obtain ⟨A60, c60, _, rfl, r60, hV⟩ := hV'
      have hV' := hV.is_
      clear hV
      obtain ⟨_, rfl, hV⟩ := hV'
      have hV' := hV.is_
      clear hV
      obtain ⟨_, rfl, hV⟩ := hV'
      have hV' := hV.is_
      clear hV
      obtain ⟨_, rfl, hV⟩ := hV'
      have hV' := hV.is_
      clear hV
      obtain ⟨_, rfl, hV⟩ := hV'
      have hV' := hV.is_
      clear hV
      obtain ⟨_, rfl, hV⟩ := hV'
      have hV' := hV.is_
      clear hV
      obtain ⟨_, rfl, hV⟩ := hV'
      obtain rfl := hV.nil_
      clear hV
      simp only [puts] at hact
      subst hact

      go_simp
      have hw5 := Below.then_ hbm hb5
      rw [← HKU.out]
      clear hbm hb5 r54 r59 r60 Hn0 Hd0 Hu HKU hbig
      obtain ⟨k0, k1, k2, _, _, _⟩ := (hB2.below hw5).cells
      obtain ⟨z, hzu⟩ : ∃ z : Int, (u : Int) = z := ⟨_, rfl⟩
      rw [hzu]
      have HZ := hid hzu
      clear hzu
      by_cases hu0 : u = 0
      · have HF0 : Hid (F = 0) := hid (by rw [HF.out, if_pos hu0])
        have hz0 : z = 0 := by have := HZ.out; omega
        subst hz0
        clear HF hun hule hu0
        go_wp2_with fail
        go_ret
        exact ⟨by first | rfl | (rw [HF0.out]; rfl), hbs.trans (hw5.mono (by have := hbs.size; omega))⟩
      · have hz : (z == 0) = false := beq_eq_false_iff_ne.2 (by have := HZ.out; omega)
        have hz1 : 0 ≤ z := by have := HZ.out; omega
        have hz2 : z ≤ 9007199254740992 := by have := HZ.out; omega
        obtain ⟨T, hT⟩ : ∃ T, T = k * 4503599627370496 + u := ⟨_, rfl⟩
        obtain ⟨t, ht⟩ : ∃ t : Int, t = (T : Int) := ⟨_, rfl⟩
        have HF1 : Hid (F = if S then 9223372036854775808 + min T 9218868437227405312 else min T 9218868437227405312) := hid (by rw [HF.out, if_neg hu0, hT])
        have HT := hid (show T = k * 4503599627370496 + u ∧ t = (T : Int) from ⟨hT, ht⟩)
        have HU := hid hun
        clear HF hT ht hun hule hu0
        go_upto_if 68 with fail
        go_cut [9] (fun s9 wd => s9 = .int .u64 t ∧ wd = w5)
        case first =>
          by_cases h52 : 4503599627370496 ≤ z
          · go_wp2_with fail
            go_meet
            exact ⟨congrArg _ (by have := HT.out; have := HZ.out; first | omega | (simp only [IntKind.wrap_u64]; omega)), rfl⟩
          · have hk0 : k = 0 := by have := HU.out; have := HZ.out; omega
            subst hk0
            go_wp2_with fail
            go_meet
            exact ⟨congrArg _ (by have := HT.out; have := HZ.out; omega), rfl⟩
        case rest =>
          obtain ⟨rfl, rfl⟩ := hcut
          have ht1 : 0 ≤ t := by have := HT.out; omega
          have ht2 : t ≤ 9223372036854775807 := by have := HT.out; have := HZ.out; omega
          have HT2 := hid HT.out.2
          clear HT hz hz1 hz2 HU HZ
          by_cases hTi : 9218868437227405312 ≤ t
          · have HF2 : Hid (F = if S then 18442240474082181120 else 9218868437227405312) := hid (by rw [HF1.out, Nat.min_eq_right (by have := HT2.out; omega)])
            clear HF1
            rcases S with _ | _
            all_goals
              go_wp2_with (first | (go_at_call 52; refine (sign_f _).mono ?_; rintro e w' ⟨rfl, rfl⟩) | (go_at_call 52; refine (sign_t _).mono ?_; rintro e w' ⟨rfl, rfl⟩) | (go_at_call 51; refine (Inf_f _).mono ?_; rintro e w' ⟨rfl, rfl⟩) | (go_at_call 51; refine (Inf_t _).mono ?_; rintro e w' ⟨rfl, rfl⟩))
              go_ret
              exact ⟨by rw [HF2.out]; rfl, hbs.trans (hw5.mono (by have := hbs.size; omega))⟩
          · have HF2 : Hid (F = if S then 9223372036854775808 + T else T) := hid (by rw [HF1.out, Nat.min_eq_left (by have := HT2.out; omega)])
            clear HF1
            have hor : bits .or .u64 t 9223372036854775808 = ((9223372036854775808 + T : Nat) : Int) := by rw [HT2.out]; exact or_sign T (by have := HT2.out; omega)
            have q1 := run_f64from t T HT2.out
            have q2 := run_f64from ((9223372036854775808 + T : Nat) : Int) (9223372036854775808 + T) rfl
            obtain ⟨v, hv⟩ : ∃ v : Int, ((9223372036854775808 + T : Nat) : Int) = v := ⟨_, rfl⟩
            rw [hv] at hor q2
            have hv1 : 0 ≤ v := by omega
            clear hv
            rcases S with _ | _
            · go_wp2_with fail
              go_ret
              exact ⟨by rw [HF2.out]; rfl, hbs.trans (hw5.mono (by have := hbs.size; omega))⟩
            · go_wp2_with fail
              go_ret
              exact ⟨by rw [HF2.out]; rfl, hbs.trans (hw5.mono (by have := hbs.size; omega))⟩

/-- pantographref4.To: the nearest number. -/
theorem r4To_any (neg : Bool) (A A' : Option Addr) (n c n' c' : Nat) (xs ys : List Nat) (w : World) (h : Row w A n c xs) (h' : Row w A' n' c' ys) (hb : n ≤ 1048576) (hb' : n' ≤ 1048576) (q : Rat) (hq : rv neg (val xs) (val ys) = q)
    (hN : blen (rnum q) ≤ 4000) (hD : blen q.den ≤ 4000) :
    Calls Try.prog 28 #[.agg #[.bool neg, .slice A n c, .slice A' n' c']] w fun e w' => e = .returned (.float .f64 (fword (rneg q) (rnum q) q.den)) ∧ Below w.heap.size w w' :=
  r4To_F _ neg A A' n c n' c' xs ys w h h' hb hb' q hq hN hD rfl
end Go.Proofs.Ytgehoflkbckgkaa
namespace Pg
theorem val_shifted_pow : ∀ (n : Nat), val (List.replicate n 0 ++ [1]) = 4294967296 ^ n
  | 0 => rfl
  | n + 1 => by
    have e1 : val (0 :: (List.replicate n 0 ++ [1])) = 0 + 4294967296 * val (List.replicate n 0 ++ [1]) := rfl
    rw [List.replicate_succ, List.cons_append, e1, val_shifted_pow n, Nat.pow_succ, Nat.zero_add, Nat.mul_comm]
theorem val_shifted (n : Nat) : val (List.replicate n 0 ++ [1]) = 2 ^ (32 * n) := by
  rw [val_shifted_pow, show (4294967296 : Nat) = 2 ^ 32 from rfl, ← Nat.pow_mul]
theorem ok_shifted : ∀ (n : Nat), Ok (List.replicate n 0 ++ [1])
  | 0 => ok_cons.2 ⟨by omega, ok_nil⟩
  | n + 1 => by rw [List.replicate_succ, List.cons_append]; exact ok_cons.2 ⟨by omega, ok_shifted n⟩
theorem limbs_shifted (n : Nat) : limbs (2 ^ (32 * n)) = List.replicate n 0 ++ [1] := by
  rw [← val_shifted n]
  refine limbs_val (ok_shifted n) ?_
  unfold Trimmed
  rw [List.getLast?_append]; simp
theorem frung_far {N D T : Nat} (hT : T = 1024) (hD : 0 < D) (h : 2 ^ T * D ≤ N) : frung N D = 9218868437227405312 := by
  obtain ⟨L, hL⟩ : ∃ L, L = 1074 := ⟨_, rfl⟩
  have hpL := Nat.two_pow_pos L
  unfold frung
  rw [← hL]
  obtain ⟨s1, s2⟩ := fk_spec (n := N * 2 ^ L) hD
  generalize fk (N * 2 ^ L) D = k at *
  have hpk := Nat.two_pow_pos k
  have h1 : 2 ^ T * D * 2 ^ L ≤ N * 2 ^ L := Nat.mul_le_mul_right _ h
  have h2 : 2 ^ (T + L) * D < 2 ^ (53 + k) * D := by
    have e1 : 2 ^ (T + L) * D = 2 ^ T * D * 2 ^ L := by rw [Nat.pow_add]; exact Nat.mul_right_comm _ _ _
    have e2 : 2 ^ (53 + k) * D = 9007199254740992 * 2 ^ k * D := by rw [Nat.pow_add]
    rw [e1, e2]; exact Nat.lt_of_le_of_lt h1 s1
  have h3 : T + L < 53 + k := (Nat.pow_lt_pow_iff_right (a := 2) (by decide)).1 (Nat.lt_of_mul_lt_mul_right h2)
  have hk : 2046 ≤ k := by clear s1 s2 h h1 h2 hpL hpk; omega
  clear h h1 h2 h3 hT
  clear hL
  have hr := (rnd_le (N * 2 ^ L) (D * 2 ^ k)).1
  have hq : 4503599627370496 ≤ N * 2 ^ L / (D * 2 ^ k) := by
    rcases s2 with s2 | s2
    · omega
    · exact (Nat.le_div_iff_mul_le (Nat.mul_pos hD hpk)).2 (by rw [Nat.mul_comm D, ← Nat.mul_assoc]; exact s2)
  omega
theorem frung_low {N D T : Nat} (hT : T = 1075) (h : N * 2 ^ T < D) : frung N D = 0 := by
  obtain ⟨L, hL⟩ : ∃ L, L = 1074 := ⟨_, rfl⟩
  have h' : 2 * (N * 2 ^ L) < D := by
    have e : 2 ^ T = 2 ^ L * 2 := by rw [← Nat.pow_succ, show T = L.succ by omega]
    rw [e] at h
    have e2 : N * (2 ^ L * 2) = 2 * (N * 2 ^ L) := by rw [← Nat.mul_assoc, Nat.mul_comm]
    rw [e2] at h
    exact h
  unfold frung
  rw [← hL]
  clear h hL
  have hq : N * 2 ^ L / D = 0 := Nat.div_eq_of_lt (by omega)
  have hm : N * 2 ^ L % D = N * 2 ^ L := Nat.mod_eq_of_lt (by omega)
  have e : fk (N * 2 ^ L) D = 0 := by unfold fk; rw [hq, if_pos (by omega)]
  rw [e, Nat.pow_zero, Nat.mul_one]
  unfold rnd
  rw [hq, hm, if_neg (by omega)]
  rfl
theorem blen_pow (k : Nat) : blen (2 ^ k) ≤ k + 1 := blen_upto (Nat.pow_lt_pow_right (by omega) (by omega))
theorem blen_rv (s : Bool) {N D : Nat} (hD : D ≠ 0) {k : Nat} (h1 : blen N ≤ k) (h2 : blen D ≤ k) : blen (rnum (rv s N D)) ≤ k ∧ blen (rv s N D).den ≤ k := by
  rw [rv_num s N hD, rv_den s N hD]
  exact ⟨Nat.le_trans (blen_mono (Nat.div_le_self _ _)) h1, Nat.le_trans (blen_mono (Nat.div_le_self _ _)) h2⟩
end Pg
namespace Go.Proofs.Ytgehoflkbckgkaa
open Go.RowKit Pg
set_option maxHeartbeats 400000 in
/-- pantographlaw4.shifted. -/
theorem shifted_any (n : Nat) (z : Int) (w : World) (hz : z = (n : Int)) (hn : n ≤ 1048576) :
    Calls Try.prog 25 #[.int .i64 z] w (Ret w (2 ^ (32 * n))) := by
  subst hz
  have hmk := run_make_row (P := Try.prog) 26 50 Try.underlying26 info32 (n : Int) n rfl (by omega)
  have hown : (w.alloc (.cells (u32s (List.replicate n 0)).toArray 50)).ownsRow w.heap.size 50 1 (.slice (some ⟨w.heap.size, 0, none⟩) n n) n (u32s (List.replicate n 0)) := by
    have := World.ownsRow_lit (base := w.heap.size) (e := 50) (size := 1) w (u32s (List.replicate n 0)).toArray n (Nat.le_refl _) (by simp only [maxLen]; omega) (by simp [u32s])
    simpa using this
  have HP := hid (limbs_shifted n)
  have HO := hid (ok_shifted n)
  generalize 2 ^ (32 * n) = P at *
  go_enter Try.func25, Try.ntmps25
  go_wp2_with (at_builtin; refine wpList_append_row _ rfl _ _ 26 rfl w.heap.size 50 Try.underlying26 info32 _ n (List.replicate n 0) rfl (hown.alloc _) _ 1 _ [1] rfl (Row.one _ _ _ _ _ (by simp) rfl (by omega)) (by omega) (by simp; omega) ?_)
  intro v' w' hown' hgr
  obtain ⟨A', c', rfl, hr⟩ := Row.of_own hown' HO.out
  go_wp2_with fail
  go_ret
  exact Ret.of_row hr HP.out.symm (Below.grown (Below.alloc (Below.alloc (Below.refl _ _) (Nat.le_refl _) _) (by simp) _) hgr (by simp; omega) (by intro k hk; simp [Value.ownBlock] at hk; omega))
end Go.Proofs.Ytgehoflkbckgkaa
namespace Go.Proofs.Ytgehoflkbckgkaa
open Go.RowKit Pg
theorem fltTo_far (neg : Bool) (n : Nat) (hn : n ≤ 60) (A A' : Option Addr) (c c' : Nat) (w : World) (h : Row w A (limbs (2 ^ (32 * (32 + n)))).length c (limbs (2 ^ (32 * (32 + n))))) (h' : Row w A' 1 c' [1]) :
    Calls Try.prog 27 #[.agg #[.bool neg, .slice A (limbs (2 ^ (32 * (32 + n)))).length c, .slice A' 1 c']] w fun e w' => e = .returned (.float .f64 (if neg then 18442240474082181120 else 9218868437227405312)) ∧ Below w.heap.size w w' := by
  have hb := blen_pow (32 * (32 + n))
  have h1 : blen 1 ≤ 1 := blen_upto (by omega)
  have hq := blen_rv neg (N := 2 ^ (32 * (32 + n))) (D := 1) (by omega) (k := 4000) (by omega) (by omega)
  have hl := limbs_len hb (by omega)
  have hF : fw (rv neg (2 ^ (32 * (32 + n))) 1) = if neg then 18442240474082181120 else 9218868437227405312 := by
    rw [fw_rv neg (by omega)]
    unfold fword
    obtain ⟨T, hT⟩ : ∃ T, T = 1024 := ⟨_, rfl⟩
    have : frung (2 ^ (32 * (32 + n))) 1 = 9218868437227405312 := frung_far hT (by decide) (by rw [Nat.mul_one]; exact Nat.pow_le_pow_right (by decide) (by omega))
    rw [this, if_neg (by omega)]
  have := fltTo_any neg A A' _ c _ c' _ _ w h h' hl (by omega) (rv neg (2 ^ (32 * (32 + n))) 1) (by rw [val_limbs]; rfl) hq.1 hq.2
  rw [← hF]
  exact this
theorem fltTo_low (neg : Bool) (n : Nat) (hn : n ≤ 60) (A A' : Option Addr) (c c' : Nat) (w : World) (h : Row w A 1 c [1]) (h' : Row w A' (limbs (2 ^ (32 * (34 + n)))).length c' (limbs (2 ^ (32 * (34 + n))))) :
    Calls Try.prog 27 #[.agg #[.bool neg, .slice A 1 c, .slice A' (limbs (2 ^ (32 * (34 + n)))).length c']] w fun e w' => e = .returned (.float .f64 0) ∧ Below w.heap.size w w' := by
  have hb := blen_pow (32 * (34 + n))
  have h1 : blen 1 ≤ 1 := blen_upto (by omega)
  have hD : 2 ^ (32 * (34 + n)) ≠ 0 := Nat.pos_iff_ne_zero.1 (Nat.two_pow_pos _)
  have hq := blen_rv neg (N := 1) hD (k := 4000) (by omega) (by omega)
  have hl := limbs_len hb (by omega)
  have hF : fw (rv neg 1 (2 ^ (32 * (34 + n)))) = 0 := by
    rw [fw_rv neg hD]
    unfold fword
    obtain ⟨T, hT⟩ : ∃ T, T = 1075 := ⟨_, rfl⟩
    have : frung 1 (2 ^ (32 * (34 + n))) = 0 := frung_low hT (by rw [Nat.one_mul]; exact Nat.pow_lt_pow_right (by decide) (by omega))
    rw [this, if_pos rfl]
  have := fltTo_any neg A A' _ c _ c' _ _ w h h' (by omega) hl (rv neg 1 (2 ^ (32 * (34 + n)))) (by rw [val_limbs]; rfl) hq.1 hq.2
  rw [← hF]
  exact this
theorem fltTo_far_p (n : Nat) (hn : n ≤ 60) (A A' : Option Addr) (c c' : Nat) (w : World) (h : Row w A (limbs (2 ^ (32 * (32 + n)))).length c (limbs (2 ^ (32 * (32 + n))))) (h' : Row w A' 1 c' [1]) :
    Calls Try.prog 27 #[.agg #[.bool false, .slice A (limbs (2 ^ (32 * (32 + n)))).length c, .slice A' 1 c']] w fun e w' => e = .returned (.float .f64 9218868437227405312) ∧ Below w.heap.size w w' := fltTo_far false n hn A A' c c' w h h'
theorem fltTo_far_m (n : Nat) (hn : n ≤ 60) (A A' : Option Addr) (c c' : Nat) (w : World) (h : Row w A (limbs (2 ^ (32 * (32 + n)))).length c (limbs (2 ^ (32 * (32 + n))))) (h' : Row w A' 1 c' [1]) :
    Calls Try.prog 27 #[.agg #[.bool true, .slice A (limbs (2 ^ (32 * (32 + n)))).length c, .slice A' 1 c']] w fun e w' => e = .returned (.float .f64 18442240474082181120) ∧ Below w.heap.size w w' := fltTo_far true n hn A A' c c' w h h'
set_option maxHeartbeats 2000000 in
theorem law_FltEdges (z : Int) (neg : Bool) (w : World) :
    Calls Try.prog 7 #[.int .i64 z, .bool neg] w fun e w' => e = .returned (.bool true) ∧ Below w.heap.size w w' := by
  by_cases hz : 0 ≤ z ∧ z ≤ 60
  · obtain ⟨hz0, hz1⟩ := hz
    obtain ⟨n, rfl⟩ : ∃ n : Nat, z = (n : Int) := ⟨z.toNat, by omega⟩
    have hn : n ≤ 60 := by omega
    have HFp := hid fun A A' c c' W h h' => fltTo_far_p n hn A A' c c' W h h'
    have HFm := hid fun A A' c c' W h h' => fltTo_far_m n hn A A' c c' W h h'
    have HL := hid fun A A' c c' W h h' => fltTo_low neg n hn A A' c c' W h h'
    have HS1 := hid fun W (k : Int) (hk : k = ((32 + n : Nat) : Int)) => shifted_any (32 + n) k W hk (by omega)
    have HS2 := hid fun W (k : Int) (hk : k = ((34 + n : Nat) : Int)) => shifted_any (34 + n) k W hk (by omega)
    have HK0 : Hid (∀ W, Calls Try.prog 19 #[.float .f64 0] W fun e w' => e = .returned (.int .i64 1) ∧ W = w') := hid fun W => by
      have := fltKind_any 0 W (by decide)
      rwa [show fKind 0 = 1 by decide] at this
    have HK3 : Hid (∀ W, Calls Try.prog 19 #[.float .f64 9218868437227405312] W fun e w' => e = .returned (.int .i64 3) ∧ W = w') := hid fun W => by
      have := fltKind_any 9218868437227405312 W (by decide)
      rwa [show fKind 9218868437227405312 = 3 by decide] at this
    have HK4 : Hid (∀ W, Calls Try.prog 19 #[.float .f64 18442240474082181120] W fun e w' => e = .returned (.int .i64 4) ∧ W = w') := hid fun W => by
      have := fltKind_any 18442240474082181120 W (by decide)
      rwa [show fKind 18442240474082181120 = 4 by decide] at this
    generalize 2 ^ (32 * (32 + n)) = P1 at *
    generalize 2 ^ (32 * (34 + n)) = P2 at *
    rcases neg with _ | _
    all_goals
      go_enter Try.func7, Try.ntmps7
      go_wp2_with (first
        | (go_at_call 25; refine (HS1.out _ _ (by omega)).mono ?_; rintro e w1 ⟨A1, c1, rfl, hr1, hb1⟩)
        | (go_at_call 25; refine (HS2.out _ _ (by omega)).mono ?_; rintro e w2 ⟨A2, c2, rfl, hr2, hb2⟩)
        | (go_at_call 27; ((with_reducible refine (HFp.out _ _ _ _ _ (by repeat first | assumption | exact Pg.Row.one _ _ _ _ _ (by simp) (by first | rfl | omega) (by omega) | apply Pg.Row.drew | apply Pg.Row.below (hb := by assumption) | apply Pg.Row.alloc) (by repeat first | assumption | exact Pg.Row.one _ _ _ _ _ (by simp) (by first | rfl | omega) (by omega) | apply Pg.Row.drew | apply Pg.Row.below (hb := by assumption) | apply Pg.Row.alloc)).mono ?_); rintro e w3 ⟨rfl, hb3⟩))
        | (go_at_call 27; ((with_reducible refine (HFm.out _ _ _ _ _ (by repeat first | assumption | exact Pg.Row.one _ _ _ _ _ (by simp) (by first | rfl | omega) (by omega) | apply Pg.Row.drew | apply Pg.Row.below (hb := by assumption) | apply Pg.Row.alloc) (by repeat first | assumption | exact Pg.Row.one _ _ _ _ _ (by simp) (by first | rfl | omega) (by omega) | apply Pg.Row.drew | apply Pg.Row.below (hb := by assumption) | apply Pg.Row.alloc)).mono ?_); rintro e w3 ⟨rfl, hb3⟩))
        | (go_at_call 27; ((with_reducible refine (HL.out _ _ _ _ _ (by repeat first | assumption | exact Pg.Row.one _ _ _ _ _ (by simp) (by first | rfl | omega) (by omega) | apply Pg.Row.drew | apply Pg.Row.below (hb := by assumption) | apply Pg.Row.alloc) (by repeat first | assumption | exact Pg.Row.one _ _ _ _ _ (by simp) (by first | rfl | omega) (by omega) | apply Pg.Row.drew | apply Pg.Row.below (hb := by assumption) | apply Pg.Row.alloc)).mono ?_); rintro e w4 ⟨rfl, hb4⟩))
        | (go_at_call 19; (with_reducible refine (HK0.out _).mono ?_); rintro e w5 ⟨rfl, rfl⟩)
        | (go_at_call 19; (with_reducible refine (HK3.out _).mono ?_); rintro e w5 ⟨rfl, rfl⟩)
        | (go_at_call 19; (with_reducible refine (HK4.out _).mono ?_); rintro e w5 ⟨rfl, rfl⟩)
        | (go_at_call 21; refine (known4_any _).mono ?_; rintro e w6 ⟨rfl, hb6⟩))
      go_ret
      exact ⟨rfl, (by repeat first | exact Below.refl _ _ | assumption | refine Pg.Below.then_ ?_ (by assumption) | refine Pg.Below.new_ ?_ _ | refine Pg.Below.drewN_ ?_ _)⟩
  · by_cases h0 : z < 0
    · clear hz
      go_enter Try.func7, Try.ntmps7
      go_wp2_with (go_at_call 21; refine (known4_any _).mono ?_; rintro e w6 ⟨rfl, hb6⟩)
      go_ret
      exact ⟨rfl, (by repeat first | exact Below.refl _ _ | assumption | refine Pg.Below.then_ ?_ (by assumption) | refine Pg.Below.new_ ?_ _ | refine Pg.Below.drewN_ ?_ _)⟩
    · have h1 : 60 < z := by omega
      clear hz
      go_enter Try.func7, Try.ntmps7
      go_wp2_with (go_at_call 21; refine (known4_any _).mono ?_; rintro e w6 ⟨rfl, hb6⟩)
      go_ret
      exact ⟨rfl, (by repeat first | exact Below.refl _ _ | assumption | refine Pg.Below.then_ ?_ (by assumption) | refine Pg.Below.new_ ?_ _ | refine Pg.Below.drewN_ ?_ _)⟩
end Go.Proofs.Ytgehoflkbckgkaa
