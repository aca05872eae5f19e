/- Walks: pantographref2.Int, pantographref4.From. Conditions: the types' own ranges. -/
import Derived.Test.YtgehoflkbckgkaaFb
namespace Pg
theorem rv_int (n : Int) : rv (decide (n < 0)) n.natAbs 1 = (n : Rat) := by
  unfold rv; rw [sg_self]
  have := Rat.mkRat_self (n : Rat)
  simpa using this
end Pg
namespace Go.Proofs.Ytgehoflkbckgkaa
open Go.RowKit Pg

theorem rOf_I (n : Nat) (w : World) (z : Int) (hz : z = (n : Int)) (hn : n < 18446744073709551616) : Calls Try.prog 36 #[.int .u64 z] w (Ret w n) := by
  subst hz; exact rOf_any n w hn
theorem r2Of_E (neg : Bool) (A A' : Option Addr) (n c n' c' a b : Nat) (xs ys : List Nat) (q : Rat) (w : World) (h : Row w A n c xs) (h' : Row w A' n' c' ys) (ea : val xs = a) (eb : val ys = b) (hb : n ≤ 1048576) (hb' : n' ≤ 1048576) (hq : rv neg a b = q) :
    Calls Try.prog 24 #[.bool neg, .slice A n c, .slice A' n' c'] w (RatRet w q) := by
  subst ea eb hq; exact r2Of_any neg A A' n c n' c' xs ys w h h' hb hb'
theorem rShift_LN (A : Option Addr) (n c : Nat) (d : Int) (xs : List Nat) (w : World) (a N P : Nat) (h : Row w A n c xs) (ea : val xs = a) (ed : d = (N : Int)) (hN : N ≤ 4096) (hn : n ≤ 1073741824) (eP : a * 2 ^ N = P) :
    Calls Try.prog 37 #[.slice A n c, .int .i64 d] w (Ret w P) := by
  subst ea ed eP
  have := rShift_any A n c (N : Int) xs w h hn
  rwa [clampD_in (by omega) (by omega), shv_pos] at this

set_option maxHeartbeats 1000000 in
/-- pantographref2.Int. -/
theorem r2Int_any (n : Int) (w : World) (h1 : -9223372036854775808 ≤ n) (h2 : n ≤ 9223372036854775807) :
    Calls Try.prog 31 #[.int .i64 n] w (RatRet w (n : Rat)) := by
  have HB := hid (B3.new w 28 (.bool false) (.slice none 0 0) (.slice none 0 0))
  have hq := rv_int n
  generalize (n : Rat) = q at *
  have lN : (limbs n.natAbs).length ≤ 1048576 := limbs_small (N := n.natAbs) (k := 2) (by omega) (by omega)
  by_cases hn : n < 0
  · obtain ⟨N, hN⟩ : ∃ N : Nat, n.natAbs = N := ⟨_, rfl⟩
    have hnN : n = -(N : Int) := by omega
    rw [decide_eq_true hn, hN] at hq
    rw [hN] at lN
    have hN1 : 1 ≤ N := by omega
    have hN2 : N ≤ 9223372036854775808 := by omega
    have HQ := hid hq
    subst hnN
    clear hq hN
    have q1 : IntKind.u64.wrap (-(N : Int)) = 18446744073709551616 - (N : Int) := by
      rw [IntKind.wrap_u64]; omega
    have q2 : IntKind.u64.wrap (-(18446744073709551616 - (N : Int))) = (N : Int) := by
      rw [IntKind.wrap_u64]; omega
    go_enter Try.func31, Try.ntmps31
    go_wp2_with (first
      | (go_at_call 36; refine (rOf_I N _ _ (by omega) (by omega)).mono ?_; rintro e w3 ⟨A3, c3, rfl, hr3, hb3⟩)
      | (go_at_call 24; refine (r2Of_E true _ _ _ _ _ _ N 1 _ [1] q _ (by repeat first | assumption | exact Pg.Row.one _ _ _ _ _ (by simp) (by first | rfl | omega) (by omega) | apply Pg.Row.drew | apply Pg.Row.below (hb := by assumption) | apply Pg.Row.alloc) (by repeat first | assumption | exact Pg.Row.one _ _ _ _ _ (by simp) (by first | rfl | omega) (by omega) | apply Pg.Row.drew | apply Pg.Row.below (hb := by assumption) | apply Pg.Row.alloc) (val_limbs _) (val_one 1) (by first | omega | assumption) (by first | omega | assumption) HQ.out).mono ?_; rintro e w5 ⟨A5, c5, A6, c6, rfl, hr5, hr6, hb5⟩; have hBr : B3 w5 w.heap.size 28 (.bool false) (.slice none 0 0) (.slice none 0 0) := (by repeat first | exact (HB).out | refine B3.below ?_ (by assumption) | refine B3.drew ?_ | refine B3.alloc ?_ _); obtain ⟨k0, k1, k2, f0, f1, f2⟩ := hBr.cells))
    refine bodyPost_ret (by have q0 := fun u0 u1 u2 => (hBr.set u0 u1 u2).cells.1; have q1 := fun u0 u1 u2 => (hBr.set u0 u1 u2).cells.2.1; have q2 := fun u0 u1 u2 => (hBr.set u0 u1 u2).cells.2.2.1; simp [results, Try.results31, go_sem, q0, q1, q2]) rfl (RatRet.put hBr (Nat.le_refl _) (by repeat first | exact Below.refl _ _ | assumption | refine Pg.Below.then_ ?_ (by assumption) | refine Pg.Below.new_ ?_ _ | refine Pg.Below.drewN_ ?_ _) rfl rfl rfl hr5 hr6 rfl rfl)
  · obtain ⟨N, hN⟩ : ∃ N : Nat, n.natAbs = N := ⟨_, rfl⟩
    have hnN : n = (N : Int) := by omega
    rw [decide_eq_false (by omega), hN] at hq
    rw [hN] at lN
    have hN2 : N ≤ 9223372036854775807 := by omega
    have HQ := hid hq
    subst hnN
    clear hq hN
    go_enter Try.func31, Try.ntmps31
    go_wp2_with (first
      | (go_at_call 36; refine (rOf_I N _ _ (by omega) (by omega)).mono ?_; rintro e w3 ⟨A3, c3, rfl, hr3, hb3⟩)
      | (go_at_call 24; refine (r2Of_E false _ _ _ _ _ _ N 1 _ [1] q _ (by repeat first | assumption | exact Pg.Row.one _ _ _ _ _ (by simp) (by first | rfl | omega) (by omega) | apply Pg.Row.drew | apply Pg.Row.below (hb := by assumption) | apply Pg.Row.alloc) (by repeat first | assumption | exact Pg.Row.one _ _ _ _ _ (by simp) (by first | rfl | omega) (by omega) | apply Pg.Row.drew | apply Pg.Row.below (hb := by assumption) | apply Pg.Row.alloc) (val_limbs _) (val_one 1) (by first | omega | assumption) (by first | omega | assumption) HQ.out).mono ?_; rintro e w5 ⟨A5, c5, A6, c6, rfl, hr5, hr6, hb5⟩; have hBr : B3 w5 w.heap.size 28 (.bool false) (.slice none 0 0) (.slice none 0 0) := (by repeat first | exact (HB).out | refine B3.below ?_ (by assumption) | refine B3.drew ?_ | refine B3.alloc ?_ _); obtain ⟨k0, k1, k2, f0, f1, f2⟩ := hBr.cells))
    refine bodyPost_ret (by have q0 := fun u0 u1 u2 => (hBr.set u0 u1 u2).cells.1; have q1 := fun u0 u1 u2 => (hBr.set u0 u1 u2).cells.2.1; have q2 := fun u0 u1 u2 => (hBr.set u0 u1 u2).cells.2.2.1; simp [results, Try.results31, go_sem, q0, q1, q2]) rfl (RatRet.put hBr (Nat.le_refl _) (by repeat first | exact Below.refl _ _ | assumption | refine Pg.Below.then_ ?_ (by assumption) | refine Pg.Below.new_ ?_ _ | refine Pg.Below.drewN_ ?_ _) rfl rfl rfl hr5 hr6 rfl rfl)
theorem r2Int_zero (w : World) : Calls Try.prog 31 #[.int .i64 0] w (RatRet w 0) := r2Int_any 0 w (by omega) (by omega)

set_option maxRecDepth 100000 in
set_option maxHeartbeats 4000000 in
/-- pantographref4.From. -/
theorem r4From_any (u : Nat) (w : World) (hu : u < 18446744073709551616) :
    Calls Try.prog 14 #[.float .f64 u] w (FromRet w u (if fErr u = 0 then some (fQ u) else some 0)) := by
  have HKx := fun W => r4Kind_any u W hu
  have HBt := hid fun W => r4Bits_any u W hu
  have lone : (limbs 1).length ≤ 1048576 := limbs_small (N := 1) (k := 1) (by omega) (by omega)
  have HB := hid (B3.new w 28 (.bool false) (.slice none 0 0) (.slice none 0 0))
  by_cases ck : fKind u = 5
  ·
    have hr : fErr u = 16 := by unfold fErr; rw [if_pos ck]
    rw [ck] at HKx
    have HK := hid HKx
    have HR := hid hr
    rw [if_neg (by omega)]
    clear hr ck HKx
    generalize fNeg u = S at *
    generalize fExp u = E at *
    generalize fFrac u = F at *
    go_enter Try.func14, Try.ntmps14
    go_wp2_with (first
      | (go_at_call 20; refine (HK.out _).mono ?_; rintro e w1 ⟨rfl, rfl⟩) | (go_at_call 16; refine (HBt.out _).mono ?_; rintro e w1 ⟨rfl, rfl⟩) | (go_at_call 31; ((with_reducible refine (r2Int_zero _).mono ?_)); rintro e w5 ⟨A5, c5, A6, c6, rfl, hr5, hr6, hb5⟩; have hBr : B3 w5 w.heap.size 28 (.bool false) (.slice none 0 0) (.slice none 0 0) := (by repeat first | exact (HB).out | refine B3.below ?_ (by assumption) | refine B3.drew ?_ | refine B3.alloc ?_ _); obtain ⟨k0, k1, k2, f0, f1, f2⟩ := hBr.cells))
    refine bodyPost_ret (by have q0 := fun u0 u1 u2 => (hBr.set u0 u1 u2).cells.1; have q1 := fun u0 u1 u2 => (hBr.set u0 u1 u2).cells.2.1; have q2 := fun u0 u1 u2 => (hBr.set u0 u1 u2).cells.2.2.1; simp [results, Try.results14, go_sem, q0, q1, q2]) rfl (FromRet.ok (n := 16) (RatRet.put hBr (Nat.le_refl _) (by repeat first | exact Below.refl _ _ | assumption | refine Pg.Below.then_ ?_ (by assumption) | refine Pg.Below.new_ ?_ _ | refine Pg.Below.drewN_ ?_ _) rfl rfl rfl hr5 hr6 rfl rfl) (by rw [HR.out]; first | done | rfl))
  by_cases ck3 : fKind u = 3
  · have ck := ck3
    have hr : fErr u = 17 := by unfold fErr; rw [if_neg (by omega), if_pos (by omega)]
    rw [ck] at HKx
    have HK := hid HKx
    have HR := hid hr
    rw [if_neg (by omega)]
    clear hr ck HKx
    generalize fNeg u = S at *
    generalize fExp u = E at *
    generalize fFrac u = F at *
    go_enter Try.func14, Try.ntmps14
    go_wp2_with (first
      | (go_at_call 20; refine (HK.out _).mono ?_; rintro e w1 ⟨rfl, rfl⟩) | (go_at_call 16; refine (HBt.out _).mono ?_; rintro e w1 ⟨rfl, rfl⟩) | (go_at_call 31; ((with_reducible refine (r2Int_zero _).mono ?_)); rintro e w5 ⟨A5, c5, A6, c6, rfl, hr5, hr6, hb5⟩; have hBr : B3 w5 w.heap.size 28 (.bool false) (.slice none 0 0) (.slice none 0 0) := (by repeat first | exact (HB).out | refine B3.below ?_ (by assumption) | refine B3.drew ?_ | refine B3.alloc ?_ _); obtain ⟨k0, k1, k2, f0, f1, f2⟩ := hBr.cells))
    refine bodyPost_ret (by have q0 := fun u0 u1 u2 => (hBr.set u0 u1 u2).cells.1; have q1 := fun u0 u1 u2 => (hBr.set u0 u1 u2).cells.2.1; have q2 := fun u0 u1 u2 => (hBr.set u0 u1 u2).cells.2.2.1; simp [results, Try.results14, go_sem, q0, q1, q2]) rfl (FromRet.ok (n := 17) (RatRet.put hBr (Nat.le_refl _) (by repeat first | exact Below.refl _ _ | assumption | refine Pg.Below.then_ ?_ (by assumption) | refine Pg.Below.new_ ?_ _ | refine Pg.Below.drewN_ ?_ _) rfl rfl rfl hr5 hr6 rfl rfl) (by rw [HR.out]; first | done | rfl))
  by_cases ck4 : fKind u = 4
  · have ck := ck4
    have hr : fErr u = 17 := by unfold fErr; rw [if_neg (by omega), if_pos (by omega)]
    rw [ck] at HKx
    have HK := hid HKx
    have HR := hid hr
    rw [if_neg (by omega)]
    clear hr ck HKx
    generalize fNeg u = S at *
    generalize fExp u = E at *
    generalize fFrac u = F at *
    go_enter Try.func14, Try.ntmps14
    go_wp2_with (first
      | (go_at_call 20; refine (HK.out _).mono ?_; rintro e w1 ⟨rfl, rfl⟩) | (go_at_call 16; refine (HBt.out _).mono ?_; rintro e w1 ⟨rfl, rfl⟩) | (go_at_call 31; ((with_reducible refine (r2Int_zero _).mono ?_)); rintro e w5 ⟨A5, c5, A6, c6, rfl, hr5, hr6, hb5⟩; have hBr : B3 w5 w.heap.size 28 (.bool false) (.slice none 0 0) (.slice none 0 0) := (by repeat first | exact (HB).out | refine B3.below ?_ (by assumption) | refine B3.drew ?_ | refine B3.alloc ?_ _); obtain ⟨k0, k1, k2, f0, f1, f2⟩ := hBr.cells))
    refine bodyPost_ret (by have q0 := fun u0 u1 u2 => (hBr.set u0 u1 u2).cells.1; have q1 := fun u0 u1 u2 => (hBr.set u0 u1 u2).cells.2.1; have q2 := fun u0 u1 u2 => (hBr.set u0 u1 u2).cells.2.2.1; simp [results, Try.results14, go_sem, q0, q1, q2]) rfl (FromRet.ok (n := 17) (RatRet.put hBr (Nat.le_refl _) (by repeat first | exact Below.refl _ _ | assumption | refine Pg.Below.then_ ?_ (by assumption) | refine Pg.Below.new_ ?_ _ | refine Pg.Below.drewN_ ?_ _) rfl rfl rfl hr5 hr6 rfl rfl) (by rw [HR.out]; first | done | rfl))
  have hr : fErr u = 0 := by unfold fErr; rw [if_neg ck, if_neg (by omega)]
  rw [if_pos hr]
  have HR := hid hr
  have hEl := fExp_lt u
  have hFl := fFrac_lt u
  have K5 : ((fKind u : Int) == 5) = false := beq_eq_false_iff_ne.2 (by omega)
  have K3 : ((fKind u : Int) == 3) = false := beq_eq_false_iff_ne.2 (by omega)
  have K4 : ((fKind u : Int) == 4) = false := beq_eq_false_iff_ne.2 (by omega)
  have HK := hid HKx
  clear HKx hr ck ck3 ck4
  generalize fKind u = K at *
  have hq : fQ u = if 1075 ≤ fE u then rv (fNeg u) (fM u * 2 ^ (fE u - 1075)) 1 else rv (fNeg u) (fM u) (2 ^ (1075 - fE u)) := rfl
  by_cases c0 : fExp u = 0
  · have e1 : fE u = 1 := by unfold fE; rw [if_pos c0]
    have e2 : fM u = fFrac u := by unfold fM; rw [if_pos c0]
    rw [e1, e2, if_neg (by omega)] at hq
    rw [c0] at HBt
    obtain ⟨D, hD⟩ : ∃ D, D = 1075 - 1 := ⟨_, rfl⟩
    rw [← hD] at hq
    have hDl : D ≤ 1075 := by omega
    have l2 := limbs_shl (M := 1) (by omega) hDl
    obtain ⟨P, hP⟩ : ∃ P, 1 * 2 ^ D = P := ⟨_, rfl⟩
    have HPP := hid hP
    rw [hP] at l2
    have HDD := hid hD
    clear hD
    generalize fFrac u = F at *
    generalize fNeg u = S at *
    have l1 := limbs_small (N := F) (k := 2) (by omega) (by omega)
    have HQ : Hid (rv S F P = fQ u) := hid (by rw [hq, ← HPP.out, Nat.one_mul])
    clear hq e1 e2 c0 hEl hP
    go_enter Try.func14, Try.ntmps14
    go_wp2_with (first
      | (go_at_call 20; refine (HK.out _).mono ?_; rintro e w1 ⟨rfl, rfl⟩) | (go_at_call 16; refine (HBt.out _).mono ?_; rintro e w1 ⟨rfl, rfl⟩) | (go_at_call 36; ((with_reducible refine (rOf_any F _ (by omega)).mono ?_); rintro e w3 ⟨A3, c3, rfl, hr3, hb3⟩))
      | (go_at_call 37; ((with_reducible refine (rShift_LN _ _ _ _ [1] _ 1 D P (by repeat first | assumption | exact Pg.Row.one _ _ _ _ _ (by simp) (by first | rfl | omega) (by omega) | apply Pg.Row.drew | apply Pg.Row.below (hb := by assumption) | apply Pg.Row.alloc) (val_one 1) (by have := HDD.out; omega) (by omega) (by omega) HPP.out).mono ?_)); rintro e w4 ⟨A4, c4, rfl, hr4, hb4⟩)
      | (go_at_call 24; ((with_reducible refine (r2Of_E S _ _ _ _ _ _ _ _ _ _ (fQ u) _ (by repeat first | assumption | exact Pg.Row.one _ _ _ _ _ (by simp) (by first | rfl | omega) (by omega) | apply Pg.Row.drew | apply Pg.Row.below (hb := by assumption) | apply Pg.Row.alloc) (by repeat first | assumption | exact Pg.Row.one _ _ _ _ _ (by simp) (by first | rfl | omega) (by omega) | apply Pg.Row.drew | apply Pg.Row.below (hb := by assumption) | apply Pg.Row.alloc) (val_limbs _) (val_limbs _) (by first | omega | assumption) (by first | omega | assumption) HQ.out).mono ?_)); rintro e w5 ⟨A5, c5, A6, c6, rfl, hr5, hr6, hb5⟩; have hBr : B3 w5 w.heap.size 28 (.bool false) (.slice none 0 0) (.slice none 0 0) := (by repeat first | exact (HB).out | refine B3.below ?_ (by assumption) | refine B3.drew ?_ | refine B3.alloc ?_ _); obtain ⟨k0, k1, k2, f0, f1, f2⟩ := hBr.cells))
    refine bodyPost_ret (by have q0 := fun u0 u1 u2 => (hBr.set u0 u1 u2).cells.1; have q1 := fun u0 u1 u2 => (hBr.set u0 u1 u2).cells.2.1; have q2 := fun u0 u1 u2 => (hBr.set u0 u1 u2).cells.2.2.1; simp [results, Try.results14, go_sem, q0, q1, q2]) rfl (FromRet.ok (n := 0) (RatRet.put hBr (Nat.le_refl _) (by repeat first | exact Below.refl _ _ | assumption | refine Pg.Below.then_ ?_ (by assumption) | refine Pg.Below.new_ ?_ _ | refine Pg.Below.drewN_ ?_ _) rfl rfl rfl hr5 hr6 rfl rfl) (by rw [HR.out]; first | done | rfl))
  have e1 : fE u = fExp u := by unfold fE; rw [if_neg c0]
  have e2 : fM u = fFrac u + 4503599627370496 := by unfold fM; rw [if_neg c0]
  rw [e1, e2] at hq
  have hE0 : 0 < fExp u := by omega
  have dg : decide ((0 : Int) < (fExp u : Int)) = true := by simp; omega
  have hor := or_hidden hFl
  generalize fFrac u = F at *
  generalize fNeg u = S at *
  generalize fExp u = E at *
  obtain ⟨M, hM⟩ : ∃ M, M = F + 4503599627370496 := ⟨_, rfl⟩
  rw [← hM] at hor hq
  have hM2 : M < 9007199254740992 := by omega
  have l1 := limbs_small (N := M) (k := 2) (by omega) (by omega)
  clear hM e1 e2
  by_cases c1 : 1075 ≤ E
  · rw [if_pos c1] at hq
    obtain ⟨D, hD⟩ : ∃ D, D = E - 1075 := ⟨_, rfl⟩
    have hD1 : (E : Int) - 1075 = (D : Int) := by omega
    rw [← hD] at hq
    have hDl : D ≤ 972 := by omega
    have l2 := limbs_shl hM2 (show D ≤ 1075 by omega)
    obtain ⟨P, hP⟩ : ∃ P, M * 2 ^ D = P := ⟨_, rfl⟩
    have HPP := hid hP
    rw [hP] at l2
    have HQ : Hid (rv S P 1 = fQ u) := hid (by rw [hq, ← HPP.out])
    have c1' : (1075 : Int) ≤ (E : Int) := by omega
    have HDD := hid hD
    clear hq c1 hD c0 hDl hP
    go_enter Try.func14, Try.ntmps14
    go_wp2_with (first
      | (go_at_call 20; refine (HK.out _).mono ?_; rintro e w1 ⟨rfl, rfl⟩) | (go_at_call 16; refine (HBt.out _).mono ?_; rintro e w1 ⟨rfl, rfl⟩) | (go_at_call 36; ((with_reducible refine (rOf_any M _ (by omega)).mono ?_); rintro e w3 ⟨A3, c3, rfl, hr3, hb3⟩))
      | (go_at_call 37; ((with_reducible refine (rShift_LN A3 _ c3 _ _ _ M D P hr3 (val_limbs _) (by omega) (by omega) (by first | omega | assumption) HPP.out).mono ?_)); rintro e w4 ⟨A4, c4, rfl, hr4, hb4⟩)
      | (go_at_call 24; ((with_reducible refine (r2Of_E S _ _ _ _ _ _ _ _ _ _ (fQ u) _ (by repeat first | assumption | exact Pg.Row.one _ _ _ _ _ (by simp) (by first | rfl | omega) (by omega) | apply Pg.Row.drew | apply Pg.Row.below (hb := by assumption) | apply Pg.Row.alloc) (by repeat first | assumption | exact Pg.Row.one _ _ _ _ _ (by simp) (by first | rfl | omega) (by omega) | apply Pg.Row.drew | apply Pg.Row.below (hb := by assumption) | apply Pg.Row.alloc) (val_limbs _) (val_one 1) (by first | omega | assumption) (by first | omega | assumption) HQ.out).mono ?_)); rintro e w5 ⟨A5, c5, A6, c6, rfl, hr5, hr6, hb5⟩; have hBr : B3 w5 w.heap.size 28 (.bool false) (.slice none 0 0) (.slice none 0 0) := (by repeat first | exact (HB).out | refine B3.below ?_ (by assumption) | refine B3.drew ?_ | refine B3.alloc ?_ _); obtain ⟨k0, k1, k2, f0, f1, f2⟩ := hBr.cells))
    refine bodyPost_ret (by have q0 := fun u0 u1 u2 => (hBr.set u0 u1 u2).cells.1; have q1 := fun u0 u1 u2 => (hBr.set u0 u1 u2).cells.2.1; have q2 := fun u0 u1 u2 => (hBr.set u0 u1 u2).cells.2.2.1; simp [results, Try.results14, go_sem, q0, q1, q2]) rfl (FromRet.ok (n := 0) (RatRet.put hBr (Nat.le_refl _) (by repeat first | exact Below.refl _ _ | assumption | refine Pg.Below.then_ ?_ (by assumption) | refine Pg.Below.new_ ?_ _ | refine Pg.Below.drewN_ ?_ _) rfl rfl rfl hr5 hr6 rfl rfl) (by rw [HR.out]; first | done | rfl))
  · rw [if_neg c1] at hq
    obtain ⟨D, hD⟩ : ∃ D, D = 1075 - E := ⟨_, rfl⟩
    have hD1 : 1075 - (E : Int) = (D : Int) := by omega
    rw [← hD] at hq
    have hDl : D ≤ 1075 := by omega
    have l2 := limbs_shl (M := 1) (by omega) hDl
    obtain ⟨P, hP⟩ : ∃ P, 1 * 2 ^ D = P := ⟨_, rfl⟩
    have HPP := hid hP
    rw [hP] at l2
    have HQ : Hid (rv S M P = fQ u) := hid (by rw [hq, ← HPP.out, Nat.one_mul])
    have c1' : (E : Int) < 1075 := by omega
    have HDD := hid hD
    clear hq c1 hD c0 hP
    go_enter Try.func14, Try.ntmps14
    go_wp2_with (first
      | (go_at_call 20; refine (HK.out _).mono ?_; rintro e w1 ⟨rfl, rfl⟩) | (go_at_call 16; refine (HBt.out _).mono ?_; rintro e w1 ⟨rfl, rfl⟩) | (go_at_call 36; ((with_reducible refine (rOf_any M _ (by omega)).mono ?_); rintro e w3 ⟨A3, c3, rfl, hr3, hb3⟩))
      | (go_at_call 37; ((with_reducible refine (rShift_LN _ _ _ _ [1] _ 1 D P (by repeat first | assumption | exact Pg.Row.one _ _ _ _ _ (by simp) (by first | rfl | omega) (by omega) | apply Pg.Row.drew | apply Pg.Row.below (hb := by assumption) | apply Pg.Row.alloc) (val_one 1) (by omega) (by omega) (by omega) HPP.out).mono ?_)); rintro e w4 ⟨A4, c4, rfl, hr4, hb4⟩)
      | (go_at_call 24; ((with_reducible refine (r2Of_E S _ _ _ _ _ _ _ _ _ _ (fQ u) _ (by repeat first | assumption | exact Pg.Row.one _ _ _ _ _ (by simp) (by first | rfl | omega) (by omega) | apply Pg.Row.drew | apply Pg.Row.below (hb := by assumption) | apply Pg.Row.alloc) (by repeat first | assumption | exact Pg.Row.one _ _ _ _ _ (by simp) (by first | rfl | omega) (by omega) | apply Pg.Row.drew | apply Pg.Row.below (hb := by assumption) | apply Pg.Row.alloc) (val_limbs _) (val_limbs _) (by first | omega | assumption) (by first | omega | assumption) HQ.out).mono ?_)); rintro e w5 ⟨A5, c5, A6, c6, rfl, hr5, hr6, hb5⟩; have hBr : B3 w5 w.heap.size 28 (.bool false) (.slice none 0 0) (.slice none 0 0) := (by repeat first | exact (HB).out | refine B3.below ?_ (by assumption) | refine B3.drew ?_ | refine B3.alloc ?_ _); obtain ⟨k0, k1, k2, f0, f1, f2⟩ := hBr.cells))
    refine bodyPost_ret (by have q0 := fun u0 u1 u2 => (hBr.set u0 u1 u2).cells.1; have q1 := fun u0 u1 u2 => (hBr.set u0 u1 u2).cells.2.1; have q2 := fun u0 u1 u2 => (hBr.set u0 u1 u2).cells.2.2.1; simp [results, Try.results14, go_sem, q0, q1, q2]) rfl (FromRet.ok (n := 0) (RatRet.put hBr (Nat.le_refl _) (by repeat first | exact Below.refl _ _ | assumption | refine Pg.Below.then_ ?_ (by assumption) | refine Pg.Below.new_ ?_ _ | refine Pg.Below.drewN_ ?_ _) rfl rfl rfl hr5 hr6 rfl rfl) (by rw [HR.out]; first | done | rfl))
end Go.Proofs.Ytgehoflkbckgkaa
