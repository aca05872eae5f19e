/- Walks: From of flt and of the reference. Conditions: none. -/
import Derived.Test.YtgehoflkbckgkaaFa
namespace Pg
/-- The fraction as a whole number, its place, the number, the error. -/
def fM (u : Nat) : Nat := if fExp u = 0 then fFrac u else fFrac u + 4503599627370496
def fE (u : Nat) : Nat := if fExp u = 0 then 1 else fExp u
def fQ (u : Nat) : Rat := if 1075 ≤ fE u then rv (fNeg u) (fM u * 2 ^ (fE u - 1075)) 1 else rv (fNeg u) (fM u) (2 ^ (1075 - fE u))
def fErr (u : Nat) : Nat := if fKind u = 5 then 16 else if fKind u = 3 ∨ fKind u = 4 then 17 else 0
theorem kind_le (u : Nat) : fKind u ≤ 5 := by
  unfold fKind
  repeat' split
  all_goals omega
theorem or_hidden {F : Nat} (h : F < 4503599627370496) : Go.bits .or .u64 (F : Int) 4503599627370496 = ((F + 4503599627370496 : Nat) : Int) := by
  have e := Go.u64_or_nat F 4503599627370496 (by omega) (by omega)
  have j : F ||| 4503599627370496 = F + 4503599627370496 := by
    rw [Nat.or_comm, Nat.add_comm]
    have := Nat.two_pow_add_eq_or_of_lt (i := 52) (b := F) (by omega) 1
    simpa using this.symm
  rw [j] at e
  exact e
end Pg
namespace Go.Proofs.Ytgehoflkbckgkaa
open Go.RowKit Pg

/-- A call hands back a rational and an error's number. -/
def FromRet (w : World) (u : Nat) (z : Option Rat) (e : Ending) (w' : World) : Prop :=
  ∃ v, e = .returned (.tuple #[v, .int .i64 (fErr u : Int)]) ∧ (match z with | some q => IsQ w' q v | none => v = .agg #[.bool false, .slice none 0 0, .slice none 0 0]) ∧ Below w.heap.size w w'
theorem FromRet.ok {w w' : World} {u : Nat} {q : Rat} {v : Value} (h : RatRet w q (.returned v) w') {n : Int} (hn : n = (fErr u : Int)) : FromRet w u (some q) (.returned (.tuple #[v, .int .i64 n])) w' := by
  obtain ⟨A, c, A', c', e, h1, h2, hb⟩ := h
  subst hn
  injection e with e
  exact ⟨v, rfl, ⟨A, c, A', c', e, h1, h2⟩, hb⟩
theorem Rof_E (neg : Bool) (A A' : Option Addr) (n c n' c' a b : Nat) (xs ys : List Nat) (q : Rat) (w : World) (h : Row w A n c xs) (h' : Row w A' n' c' ys) (ea : val xs = a) (eb : val ys = b) (hb : n ≤ 1048576) (hb' : n' ≤ 1048576) (hq : rv neg a b = q) :
    Calls Try.prog 34 #[.bool neg, .slice A n c, .slice A' n' c'] w (RatRet w q) := by
  subst ea eb hq; exact Rof_any neg A A' n c n' c' xs ys w h h' hb hb'
theorem limbs_small {N k : Nat} (h : N < 2 ^ (32 * k)) (hk : k ≤ 1048576) : (limbs N).length ≤ 1048576 :=
  Nat.le_trans (length_limbs_le (by rw [base_pow]; exact h)) hk

theorem limbs_shl {M D : Nat} (hM : M < 9007199254740992) (hD : D ≤ 1075) : (limbs (M * 2 ^ D)).length ≤ 1048576 := by
  refine limbs_small (k := D / 32 + 3) ?_ (by omega)
  have h1 : M * 2 ^ D < 2 ^ 53 * 2 ^ D := Nat.mul_lt_mul_of_pos_right hM (Nat.two_pow_pos _)
  rw [← Nat.pow_add] at h1
  exact Nat.lt_of_lt_of_le h1 (Nat.pow_le_pow_right (by omega) (by omega))
theorem Shift_LN (A : Option Addr) (n c : Nat) (d : Int) (xs : List Nat) (w : World) (a N P : Nat) (h : Row w A n c xs) (ea : val xs = a) (ed : d = (N : Int)) (hN : N ≤ 4096) (hn : n ≤ 1073741824) (eP : a * 2 ^ N = P) :
    Calls Try.prog 35 #[.slice A n c, .int .i64 d] w (Ret w P) := by
  subst eP; exact Shift_L A n c d xs w a N h ea ed hN hn
theorem Of_one (w : World) : Calls Try.prog 33 #[.int .u64 1] w (Ret w 1) := Of_any 1 w (by omega)

set_option maxRecDepth 100000 in
set_option maxHeartbeats 4000000 in
/-- flt.From. -/
theorem From_any (u : Nat) (w : World) (hu : u < 18446744073709551616) :
    Calls Try.prog 13 #[.float .f64 u] w (FromRet w u (if fErr u = 0 then some (fQ u) else none)) := by
  have HKx := fun W => fltKind_any u W hu
  have HBt := hid fun W => fltBits_any u W hu
  have lone : (limbs 1).length ≤ 1048576 := limbs_small (N := 1) (k := 1) (by omega) (by omega)
  have HB := hid (B3.new w 28 (.bool false) (.slice none 0 0) (.slice none 0 0))
  by_cases ck : fKind u = 5
  ·
    have hr : fErr u = 16 := by unfold fErr; rw [if_pos ck]
    rw [ck] at HKx
    have HK := hid HKx
    have HR := hid hr
    rw [if_neg (by omega)]
    clear hr ck HKx
    obtain ⟨k0, k1, k2, f0, f1, f2⟩ := HB.out.cells
    have hBr := HB.out
    go_enter Try.func13, Try.ntmps13
    go_wp2_with (go_at_call 19; refine (HK.out _).mono ?_; rintro e w1 ⟨rfl, rfl⟩)
    refine bodyPost_ret (v := .tuple #[.agg #[.bool false, .slice none 0 0, .slice none 0 0], .int .i64 16]) (by have q0 := fun u0 u1 u2 => (hBr.set u0 u1 u2).cells.1; have q1 := fun u0 u1 u2 => (hBr.set u0 u1 u2).cells.2.1; have q2 := fun u0 u1 u2 => (hBr.set u0 u1 u2).cells.2.2.1; simp [results, Try.results13, go_sem, q0, q1, q2]) rfl ?_
    exact ⟨_, by rw [HR.out]; rfl, rfl, Below.new_ (Below.refl _ _) _⟩
  by_cases ck3 : fKind u = 3
  · have ck := ck3
    have hr : fErr u = 17 := by unfold fErr; rw [if_neg (by omega), if_pos (by omega)]
    rw [ck] at HKx
    have HK := hid HKx
    have HR := hid hr
    rw [if_neg (by omega)]
    clear hr ck HKx
    obtain ⟨k0, k1, k2, f0, f1, f2⟩ := HB.out.cells
    have hBr := HB.out
    go_enter Try.func13, Try.ntmps13
    go_wp2_with (go_at_call 19; refine (HK.out _).mono ?_; rintro e w1 ⟨rfl, rfl⟩)
    refine bodyPost_ret (v := .tuple #[.agg #[.bool false, .slice none 0 0, .slice none 0 0], .int .i64 17]) (by have q0 := fun u0 u1 u2 => (hBr.set u0 u1 u2).cells.1; have q1 := fun u0 u1 u2 => (hBr.set u0 u1 u2).cells.2.1; have q2 := fun u0 u1 u2 => (hBr.set u0 u1 u2).cells.2.2.1; simp [results, Try.results13, go_sem, q0, q1, q2]) rfl ?_
    exact ⟨_, by rw [HR.out]; rfl, rfl, Below.new_ (Below.refl _ _) _⟩
  by_cases ck4 : fKind u = 4
  · have ck := ck4
    have hr : fErr u = 17 := by unfold fErr; rw [if_neg (by omega), if_pos (by omega)]
    rw [ck] at HKx
    have HK := hid HKx
    have HR := hid hr
    rw [if_neg (by omega)]
    clear hr ck HKx
    obtain ⟨k0, k1, k2, f0, f1, f2⟩ := HB.out.cells
    have hBr := HB.out
    go_enter Try.func13, Try.ntmps13
    go_wp2_with (go_at_call 19; refine (HK.out _).mono ?_; rintro e w1 ⟨rfl, rfl⟩)
    refine bodyPost_ret (v := .tuple #[.agg #[.bool false, .slice none 0 0, .slice none 0 0], .int .i64 17]) (by have q0 := fun u0 u1 u2 => (hBr.set u0 u1 u2).cells.1; have q1 := fun u0 u1 u2 => (hBr.set u0 u1 u2).cells.2.1; have q2 := fun u0 u1 u2 => (hBr.set u0 u1 u2).cells.2.2.1; simp [results, Try.results13, go_sem, q0, q1, q2]) rfl ?_
    exact ⟨_, by rw [HR.out]; rfl, rfl, Below.new_ (Below.refl _ _) _⟩
  have hr : fErr u = 0 := by unfold fErr; rw [if_neg ck, if_neg (by omega)]
  rw [if_pos hr]
  have HR := hid hr
  have hE : fExp u ≠ 2047 := by
    intro e
    unfold fKind at ck ck3 ck4
    rw [if_pos e] at ck ck3 ck4
    split at ck
    · split at ck <;> simp_all
    · exact ck rfl
  have hEl := fExp_lt u
  have hFl := fFrac_lt u
  have K5 : ((fKind u : Int) == 5) = false := beq_eq_false_iff_ne.2 (by omega)
  have K3 : ((fKind u : Int) == 3) = false := beq_eq_false_iff_ne.2 (by omega)
  have K4 : ((fKind u : Int) == 4) = false := beq_eq_false_iff_ne.2 (by omega)
  have HK := hid HKx
  clear HKx hr ck ck3 ck4
  generalize fKind u = K at *
  have hq : fQ u = if 1075 ≤ fE u then rv (fNeg u) (fM u * 2 ^ (fE u - 1075)) 1 else rv (fNeg u) (fM u) (2 ^ (1075 - fE u)) := rfl
  by_cases c0 : fExp u = 0
  · have e1 : fE u = 1 := by unfold fE; rw [if_pos c0]
    have e2 : fM u = fFrac u := by unfold fM; rw [if_pos c0]
    rw [e1, e2, if_neg (by omega)] at hq
    rw [c0] at HBt
    obtain ⟨D, hD⟩ : ∃ D, D = 1075 - 1 := ⟨_, rfl⟩
    rw [← hD] at hq
    have hDl : D ≤ 1075 := by omega
    have l2 := limbs_shl (M := 1) (by omega) hDl
    obtain ⟨P, hP⟩ : ∃ P, 1 * 2 ^ D = P := ⟨_, rfl⟩
    have HPP := hid hP
    rw [hP] at l2
    have HDD := hid hD
    clear hD
    generalize fFrac u = F at *
    generalize fNeg u = S at *
    have l1 := limbs_small (N := F) (k := 2) (by omega) (by omega)
    have HQ : Hid (rv S F P = fQ u) := hid (by rw [hq, ← HPP.out, Nat.one_mul])
    clear hq e1 e2 c0 hE hEl hP
    go_enter Try.func13, Try.ntmps13
    go_wp2_with (first
      | (go_at_call 19; refine (HK.out _).mono ?_; rintro e w1 ⟨rfl, rfl⟩) | (go_at_call 15; refine (HBt.out _).mono ?_; rintro e w1 ⟨rfl, rfl⟩) | (go_at_call 33; ((with_reducible refine (Of_one _).mono ?_); rintro e w2 ⟨A2, c2, rfl, hr2, hb2⟩)) | (go_at_call 33; ((with_reducible refine (Of_any F _ (by omega)).mono ?_); rintro e w3 ⟨A3, c3, rfl, hr3, hb3⟩))
      | (go_at_call 35; ((with_reducible refine (Shift_LN A2 _ c2 _ _ _ 1 D P (by first | exact hr2 | exact hr2.below hb3) (val_limbs _) (by have := HDD.out; omega) (by omega) (by first | omega | assumption) HPP.out).mono ?_)); rintro e w4 ⟨A4, c4, rfl, hr4, hb4⟩)
      | (go_at_call 34; ((with_reducible refine (Rof_E S _ _ _ _ _ _ _ _ _ _ (fQ u) _ (by repeat first | assumption | apply Pg.Row.below (hb := by assumption) | apply Pg.Row.alloc | apply Pg.Row.drewN) (by repeat first | assumption | apply Pg.Row.below (hb := by assumption) | apply Pg.Row.alloc | apply Pg.Row.drewN) (val_limbs _) (val_limbs _) (by first | omega | assumption) (by first | omega | assumption) HQ.out).mono ?_)); rintro e w5 ⟨A5, c5, A6, c6, rfl, hr5, hr6, hb5⟩; have hBr : B3 w5 w.heap.size 28 (.bool false) (.slice none 0 0) (.slice none 0 0) := (by repeat first | exact (HB).out | refine B3.below ?_ (by assumption) | refine B3.drew ?_ | refine B3.alloc ?_ _); obtain ⟨k0, k1, k2, f0, f1, f2⟩ := hBr.cells))
    refine bodyPost_ret (by have q0 := fun u0 u1 u2 => (hBr.set u0 u1 u2).cells.1; have q1 := fun u0 u1 u2 => (hBr.set u0 u1 u2).cells.2.1; have q2 := fun u0 u1 u2 => (hBr.set u0 u1 u2).cells.2.2.1; simp [results, Try.results13, go_sem, q0, q1, q2]) rfl (FromRet.ok (n := 0) (RatRet.put hBr (Nat.le_refl _) (by repeat first | exact Below.refl _ _ | assumption | refine Pg.Below.then_ ?_ (by assumption) | refine Pg.Below.new_ ?_ _ | refine Pg.Below.drewN_ ?_ _) rfl rfl rfl hr5 hr6 rfl rfl) (by rw [HR.out]; first | done | rfl))
  have e1 : fE u = fExp u := by unfold fE; rw [if_neg c0]
  have e2 : fM u = fFrac u + 4503599627370496 := by unfold fM; rw [if_neg c0]
  rw [e1, e2] at hq
  have d0 : ((fExp u : Int) == 0) = false := beq_eq_false_iff_ne.2 (by omega)
  have dg : decide ((0 : Int) < (fExp u : Int)) = true := by simp; omega
  have hor := or_hidden hFl
  generalize fFrac u = F at *
  generalize fNeg u = S at *
  generalize fExp u = E at *
  obtain ⟨M, hM⟩ : ∃ M, M = F + 4503599627370496 := ⟨_, rfl⟩
  rw [← hM] at hor hq
  have hM2 : M < 9007199254740992 := by omega
  have l1 := limbs_small (N := M) (k := 2) (by omega) (by omega)
  clear hM e1 e2
  by_cases c1 : 1075 ≤ E
  · rw [if_pos c1] at hq
    obtain ⟨D, hD⟩ : ∃ D, D = E - 1075 := ⟨_, rfl⟩
    have hD1 : (E : Int) - 1075 = (D : Int) := by omega
    rw [← hD] at hq
    have hDl : D ≤ 972 := by omega
    have l2 := limbs_shl hM2 (show D ≤ 1075 by omega)
    have l3 := limbs_small (N := 1) (k := 1) (by omega) (by omega)
    obtain ⟨P, hP⟩ : ∃ P, M * 2 ^ D = P := ⟨_, rfl⟩
    have HPP := hid hP
    rw [hP] at l2
    have HQ : Hid (rv S P 1 = fQ u) := hid (by rw [hq, ← HPP.out])
    have c1' : (1075 : Int) ≤ (E : Int) := by omega
    have HDD := hid hD
    clear hq c1 hD c0 hE hDl hP
    go_enter Try.func13, Try.ntmps13
    go_wp2_with (first
      | (go_at_call 19; refine (HK.out _).mono ?_; rintro e w1 ⟨rfl, rfl⟩) | (go_at_call 15; refine (HBt.out _).mono ?_; rintro e w1 ⟨rfl, rfl⟩) | (go_at_call 33; ((with_reducible refine (Of_one _).mono ?_); rintro e w2 ⟨A2, c2, rfl, hr2, hb2⟩)) | (go_at_call 33; ((with_reducible refine (Of_any M _ (by omega)).mono ?_); rintro e w3 ⟨A3, c3, rfl, hr3, hb3⟩))
      | (go_at_call 35; ((with_reducible refine (Shift_LN A3 _ c3 _ _ _ M D P hr3 (val_limbs _) (by omega) (by omega) (by first | omega | assumption) HPP.out).mono ?_)); rintro e w4 ⟨A4, c4, rfl, hr4, hb4⟩)
      | (go_at_call 34; ((with_reducible refine (Rof_E S _ _ _ _ _ _ _ _ _ _ (fQ u) _ (by repeat first | assumption | apply Pg.Row.below (hb := by assumption) | apply Pg.Row.alloc | apply Pg.Row.drewN) (by repeat first | assumption | apply Pg.Row.below (hb := by assumption) | apply Pg.Row.alloc | apply Pg.Row.drewN) (val_limbs _) (val_limbs _) (by first | omega | assumption) (by first | omega | assumption) HQ.out).mono ?_)); rintro e w5 ⟨A5, c5, A6, c6, rfl, hr5, hr6, hb5⟩; have hBr : B3 w5 w.heap.size 28 (.bool false) (.slice none 0 0) (.slice none 0 0) := (by repeat first | exact (HB).out | refine B3.below ?_ (by assumption) | refine B3.drew ?_ | refine B3.alloc ?_ _); obtain ⟨k0, k1, k2, f0, f1, f2⟩ := hBr.cells))
    refine bodyPost_ret (by have q0 := fun u0 u1 u2 => (hBr.set u0 u1 u2).cells.1; have q1 := fun u0 u1 u2 => (hBr.set u0 u1 u2).cells.2.1; have q2 := fun u0 u1 u2 => (hBr.set u0 u1 u2).cells.2.2.1; simp [results, Try.results13, go_sem, q0, q1, q2]) rfl (FromRet.ok (n := 0) (RatRet.put hBr (Nat.le_refl _) (by repeat first | exact Below.refl _ _ | assumption | refine Pg.Below.then_ ?_ (by assumption) | refine Pg.Below.new_ ?_ _ | refine Pg.Below.drewN_ ?_ _) rfl rfl rfl hr5 hr6 rfl rfl) (by rw [HR.out]; first | done | rfl))
  · rw [if_neg c1] at hq
    obtain ⟨D, hD⟩ : ∃ D, D = 1075 - E := ⟨_, rfl⟩
    have hD1 : 1075 - (E : Int) = (D : Int) := by omega
    rw [← hD] at hq
    have hDl : D ≤ 1075 := by omega
    have l2 := limbs_shl (M := 1) (by omega) hDl
    obtain ⟨P, hP⟩ : ∃ P, 1 * 2 ^ D = P := ⟨_, rfl⟩
    have HPP := hid hP
    rw [hP] at l2
    have HQ : Hid (rv S M P = fQ u) := hid (by rw [hq, ← HPP.out, Nat.one_mul])
    have c1' : (E : Int) < 1075 := by omega
    have HDD := hid hD
    clear hq c1 hD c0 hE hP
    go_enter Try.func13, Try.ntmps13
    go_wp2_with (first
      | (go_at_call 19; refine (HK.out _).mono ?_; rintro e w1 ⟨rfl, rfl⟩) | (go_at_call 15; refine (HBt.out _).mono ?_; rintro e w1 ⟨rfl, rfl⟩) | (go_at_call 33; ((with_reducible refine (Of_one _).mono ?_); rintro e w2 ⟨A2, c2, rfl, hr2, hb2⟩)) | (go_at_call 33; ((with_reducible refine (Of_any M _ (by omega)).mono ?_); rintro e w3 ⟨A3, c3, rfl, hr3, hb3⟩))
      | (go_at_call 35; ((with_reducible refine (Shift_LN A2 _ c2 _ _ _ 1 D P (by first | exact hr2 | exact hr2.below hb3) (val_limbs _) (by omega) (by omega) (by first | omega | assumption) HPP.out).mono ?_)); rintro e w4 ⟨A4, c4, rfl, hr4, hb4⟩)
      | (go_at_call 34; ((with_reducible refine (Rof_E S _ _ _ _ _ _ _ _ _ _ (fQ u) _ (by repeat first | assumption | apply Pg.Row.below (hb := by assumption) | apply Pg.Row.alloc | apply Pg.Row.drewN) (by repeat first | assumption | apply Pg.Row.below (hb := by assumption) | apply Pg.Row.alloc | apply Pg.Row.drewN) (val_limbs _) (val_limbs _) (by first | omega | assumption) (by first | omega | assumption) HQ.out).mono ?_)); rintro e w5 ⟨A5, c5, A6, c6, rfl, hr5, hr6, hb5⟩; have hBr : B3 w5 w.heap.size 28 (.bool false) (.slice none 0 0) (.slice none 0 0) := (by repeat first | exact (HB).out | refine B3.below ?_ (by assumption) | refine B3.drew ?_ | refine B3.alloc ?_ _); obtain ⟨k0, k1, k2, f0, f1, f2⟩ := hBr.cells))
    refine bodyPost_ret (by have q0 := fun u0 u1 u2 => (hBr.set u0 u1 u2).cells.1; have q1 := fun u0 u1 u2 => (hBr.set u0 u1 u2).cells.2.1; have q2 := fun u0 u1 u2 => (hBr.set u0 u1 u2).cells.2.2.1; simp [results, Try.results13, go_sem, q0, q1, q2]) rfl (FromRet.ok (n := 0) (RatRet.put hBr (Nat.le_refl _) (by repeat first | exact Below.refl _ _ | assumption | refine Pg.Below.then_ ?_ (by assumption) | refine Pg.Below.new_ ?_ _ | refine Pg.Below.drewN_ ?_ _) rfl rfl rfl hr5 hr6 rfl rfl) (by rw [HR.out]; first | done | rfl))
end Go.Proofs.Ytgehoflkbckgkaa
