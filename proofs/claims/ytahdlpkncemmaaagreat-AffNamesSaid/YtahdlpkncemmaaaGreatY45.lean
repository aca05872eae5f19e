/- Walk · Walks · Walk. Conditions: those that each theorem names. -/
import Derived.Test.YtahdlpkncemmaaaGreatY39
import Derived.Test.YtahdlpkncemmaaaGreatY44
import Derived.Test.YtahdlpkncemmaaaGreatY31
import Derived.Test.YtahdlpkncemmaaaGreatY29
set_option maxRecDepth 100000
set_option maxHeartbeats 8000000
set_option linter.unusedSimpArgs false
set_option linter.unusedVariables false
namespace Pg
def OfX (t : PT) (v : EnvQ) (X : Except Nat CQ) : Prop := (t.is = false ∧ X = .error 5) ∨ (t.is = true ∧ ∃ e, PT.As t e ∧ X = sumX v e)
theorem PT.wt_pos (t : PT) : 1 ≤ t.wt := by
 cases t; unfold PT.wt; omega
end Pg
namespace Go.Proofs.YtahdlpkncemmaaaGreat
open Go.RowKit Pg
theorem Of_C {t : PT} {v : Value} {x : EW} (w : World) (hv : PT.Val w v t) (hwt : t.wt ≤ 768) (hE : EnvAt w x) (hl : ∀ r ∈ x.vals, r.Le 3) (hn : x.vars.length ≤ 1000) {X : Except Nat CQ} (hX : OfX t x.q X) :
  Calls Tryz.prog 11 #[v, .agg #[.slice x.A0 x.n0 x.k0, .slice x.A1 x.n1 x.k1, .slice x.A2 x.n2 x.k2]] w (SumRet w X) := by
 obtain ⟨c0, c1, c2, c3, c4, c5, rfl⟩ := hv.six
 have HI := hid fun W (hW : Below w.heap.size w W) => eIs_any W (hv.below hW) (by omega)
 rcases hX with ⟨hi, rfl⟩ | ⟨hi, e, he, rfl⟩
 ·rw [hi] at HI
  clear hv hE
  go_enter Tryz.func11, Tryz.ntmps11
  go_upto_region 1 with fail
  refine wp_world (F := fun W => (Bs W w.heap.size 27 [c0, c1, c2, c3, c4, c5] ∧ Bs W (w.heap.size + 1) 31 [.slice x.A0 x.n0 x.k0, .slice x.A1 x.n1 x.k1, .slice x.A2 x.n2 x.k2] ∧ Bs W (w.heap.size + 2) 36 [.int .i64 0, .slice none 0 0, .bool false, .slice none 0 0, .slice none 0 0]) ∧ Below w.heap.size w W)
   ⟨⟨((Bs.new w _ _ _ rfl).alloc _).alloc _, (Bs.new _ _ _ _ (by simp)).alloc _, Bs.new _ _ _ _ (by simp)⟩, Pg.bel⟩ ?_
  rintro w1 ⟨⟨HX, HV, HZ⟩, hb1⟩
  have a0 := HX.cell 0 rfl
  have a1 := HX.cell 1 rfl
  have a2 := HX.cell 2 rfl
  have a3 := HX.cell 3 rfl
  have a4 := HX.cell 4 rfl
  have a5 := HX.cell 5 rfl
  go_wp2_with (go_at_call 33; (with_reducible refine (HI.out _ hb1).mono ?_); rintro e w5 ⟨rfl, hb5⟩; have HZ5 := HZ.below hb5; have hbw := Below.then_ hb1 hb5; have HX5 := HX.below hb5; have HV5 := HV.below hb5; clear a0 a1 a2 a3 a4 a5; have f0 := HZ5.frozen 0; have f1 := HZ5.frozen 1; have f2 := HZ5.frozen 2; have f3 := HZ5.frozen 3; have f4 := HZ5.frozen 4; have z0 := HZ5.cell 0 rfl; have z1 := HZ5.cell 1 rfl; have z2 := HZ5.cell 2 rfl; have z3 := HZ5.cell 3 rfl; have z4 := HZ5.cell 4 rfl; have a0 := HX5.cell 0 rfl; have a1 := HX5.cell 1 rfl; have a2 := HX5.cell 2 rfl; have a3 := HX5.cell 3 rfl; have a4 := HX5.cell 4 rfl; have a5 := HX5.cell 5 rfl; have b0 := HV5.cell 0 rfl; have b1 := HV5.cell 1 rfl; have b2 := HV5.cell 2 rfl)
  refine bp_world (F := Stored w5 (w.heap.size + 1 + 1) 36 [.int .i64 0, .slice none 0 0, .bool false, .slice none 0 0, .slice none 0 0]) (stored5 HZ5) ?_
  rintro wz ⟨HS, ks, ss⟩
  have q0 := HS.cell 0 rfl
  have q1 := HS.cell 1 rfl
  have q2 := HS.cell 2 rfl
  have q3 := HS.cell 3 rfl
  have q4 := HS.cell 4 rfl
  refine bodyPost_ret (v := .tuple #[.agg #[.int .i64 0, .slice none 0 0, .bool false, .slice none 0 0, .slice none 0 0], .int .i64 5]) (by simp [results, Tryz.results11, go_sem, q0, q1, q2, q3, q4]) rfl ?_
  exact ⟨_, rfl, cw0_val _, hbw.trans (Below.kept ks (by omega) hbw.size)⟩
 ·rw [hi] at HI
  have HS := hid fun W (hW : Below w.heap.size w W) => sum_C hl hn e t.wt W _ (XE.Val.below hW e _ (he.val _ hv (by omega))) (PT.As.sz he _ hv) (by omega) t.wt_pos (hE.below hW)
  obtain ⟨X, hX⟩ : ∃ X, sumX x.q e = X := ⟨_, rfl⟩
  rw [hX] at HS ⊢
  clear hv hE hX he hi
  go_enter Tryz.func11, Tryz.ntmps11
  go_upto_region 1 with fail
  refine wp_world (F := fun W => (Bs W w.heap.size 27 [c0, c1, c2, c3, c4, c5] ∧ Bs W (w.heap.size + 1) 31 [.slice x.A0 x.n0 x.k0, .slice x.A1 x.n1 x.k1, .slice x.A2 x.n2 x.k2] ∧ Bs W (w.heap.size + 2) 36 [.int .i64 0, .slice none 0 0, .bool false, .slice none 0 0, .slice none 0 0]) ∧ Below w.heap.size w W)
   ⟨⟨((Bs.new w _ _ _ rfl).alloc _).alloc _, (Bs.new _ _ _ _ (by simp)).alloc _, Bs.new _ _ _ _ (by simp)⟩, Pg.bel⟩ ?_
  rintro w1 ⟨⟨HX, HV, HZ⟩, hb1⟩
  have a0 := HX.cell 0 rfl
  have a1 := HX.cell 1 rfl
  have a2 := HX.cell 2 rfl
  have a3 := HX.cell 3 rfl
  have a4 := HX.cell 4 rfl
  have a5 := HX.cell 5 rfl
  go_wp2_with (first | (go_at_call 33; (with_reducible refine (HI.out _ hb1).mono ?_); rintro e w5 ⟨rfl, hb5⟩; have HZ5 := HZ.below hb5; have hbw := Below.then_ hb1 hb5; have HX5 := HX.below hb5; have HV5 := HV.below hb5; clear a0 a1 a2 a3 a4 a5; have f0 := HZ5.frozen 0; have f1 := HZ5.frozen 1; have f2 := HZ5.frozen 2; have f3 := HZ5.frozen 3; have f4 := HZ5.frozen 4; have z0 := HZ5.cell 0 rfl; have z1 := HZ5.cell 1 rfl; have z2 := HZ5.cell 2 rfl; have z3 := HZ5.cell 3 rfl; have z4 := HZ5.cell 4 rfl; have a0 := HX5.cell 0 rfl; have a1 := HX5.cell 1 rfl; have a2 := HX5.cell 2 rfl; have a3 := HX5.cell 3 rfl; have a4 := HX5.cell 4 rfl; have a5 := HX5.cell 5 rfl; have b0 := HV5.cell 0 rfl; have b1 := HV5.cell 1 rfl; have b2 := HV5.cell 2 rfl) | (go_at_call 34; (with_reducible refine (HS.out _ hbw).mono ?_); rintro e w6 ⟨v6, rfl, hv6, hb6⟩; obtain ⟨T6, n6, m6, y6, rfl, hc6⟩ := hv6.cv; have HZ6 := HZ5.below hb6; have hbz := Below.then_ hbw hb6; clear f0 f1 f2 f3 f4 z0 z1 z2 z3 z4; have f0 := HZ6.frozen 0; have f1 := HZ6.frozen 1; have f2 := HZ6.frozen 2; have f3 := HZ6.frozen 3; have f4 := HZ6.frozen 4; have z0 := HZ6.cell 0 rfl; have z1 := HZ6.cell 1 rfl; have z2 := HZ6.cell 2 rfl; have z3 := HZ6.cell 3 rfl; have z4 := HZ6.cell 4 rfl))
  refine bp_world (F := Stored w6 (w.heap.size + 1 + 1) 36 [.int .i64 (conOf X).s, .slice T6 n6 m6, .bool y6.s, .slice y6.A y6.n y6.c, .slice y6.A' y6.n' y6.c']) (stored5 HZ6) ?_
  rintro wz ⟨HS, ks, ss⟩
  have q0 := HS.cell 0 rfl
  have q1 := HS.cell 1 rfl
  have q2 := HS.cell 2 rfl
  have q3 := HS.cell 3 rfl
  have q4 := HS.cell 4 rfl
  refine bodyPost_ret (v := .tuple #[.agg #[.int .i64 (conOf X).s, .slice T6 n6 m6, .bool y6.s, .slice y6.A y6.n y6.c, .slice y6.A' y6.n' y6.c'], .int .i64 (errOf X : Int)]) (by simp [results, Tryz.results11, go_sem, q0, q1, q2, q3, q4]) rfl ?_
  exact ⟨_, rfl, (hc6.kept HZ6 conU0 noT_con ks).val, hbz.trans (Below.kept ks (by omega) hbz.size)⟩
end Go.Proofs.YtahdlpkncemmaaaGreat
namespace Go.Proofs.YtahdlpkncemmaaaGreat
open Go.RowKit Pg
theorem long8_any {x : EW} (w : World) (hE : EnvAt w x) :
  Calls Tryz.prog 10 #[.agg #[.slice x.A0 x.n0 x.k0, .slice x.A1 x.n1 x.k1, .slice x.A2 x.n2 x.k2]] w (ManyRet w (x.vars.length ≤ 20 ∧ ∀ r ∈ x.vals, r.Le 3)) := by
 have HM := hid fun W (hW : Below w.heap.size w W) => many8_any W (hE.vals.below rawAt_stays hW)
 have hv : x.vars.length = x.n0 := hE.vars.1
 rw [hv]
 have HX := hid (Bs.new w 31 [.slice x.A0 x.n0 x.k0, .slice x.A1 x.n1 x.k1, .slice x.A2 x.n2 x.k2] _ rfl)
 clear hE hv
 have b0 := HX.out.cell 0 rfl
 have b1 := HX.out.cell 1 rfl
 have b2 := HX.out.cell 2 rfl
 go_enter Tryz.func10, Tryz.ntmps10
 by_cases h0 : x.n0 ≤ 20
 ·have d0 : decide ((20 : Int) < (x.n0 : Int)) = false := decide_eq_false (by omega)
  by_cases h1 : x.n1 ≤ 20
  ·have d1 : decide ((20 : Int) < (x.n1 : Int)) = false := decide_eq_false (by omega)
   go_wp2_with (go_at_call 16; (with_reducible refine (HM.out _ Pg.bel).mono ?_); rintro e w5 ⟨B, rfl, hB, hb5⟩; rcases B with _ | _)
   all_goals go_ret
   ·exact ⟨_, rfl, fun _ => ⟨h0, (hB (by first | exact rfl | trivial)).2⟩, Pg.bel⟩
   ·exact ⟨_, rfl, fun h => Bool.noConfusion h, Pg.bel⟩
  ·have d1 : decide ((20 : Int) < (x.n1 : Int)) = true := decide_eq_true (by omega)
   go_wp2_with fail
   go_ret
   exact ⟨_, rfl, fun h => Bool.noConfusion h, Pg.bel⟩
 ·have d0 : decide ((20 : Int) < (x.n0 : Int)) = true := decide_eq_true (by omega)
  go_wp2_with fail
  go_ret
  exact ⟨_, rfl, fun h => Bool.noConfusion h, Pg.bel⟩
def knA : PT := .mk 2 ⟨false, [], []⟩ [97] []
def knT : PT := .mk 3 ⟨false, [], []⟩ [] [knA, knA]
def knE (g : Nat) : EW := ⟨some ⟨g, 0, none⟩, none, none, 1, 1, 0, 0, 0, 0, [[97]], [], []⟩
theorem knX (g : Nat) : OfX knT (knE g).q (.ok ⟨0, [⟨0, 2⟩], 0⟩) := by
 refine .inr ⟨by decide, .bin 3 (.name [97]) (.name [97]), .bin 3 _ _ _ _ _ _ (by omega) (by omega) (.name _ _ _) (.name _ _ _), ?_⟩
 have hi : idx [[97]] [97] = some 0 := rfl
 have h2 : (1 : Rat) + 1 = 2 := (Rat.intCast_add 1 1).symm
 have h3 : (0 : Rat) + 0 = 0 := Rat.add_zero 0
 have h4 : ¬ (2 : Rat) = 0 := by decide
 simp [sumX, nameC, EW.q, knE, hi, binC, addC, addT, keepT, h2, h3, h4]
theorem kn_env {w : World} {g : Nat} {t : TypeId} (h : Bs w g t [.string (str [97])]) : EnvAt w (knE g) := by
 refine ⟨⟨rfl, Nat.le_refl _, by simp only [knE]; omega, by simp only [knE]; omega, fun e => by simp [knE] at e, fun _ => ⟨g, 0, rfl, h.lt, ?_⟩⟩, ⟨rfl, Nat.le_refl _, Nat.zero_le _, Nat.zero_le _, fun _ => rfl, fun h => absurd h (Nat.lt_irrefl 0)⟩, ⟨rfl, Nat.le_refl _, Nat.zero_le _, Nat.zero_le _, fun _ => rfl, fun h => absurd h (Nat.lt_irrefl 0)⟩⟩
 intro j x hj
 cases j with
 | zero =>
  obtain rfl : [97] = x := by simpa [knE] using hj
  refine ⟨fun q hq => ?_, by decide⟩
  obtain rfl : q = 0 := by simp at hq; exact hq
  exact h.cell 0 rfl
 | succ j => simp [knE] at hj
theorem kn_val {w : World} {g : Nat} {t : TypeId} (h : Bs w g t [.int .i64 2, .bool false, .slice none 0 0, .slice none 0 0, .string (str [97]), .slice none 0 0, .int .i64 2, .bool false, .slice none 0 0, .slice none 0 0, .string (str [97]), .slice none 0 0]) : PT.Val w (.agg #[.int .i64 3, .bool false, .slice none 0 0, .slice none 0 0, .string (str []), .slice (some ⟨g, 0, none⟩) 2 2]) knT := by
 have hat : ∀ o, (∀ q, q < 6 → w.cell? ⟨g, o + q, none⟩ = [.int .i64 2, .bool false, .slice none 0 0, .slice none 0 0, .string (str [97]), .slice none 0 0][q]?) → PT.At w knA g o := by
  intro o ho
  unfold knA PT.At
  exact ⟨_, _, _, none, 0, fun q hq => ho q hq, rw0_at w, by decide, by decide, by decide, fun h => absurd h (by decide)⟩
 refine ⟨_, _, _, _, 2, rfl, rw0_at w, by decide, by decide, by decide, fun _ => ⟨g, 0, rfl, h.lt, ?_⟩⟩
 unfold PT.Ats PT.Ats PT.Ats
 refine ⟨hat 0 ?_, hat (0 + 6) ?_, trivial⟩
 ·intro q hq
  rcases (by omega : q = 0 ∨ q = 1 ∨ q = 2 ∨ q = 3 ∨ q = 4 ∨ q = 5) with rfl | rfl | rfl | rfl | rfl | rfl
  ·exact h.cell 0 rfl
  ·exact h.cell 1 rfl
  ·exact h.cell 2 rfl
  ·exact h.cell 3 rfl
  ·exact h.cell 4 rfl
  ·exact h.cell 5 rfl
 ·intro q hq
  rcases (by omega : q = 0 ∨ q = 1 ∨ q = 2 ∨ q = 3 ∨ q = 4 ∨ q = 5) with rfl | rfl | rfl | rfl | rfl | rfl
  ·exact h.cell 6 rfl
  ·exact h.cell 7 rfl
  ·exact h.cell 8 rfl
  ·exact h.cell 9 rfl
  ·exact h.cell 10 rfl
  ·exact h.cell 11 rfl
theorem short_two : Short 2 1 := ⟨by rw [show (2 : Rat) = ((2 : Int) : Rat) from rfl, rnum_int]; exact length_limbs_le (by decide), by rw [show (2 : Rat) = ((2 : Int) : Rat) from rfl, rden_int]; exact length_limbs_le (by decide)⟩
theorem kn_of (w : World) {g h : Nat} (HG : Bs w g 27 [.int .i64 2, .bool false, .slice none 0 0, .slice none 0 0, .string (str [97]), .slice none 0 0, .int .i64 2, .bool false, .slice none 0 0, .slice none 0 0, .string (str [97]), .slice none 0 0]) (HH : Bs w h 9 [.string (str [97])]) :
  Calls Tryz.prog 11 #[.agg #[.int .i64 3, .bool false, .slice none 0 0, .slice none 0 0, .string (str []), .slice (some ⟨g, 0, none⟩) 2 2], .agg #[.slice (some ⟨h, 0, none⟩) 1 1, .slice none 0 0, .slice none 0 0]] w (SumRet w (.ok ⟨0, [⟨0, 2⟩], 0⟩)) :=
 Of_C (x := knE h) w (kn_val HG) (by decide) (kn_env HH) (fun r hr => by simp [knE] at hr) (by simp [knE]) (knX h)
theorem known8_any (w : World) : Calls Tryz.prog 14 #[] w fun e w' => e = .returned (.bool true) ∧ Below w.heap.size w w' := by
 go_enter Tryz.func14, Tryz.ntmps14
 go_wp2_with (go_at_call 11; (refine (kn_of _ (g := w.heap.size + 1) (h := w.heap.size + 1 + 1) ((Bs.new _ _ _ _ (by simp)).alloc _) (Bs.new _ _ _ _ (by simp))).mono ?_); rintro e w5 ⟨v5, rfl, hv5, hb5⟩; obtain ⟨T5, n5, m5, y5, rfl, hc5⟩ := hv5.cv; have hbw : Below w.heap.size w w5 := Pg.bel)
 refine wp_world (F := fun W => (Bs W w5.heap.size 36 [.int .i64 0, .slice T5 n5 m5, .bool y5.s, .slice y5.A y5.n y5.c, .slice y5.A' y5.n' y5.c'] ∧ CV W T5 n5 m5 y5 (conOf (.ok ⟨0, [⟨0, 2⟩], 0⟩))) ∧ Below w.heap.size w W) ⟨⟨Bs.new _ _ _ _ rfl, hc5.below (Below.new_ (Below.refl _ _) _)⟩, Pg.bel⟩ ?_
 rintro w2 ⟨⟨HG, hcv⟩, hb2⟩
 clear hb5 hv5 hc5 hbw
 obtain ⟨g, hg⟩ : ∃ g, w5.heap.size = g := ⟨_, rfl⟩
 rw [hg] at HG ⊢
 clear hg
 have hS := hcv.1
 clear hcv
 have e1 : 1 = n5 := hS.1
 have e6 := hS.2.2.2.2.2
 clear hS
 subst e1
 obtain ⟨b, o, rfl, hbl, hx⟩ := e6 (by omega)
 obtain ⟨x0, x1, x2, hca, hu0⟩ := hx 0 ⟨0, rwOf 2⟩ rfl
 obtain ⟨u, rfl, rfl, rfl, hu⟩ := rows_rv hu0
 rw [Nat.zero_mul, Nat.add_zero] at hca
 have HCL := hid hca
 have HU := hid hu
 have hE2 : eqQ (rwOf 2).q (rwOf 2).q = true := by simp [eqQ]
 clear hca hu hu0 hx
 go_upto_region 3 with fail
 refine draw_G (fun _ _ => False) (fun W => Below w2.heap.size w2 W) 18 none [some 15, some 16, some 17, some 18, some 19, some 20, some 21, some 22, some 23, some 24, some 25, some 26, some 27, some 28, some 29, some 30, some 31, some 0] [.is (.int .i64 0), .is (.bool true), .is (.bool true), .is (.pointer (some ⟨g, 1, none⟩)), .is (.slice (some ⟨b, o, none⟩) 1 m5), .is (.int .i64 1), .is (.bool true), .is (.bool true), .is (.bool true), .is (.pointer (some ⟨g, 1, none⟩)), .is (.slice (some ⟨b, o, none⟩) 1 m5), .is (.pointer (some ⟨b, o, none⟩)), .is (.pointer (some ⟨b, o + 1, none⟩)), .is (.agg #[.bool u.s, .slice u.A u.n u.c, .slice u.A' u.n' u.c']), .such (fun W v => ∃ (yX : RV), v = .agg #[.bool yX.s, .slice yX.A yX.n yX.c, .slice yX.A' yX.n' yX.c'] ∧ yX.at W (rwOf (2))), .is (.bool true), .is (.bool true), .is (.bool true)]
  (by kernel_rfl) (by kernel_rfl) (by kernel_rfl) (by kernel_rfl) rfl (by kernel_rfl) (fun _ h => h) (fun _ _ h hb => Below.then_ h hb) (fun _ _ _ h => h.elim) (fun _ _ _ _ _ _ h => h.elim) ?_ ?_
 ·refine ⟨?_, ?_, ?_, ?_, ?_, ?_, ?_, ?_, ?_, ?_, ?_, ?_, ?_, ?_, ?_, ?_, ?_, ?_, trivial⟩
  ·intro a w3 hA K hK
   have t3 := hA.old 3 _ rfl rfl
   go_simp
   exact hK _ _ rfl (Below.refl _ _)
  ·intro a w3 hA K hK
   have t15 := bg_is hA 0 15
   go_simp
   exact hK _ _ Pg.fi_ (Below.refl _ _)
  ·intro a w3 hA K hK
   have t16 := bg_is hA 1 16
   go_simp
   exact hK _ _ rfl (Below.refl _ _)
  ·intro a w3 hA K hK
   have t2 := hA.old 2 _ rfl rfl
   go_simp
   exact hK _ _ rfl (Below.refl _ _)
  ·intro a w3 hA K hK
   have t18 := bg_is hA 3 18
   have k0 := (HG.below hA.grown).cell 1 rfl
   go_simp
   exact hK _ _ rfl (Below.refl _ _)
  ·intro a w3 hA K hK
   have t19 := bg_is hA 4 19
   go_simp
   exact hK _ _ Pg.fi_ (Below.refl _ _)
  ·intro a w3 hA K hK
   have t20 := bg_is hA 5 20
   go_simp
   exact hK _ _ Pg.fi_ (Below.refl _ _)
  ·intro a w3 hA K hK
   have t17 := bg_is hA 2 17
   have t21 := bg_is hA 6 21
   go_simp
   exact hK _ _ Pg.fi_ (Below.refl _ _)
  ·intro a w3 hA K hK
   have t22 := bg_is hA 7 22
   go_simp
   exact hK _ _ rfl (Below.refl _ _)
  ·intro a w3 hA K hK
   have t2 := hA.old 2 _ rfl rfl
   go_simp
   exact hK _ _ rfl (Below.refl _ _)
  ·intro a w3 hA K hK
   have t24 := bg_is hA 9 24
   have k0 := (HG.below hA.grown).cell 1 rfl
   go_simp
   exact hK _ _ rfl (Below.refl _ _)
  ·intro a w3 hA K hK
   have t25 := bg_is hA 10 25
   go_simp
   exact hK _ _ Pg.fi_ (Below.refl _ _)
  ·intro a w3 hA K hK
   have t26 := bg_is hA 11 26
   go_simp
   exact hK _ _ rfl (Below.refl _ _)
  ·intro a w3 hA K hK
   have t27 := bg_is hA 12 27
   have k0 := (HCL.out.below hbl hA.grown).at_ 1 rfl
   have k1 := (HCL.out.below hbl hA.grown).at_ 2 rfl
   have k2 := (HCL.out.below hbl hA.grown).at_ 3 rfl
   go_simp
   exact hK _ _ rfl (Below.refl _ _)
  ·intro a w3 hA K hK
   have hC := r2Int_Q 2 w3 (by omega) (by omega) rfl
   go_simp
   refine hC.mono ?_
   rintro e w4 ⟨y, rfl, hy, hb⟩
   exact hK _ _ (fun W hW => ⟨_, rfl, hy.below hW⟩) hb
  ·intro a w3 hA K hK
   have t28 := bg_is hA 13 28
   obtain ⟨v29, t29, p29⟩ := bg_such hA 14 29
   obtain ⟨y29, rfl, hy29⟩ := p29 w3 (Below.refl _ _)
   have hC := r2Same_Q w3 (HU.out.below hA.grown) hy29 (k := 1) (short_le short_two) (short_le short_two) (by omega) hE2
   go_simp
   refine hC.mono ?_
   rintro e w4 ⟨rfl, hb⟩
   exact hK _ _ rfl hb
  ·intro a w3 hA K hK
   have t23 := bg_is hA 8 23
   have t30 := bg_is hA 15 30
   go_simp
   exact hK _ _ Pg.fi_ (Below.refl _ _)
  ·intro a w3 hA K hK
   have t31 := bg_is hA 16 31
   go_simp
   exact hK _ _ Pg.fi_ (Below.refl _ _)
 rintro vs wv hV hbv hlk act hact
 repeat (replace hV := hV.is_; obtain ⟨_, rfl, hV⟩ := hV)
 replace hV := hV.such_; obtain ⟨v29, _, rfl, p29, hV⟩ := hV
 repeat (replace hV := hV.is_; obtain ⟨_, rfl, hV⟩ := hV)
 obtain rfl := hV.nil_
 clear hV
 clear hlk
 obtain ⟨y29, rfl, hy29⟩ := p29 wv (Below.refl _ _)
 clear p29
 simp only [putsO] at hact
 subst hact
 go_simp
 go_wp2_with fail
 go_ret
 exact ⟨rfl, Below.then_ hb2 hbv⟩
end Go.Proofs.YtahdlpkncemmaaaGreat
namespace Pg
theorem numX_err {v : EnvQ} {l : List Rat} : ∀ {e : XE} {x : Nat}, numX v l e = .error x → x ≠ 0 := by
 intro e
 induction e with
 | num q => intro x h; simp [numX] at h
 | name s =>
  intro x h
  simp only [numX] at h
  rcases nameN_cases v l s with ⟨c, g, _⟩ | ⟨g, _⟩
  ·rw [g] at h; cases h
  ·rw [g] at h; injection h with h; omega
 | neg e ih =>
  intro x h
  simp only [numX] at h
  cases hn : numX v l e with
  | error y => rw [hn] at h; simp only [Except.error.injEq] at h; subst h; exact ih hn
  | ok c => rw [hn] at h; simp at h
 | bin n e f ih1 ih2 =>
  intro x h
  simp only [numX] at h
  cases hn : numX v l e with
  | error y => rw [hn] at h; simp only [Except.error.injEq] at h; subst h; exact ih1 hn
  | ok c =>
   cases hn2 : numX v l f with
   | error y => rw [hn, hn2] at h; simp only [Except.error.injEq] at h; subst h; exact ih2 hn2
   | ok d =>
    rw [hn, hn2] at h
    simp only [binN] at h
    repeat' split at h
    all_goals simp at h
    all_goals omega
end Pg
namespace Go.Proofs.YtahdlpkncemmaaaGreat
open Go.RowKit Pg
theorem PNumRet.to {w w' : World} {X Y : Except Nat Rat} {e : Ending} (h : X = Y) (hp : PNumRet w X e w') : PNumRet w Y e w' := h ▸ hp
def NumAt (x : EW) (A : Option Addr) (n c : Nat) (l : List RW) (e : XE) : Prop := ∀ (K : Nat) (w : World) (v : Value), XE.Val w e v → SzX e K → K ≤ 10000 → 1 ≤ K → EnvAt w x → SlAt 3 RawAt w A n c l →
 Calls Tryz.prog 52 #[v, .agg #[.slice x.A0 x.n0 x.k0, .slice x.A1 x.n1 x.k1, .slice x.A2 x.n2 x.k2], .slice A n c] w (PNumRet w (numX x.q (l.map RW.q) e))
theorem NumAt.neg {x : EW} {A : Option Addr} {n c : Nat} {l : List RW} {a : XE} (hl : ∀ r ∈ x.vals, r.Le 3) (hl' : ∀ r ∈ l, r.Le 3) (IH : NumAt x A n c l a) : NumAt x A n c l (.neg a) := by
 rintro K w v ⟨v0, v1, v2, nm, b, o, kn, kc, d0, d1, d2, d3, d4, d5, rfl, hk1, hk2, hbl, hck, hv⟩ hsz hK hK1 hE hS
 have HS1 := hid fun W (hW : Below w.heap.size w W) => IH K W _ (XE.Val.below hW a _ hv) hsz hK hK1 (hE.below hW) (hS.below rawAt_stays hW)
 have hkp : 0 < kn := hk1
 simp only [numX]
 have hvs : ∀ q ∈ x.q.vals, Short q 3 := short_of_at hE.vals hl (by omega)
 have hls : ∀ q ∈ l.map RW.q, Short q 3 := short_of_at hS hl' (by omega)
 obtain ⟨X, hX⟩ : ∃ X, numX x.q (l.map RW.q) a = X := ⟨_, rfl⟩
 rw [hX] at HS1 ⊢
 have HE1 := hid fun (y : Nat) (h : X = .error y) => numX_err (hX.trans h)
 have HL1 := hid fun (C : Rat) (h : X = .ok C) => short_le (numX_short x.q _ hvs hls a K C hsz (hX.trans h))
 have HCK := hid hck
 clear hX hv hE hS hsz hck hvs hls
 go_enter Tryz.func52, Tryz.ntmps52
 go_upto_region 1 with fail
 refine wp_world (F := fun W => (Bs W w.heap.size 27 [.int .i64 7, v0, v1, v2, nm, .slice (some ⟨b, o, none⟩) kn kc] ∧ Bs W (w.heap.size + 1) 31 [.slice x.A0 x.n0 x.k0, .slice x.A1 x.n1 x.k1, .slice x.A2 x.n2 x.k2] ∧ Bs W (w.heap.size + 2) 24 [.bool false, .slice none 0 0, .slice none 0 0]) ∧ Below w.heap.size w W)
  ⟨⟨((Bs.new w _ _ _ rfl).alloc _).alloc _, (Bs.new _ _ _ _ (by simp)).alloc _, Bs.new _ _ _ _ (by simp)⟩, Pg.bel⟩ ?_
 rintro w1 ⟨⟨HX, HV, HZ⟩, hb1⟩
 have a0 := HX.cell 0 rfl
 have HK0 := HCK.out.below hbl hb1
 have hbk : b < w1.heap.size := Nat.lt_of_lt_of_le hbl hb1.size
 go_upto_region 6 with fail
 refine draw_G (FreshR w1 24 3) (fun W => Below w1.heap.size w1 W) 11 (some 10) [some 30, some 31, some 32, some 33, some 34, some 35, some 36, some 29, some 37, some 38, some 8, none, some 9] [.is (.pointer (some ⟨w.heap.size, 5, none⟩)), .is (.slice (some ⟨b, o, none⟩) kn kc), .is (.pointer (some ⟨b, o, none⟩)), .is (.agg #[d0, d1, d2, d3, d4, d5]), .is (.agg #[.slice x.A0 x.n0 x.k0, .slice x.A1 x.n1 x.k1, .slice x.A2 x.n2 x.k2]), .is (.slice A n c), .such (fun W v => ∃ (yX : RV), v = .tuple #[.agg #[.bool yX.s, .slice yX.A yX.n yX.c, .slice yX.A' yX.n' yX.c'], .int .i64 (errOf X : Int)] ∧ yX.at W (numOf X)), .such (fun W v => ∃ (yX : RV), v = .tuple #[.agg #[.bool yX.s, .slice yX.A yX.n yX.c, .slice yX.A' yX.n' yX.c'], .int .i64 (errOf X : Int)] ∧ yX.at W (numOf X)), .such (fun W v => ∃ (yX : RV), v = .agg #[.bool yX.s, .slice yX.A yX.n yX.c, .slice yX.A' yX.n' yX.c'] ∧ yX.at W (numOf X)), .is (.int .i64 (errOf X : Int)), .such (FreshAt w1 24 3), .own (fun W v => ∃ (gFa : Nat) (y37s : RV), v = .pointer (some ⟨gFa, 0, none⟩) ∧ w1.heap.size ≤ gFa ∧ Bs W gFa 24 [.bool y37s.s, .slice y37s.A y37s.n y37s.c, .slice y37s.A' y37s.n' y37s.c'] ∧ y37s.at W (numOf X)), .is (.int .i64 (errOf X : Int))]
  (by kernel_rfl) (by kernel_rfl) (by kernel_rfl) (by kernel_rfl) rfl (by kernel_rfl) (fun _ h => h) (fun _ _ h hb => Below.then_ h hb) (fun _ _ hb h => FreshR.bel hb h) (fun q W1 W2 v hm hbw hk hq => by simp at hm; rcases hm with rfl | rfl | rfl | rfl <;> first | (obtain ⟨yX, rfl, hyX⟩ := hq W1 (Below.refl _ _); exact fun W hW => ⟨_, rfl, (FreshR.rows hk hyX).below hW⟩) | (exact fun W hW => (FreshAt.after (hq W1 (Below.refl _ _)) hk).below hW)) ?_ ?_
 ·refine ⟨?_, ?_, ?_, ?_, ?_, ?_, ?_, ?_, ?_, ?_, ?_, ?_, ?_, trivial⟩
  ·intro a w3 hA K hK
   have t3 := hA.old 3 _ rfl rfl
   go_simp
   exact hK _ _ rfl (Below.refl _ _)
  ·intro a w3 hA K hK
   have t30 := bg_is hA 0 30
   have k0 := (HX.below hA.grown).cell 5 rfl
   go_simp
   exact hK _ _ rfl (Below.refl _ _)
  ·intro a w3 hA K hK
   have t31 := bg_is hA 1 31
   go_simp
   exact hK _ _ Pg.fi_ (Below.refl _ _)
  ·intro a w3 hA K hK
   have t32 := bg_is hA 2 32
   have k0 : w3.cell? ⟨b, o, none⟩ = some (d0) := (HK0.below hbk hA.grown).at_ 0 rfl
   have k1 := (HK0.below hbk hA.grown).at_ 1 rfl
   have k2 := (HK0.below hbk hA.grown).at_ 2 rfl
   have k3 := (HK0.below hbk hA.grown).at_ 3 rfl
   have k4 := (HK0.below hbk hA.grown).at_ 4 rfl
   have k5 := (HK0.below hbk hA.grown).at_ 5 rfl
   go_simp
   exact hK _ _ rfl (Below.refl _ _)
  ·intro a w3 hA K hK
   have t4 := hA.old 4 _ rfl rfl
   have k0 := (HV.below hA.grown).cell 0 rfl
   have k1 := (HV.below hA.grown).cell 1 rfl
   have k2 := (HV.below hA.grown).cell 2 rfl
   go_simp
   exact hK _ _ rfl (Below.refl _ _)
  ·intro a w3 hA K hK
   have t2 := hA.old 2 _ rfl rfl
   go_simp
   exact hK _ _ rfl (Below.refl _ _)
  ·intro a w3 hA K hK
   have t33 := bg_is hA 3 33
   have t34 := bg_is hA 4 34
   have t35 := bg_is hA 5 35
   have hC := HS1.out w3 (Below.then_ hb1 hA.grown)
   go_simp
   refine hC.mono ?_
   rintro e w4 ⟨y, rfl, hy, hb⟩
   exact hK _ _ (fun W hW => ⟨_, rfl, hy.below hW⟩) hb
  ·intro a w3 hA K hK
   obtain ⟨v36, t36, p36⟩ := bg_such hA 6 36
   obtain ⟨y36, rfl, hy36⟩ := p36 w3 (Below.refl _ _)
   go_simp
   exact hK _ _ (fun W hW => ⟨_, rfl, hy36.below hW⟩) (Below.refl _ _)
  ·intro a w3 hA K hK
   obtain ⟨v29, t29, p29⟩ := bg_such hA 7 29
   obtain ⟨y29, rfl, hy29⟩ := p29 w3 (Below.refl _ _)
   go_simp
   exact hK _ _ (fun W hW => ⟨_, rfl, hy29.below hW⟩) (Below.refl _ _)
  ·intro a w3 hA K hK
   obtain ⟨v29, t29, p29⟩ := bg_such hA 7 29
   obtain ⟨y29, rfl, hy29⟩ := p29 w3 (Below.refl _ _)
   go_simp
   exact hK _ _ rfl (Below.refl _ _)
  ·intro a w3 hA K hK
   go_simp
   exact hK _ _ (fun W hW => FreshAt.below ⟨_, _, rfl, hA.grown.size, Bs.new w3 _ [.bool false, .slice none 0 0, .slice none 0 0] _ rfl, ⟨(noU_bool (noU_slice (noU_slice noU_nil))), noT_rat⟩, rfl⟩ hW) (Below.new_ (Below.refl _ _) _)
  ·intro a w3 hA K hK
   obtain ⟨v8, lk8, t8, p8⟩ := bg_link hA 10 8
   obtain ⟨g8, cs8, rfl, lg8, hB8, hU8, hl8⟩ := p8 w3 (Below.refl _ _)
   obtain ⟨x0, x1, x2, rfl⟩ := len3 hl8
   have f0 := hB8.frozen 0
   have c0 := hB8.cell 0 rfl
   have f1 := hB8.frozen 1
   have c1 := hB8.cell 1 rfl
   have f2 := hB8.frozen 2
   have c2 := hB8.cell 2 rfl
   obtain ⟨v37, t37, p37⟩ := bg_such hA 8 37
   obtain ⟨y37s, rfl, hy37s⟩ := p37 w3 (Below.refl _ _)
   go_simp
   exact hK (.pointer (some ⟨g8, 0, none⟩)) _ (fun W hW => ⟨g8, _, rfl, lg8, (stored3 hB8).1.below hW, (RV.at.kp hy37s (Kp.stored (B := 0) hB8 hU8.1 (stored3 hB8).2.1 (Nat.zero_le _))).below hW⟩) ⟨⟨g8, _, _, lg8, hB8, hU8, rfl, (stored3 hB8).1, ⟨(noU_bool (noU_slice (noU_slice noU_nil))), noT_rat⟩, rfl, (stored3 hB8).2.1⟩, fun j d h1 h2 => by cases h1; cases h2; exact lk8⟩
  ·intro a w3 hA K hK
   have t38 := bg_is hA 9 38
   go_simp
   exact hK _ _ Pg.fi_ (Below.refl _ _)
 rintro vs wv hV hbv hlk act hact
 repeat (replace hV := hV.is_; obtain ⟨_, rfl, hV⟩ := hV)
 replace hV := hV.such_; obtain ⟨v36, _, rfl, p36, hV⟩ := hV
 replace hV := hV.such_; obtain ⟨v29, _, rfl, p29, hV⟩ := hV
 replace hV := hV.such_; obtain ⟨v37, _, rfl, p37, hV⟩ := hV
 replace hV := hV.is_; obtain ⟨_, rfl, hV⟩ := hV
 replace hV := hV.such_; obtain ⟨v8, _, rfl, p8, hV⟩ := hV
 replace hV := hV.own_; obtain ⟨vP, _, rfl, pP, hV⟩ := hV
 replace hV := hV.is_; obtain ⟨_, rfl, hV⟩ := hV
 obtain rfl := hV.nil_
 clear hV
 replace hlk := hlk _ rfl
 simp only [List.getElem?_cons_succ, List.getElem?_cons_zero, Option.some.injEq] at hlk
 subst hlk; clear p8
 obtain ⟨y36, rfl, hy36⟩ := p36 wv (Below.refl _ _)
 clear p36
 obtain ⟨y29, rfl, hy29⟩ := p29 wv (Below.refl _ _)
 clear p29
 obtain ⟨y37, rfl, hy37⟩ := p37 wv (Below.refl _ _)
 clear p37
 obtain ⟨gFa, y37s, rfl, lgFa, hBFa, hy37s⟩ := pP wv (Below.refl _ _)
 clear pP
 simp only [putsO] at hact
 subst hact
 go_simp
 have hwv := Below.then_ hb1 hbv
 have HXv := HX.below hbv
 clear a0
 have a0 := HXv.cell 0 rfl
 rcases X with x1 | C1
 ·skip
  have hx1 : ((errOf (Except.error x1 : Except Nat Rat) : Int) != 0) = true := bne_iff_ne.2 (Int.natCast_ne_zero.2 (HE1.out _ rfl))
  have HZe := HZ.below hbv
  have f0 := HZe.frozen 0
  have f1 := HZe.frozen 1
  have f2 := HZe.frozen 2
  have z0 := HZe.cell 0 rfl
  have z1 := HZe.cell 1 rfl
  have z2 := HZe.cell 2 rfl
  go_wp2_with fail
  refine bp_world (F := Stored wv (w.heap.size + 1 + 1) 24 [.bool false, .slice none 0 0, .slice none 0 0]) (stored3 HZe) ?_
  rintro wz ⟨HS, ks, ss⟩
  have q0 := HS.cell 0 rfl
  have q1 := HS.cell 1 rfl
  have q2 := HS.cell 2 rfl
  refine bodyPost_ret (v := .tuple #[.agg #[.bool false, .slice none 0 0, .slice none 0 0], .int .i64 (errOf (Except.error x1 : Except Nat Rat) : Int)]) (by simp [results, Tryz.results52, go_sem, q0, q1, q2]) rfl ?_
  exact ⟨⟨false, none, 0, 0, none, 0, 0⟩, rfl, rw0_at _, hwv.trans (Below.kept ks (by omega) hwv.size)⟩
 ·have HN := hid fun (W : World) (hW : Below w.heap.size w W) {y : RV} (hy : y.at W (numOf (Except.ok C1))) => Neg_Q W hy (HL1.out _ rfl) (by omega) hK1 (q := -C1) (by rw [show numOf (Except.ok C1) = rwOf C1 from rfl, rwOf_q])
  have hx1 : ((errOf (Except.ok C1 : Except Nat Rat) : Int) != 0) = false := rfl
  have HZv := HZ.below hbv
  have p0 := hBFa.cell 0 rfl
  have p1 := hBFa.cell 1 rfl
  have p2 := hBFa.cell 2 rfl
  have HY := hid hy37s
  go_wp2_with (go_at_call 83; (with_reducible refine (HN.out _ hwv HY.out).mono ?_); rintro e w5 ⟨y, rfl, hy, hb5⟩; have HZ5 := HZv.below hb5; have hbw := Below.then_ hwv hb5; have f0 := HZ5.frozen 0; have f1 := HZ5.frozen 1; have f2 := HZ5.frozen 2; have z0 := HZ5.cell 0 rfl; have z1 := HZ5.cell 1 rfl; have z2 := HZ5.cell 2 rfl)
  refine bp_world (F := Stored w5 (w.heap.size + 1 + 1) 24 [.bool y.s, .slice y.A y.n y.c, .slice y.A' y.n' y.c']) (stored3 HZ5) ?_
  rintro wz ⟨HS, ks, ss⟩
  have q0 := HS.cell 0 rfl
  have q1 := HS.cell 1 rfl
  have q2 := HS.cell 2 rfl
  refine bodyPost_ret (v := .tuple #[.agg #[.bool y.s, .slice y.A y.n y.c, .slice y.A' y.n' y.c'], .int .i64 0]) (by simp [results, Tryz.results52, go_sem, q0, q1, q2]) rfl ?_
  exact ⟨y, rfl, hy.kp (Kp.stored (B := 0) HZ5 ratU0 ks (Nat.zero_le _)), hbw.trans (Below.kept ks (by omega) hbw.size)⟩
theorem NumAt.num {x : EW} {A : Option Addr} {n c : Nat} {l : List RW} {q : Rat} : NumAt x A n c l (.num q) := by
 rintro K w v ⟨r, v0, v1, v2, nm, KK, kn, kc, rfl, hr, hq, hrl⟩ _ hK hK1 hE hS
 obtain ⟨u, rfl, rfl, rfl, hu⟩ := rows_rv hr
 have HN := hid fun W (hW : Below w.heap.size w W) => Norm_Q W (hu.below hW) hrl (by omega) (by omega)
 rw [hq] at HN
 simp only [numX]
 clear hr hu hE hS
 go_enter Tryz.func52, Tryz.ntmps52
 go_upto_region 1 with fail
 refine wp_world (F := fun W => (Bs W w.heap.size 27 [.int .i64 1, .bool u.s, .slice u.A u.n u.c, .slice u.A' u.n' u.c', nm, .slice KK kn kc] ∧ Bs W (w.heap.size + 1) 31 [.slice x.A0 x.n0 x.k0, .slice x.A1 x.n1 x.k1, .slice x.A2 x.n2 x.k2] ∧ Bs W (w.heap.size + 2) 24 [.bool false, .slice none 0 0, .slice none 0 0]) ∧ Below w.heap.size w W)
  ⟨⟨((Bs.new w _ _ _ rfl).alloc _).alloc _, (Bs.new _ _ _ _ (by simp)).alloc _, Bs.new _ _ _ _ (by simp)⟩, Pg.bel⟩ ?_
 rintro w1 ⟨⟨HX, HV, HZ⟩, hb1⟩
 have a0 := HX.cell 0 rfl
 have a1 := HX.cell 1 rfl
 have a2 := HX.cell 2 rfl
 have a3 := HX.cell 3 rfl
 go_wp2_with (go_at_call 40; (with_reducible refine (HN.out _ hb1).mono ?_); rintro e w5 ⟨y, rfl, hy, hb5⟩; have HZ5 := HZ.below hb5; have hbw := Below.then_ hb1 hb5; have f0 := HZ5.frozen 0; have f1 := HZ5.frozen 1; have f2 := HZ5.frozen 2; have z0 := HZ5.cell 0 rfl; have z1 := HZ5.cell 1 rfl; have z2 := HZ5.cell 2 rfl)
 refine bp_world (F := Stored w5 (w.heap.size + 1 + 1) 24 [.bool y.s, .slice y.A y.n y.c, .slice y.A' y.n' y.c']) (stored3 HZ5) ?_
 rintro wz ⟨HS, ks, ss⟩
 have q0 := HS.cell 0 rfl
 have q1 := HS.cell 1 rfl
 have q2 := HS.cell 2 rfl
 refine bodyPost_ret (v := .tuple #[.agg #[.bool y.s, .slice y.A y.n y.c, .slice y.A' y.n' y.c'], .int .i64 0]) (by simp [results, Tryz.results52, go_sem, q0, q1, q2]) rfl ?_
 exact ⟨y, rfl, hy.kp (Kp.stored (B := 0) HZ5 ratU0 ks (Nat.zero_le _)), hbw.trans (Below.kept ks (by omega) hbw.size)⟩
theorem NumAt.name {x : EW} {A : Option Addr} {n c : Nat} {l : List RW} {s : List UInt8} (hl : ∀ r ∈ x.vals, r.Le 3) (hl' : ∀ r ∈ l, r.Le 3) : NumAt x A n c l (.name s) := by
 rintro K w v ⟨v0, v1, v2, KK, kn, kc, rfl, hs⟩ _ hK hK1 hE hS
 have HN := hid fun W (hW : Below w.heap.size w W) => told_C W s (hE.below hW) hl (hS.below rawAt_stays hW) hl' (by omega) (by omega)
 simp only [numX]
 obtain ⟨X, hX⟩ : ∃ X, nameN s x.q (l.map RW.q) = X := ⟨_, rfl⟩
 rw [hX] at HN ⊢
 clear hE hX hS
 go_enter Tryz.func52, Tryz.ntmps52
 go_upto_region 1 with fail
 refine wp_world (F := fun W => (Bs W w.heap.size 27 [.int .i64 2, v0, v1, v2, .string (str s), .slice KK kn kc] ∧ Bs W (w.heap.size + 1) 31 [.slice x.A0 x.n0 x.k0, .slice x.A1 x.n1 x.k1, .slice x.A2 x.n2 x.k2] ∧ Bs W (w.heap.size + 2) 24 [.bool false, .slice none 0 0, .slice none 0 0]) ∧ Below w.heap.size w W)
  ⟨⟨((Bs.new w _ _ _ rfl).alloc _).alloc _, (Bs.new _ _ _ _ (by simp)).alloc _, Bs.new _ _ _ _ (by simp)⟩, Pg.bel⟩ ?_
 rintro w1 ⟨⟨HX, HV, HZ⟩, hb1⟩
 have a0 := HX.cell 0 rfl
 have a4 := HX.cell 4 rfl
 have b0 := HV.cell 0 rfl
 have b1 := HV.cell 1 rfl
 have b2 := HV.cell 2 rfl
 go_wp2_with (go_at_call 82; (with_reducible refine (HN.out _ hb1).mono ?_); rintro e w5 ⟨y, rfl, hy, hb5⟩; have HZ5 := HZ.below hb5; have hbw := Below.then_ hb1 hb5; have f0 := HZ5.frozen 0; have f1 := HZ5.frozen 1; have f2 := HZ5.frozen 2; have z0 := HZ5.cell 0 rfl; have z1 := HZ5.cell 1 rfl; have z2 := HZ5.cell 2 rfl)
 refine bp_world (F := Stored w5 (w.heap.size + 1 + 1) 24 [.bool y.s, .slice y.A y.n y.c, .slice y.A' y.n' y.c']) (stored3 HZ5) ?_
 rintro wz ⟨HS, ks, ss⟩
 have q0 := HS.cell 0 rfl
 have q1 := HS.cell 1 rfl
 have q2 := HS.cell 2 rfl
 refine bodyPost_ret (v := .tuple #[.agg #[.bool y.s, .slice y.A y.n y.c, .slice y.A' y.n' y.c'], .int .i64 (errOf X : Int)]) (by simp [results, Tryz.results52, go_sem, q0, q1, q2]) rfl ?_
 exact ⟨y, rfl, hy.kp (Kp.stored (B := 0) HZ5 ratU0 ks (Nat.zero_le _)), hbw.trans (Below.kept ks (by omega) hbw.size)⟩
theorem NumAt.bin {x : EW} {A : Option Addr} {n c : Nat} {l : List RW} {k : Nat} {a a' : XE} (hl : ∀ r ∈ x.vals, r.Le 3) (hl' : ∀ r ∈ l, r.Le 3) (IH : NumAt x A n c l a) (IH' : NumAt x A n c l a') : NumAt x A n c l (.bin k a a') := by
 rintro K w v ⟨v0, v1, v2, nm, b, o, kn, kc, d0, d1, d2, d3, d4, d5, f0, f1, f2, f3, f4, f5, h3, h6, rfl, hk1, hk2, hbl, hck, hdk, hv, hv'⟩ ⟨i, j, hi, hj, hij⟩ hK hK1 hE hS
 have hsz := SzX.mono hi (by omega : i ≤ K)
 have hsz' := SzX.mono hj (by omega : j ≤ K)
 clear hi hj hij
 have HS1 := hid fun W (hW : Below w.heap.size w W) => IH K W _ (XE.Val.below hW a _ hv) hsz hK hK1 (hE.below hW) (hS.below rawAt_stays hW)
 have HS2 := hid fun W (hW : Below w.heap.size w W) => IH' K W _ (XE.Val.below hW a' _ hv') hsz' hK hK1 (hE.below hW) (hS.below rawAt_stays hW)
 have hkp : 0 < kn := by omega
 have hkq : (1 : Int) < (kn : Int) := by omega
 have hk7 : ((k : Int) == 7) = false := beq_eq_false_iff_ne.2 (by omega)
 have hk8 : ((k : Int) == 1) = false := beq_eq_false_iff_ne.2 (by omega)
 have hk9 : ((k : Int) == 2) = false := beq_eq_false_iff_ne.2 (by omega)
 simp only [numX]
 have hvs : ∀ q ∈ x.q.vals, Short q 3 := short_of_at hE.vals hl (by omega)
 have hls : ∀ q ∈ l.map RW.q, Short q 3 := short_of_at hS hl' (by omega)
 obtain ⟨X, hX⟩ : ∃ X, numX x.q (l.map RW.q) a = X := ⟨_, rfl⟩
 obtain ⟨Y, hY⟩ : ∃ Y, numX x.q (l.map RW.q) a' = Y := ⟨_, rfl⟩
 rw [hX] at HS1 ⊢
 rw [hY] at HS2 ⊢
 have HE1 := hid fun (y : Nat) (h : X = .error y) => numX_err (hX.trans h)
 have HE2 := hid fun (y : Nat) (h : Y = .error y) => numX_err (hY.trans h)
 have HL1 := hid fun (C : Rat) (h : X = .ok C) => short_le (numX_short x.q _ hvs hls a K C hsz (hX.trans h))
 have HL2 := hid fun (C : Rat) (h : Y = .ok C) => short_le (numX_short x.q _ hvs hls a' K C hsz' (hY.trans h))
 have HCK := hid hck
 have HDK := hid hdk
 clear hX hY hv hv' hE hS hsz hsz' hck hdk hvs hls
 go_enter Tryz.func52, Tryz.ntmps52
 go_upto_region 1 with fail
 refine wp_world (F := fun W => (Bs W w.heap.size 27 [.int .i64 (k : Int), v0, v1, v2, nm, .slice (some ⟨b, o, none⟩) kn kc] ∧ Bs W (w.heap.size + 1) 31 [.slice x.A0 x.n0 x.k0, .slice x.A1 x.n1 x.k1, .slice x.A2 x.n2 x.k2] ∧ Bs W (w.heap.size + 2) 24 [.bool false, .slice none 0 0, .slice none 0 0]) ∧ Below w.heap.size w W)
  ⟨⟨((Bs.new w _ _ _ rfl).alloc _).alloc _, (Bs.new _ _ _ _ (by simp)).alloc _, Bs.new _ _ _ _ (by simp)⟩, Pg.bel⟩ ?_
 rintro w1 ⟨⟨HX, HV, HZ⟩, hb1⟩
 have a0 := HX.cell 0 rfl
 have HK0 := HCK.out.below hbl hb1
 have hbk : b < w1.heap.size := Nat.lt_of_lt_of_le hbl hb1.size
 go_upto_region 6 with fail
 refine draw_G (FreshR w1 24 3) (fun W => Below w1.heap.size w1 W) 11 (some 10) [some 30, some 31, some 32, some 33, some 34, some 35, some 36, some 29, some 37, some 38, some 8, none, some 9] [.is (.pointer (some ⟨w.heap.size, 5, none⟩)), .is (.slice (some ⟨b, o, none⟩) kn kc), .is (.pointer (some ⟨b, o, none⟩)), .is (.agg #[d0, d1, d2, d3, d4, d5]), .is (.agg #[.slice x.A0 x.n0 x.k0, .slice x.A1 x.n1 x.k1, .slice x.A2 x.n2 x.k2]), .is (.slice A n c), .such (fun W v => ∃ (yX : RV), v = .tuple #[.agg #[.bool yX.s, .slice yX.A yX.n yX.c, .slice yX.A' yX.n' yX.c'], .int .i64 (errOf X : Int)] ∧ yX.at W (numOf X)), .such (fun W v => ∃ (yX : RV), v = .tuple #[.agg #[.bool yX.s, .slice yX.A yX.n yX.c, .slice yX.A' yX.n' yX.c'], .int .i64 (errOf X : Int)] ∧ yX.at W (numOf X)), .such (fun W v => ∃ (yX : RV), v = .agg #[.bool yX.s, .slice yX.A yX.n yX.c, .slice yX.A' yX.n' yX.c'] ∧ yX.at W (numOf X)), .is (.int .i64 (errOf X : Int)), .such (FreshAt w1 24 3), .own (fun W v => ∃ (gFa : Nat) (y37s : RV), v = .pointer (some ⟨gFa, 0, none⟩) ∧ w1.heap.size ≤ gFa ∧ Bs W gFa 24 [.bool y37s.s, .slice y37s.A y37s.n y37s.c, .slice y37s.A' y37s.n' y37s.c'] ∧ y37s.at W (numOf X)), .is (.int .i64 (errOf X : Int))]
  (by kernel_rfl) (by kernel_rfl) (by kernel_rfl) (by kernel_rfl) rfl (by kernel_rfl) (fun _ h => h) (fun _ _ h hb => Below.then_ h hb) (fun _ _ hb h => FreshR.bel hb h) (fun q W1 W2 v hm hbw hk hq => by simp at hm; rcases hm with rfl | rfl | rfl | rfl <;> first | (obtain ⟨yX, rfl, hyX⟩ := hq W1 (Below.refl _ _); exact fun W hW => ⟨_, rfl, (FreshR.rows hk hyX).below hW⟩) | (exact fun W hW => (FreshAt.after (hq W1 (Below.refl _ _)) hk).below hW)) ?_ ?_
 ·refine ⟨?_, ?_, ?_, ?_, ?_, ?_, ?_, ?_, ?_, ?_, ?_, ?_, ?_, trivial⟩
  ·intro a w3 hA K hK
   have t3 := hA.old 3 _ rfl rfl
   go_simp
   exact hK _ _ rfl (Below.refl _ _)
  ·intro a w3 hA K hK
   have t30 := bg_is hA 0 30
   have k0 := (HX.below hA.grown).cell 5 rfl
   go_simp
   exact hK _ _ rfl (Below.refl _ _)
  ·intro a w3 hA K hK
   have t31 := bg_is hA 1 31
   go_simp
   exact hK _ _ Pg.fi_ (Below.refl _ _)
  ·intro a w3 hA K hK
   have t32 := bg_is hA 2 32
   have k0 : w3.cell? ⟨b, o, none⟩ = some (d0) := (HK0.below hbk hA.grown).at_ 0 rfl
   have k1 := (HK0.below hbk hA.grown).at_ 1 rfl
   have k2 := (HK0.below hbk hA.grown).at_ 2 rfl
   have k3 := (HK0.below hbk hA.grown).at_ 3 rfl
   have k4 := (HK0.below hbk hA.grown).at_ 4 rfl
   have k5 := (HK0.below hbk hA.grown).at_ 5 rfl
   go_simp
   exact hK _ _ rfl (Below.refl _ _)
  ·intro a w3 hA K hK
   have t4 := hA.old 4 _ rfl rfl
   have k0 := (HV.below hA.grown).cell 0 rfl
   have k1 := (HV.below hA.grown).cell 1 rfl
   have k2 := (HV.below hA.grown).cell 2 rfl
   go_simp
   exact hK _ _ rfl (Below.refl _ _)
  ·intro a w3 hA K hK
   have t2 := hA.old 2 _ rfl rfl
   go_simp
   exact hK _ _ rfl (Below.refl _ _)
  ·intro a w3 hA K hK
   have t33 := bg_is hA 3 33
   have t34 := bg_is hA 4 34
   have t35 := bg_is hA 5 35
   have hC := HS1.out w3 (Below.then_ hb1 hA.grown)
   go_simp
   refine hC.mono ?_
   rintro e w4 ⟨y, rfl, hy, hb⟩
   exact hK _ _ (fun W hW => ⟨_, rfl, hy.below hW⟩) hb
  ·intro a w3 hA K hK
   obtain ⟨v36, t36, p36⟩ := bg_such hA 6 36
   obtain ⟨y36, rfl, hy36⟩ := p36 w3 (Below.refl _ _)
   go_simp
   exact hK _ _ (fun W hW => ⟨_, rfl, hy36.below hW⟩) (Below.refl _ _)
  ·intro a w3 hA K hK
   obtain ⟨v29, t29, p29⟩ := bg_such hA 7 29
   obtain ⟨y29, rfl, hy29⟩ := p29 w3 (Below.refl _ _)
   go_simp
   exact hK _ _ (fun W hW => ⟨_, rfl, hy29.below hW⟩) (Below.refl _ _)
  ·intro a w3 hA K hK
   obtain ⟨v29, t29, p29⟩ := bg_such hA 7 29
   obtain ⟨y29, rfl, hy29⟩ := p29 w3 (Below.refl _ _)
   go_simp
   exact hK _ _ rfl (Below.refl _ _)
  ·intro a w3 hA K hK
   go_simp
   exact hK _ _ (fun W hW => FreshAt.below ⟨_, _, rfl, hA.grown.size, Bs.new w3 _ [.bool false, .slice none 0 0, .slice none 0 0] _ rfl, ⟨(noU_bool (noU_slice (noU_slice noU_nil))), noT_rat⟩, rfl⟩ hW) (Below.new_ (Below.refl _ _) _)
  ·intro a w3 hA K hK
   obtain ⟨v8, lk8, t8, p8⟩ := bg_link hA 10 8
   obtain ⟨g8, cs8, rfl, lg8, hB8, hU8, hl8⟩ := p8 w3 (Below.refl _ _)
   obtain ⟨x0, x1, x2, rfl⟩ := len3 hl8
   have f0 := hB8.frozen 0
   have c0 := hB8.cell 0 rfl
   have f1 := hB8.frozen 1
   have c1 := hB8.cell 1 rfl
   have f2 := hB8.frozen 2
   have c2 := hB8.cell 2 rfl
   obtain ⟨v37, t37, p37⟩ := bg_such hA 8 37
   obtain ⟨y37s, rfl, hy37s⟩ := p37 w3 (Below.refl _ _)
   go_simp
   exact hK (.pointer (some ⟨g8, 0, none⟩)) _ (fun W hW => ⟨g8, _, rfl, lg8, (stored3 hB8).1.below hW, (RV.at.kp hy37s (Kp.stored (B := 0) hB8 hU8.1 (stored3 hB8).2.1 (Nat.zero_le _))).below hW⟩) ⟨⟨g8, _, _, lg8, hB8, hU8, rfl, (stored3 hB8).1, ⟨(noU_bool (noU_slice (noU_slice noU_nil))), noT_rat⟩, rfl, (stored3 hB8).2.1⟩, fun j d h1 h2 => by cases h1; cases h2; exact lk8⟩
  ·intro a w3 hA K hK
   have t38 := bg_is hA 9 38
   go_simp
   exact hK _ _ Pg.fi_ (Below.refl _ _)
 rintro vs wv hV hbv hlk act hact
 repeat (replace hV := hV.is_; obtain ⟨_, rfl, hV⟩ := hV)
 replace hV := hV.such_; obtain ⟨v36, _, rfl, p36, hV⟩ := hV
 replace hV := hV.such_; obtain ⟨v29, _, rfl, p29, hV⟩ := hV
 replace hV := hV.such_; obtain ⟨v37, _, rfl, p37, hV⟩ := hV
 replace hV := hV.is_; obtain ⟨_, rfl, hV⟩ := hV
 replace hV := hV.such_; obtain ⟨v8, _, rfl, p8, hV⟩ := hV
 replace hV := hV.own_; obtain ⟨vP, _, rfl, pP, hV⟩ := hV
 replace hV := hV.is_; obtain ⟨_, rfl, hV⟩ := hV
 obtain rfl := hV.nil_
 clear hV
 replace hlk := hlk _ rfl
 simp only [List.getElem?_cons_succ, List.getElem?_cons_zero, Option.some.injEq] at hlk
 subst hlk; clear p8
 obtain ⟨y36, rfl, hy36⟩ := p36 wv (Below.refl _ _)
 clear p36
 obtain ⟨y29, rfl, hy29⟩ := p29 wv (Below.refl _ _)
 clear p29
 obtain ⟨y37, rfl, hy37⟩ := p37 wv (Below.refl _ _)
 clear p37
 obtain ⟨gFa, y37s, rfl, lgFa, hBFa, hy37s⟩ := pP wv (Below.refl _ _)
 clear pP
 simp only [putsO] at hact
 subst hact
 go_simp
 have hwv := Below.then_ hb1 hbv
 have HXv := HX.below hbv
 clear a0
 have a0 := HXv.cell 0 rfl
 rcases X with x1 | C1
 ·skip
  have hx1 : ((errOf (Except.error x1 : Except Nat Rat) : Int) != 0) = true := bne_iff_ne.2 (Int.natCast_ne_zero.2 (HE1.out _ rfl))
  have HZe := HZ.below hbv
  have f0 := HZe.frozen 0
  have f1 := HZe.frozen 1
  have f2 := HZe.frozen 2
  have z0 := HZe.cell 0 rfl
  have z1 := HZe.cell 1 rfl
  have z2 := HZe.cell 2 rfl
  go_wp2_with fail
  refine bp_world (F := Stored wv (w.heap.size + 1 + 1) 24 [.bool false, .slice none 0 0, .slice none 0 0]) (stored3 HZe) ?_
  rintro wz ⟨HS, ks, ss⟩
  have q0 := HS.cell 0 rfl
  have q1 := HS.cell 1 rfl
  have q2 := HS.cell 2 rfl
  refine bodyPost_ret (v := .tuple #[.agg #[.bool false, .slice none 0 0, .slice none 0 0], .int .i64 (errOf (Except.error x1 : Except Nat Rat) : Int)]) (by simp [results, Tryz.results52, go_sem, q0, q1, q2]) rfl ?_
  exact ⟨⟨false, none, 0, 0, none, 0, 0⟩, rfl, rw0_at _, hwv.trans (Below.kept ks (by omega) hwv.size)⟩
 ·have hx3 : ((errOf (Except.ok C1 : Except Nat Rat) : Int) != 0) = false := rfl
  have HVv := HV.below hbv
  have HZv := HZ.below hbv
  have HK2 := hid (HDK.out.below hbl hwv)
  have hbv2 : b < wv.heap.size := Nat.lt_of_lt_of_le hbl hwv.size
  go_upto_region 11 with fail
  refine draw_G (FreshR wv 24 3) (fun W => Below wv.heap.size wv W) 11 (some 10) [some 49, some 50, some 51, some 52, some 53, some 54, some 55, some 48, some 56, some 57, some 10, none, some 9] [.is (.pointer (some ⟨w.heap.size, 5, none⟩)), .is (.slice (some ⟨b, o, none⟩) kn kc), .is (.pointer (some ⟨b, o + 6, none⟩)), .is (.agg #[f0, f1, f2, f3, f4, f5]), .is (.agg #[.slice x.A0 x.n0 x.k0, .slice x.A1 x.n1 x.k1, .slice x.A2 x.n2 x.k2]), .is (.slice A n c), .such (fun W v => ∃ (yX : RV), v = .tuple #[.agg #[.bool yX.s, .slice yX.A yX.n yX.c, .slice yX.A' yX.n' yX.c'], .int .i64 (errOf Y : Int)] ∧ yX.at W (numOf Y)), .such (fun W v => ∃ (yX : RV), v = .tuple #[.agg #[.bool yX.s, .slice yX.A yX.n yX.c, .slice yX.A' yX.n' yX.c'], .int .i64 (errOf Y : Int)] ∧ yX.at W (numOf Y)), .such (fun W v => ∃ (yX : RV), v = .agg #[.bool yX.s, .slice yX.A yX.n yX.c, .slice yX.A' yX.n' yX.c'] ∧ yX.at W (numOf Y)), .is (.int .i64 (errOf Y : Int)), .such (FreshAt wv 24 3), .own (fun W v => ∃ (gFb : Nat) (y56s : RV), v = .pointer (some ⟨gFb, 0, none⟩) ∧ wv.heap.size ≤ gFb ∧ Bs W gFb 24 [.bool y56s.s, .slice y56s.A y56s.n y56s.c, .slice y56s.A' y56s.n' y56s.c'] ∧ y56s.at W (numOf Y)), .is (.int .i64 (errOf Y : Int))]
   (by kernel_rfl) (by kernel_rfl) (by kernel_rfl) (by kernel_rfl) rfl (by kernel_rfl) (fun _ h => h) (fun _ _ h hb => Below.then_ h hb) (fun _ _ hb h => FreshR.bel hb h) (fun q W1 W2 v hm hbw hk hq => by simp at hm; rcases hm with rfl | rfl | rfl | rfl <;> first | (obtain ⟨yX, rfl, hyX⟩ := hq W1 (Below.refl _ _); exact fun W hW => ⟨_, rfl, (FreshR.rows hk hyX).below hW⟩) | (exact fun W hW => (FreshAt.after (hq W1 (Below.refl _ _)) hk).below hW)) ?_ ?_
  ·refine ⟨?_, ?_, ?_, ?_, ?_, ?_, ?_, ?_, ?_, ?_, ?_, ?_, ?_, trivial⟩
   ·intro a w3 hA K hK
    have t3 := hA.old 3 _ rfl rfl
    go_simp
    exact hK _ _ rfl (Below.refl _ _)
   ·intro a w3 hA K hK
    have t49 := bg_is hA 0 49
    have k0 := (HXv.below hA.grown).cell 5 rfl
    go_simp
    exact hK _ _ rfl (Below.refl _ _)
   ·intro a w3 hA K hK
    have t50 := bg_is hA 1 50
    go_simp
    exact hK _ _ Pg.fi_ (Below.refl _ _)
   ·intro a w3 hA K hK
    have t51 := bg_is hA 2 51
    have k0 : w3.cell? ⟨b, o + 6, none⟩ = some (f0) := (HK2.out.below hbv2 hA.grown).at_ 0 rfl
    have k1 := (HK2.out.below hbv2 hA.grown).at_ 1 rfl
    have k2 := (HK2.out.below hbv2 hA.grown).at_ 2 rfl
    have k3 := (HK2.out.below hbv2 hA.grown).at_ 3 rfl
    have k4 := (HK2.out.below hbv2 hA.grown).at_ 4 rfl
    have k5 := (HK2.out.below hbv2 hA.grown).at_ 5 rfl
    go_simp
    exact hK _ _ rfl (Below.refl _ _)
   ·intro a w3 hA K hK
    have t4 := hA.old 4 _ rfl rfl
    have k0 := (HVv.below hA.grown).cell 0 rfl
    have k1 := (HVv.below hA.grown).cell 1 rfl
    have k2 := (HVv.below hA.grown).cell 2 rfl
    go_simp
    exact hK _ _ rfl (Below.refl _ _)
   ·intro a w3 hA K hK
    have t2 := hA.old 2 _ rfl rfl
    go_simp
    exact hK _ _ rfl (Below.refl _ _)
   ·intro a w3 hA K hK
    have t52 := bg_is hA 3 52
    have t53 := bg_is hA 4 53
    have t54 := bg_is hA 5 54
    have hC := HS2.out w3 (Below.then_ hwv hA.grown)
    go_simp
    refine hC.mono ?_
    rintro e w4 ⟨y, rfl, hy, hb⟩
    exact hK _ _ (fun W hW => ⟨_, rfl, hy.below hW⟩) hb
   ·intro a w3 hA K hK
    obtain ⟨v55, t55, p55⟩ := bg_such hA 6 55
    obtain ⟨y55, rfl, hy55⟩ := p55 w3 (Below.refl _ _)
    go_simp
    exact hK _ _ (fun W hW => ⟨_, rfl, hy55.below hW⟩) (Below.refl _ _)
   ·intro a w3 hA K hK
    obtain ⟨v48, t48, p48⟩ := bg_such hA 7 48
    obtain ⟨y48, rfl, hy48⟩ := p48 w3 (Below.refl _ _)
    go_simp
    exact hK _ _ (fun W hW => ⟨_, rfl, hy48.below hW⟩) (Below.refl _ _)
   ·intro a w3 hA K hK
    obtain ⟨v48, t48, p48⟩ := bg_such hA 7 48
    obtain ⟨y48, rfl, hy48⟩ := p48 w3 (Below.refl _ _)
    go_simp
    exact hK _ _ rfl (Below.refl _ _)
   ·intro a w3 hA K hK
    go_simp
    exact hK _ _ (fun W hW => FreshAt.below ⟨_, _, rfl, hA.grown.size, Bs.new w3 _ [.bool false, .slice none 0 0, .slice none 0 0] _ rfl, ⟨(noU_bool (noU_slice (noU_slice noU_nil))), noT_rat⟩, rfl⟩ hW) (Below.new_ (Below.refl _ _) _)
   ·intro a w3 hA K hK
    obtain ⟨v10, lk10, t10, p10⟩ := bg_link hA 10 10
    obtain ⟨g10, cs10, rfl, lg10, hB10, hU10, hl10⟩ := p10 w3 (Below.refl _ _)
    obtain ⟨x0, x1, x2, rfl⟩ := len3 hl10
    have f0 := hB10.frozen 0
    have c0 := hB10.cell 0 rfl
    have f1 := hB10.frozen 1
    have c1 := hB10.cell 1 rfl
    have f2 := hB10.frozen 2
    have c2 := hB10.cell 2 rfl
    obtain ⟨v56, t56, p56⟩ := bg_such hA 8 56
    obtain ⟨y56s, rfl, hy56s⟩ := p56 w3 (Below.refl _ _)
    go_simp
    exact hK (.pointer (some ⟨g10, 0, none⟩)) _ (fun W hW => ⟨g10, _, rfl, lg10, (stored3 hB10).1.below hW, (RV.at.kp hy56s (Kp.stored (B := 0) hB10 hU10.1 (stored3 hB10).2.1 (Nat.zero_le _))).below hW⟩) ⟨⟨g10, _, _, lg10, hB10, hU10, rfl, (stored3 hB10).1, ⟨(noU_bool (noU_slice (noU_slice noU_nil))), noT_rat⟩, rfl, (stored3 hB10).2.1⟩, fun j d h1 h2 => by cases h1; cases h2; exact lk10⟩
   ·intro a w3 hA K hK
    have t57 := bg_is hA 9 57
    go_simp
    exact hK _ _ Pg.fi_ (Below.refl _ _)
  rintro vs wu hV hbu hlk act hact
  repeat (replace hV := hV.is_; obtain ⟨_, rfl, hV⟩ := hV)
  replace hV := hV.such_; obtain ⟨v55, _, rfl, p55, hV⟩ := hV
  replace hV := hV.such_; obtain ⟨v48, _, rfl, p48, hV⟩ := hV
  replace hV := hV.such_; obtain ⟨v56, _, rfl, p56, hV⟩ := hV
  replace hV := hV.is_; obtain ⟨_, rfl, hV⟩ := hV
  replace hV := hV.such_; obtain ⟨v10, _, rfl, p10, hV⟩ := hV
  replace hV := hV.own_; obtain ⟨vP, _, rfl, pP, hV⟩ := hV
  replace hV := hV.is_; obtain ⟨_, rfl, hV⟩ := hV
  obtain rfl := hV.nil_
  clear hV
  replace hlk := hlk _ rfl
  simp only [List.getElem?_cons_succ, List.getElem?_cons_zero, Option.some.injEq] at hlk
  subst hlk; clear p10
  obtain ⟨y55, rfl, hy55⟩ := p55 wu (Below.refl _ _)
  clear p55
  obtain ⟨y48, rfl, hy48⟩ := p48 wu (Below.refl _ _)
  clear p48
  obtain ⟨y56, rfl, hy56⟩ := p56 wu (Below.refl _ _)
  clear p56
  obtain ⟨gFb, y56s, rfl, lgFb, hBFb, hy56s⟩ := pP wu (Below.refl _ _)
  clear pP
  simp only [putsO] at hact
  subst hact
  go_simp
  have hwu := Below.then_ hwv hbu
  have HXu := HXv.below hbu
  clear a0
  have a0 := HXu.cell 0 rfl
  rcases Y with x2 | C2
  ·skip
   have hx1 : ((errOf (Except.error x2 : Except Nat Rat) : Int) != 0) = true := bne_iff_ne.2 (Int.natCast_ne_zero.2 (HE2.out _ rfl))
   have HZe := HZv.below hbu
   have f0 := HZe.frozen 0
   have f1 := HZe.frozen 1
   have f2 := HZe.frozen 2
   have z0 := HZe.cell 0 rfl
   have z1 := HZe.cell 1 rfl
   have z2 := HZe.cell 2 rfl
   go_wp2_with fail
   refine bp_world (F := Stored wu (w.heap.size + 1 + 1) 24 [.bool false, .slice none 0 0, .slice none 0 0]) (stored3 HZe) ?_
   rintro wz ⟨HS, ks, ss⟩
   have q0 := HS.cell 0 rfl
   have q1 := HS.cell 1 rfl
   have q2 := HS.cell 2 rfl
   refine bodyPost_ret (v := .tuple #[.agg #[.bool false, .slice none 0 0, .slice none 0 0], .int .i64 (errOf (Except.error x2 : Except Nat Rat) : Int)]) (by simp [results, Tryz.results52, go_sem, q0, q1, q2]) rfl ?_
   exact ⟨⟨false, none, 0, 0, none, 0, 0⟩, rfl, rw0_at _, hwu.trans (Below.kept ks (by omega) hwu.size)⟩
  ·have hx4 : ((errOf (Except.ok C2 : Except Nat Rat) : Int) != 0) = false := rfl
   have hl1 : (rwOf C1).Le K := HL1.out _ rfl
   have hl2 : (rwOf C2).Le K := HL2.out _ rfl
   have HZu := HZv.below hbu
   have HAu := hBFa.below hbu
   have hyu : RV.at wu y37s (rwOf C1) := hy37s.below hbu
   have hyw : RV.at wu y56s (rwOf C2) := hy56s
   clear HE1 HE2 HL1 HL2
   rcases (by omega : k = 3 ∨ k = 4 ∨ k = 5 ∨ k = 6) with hq | hq | hq | hq
   ·have hq3 : ((k : Int) == 3) = true := beq_iff_eq.2 (by omega)
    have hq4 : ((k : Int) == 4) = false := beq_eq_false_iff_ne.2 (by omega)
    have hq5 : ((k : Int) == 5) = false := beq_eq_false_iff_ne.2 (by omega)
    have HXX := hid (show binN k C1 C2 = .ok (C1 + C2) by rw [hq]; rfl)
    have HJ := hid fun (W : World) {u y : RV} (hu : u.at W (rwOf C1)) (hy : y.at W (rwOf C2)) => Add_Q W hu hy hl1 hl2 (by omega) hK1 (q := C1 + C2) (by rw [rwOf_q, rwOf_q])
    have p0 := HAu.cell 0 rfl
    have p1 := HAu.cell 1 rfl
    have p2 := HAu.cell 2 rfl
    have r0 := hBFb.cell 0 rfl
    have r1 := hBFb.cell 1 rfl
    have r2 := hBFb.cell 2 rfl
    have HAv := hid hyu
    have HBv := hid hyw
    clear hy37s hy56s hyu hyw hq hl1 hl2
    go_wp2_with (go_at_call 39; (with_reducible refine (HJ.out _ HAv.out HBv.out).mono ?_); rintro e w5 ⟨y, rfl, hy, hb5⟩; have HZ5 := HZu.below hb5; have hbw := Below.then_ hwu hb5; have f0 := HZ5.frozen 0; have f1 := HZ5.frozen 1; have f2 := HZ5.frozen 2; have z0 := HZ5.cell 0 rfl; have z1 := HZ5.cell 1 rfl; have z2 := HZ5.cell 2 rfl)
    refine bp_world (F := Stored w5 (w.heap.size + 1 + 1) 24 [.bool y.s, .slice y.A y.n y.c, .slice y.A' y.n' y.c']) (stored3 HZ5) ?_
    rintro wz ⟨HS, ks, ss⟩
    have q0 := HS.cell 0 rfl
    have q1 := HS.cell 1 rfl
    have q2 := HS.cell 2 rfl
    refine bodyPost_ret (v := .tuple #[.agg #[.bool y.s, .slice y.A y.n y.c, .slice y.A' y.n' y.c'], .int .i64 0]) (by simp [results, Tryz.results52, go_sem, q0, q1, q2]) rfl ?_
    exact PNumRet.to HXX.out.symm ⟨y, rfl, hy.kp (Kp.stored (B := 0) HZ5 ratU0 ks (Nat.zero_le _)), hbw.trans (Below.kept ks (by omega) hbw.size)⟩
   ·have hq3 : ((k : Int) == 3) = false := beq_eq_false_iff_ne.2 (by omega)
    have hq4 : ((k : Int) == 4) = true := beq_iff_eq.2 (by omega)
    have hq5 : ((k : Int) == 5) = false := beq_eq_false_iff_ne.2 (by omega)
    have HXX := hid (show binN k C1 C2 = .ok (C1 - C2) by rw [hq]; rfl)
    have HJ := hid fun (W : World) {u y : RV} (hu : u.at W (rwOf C1)) (hy : y.at W (rwOf C2)) => Sub_Q W hu hy hl1 hl2 (by omega) hK1 (q := C1 - C2) (by rw [rwOf_q, rwOf_q])
    have p0 := HAu.cell 0 rfl
    have p1 := HAu.cell 1 rfl
    have p2 := HAu.cell 2 rfl
    have r0 := hBFb.cell 0 rfl
    have r1 := hBFb.cell 1 rfl
    have r2 := hBFb.cell 2 rfl
    have HAv := hid hyu
    have HBv := hid hyw
    clear hy37s hy56s hyu hyw hq hl1 hl2
    go_wp2_with (go_at_call 84; (with_reducible refine (HJ.out _ HAv.out HBv.out).mono ?_); rintro e w5 ⟨y, rfl, hy, hb5⟩; have HZ5 := HZu.below hb5; have hbw := Below.then_ hwu hb5; have f0 := HZ5.frozen 0; have f1 := HZ5.frozen 1; have f2 := HZ5.frozen 2; have z0 := HZ5.cell 0 rfl; have z1 := HZ5.cell 1 rfl; have z2 := HZ5.cell 2 rfl)
    refine bp_world (F := Stored w5 (w.heap.size + 1 + 1) 24 [.bool y.s, .slice y.A y.n y.c, .slice y.A' y.n' y.c']) (stored3 HZ5) ?_
    rintro wz ⟨HS, ks, ss⟩
    have q0 := HS.cell 0 rfl
    have q1 := HS.cell 1 rfl
    have q2 := HS.cell 2 rfl
    refine bodyPost_ret (v := .tuple #[.agg #[.bool y.s, .slice y.A y.n y.c, .slice y.A' y.n' y.c'], .int .i64 0]) (by simp [results, Tryz.results52, go_sem, q0, q1, q2]) rfl ?_
    exact PNumRet.to HXX.out.symm ⟨y, rfl, hy.kp (Kp.stored (B := 0) HZ5 ratU0 ks (Nat.zero_le _)), hbw.trans (Below.kept ks (by omega) hbw.size)⟩
   ·have hq3 : ((k : Int) == 3) = false := beq_eq_false_iff_ne.2 (by omega)
    have hq4 : ((k : Int) == 4) = false := beq_eq_false_iff_ne.2 (by omega)
    have hq5 : ((k : Int) == 5) = true := beq_iff_eq.2 (by omega)
    have HXX := hid (show binN k C1 C2 = .ok (C1 * C2) by rw [hq]; rfl)
    have HJ := hid fun (W : World) {u y : RV} (hu : u.at W (rwOf C1)) (hy : y.at W (rwOf C2)) => Mul_Q W hu hy hl1 hl2 (by omega) hK1 (q := C1 * C2) (by rw [rwOf_q, rwOf_q])
    have p0 := HAu.cell 0 rfl
    have p1 := HAu.cell 1 rfl
    have p2 := HAu.cell 2 rfl
    have r0 := hBFb.cell 0 rfl
    have r1 := hBFb.cell 1 rfl
    have r2 := hBFb.cell 2 rfl
    have HAv := hid hyu
    have HBv := hid hyw
    clear hy37s hy56s hyu hyw hq hl1 hl2
    go_wp2_with (go_at_call 44; (with_reducible refine (HJ.out _ HAv.out HBv.out).mono ?_); rintro e w5 ⟨y, rfl, hy, hb5⟩; have HZ5 := HZu.below hb5; have hbw := Below.then_ hwu hb5; have f0 := HZ5.frozen 0; have f1 := HZ5.frozen 1; have f2 := HZ5.frozen 2; have z0 := HZ5.cell 0 rfl; have z1 := HZ5.cell 1 rfl; have z2 := HZ5.cell 2 rfl)
    refine bp_world (F := Stored w5 (w.heap.size + 1 + 1) 24 [.bool y.s, .slice y.A y.n y.c, .slice y.A' y.n' y.c']) (stored3 HZ5) ?_
    rintro wz ⟨HS, ks, ss⟩
    have q0 := HS.cell 0 rfl
    have q1 := HS.cell 1 rfl
    have q2 := HS.cell 2 rfl
    refine bodyPost_ret (v := .tuple #[.agg #[.bool y.s, .slice y.A y.n y.c, .slice y.A' y.n' y.c'], .int .i64 0]) (by simp [results, Tryz.results52, go_sem, q0, q1, q2]) rfl ?_
    exact PNumRet.to HXX.out.symm ⟨y, rfl, hy.kp (Kp.stored (B := 0) HZ5 ratU0 ks (Nat.zero_le _)), hbw.trans (Below.kept ks (by omega) hbw.size)⟩
   ·have hq3 : ((k : Int) == 3) = false := beq_eq_false_iff_ne.2 (by omega)
    have hq4 : ((k : Int) == 4) = false := beq_eq_false_iff_ne.2 (by omega)
    have hq5 : ((k : Int) == 5) = false := beq_eq_false_iff_ne.2 (by omega)
    by_cases h0 : C2 = 0
    ·have HXX := hid (show binN k C1 C2 = Except.error 7 by rw [hq]; simp [binN, h0])
     have HJ := hid fun (W : World) {u y : RV} (hu : u.at W (rwOf C1)) (hy : y.at W (rwOf C2)) => Div_Q W hu hy hl1 hl2 (by omega) hK1 (q := C1 / C2) (b := false) (by rw [rwOf_q, rwOf_q]) (by rw [rwOf_q]; simp [h0])
     have p0 := HAu.cell 0 rfl
     have p1 := HAu.cell 1 rfl
     have p2 := HAu.cell 2 rfl
     have r0 := hBFb.cell 0 rfl
     have r1 := hBFb.cell 1 rfl
     have r2 := hBFb.cell 2 rfl
     have HAv := hid hyu
     have HBv := hid hyw
     clear hy37s hy56s hyu hyw hq hl1 hl2 h0
     go_wp2_with (go_at_call 85; (with_reducible refine (HJ.out _ HAv.out HBv.out).mono ?_); rintro e w5 ⟨y, rfl, hy, hb5⟩; have HZ5 := (HZu.below hb5).alloc (.cells #[.bool y.s, .slice y.A y.n y.c, .slice y.A' y.n' y.c'] 24); have HQ5 := Bs.new w5 24 [.bool y.s, .slice y.A y.n y.c, .slice y.A' y.n' y.c'] _ rfl; have h5 := Below.then_ hwu hb5; have hbw := h5.trans ((Below.new_ (Below.refl _ _) (.cells #[.bool y.s, .slice y.A y.n y.c, .slice y.A' y.n' y.c'] 24)).mono h5.size); have f0 := HZ5.frozen 0; have f1 := HZ5.frozen 1; have f2 := HZ5.frozen 2; have z0 := HZ5.cell 0 rfl; have z1 := HZ5.cell 1 rfl; have z2 := HZ5.cell 2 rfl; have s0 := HQ5.cell 0 rfl; have s1 := HQ5.cell 1 rfl; have s2 := HQ5.cell 2 rfl)
     refine bp_world (F := Stored ((w5.alloc (.cells #[.bool y.s, .slice y.A y.n y.c, .slice y.A' y.n' y.c'] 24))) (w.heap.size + 1 + 1) 24 [.bool false, .slice none 0 0, .slice none 0 0]) (stored3 HZ5) ?_
     rintro wz ⟨HS, ks, ss⟩
     have q0 := HS.cell 0 rfl
     have q1 := HS.cell 1 rfl
     have q2 := HS.cell 2 rfl
     refine bodyPost_ret (v := .tuple #[.agg #[.bool false, .slice none 0 0, .slice none 0 0], .int .i64 7]) (by simp [results, Tryz.results52, go_sem, q0, q1, q2]) rfl ?_
     exact PNumRet.to HXX.out.symm ⟨⟨false, none, 0, 0, none, 0, 0⟩, rfl, rw0_at _, hbw.trans (Below.kept ks (by omega) hbw.size)⟩
    ·have HXX := hid (show binN k C1 C2 = Except.ok (C1 / C2) by rw [hq]; simp [binN, h0])
     have HJ := hid fun (W : World) {u y : RV} (hu : u.at W (rwOf C1)) (hy : y.at W (rwOf C2)) => Div_Q W hu hy hl1 hl2 (by omega) hK1 (q := C1 / C2) (b := true) (by rw [rwOf_q, rwOf_q]) (by rw [rwOf_q]; simp [h0])
     have p0 := HAu.cell 0 rfl
     have p1 := HAu.cell 1 rfl
     have p2 := HAu.cell 2 rfl
     have r0 := hBFb.cell 0 rfl
     have r1 := hBFb.cell 1 rfl
     have r2 := hBFb.cell 2 rfl
     have HAv := hid hyu
     have HBv := hid hyw
     clear hy37s hy56s hyu hyw hq hl1 hl2 h0
     go_wp2_with (go_at_call 85; (with_reducible refine (HJ.out _ HAv.out HBv.out).mono ?_); rintro e w5 ⟨y, rfl, hy, hb5⟩; have HZ5 := (HZu.below hb5).alloc (.cells #[.bool y.s, .slice y.A y.n y.c, .slice y.A' y.n' y.c'] 24); have HQ5 := Bs.new w5 24 [.bool y.s, .slice y.A y.n y.c, .slice y.A' y.n' y.c'] _ rfl; have h5 := Below.then_ hwu hb5; have hbw := h5.trans ((Below.new_ (Below.refl _ _) (.cells #[.bool y.s, .slice y.A y.n y.c, .slice y.A' y.n' y.c'] 24)).mono h5.size); have f0 := HZ5.frozen 0; have f1 := HZ5.frozen 1; have f2 := HZ5.frozen 2; have z0 := HZ5.cell 0 rfl; have z1 := HZ5.cell 1 rfl; have z2 := HZ5.cell 2 rfl; have s0 := HQ5.cell 0 rfl; have s1 := HQ5.cell 1 rfl; have s2 := HQ5.cell 2 rfl)
     refine bp_world (F := Stored ((w5.alloc (.cells #[.bool y.s, .slice y.A y.n y.c, .slice y.A' y.n' y.c'] 24))) (w.heap.size + 1 + 1) 24 [.bool y.s, .slice y.A y.n y.c, .slice y.A' y.n' y.c']) (stored3 HZ5) ?_
     rintro wz ⟨HS, ks, ss⟩
     have q0 := HS.cell 0 rfl
     have q1 := HS.cell 1 rfl
     have q2 := HS.cell 2 rfl
     refine bodyPost_ret (v := .tuple #[.agg #[.bool y.s, .slice y.A y.n y.c, .slice y.A' y.n' y.c'], .int .i64 0]) (by simp [results, Tryz.results52, go_sem, q0, q1, q2]) rfl ?_
     exact PNumRet.to HXX.out.symm ⟨y, rfl, (hy.below (Below.new_ (Below.refl _ _) _)).kp (Kp.stored (B := 0) HZ5 ratU0 ks (Nat.zero_le _)), hbw.trans (Below.kept ks (by omega) hbw.size)⟩
theorem number_C {x : EW} {A : Option Addr} {n c : Nat} {l : List RW} (hl : ∀ r ∈ x.vals, r.Le 3) (hl' : ∀ r ∈ l, r.Le 3) : ∀ e : XE, NumAt x A n c l e := by
 intro e
 induction e with
 | num q => exact NumAt.num
 | name s => exact NumAt.name hl hl'
 | neg a ih => exact NumAt.neg hl hl' ih
 | bin k a b ih ih' => exact NumAt.bin hl hl' ih ih'
end Go.Proofs.YtahdlpkncemmaaaGreat
namespace Pg
open Go Go.RowKit
def NumX (t : PT) (v : EnvQ) (l : List Rat) (X : Except Nat Rat) : Prop := (t.is = false ∧ X = .error 5) ∨ (t.is = true ∧ ∃ e, PT.As t e ∧ X = numX v l e)
theorem numX_one (t : PT) (v : EnvQ) (l : List Rat) (h : t.wt ≤ 768) : ∃ X, NumX t v l X := by
 by_cases hi : t.is = true
 ·have ho : PT.ok 0 t = true := by rw [← PT.is_light h]; exact hi
  obtain ⟨e, he⟩ := PT.as_of_ok _ t 0 (Nat.le_refl _) ho
  exact ⟨_, .inr ⟨hi, e, he, rfl⟩⟩
 ·exact ⟨_, .inl ⟨by simpa using hi, rfl⟩⟩
theorem PT.wt_one (t : PT) : 1 ≤ t.wt := by
 cases t; unfold PT.wt; omega
end Pg
namespace Go.Proofs.YtahdlpkncemmaaaGreat
open Go.RowKit Pg
theorem Value_C {t : PT} {v : Value} {x : EW} {A : Option Addr} {n c : Nat} {l : List RW} (w : World) (hv : PT.Val w v t) (hwt : t.wt ≤ 768) (hE : EnvAt w x) (hl : ∀ r ∈ x.vals, r.Le 3) (hS : SlAt 3 RawAt w A n c l) (hl' : ∀ r ∈ l, r.Le 3) {X : Except Nat Rat} (hX : NumX t x.q (l.map RW.q) X) :
  Calls Tryz.prog 28 #[v, .agg #[.slice x.A0 x.n0 x.k0, .slice x.A1 x.n1 x.k1, .slice x.A2 x.n2 x.k2], .slice A n c] w (PNumRet w X) := by
 obtain ⟨c0, c1, c2, c3, c4, c5, rfl⟩ := hv.six
 have HI := hid fun W (hW : Below w.heap.size w W) => eIs_any W (hv.below hW) (by omega)
 rcases hX with ⟨hi, rfl⟩ | ⟨hi, e, he, rfl⟩
 ·rw [hi] at HI
  clear hv hE hS
  go_enter Tryz.func28, Tryz.ntmps28
  go_upto_region 1 with fail
  refine wp_world (F := fun W => (Bs W w.heap.size 27 [c0, c1, c2, c3, c4, c5] ∧ Bs W (w.heap.size + 1) 31 [.slice x.A0 x.n0 x.k0, .slice x.A1 x.n1 x.k1, .slice x.A2 x.n2 x.k2] ∧ Bs W (w.heap.size + 2) 24 [.bool false, .slice none 0 0, .slice none 0 0]) ∧ Below w.heap.size w W)
   ⟨⟨((Bs.new w _ _ _ rfl).alloc _).alloc _, (Bs.new _ _ _ _ (by simp)).alloc _, Bs.new _ _ _ _ (by simp)⟩, Pg.bel⟩ ?_
  rintro w1 ⟨⟨HX, HV, HZ⟩, hb1⟩
  have a0 := HX.cell 0 rfl
  have a1 := HX.cell 1 rfl
  have a2 := HX.cell 2 rfl
  have a3 := HX.cell 3 rfl
  have a4 := HX.cell 4 rfl
  have a5 := HX.cell 5 rfl
  go_wp2_with (go_at_call 33; (with_reducible refine (HI.out _ hb1).mono ?_); rintro e w5 ⟨rfl, hb5⟩; have HZ5 := HZ.below hb5; have hbw := Below.then_ hb1 hb5; have HX5 := HX.below hb5; have HV5 := HV.below hb5; clear a0 a1 a2 a3 a4 a5; have f0 := HZ5.frozen 0; have f1 := HZ5.frozen 1; have f2 := HZ5.frozen 2; have z0 := HZ5.cell 0 rfl; have z1 := HZ5.cell 1 rfl; have z2 := HZ5.cell 2 rfl; have a0 := HX5.cell 0 rfl; have a1 := HX5.cell 1 rfl; have a2 := HX5.cell 2 rfl; have a3 := HX5.cell 3 rfl; have a4 := HX5.cell 4 rfl; have a5 := HX5.cell 5 rfl; have b0 := HV5.cell 0 rfl; have b1 := HV5.cell 1 rfl; have b2 := HV5.cell 2 rfl)
  refine bp_world (F := Stored w5 (w.heap.size + 1 + 1) 24 [.bool false, .slice none 0 0, .slice none 0 0]) (stored3 HZ5) ?_
  rintro wz ⟨HS, ks, ss⟩
  have q0 := HS.cell 0 rfl
  have q1 := HS.cell 1 rfl
  have q2 := HS.cell 2 rfl
  refine bodyPost_ret (v := .tuple #[.agg #[.bool false, .slice none 0 0, .slice none 0 0], .int .i64 5]) (by simp [results, Tryz.results28, go_sem, q0, q1, q2]) rfl ?_
  exact ⟨⟨false, none, 0, 0, none, 0, 0⟩, rfl, rw0_at _, hbw.trans (Below.kept ks (by omega) hbw.size)⟩
 ·rw [hi] at HI
  have HS := hid fun W (hW : Below w.heap.size w W) => number_C hl hl' e t.wt W _ (XE.Val.below hW e _ (he.val _ hv (by omega))) (PT.As.sz he _ hv) (by omega) t.wt_one (hE.below hW) (hS.below rawAt_stays hW)
  obtain ⟨X, hX⟩ : ∃ X, numX x.q (l.map RW.q) e = X := ⟨_, rfl⟩
  rw [hX] at HS ⊢
  clear hv hE hX he hi hS
  go_enter Tryz.func28, Tryz.ntmps28
  go_upto_region 1 with fail
  refine wp_world (F := fun W => (Bs W w.heap.size 27 [c0, c1, c2, c3, c4, c5] ∧ Bs W (w.heap.size + 1) 31 [.slice x.A0 x.n0 x.k0, .slice x.A1 x.n1 x.k1, .slice x.A2 x.n2 x.k2] ∧ Bs W (w.heap.size + 2) 24 [.bool false, .slice none 0 0, .slice none 0 0]) ∧ Below w.heap.size w W)
   ⟨⟨((Bs.new w _ _ _ rfl).alloc _).alloc _, (Bs.new _ _ _ _ (by simp)).alloc _, Bs.new _ _ _ _ (by simp)⟩, Pg.bel⟩ ?_
  rintro w1 ⟨⟨HX, HV, HZ⟩, hb1⟩
  have a0 := HX.cell 0 rfl
  have a1 := HX.cell 1 rfl
  have a2 := HX.cell 2 rfl
  have a3 := HX.cell 3 rfl
  have a4 := HX.cell 4 rfl
  have a5 := HX.cell 5 rfl
  go_wp2_with (first | (go_at_call 33; (with_reducible refine (HI.out _ hb1).mono ?_); rintro e w5 ⟨rfl, hb5⟩; have HZ5 := HZ.below hb5; have hbw := Below.then_ hb1 hb5; have HX5 := HX.below hb5; have HV5 := HV.below hb5; clear a0 a1 a2 a3 a4 a5; have f0 := HZ5.frozen 0; have f1 := HZ5.frozen 1; have f2 := HZ5.frozen 2; have z0 := HZ5.cell 0 rfl; have z1 := HZ5.cell 1 rfl; have z2 := HZ5.cell 2 rfl; have a0 := HX5.cell 0 rfl; have a1 := HX5.cell 1 rfl; have a2 := HX5.cell 2 rfl; have a3 := HX5.cell 3 rfl; have a4 := HX5.cell 4 rfl; have a5 := HX5.cell 5 rfl; have b0 := HV5.cell 0 rfl; have b1 := HV5.cell 1 rfl; have b2 := HV5.cell 2 rfl) | (go_at_call 52; (with_reducible refine (HS.out _ hbw).mono ?_); rintro e w6 ⟨y6, rfl, hy6, hb6⟩; have HZ6 := HZ5.below hb6; have hbz := Below.then_ hbw hb6; clear f0 f1 f2 z0 z1 z2; have f0 := HZ6.frozen 0; have f1 := HZ6.frozen 1; have f2 := HZ6.frozen 2; have z0 := HZ6.cell 0 rfl; have z1 := HZ6.cell 1 rfl; have z2 := HZ6.cell 2 rfl))
  refine bp_world (F := Stored w6 (w.heap.size + 1 + 1) 24 [.bool y6.s, .slice y6.A y6.n y6.c, .slice y6.A' y6.n' y6.c']) (stored3 HZ6) ?_
  rintro wz ⟨HS, ks, ss⟩
  have q0 := HS.cell 0 rfl
  have q1 := HS.cell 1 rfl
  have q2 := HS.cell 2 rfl
  refine bodyPost_ret (v := .tuple #[.agg #[.bool y6.s, .slice y6.A y6.n y6.c, .slice y6.A' y6.n' y6.c'], .int .i64 (errOf X : Int)]) (by simp [results, Tryz.results28, go_sem, q0, q1, q2]) rfl ?_
  exact ⟨y6, rfl, hy6.kp (Kp.stored (B := 0) HZ6 ratU0 ks (Nat.zero_le _)), hbz.trans (Below.kept ks (by omega) hbz.size)⟩
end Go.Proofs.YtahdlpkncemmaaaGreat
namespace Go.Proofs.YtahdlpkncemmaaaGreat
open Go.RowKit Pg
theorem rname_C {x : EW} {k : Nat} (w : World) (s : List UInt8) (hE : EnvAt w x) (hl : ∀ r ∈ x.vals, r.Le k) (hk : k ≤ 262144) (hk1 : 1 ≤ k) :
  Calls Tryz.prog 60 #[.string (str s), .agg #[.slice x.A0 x.n0 x.k0, .slice x.A1 x.n1 x.k1, .slice x.A2 x.n2 x.k2]] w (SumRet w (nameC s x.q)) := by
 obtain ⟨A0, A1, A2, n0, k0, n1, k1, n2, k2, vars, names, vals⟩ := x
 obtain ⟨h0, h1, h2⟩ := hE
 simp only at h0 h1 h2 hl ⊢
 have H0 := hid h0
 have H1 := hid h1
 have H2 := hid h2
 have HL := hid hl
 have hn0 := h0.2.2.1
 have hn1 := h1.2.2.1
 have hn2 := h2.2.2.1
 obtain ⟨X, hX⟩ : ∃ X, nameC s (EW.q ⟨A0, A1, A2, n0, k0, n1, k1, n2, k2, vars, names, vals⟩) = X := ⟨_, rfl⟩
 rw [hX]
 have HN := hid hX
 clear h0 h1 h2 hl hX
 go_enter Tryz.func60, Tryz.ntmps60
 go_upto_region 1 with fail
 refine wp_world (F := fun W => (Bs W w.heap.size 42 [.slice A0 n0 k0, .slice A1 n1 k1, .slice A2 n2 k2] ∧ Bs W (w.heap.size + 1) 36 [.int .i64 0, .slice none 0 0, .bool false, .slice none 0 0, .slice none 0 0]) ∧ Below w.heap.size w W)
  ⟨⟨(Bs.new w _ _ _ rfl).alloc _, Bs.new _ _ _ _ (by simp)⟩, Pg.bel⟩ ?_
 rintro w1 ⟨⟨HX, HZ⟩, hb1⟩
 go_wp2_with fail
 go_loopw [6] (fun i wr => ∃ j : Nat, j ≤ n0 ∧ i = .int .i64 (j : Int) ∧ Hid (∀ i, i < j → vars[i]? ≠ some s) ∧ Hid (Bs wr w.heap.size 42 [.slice A0 n0 k0, .slice A1 n1 k1, .slice A2 n2 k2]) ∧ Hid (Bs wr (w.heap.size + 1) 36 [.int .i64 0, .slice none 0 0, .bool false, .slice none 0 0, .slice none 0 0]) ∧ Below w.heap.size w wr) (fun i _ => n0 - (intOf i).toNat)
 case atStart => exact ⟨0, Nat.zero_le _, rfl, hid (fun i hi => absurd hi (by omega)), hid HX, hid HZ, hb1⟩
 case round =>
  obtain ⟨j, hj, rfl, HNo, HX, HZ, hb⟩ := hrel
  have c0 := HX.out.cell 0 rfl
  by_cases hlt : j < n0
  ·
   obtain ⟨e1, _, _, _, _, e6⟩ := H0.out
   obtain ⟨b', o', hA', hbl, hx'⟩ := e6 (by omega)
   obtain ⟨t, ht⟩ : ∃ t, vars[j]? = some t := ⟨vars[j]'(by omega), List.getElem?_eq_getElem _⟩
   obtain ⟨hca, _⟩ := nameAt_stays _ _ _ _ _ hbl (hx' j t ht) hb
   have c9 : wr.cell? ⟨b', o' + j, none⟩ = some (.string (str t)) := by have := hca.at_ 0 (v := .string (str t)) rfl; rwa [Nat.mul_one] at this
   have HT := hid ht
   clear e1 e6 hx' ht hca
   subst hA'
   by_cases hs : t = s
   ·subst hs
    have hN : X = .ok ⟨0, [⟨j, 1⟩], 0⟩ := by rw [← HN.out]; unfold nameC EW.q; simp only; rw [idx_some HT.out HNo.out]
    subst hN
    have hbd : (j : Int) ≤ 140737488355328 := by omega
    go_wp2_with (first
     | (go_at_call 36; (with_reducible refine (r2Int_Q 1 _ (by omega) (by omega) rfl).mono ?_); rintro e w3 ⟨y, rfl, hy, hb3⟩)
     | (go_at_call 36; (with_reducible refine (r2Int_Q 0 _ (by omega) (by omega) rfl).mono ?_); rintro e w5 ⟨y', rfl, hy', hb5⟩; have HZ5 := ((HZ.out.below hb3).alloc (.cells #[.int .i64 (j : Int), .bool y.s, .slice y.A y.n y.c, .slice y.A' y.n' y.c'] 65)).below hb5; have HT5 := (Bs.new w3 65 [.int .i64 (j : Int), .bool y.s, .slice y.A y.n y.c, .slice y.A' y.n' y.c'] _ rfl).below hb5; have hyT := (hy.below (Below.new_ (Below.refl _ _) (.cells #[.int .i64 (j : Int), .bool y.s, .slice y.A y.n y.c, .slice y.A' y.n' y.c'] 65))).below hb5; have hbw : Below wr.heap.size wr w5 := Pg.bel; have f0 := HZ5.frozen 0; have f1 := HZ5.frozen 1; have f2 := HZ5.frozen 2; have f3 := HZ5.frozen 3; have f4 := HZ5.frozen 4; have z0 := HZ5.cell 0 rfl; have z1 := HZ5.cell 1 rfl; have z2 := HZ5.cell 2 rfl; have z3 := HZ5.cell 3 rfl; have z4 := HZ5.cell 4 rfl))
    refine bp_world (F := Stored w5 (w.heap.size + 1) 36 [.int .i64 0, .slice (some ⟨w3.heap.size, 0, none⟩) 1 1, .bool y'.s, .slice y'.A y'.n y'.c, .slice y'.A' y'.n' y'.c']) (stored5 HZ5) ?_
    rintro wz ⟨HS, ks, ss⟩
    have q0 := HS.cell 0 rfl
    have q1 := HS.cell 1 rfl
    have q2 := HS.cell 2 rfl
    have q3 := HS.cell 3 rfl
    have q4 := HS.cell 4 rfl
    refine bodyPost_ret (v := .tuple #[.agg #[.int .i64 0, .slice (some ⟨w3.heap.size, 0, none⟩) 1 1, .bool y'.s, .slice y'.A y'.n y'.c, .slice y'.A' y'.n' y'.c'], .int .i64 0]) (by simp [results, Tryz.results60, go_sem, q0, q1, q2, q3, q4]) rfl ?_
    have kz : Kp w.heap.size w5 wz := Kp.stored HZ5 conU0 ks (by omega)
    have hne : some w3.heap.size ≠ some (w.heap.size + 1) := by have := HZ.out.lt; have := hb3.size; intro e; injection e with e; omega
    exact ⟨_, rfl, one_term (HT5.grown ks hne) (hyT.kp kz) (hy'.kp kz), (Below.then_ hb hbw).trans kz.below⟩
   ·have h1 := str_beq hs
    have HD := hid hs
    clear hs
    go_wp2_with fail
    refine ⟨⟨j + 1, hlt, by go_num, hid (fun i hi => ?_), HX, HZ, hb⟩, ?_⟩
    ·rcases Nat.lt_or_ge i j with h | h
     ·exact HNo.out i h
     ·obtain rfl : i = j := by omega
      rw [HT.out]
      exact fun e => HD.out (by injection e)
    ·simp [intOf]; omega
  ·have hv0 : idx vars s = none := idx_end (fun i hi => HNo.out i (by have := H0.out.1; omega))
   have Hv0 := hid hv0
   have hjn : (j : Int) = (n0 : Int) := by omega
   have hjd : decide ((j : Int) < (n0 : Int)) = false := decide_eq_false (by omega)
   clear hv0 HNo hjn
   go_wp2_with fail
   go_loopw [7] (fun i wr => ∃ j : Nat, j ≤ n1 ∧ i = .int .i64 (j : Int) ∧ Hid (∀ i, i < j → names[i]? ≠ some s) ∧ Hid (Bs wr w.heap.size 42 [.slice A0 n0 k0, .slice A1 n1 k1, .slice A2 n2 k2]) ∧ Hid (Bs wr (w.heap.size + 1) 36 [.int .i64 0, .slice none 0 0, .bool false, .slice none 0 0, .slice none 0 0]) ∧ Below w.heap.size w wr) (fun i _ => n1 - (intOf i).toNat)
   case atStart => exact ⟨0, Nat.zero_le _, rfl, hid (fun i hi => absurd hi (by omega)), HX, HZ, hb⟩
   case round =>
    clear c0 hlt hjd hj
    obtain ⟨j, hj, rfl, HNo, HX, HZ, hb⟩ := hrel
    have c1 := HX.out.cell 1 rfl
    have c2 := HX.out.cell 2 rfl
    by_cases hlt : j < n1
    ·
     obtain ⟨e1, _, _, _, _, e6⟩ := H1.out
     obtain ⟨b', o', hA', hbl, hx'⟩ := e6 (by omega)
     obtain ⟨t, ht⟩ : ∃ t, names[j]? = some t := ⟨names[j]'(by omega), List.getElem?_eq_getElem _⟩
     obtain ⟨hca, _⟩ := nameAt_stays _ _ _ _ _ hbl (hx' j t ht) hb
     have c9 : wr.cell? ⟨b', o' + j, none⟩ = some (.string (str t)) := by have := hca.at_ 0 (v := .string (str t)) rfl; rwa [Nat.mul_one] at this
     have HT := hid ht
     clear e1 e6 hx' ht hca
     subst hA'
     by_cases hs : t = s
     ·subst hs
      have hj0 : (0 : Int) ≤ (j : Int) := Int.natCast_nonneg _
      have hix := idx_some HT.out HNo.out
      by_cases hv : j < n2
      ·obtain ⟨f1, _, _, _, _, f6⟩ := H2.out
       obtain ⟨b2, o2, rfl, hb2l, hx2⟩ := f6 (by omega)
       obtain ⟨r, hr⟩ : ∃ r, vals[j]? = some r := ⟨vals[j]'(by omega), List.getElem?_eq_getElem _⟩
       have hN : X = .ok ⟨0, [], r.q⟩ := by
        rw [← HN.out]; unfold nameC EW.q; simp only; rw [Hv0.out]; simp only; rw [hix]; simp only
        rw [List.getD_eq_getElem?_getD, List.getElem?_map, hr]; rfl
       subst hN
       obtain ⟨w0, w1', w2', hcv, hrv0⟩ := rawAt_stays _ _ _ _ _ hb2l (hx2 j r hr) hb
       obtain ⟨z, rfl, rfl, rfl, hrv⟩ := rows_rv hrv0
       have hrl := HL.out r (List.mem_of_getElem? hr)
       have HNm := hid fun W (hW : Below wr.heap.size wr W) => r2Norm_Q W (hrv.below hW) hrl hk hk1
       have d0 : wr.cell? ⟨b2, o2 + j * 3, none⟩ = some (.bool z.s) := hcv.at_ 0 rfl
       have d1 := hcv.at_ 1 rfl
       have d2 := hcv.at_ 2 rfl
       clear f1 f6 hx2 hr hcv hrv0 hrv hix
       go_wp2_with (go_at_call 46; (with_reducible refine (HNm.out _ (Below.refl _ _)).mono ?_); rintro e w5 ⟨y', rfl, hy', hb5⟩; have HZ5 := HZ.out.below hb5; have f0 := HZ5.frozen 0; have f1 := HZ5.frozen 1; have f2 := HZ5.frozen 2; have f3 := HZ5.frozen 3; have f4 := HZ5.frozen 4; have z0 := HZ5.cell 0 rfl; have z1 := HZ5.cell 1 rfl; have z2 := HZ5.cell 2 rfl; have z3 := HZ5.cell 3 rfl; have z4 := HZ5.cell 4 rfl)
       refine bp_world (F := Stored w5 (w.heap.size + 1) 36 [.int .i64 0, .slice none 0 0, .bool y'.s, .slice y'.A y'.n y'.c, .slice y'.A' y'.n' y'.c']) (stored5 HZ5) ?_
       rintro wz ⟨HS, ks, ss⟩
       have q0 := HS.cell 0 rfl
       have q1 := HS.cell 1 rfl
       have q2 := HS.cell 2 rfl
       have q3 := HS.cell 3 rfl
       have q4 := HS.cell 4 rfl
       refine bodyPost_ret (v := .tuple #[.agg #[.int .i64 0, .slice none 0 0, .bool y'.s, .slice y'.A y'.n y'.c, .slice y'.A' y'.n' y'.c'], .int .i64 0]) (by simp [results, Tryz.results60, go_sem, q0, q1, q2, q3, q4]) rfl ?_
       have kz : Kp w.heap.size w5 wz := Kp.stored HZ5 conU0 ks (by omega)
       exact ⟨_, rfl, no_term (hy'.kp kz), (Below.then_ hb hb5).trans kz.below⟩
      ·have hN : X = .ok ⟨0, [], 0⟩ := by
        rw [← HN.out]; unfold nameC EW.q; simp only; rw [Hv0.out]; simp only; rw [hix]; simp only
        rw [List.getD_eq_getElem?_getD, List.getElem?_eq_none (by rw [List.length_map, H2.out.1]; omega)]; rfl
       subst hN
       clear hix
       go_wp2_with (go_at_call 36; (with_reducible refine (r2Int_Q 0 _ (by omega) (by omega) rfl).mono ?_); rintro e w5 ⟨y', rfl, hy', hb5⟩; have HZ5 := HZ.out.below hb5; have f0 := HZ5.frozen 0; have f1 := HZ5.frozen 1; have f2 := HZ5.frozen 2; have f3 := HZ5.frozen 3; have f4 := HZ5.frozen 4; have z0 := HZ5.cell 0 rfl; have z1 := HZ5.cell 1 rfl; have z2 := HZ5.cell 2 rfl; have z3 := HZ5.cell 3 rfl; have z4 := HZ5.cell 4 rfl)
       refine bp_world (F := Stored w5 (w.heap.size + 1) 36 [.int .i64 0, .slice none 0 0, .bool y'.s, .slice y'.A y'.n y'.c, .slice y'.A' y'.n' y'.c']) (stored5 HZ5) ?_
       rintro wz ⟨HS, ks, ss⟩
       have q0 := HS.cell 0 rfl
       have q1 := HS.cell 1 rfl
       have q2 := HS.cell 2 rfl
       have q3 := HS.cell 3 rfl
       have q4 := HS.cell 4 rfl
       refine bodyPost_ret (v := .tuple #[.agg #[.int .i64 0, .slice none 0 0, .bool y'.s, .slice y'.A y'.n y'.c, .slice y'.A' y'.n' y'.c'], .int .i64 0]) (by simp [results, Tryz.results60, go_sem, q0, q1, q2, q3, q4]) rfl ?_
       have kz : Kp w.heap.size w5 wz := Kp.stored HZ5 conU0 ks (by omega)
       exact ⟨_, rfl, no_term (hy'.kp kz), (Below.then_ hb hb5).trans kz.below⟩
     ·have h1 := str_beq hs
      have HD := hid hs
      clear hs
      go_wp2_with fail
      refine ⟨⟨j + 1, hlt, by go_num, hid (fun i hi => ?_), HX, HZ, hb⟩, ?_⟩
      ·rcases Nat.lt_or_ge i j with h | h
       ·exact HNo.out i h
       ·obtain rfl : i = j := by omega
        rw [HT.out]
        exact fun e => HD.out (by injection e)
      ·simp [intOf]; omega
    ·have hv1 : idx names s = none := idx_end (fun i hi => HNo.out i (by have := H1.out.1; omega))
     have hN : X = .error 5 := by rw [← HN.out]; unfold nameC EW.q; simp only; rw [Hv0.out]; simp only; rw [hv1]
     subst hN
     have hjd : decide ((j : Int) < (n1 : Int)) = false := decide_eq_false (by omega)
     clear hv1 HNo
     have z0 := HZ.out.cell 0 rfl
     have z1 := HZ.out.cell 1 rfl
     have z2 := HZ.out.cell 2 rfl
     have z3 := HZ.out.cell 3 rfl
     have z4 := HZ.out.cell 4 rfl
     have f0 := HZ.out.frozen 0
     have f1 := HZ.out.frozen 1
     have f2 := HZ.out.frozen 2
     have f3 := HZ.out.frozen 3
     have f4 := HZ.out.frozen 4
     go_wp2_with fail
     refine bp_world (F := Stored wr (w.heap.size + 1) 36 [.int .i64 0, .slice none 0 0, .bool false, .slice none 0 0, .slice none 0 0]) (stored5 HZ.out) ?_
     rintro wz ⟨HS, ks, ss⟩
     have q0 := HS.cell 0 rfl
     have q1 := HS.cell 1 rfl
     have q2 := HS.cell 2 rfl
     have q3 := HS.cell 3 rfl
     have q4 := HS.cell 4 rfl
     refine bodyPost_ret (v := .tuple #[.agg #[.int .i64 0, .slice none 0 0, .bool false, .slice none 0 0, .slice none 0 0], .int .i64 5]) (by simp [results, Tryz.results60, go_sem, q0, q1, q2, q3, q4]) rfl ?_
     exact ⟨_, rfl, cw0_val _, hb.trans (Below.kept ks (by omega) hb.size)⟩
end Go.Proofs.YtahdlpkncemmaaaGreat
namespace Go.Proofs.YtahdlpkncemmaaaGreat
open Go.RowKit Pg
theorem mul_C {va vb : Value} {a b : CQ} {K : Nat} (w : World) (ha : ConVal w va (cwOf a)) (hb : ConVal w vb (cwOf b)) (hla : (cwOf a).Le K) (hlb : (cwOf b).Le K) (hK : K ≤ 20000) (hK1 : 1 ≤ K) (hta : a.t.length ≤ 1000) (htb : b.t.length ≤ 1000) :
  Calls Tryz.prog 61 #[va, vb] w (SumRet w (binC 5 a b)) := by
 obtain ⟨T, n, m, x, rfl, hca⟩ := ha.cv
 obtain ⟨T', n', m', x', rfl, hcb⟩ := hb.cv
 have hn : n = a.t.length := by rw [← hca.1.1]; exact cwOf_len a
 have hn' : n' = b.t.length := by rw [← hcb.1.1]; exact cwOf_len b
 have sa := cw_short ha hla
 have sb := cw_short hb hlb
 have HSA := hid fun W (hW : Below w.heap.size w W) (y : RV) (q : Rat) (hq : (rwOf q).Le K) (hy : y.at W (rwOf q)) => rScale_C W (ha.below hW) hy hla hq (by omega) hK1 (by rw [cwOf_len]; omega)
 have HSB := hid fun W (hW : Below w.heap.size w W) (y : RV) (q : Rat) (hq : (rwOf q).Le K) (hy : y.at W (rwOf q)) => rScale_C W (hb.below hW) hy hlb hq (by omega) hK1 (by rw [cwOf_len]; omega)
 simp only [cwOf_q, rwOf_q] at HSA HSB
 have HCA := hid hca
 have HCB := hid hcb
 have hna : (n : Int) ≤ 1000 := by omega
 have hnb : (n' : Int) ≤ 1000 := by omega
 by_cases h1 : a.t ≠ []
 ·by_cases h2 : b.t ≠ []
  ·have hE : binC 5 a b = .error 6 := by unfold binC; rw [if_neg (by decide), if_neg (by decide), if_pos rfl, if_pos ⟨h1, h2⟩]
   rw [hE]
   have hp1 : 0 < n := by rw [hn]; exact not_nil_len.1 h1
   have hp2 : 0 < n' := by rw [hn']; exact not_nil_len.1 h2
   clear hE h1 h2 HSA HSB ha hb hca hcb hn hn' sa sb
   have dn : decide ((0 : Int) < (n : Int)) = true := decide_eq_true (by omega)
   have dn' : decide ((0 : Int) < (n' : Int)) = true := decide_eq_true (by omega)
   go_enter Tryz.func61, Tryz.ntmps61
   go_upto_region 1 with fail
   refine wp_world (F := fun W => (Bs W w.heap.size 36 [.int .i64 (cwOf a).s, .slice T n m, .bool x.s, .slice x.A x.n x.c, .slice x.A' x.n' x.c'] ∧ Bs W (w.heap.size + 1) 36 [.int .i64 (cwOf b).s, .slice T' n' m', .bool x'.s, .slice x'.A x'.n x'.c, .slice x'.A' x'.n' x'.c'] ∧ Bs W (w.heap.size + 2) 36 [.int .i64 0, .slice none 0 0, .bool false, .slice none 0 0, .slice none 0 0]) ∧ Below w.heap.size w W)
    ⟨⟨((Bs.new w _ _ _ rfl).alloc _).alloc _, (Bs.new _ _ _ _ (by simp)).alloc _, Bs.new _ _ _ _ (by simp)⟩, Pg.bel⟩ ?_
   rintro w1 ⟨⟨HA, HB, HZ⟩, hb1⟩
   have a0 := HA.cell 0 rfl
   have a1 := HA.cell 1 rfl
   have a2 := HA.cell 2 rfl
   have a3 := HA.cell 3 rfl
   have a4 := HA.cell 4 rfl
   have b0 := HB.cell 0 rfl
   have b1 := HB.cell 1 rfl
   have b2 := HB.cell 2 rfl
   have b3 := HB.cell 3 rfl
   have b4 := HB.cell 4 rfl
   have z0 := HZ.cell 0 rfl
   have z1 := HZ.cell 1 rfl
   have z2 := HZ.cell 2 rfl
   have z3 := HZ.cell 3 rfl
   have z4 := HZ.cell 4 rfl
   have f0 := HZ.frozen 0
   have f1 := HZ.frozen 1
   have f2 := HZ.frozen 2
   have f3 := HZ.frozen 3
   have f4 := HZ.frozen 4
   go_wp2_with fail
   refine bp_world (F := Stored w1 (w.heap.size + 1 + 1) 36 [.int .i64 0, .slice none 0 0, .bool false, .slice none 0 0, .slice none 0 0]) (stored5 HZ) ?_
   rintro wz ⟨HS, ks, ss⟩
   have q0 := HS.cell 0 rfl
   have q1 := HS.cell 1 rfl
   have q2 := HS.cell 2 rfl
   have q3 := HS.cell 3 rfl
   have q4 := HS.cell 4 rfl
   refine bodyPost_ret (v := .tuple #[.agg #[.int .i64 0, .slice none 0 0, .bool false, .slice none 0 0, .slice none 0 0], .int .i64 6]) (by simp [results, Tryz.results61, go_sem, q0, q1, q2, q3, q4]) rfl ?_
   exact ⟨_, rfl, cw0_val _, hb1.trans (Below.kept ks (by omega) hb1.size)⟩
  ·have hE : binC 5 a b = .ok (scaleC a b.k) := by unfold binC; rw [if_neg (by decide), if_neg (by decide), if_pos rfl, if_neg (fun h => h2 h.2), if_pos h1]
   have hC : cwOf (scaleC a b.k) = conOf (binC 5 a b) := by rw [hE]; rfl
   rw [hE] at hC ⊢
   have HS3 := hid fun W (hW : Below w.heap.size w W) => HSA.out W hW x' b.k hlb.2 (HCB.out.2.below hW)
   obtain ⟨c, hc⟩ : ∃ c, cwOf (scaleC a b.k) = c := ⟨_, rfl⟩
   rw [hc] at HS3 hC
   have HC := hid hC
   have hp1 : 0 < n := by rw [hn]; exact not_nil_len.1 h1
   have hp2 : n' = 0 := by rw [hn']; exact List.length_eq_zero_iff.2 (Classical.not_not.1 h2)
   have dn' : decide ((0 : Int) < (n' : Int)) = false := decide_eq_false (by omega)
   have dn2 : ¬ 0 < n' := by omega
   replace hp2 := Nat.le_of_eq hp2
   clear hC hE hc h1 h2 HSA HSB ha hb hca hcb hn hn' sa sb
   have dn : decide ((0 : Int) < (n : Int)) = true := decide_eq_true (by omega)
   go_enter Tryz.func61, Tryz.ntmps61
   go_upto_region 1 with fail
   refine wp_world (F := fun W => (Bs W w.heap.size 36 [.int .i64 (cwOf a).s, .slice T n m, .bool x.s, .slice x.A x.n x.c, .slice x.A' x.n' x.c'] ∧ Bs W (w.heap.size + 1) 36 [.int .i64 (cwOf b).s, .slice T' n' m', .bool x'.s, .slice x'.A x'.n x'.c, .slice x'.A' x'.n' x'.c'] ∧ Bs W (w.heap.size + 2) 36 [.int .i64 0, .slice none 0 0, .bool false, .slice none 0 0, .slice none 0 0]) ∧ Below w.heap.size w W)
    ⟨⟨((Bs.new w _ _ _ rfl).alloc _).alloc _, (Bs.new _ _ _ _ (by simp)).alloc _, Bs.new _ _ _ _ (by simp)⟩, Pg.bel⟩ ?_
   rintro w1 ⟨⟨HA, HB, HZ⟩, hb1⟩
   have a0 := HA.cell 0 rfl
   have a1 := HA.cell 1 rfl
   have a2 := HA.cell 2 rfl
   have a3 := HA.cell 3 rfl
   have a4 := HA.cell 4 rfl
   have b0 := HB.cell 0 rfl
   have b1 := HB.cell 1 rfl
   have b2 := HB.cell 2 rfl
   have b3 := HB.cell 3 rfl
   have b4 := HB.cell 4 rfl
   go_wp2_with (go_at_call 23; (with_reducible refine (HS3.out _ hb1).mono ?_); rintro e w5 ⟨v5, rfl, hv5, hb5⟩; obtain ⟨T5, n5, m5, y5, rfl, hc5⟩ := hv5.cv; have HZ5 := HZ.below hb5; have hbw := Below.then_ hb1 hb5; have f0 := HZ5.frozen 0; have f1 := HZ5.frozen 1; have f2 := HZ5.frozen 2; have f3 := HZ5.frozen 3; have f4 := HZ5.frozen 4; have z0 := HZ5.cell 0 rfl; have z1 := HZ5.cell 1 rfl; have z2 := HZ5.cell 2 rfl; have z3 := HZ5.cell 3 rfl; have z4 := HZ5.cell 4 rfl)
   refine bp_world (F := Stored w5 (w.heap.size + 1 + 1) 36 [.int .i64 c.s, .slice T5 n5 m5, .bool y5.s, .slice y5.A y5.n y5.c, .slice y5.A' y5.n' y5.c']) (stored5 HZ5) ?_
   rintro wz ⟨HS, ks, ss⟩
   have q0 := HS.cell 0 rfl
   have q1 := HS.cell 1 rfl
   have q2 := HS.cell 2 rfl
   have q3 := HS.cell 3 rfl
   have q4 := HS.cell 4 rfl
   refine bodyPost_ret (v := .tuple #[.agg #[.int .i64 c.s, .slice T5 n5 m5, .bool y5.s, .slice y5.A y5.n y5.c, .slice y5.A' y5.n' y5.c'], .int .i64 0]) (by simp [results, Tryz.results61, go_sem, q0, q1, q2, q3, q4]) rfl ?_
   exact ⟨_, rfl, by rw [← HC.out]; exact (hc5.kept HZ5 conU0 noT_con ks).val, hbw.trans (Below.kept ks (by omega) hbw.size)⟩
 ·have hE : binC 5 a b = .ok (scaleC b a.k) := by unfold binC; rw [if_neg (by decide), if_neg (by decide), if_pos rfl, if_neg (fun h => h1 h.1), if_neg h1]
  have hC : cwOf (scaleC b a.k) = conOf (binC 5 a b) := by rw [hE]; rfl
  rw [hE] at hC ⊢
  have HS3 := hid fun W (hW : Below w.heap.size w W) => HSB.out W hW x a.k hla.2 (HCA.out.2.below hW)
  obtain ⟨c, hc⟩ : ∃ c, cwOf (scaleC b a.k) = c := ⟨_, rfl⟩
  rw [hc] at HS3 hC
  have HC := hid hC
  have hp1 : n = 0 := by rw [hn]; exact List.length_eq_zero_iff.2 (Classical.not_not.1 h1)
  have dn : decide ((0 : Int) < (n : Int)) = false := decide_eq_false (by omega)
  have dn2 : ¬ 0 < n := by omega
  replace hp1 := Nat.le_of_eq hp1
  clear hC hE hc h1 HSA HSB ha hb hca hcb hn hn' sa sb
  go_enter Tryz.func61, Tryz.ntmps61
  go_upto_region 1 with fail
  refine wp_world (F := fun W => (Bs W w.heap.size 36 [.int .i64 (cwOf a).s, .slice T n m, .bool x.s, .slice x.A x.n x.c, .slice x.A' x.n' x.c'] ∧ Bs W (w.heap.size + 1) 36 [.int .i64 (cwOf b).s, .slice T' n' m', .bool x'.s, .slice x'.A x'.n x'.c, .slice x'.A' x'.n' x'.c'] ∧ Bs W (w.heap.size + 2) 36 [.int .i64 0, .slice none 0 0, .bool false, .slice none 0 0, .slice none 0 0]) ∧ Below w.heap.size w W)
   ⟨⟨((Bs.new w _ _ _ rfl).alloc _).alloc _, (Bs.new _ _ _ _ (by simp)).alloc _, Bs.new _ _ _ _ (by simp)⟩, Pg.bel⟩ ?_
  rintro w1 ⟨⟨HA, HB, HZ⟩, hb1⟩
  have a0 := HA.cell 0 rfl
  have a1 := HA.cell 1 rfl
  have a2 := HA.cell 2 rfl
  have a3 := HA.cell 3 rfl
  have a4 := HA.cell 4 rfl
  have b0 := HB.cell 0 rfl
  have b1 := HB.cell 1 rfl
  have b2 := HB.cell 2 rfl
  have b3 := HB.cell 3 rfl
  have b4 := HB.cell 4 rfl
  go_wp2_with (go_at_call 23; (with_reducible refine (HS3.out _ hb1).mono ?_); rintro e w5 ⟨v5, rfl, hv5, hb5⟩; obtain ⟨T5, n5, m5, y5, rfl, hc5⟩ := hv5.cv; have HZ5 := HZ.below hb5; have hbw := Below.then_ hb1 hb5; have f0 := HZ5.frozen 0; have f1 := HZ5.frozen 1; have f2 := HZ5.frozen 2; have f3 := HZ5.frozen 3; have f4 := HZ5.frozen 4; have z0 := HZ5.cell 0 rfl; have z1 := HZ5.cell 1 rfl; have z2 := HZ5.cell 2 rfl; have z3 := HZ5.cell 3 rfl; have z4 := HZ5.cell 4 rfl)
  refine bp_world (F := Stored w5 (w.heap.size + 1 + 1) 36 [.int .i64 c.s, .slice T5 n5 m5, .bool y5.s, .slice y5.A y5.n y5.c, .slice y5.A' y5.n' y5.c']) (stored5 HZ5) ?_
  rintro wz ⟨HS, ks, ss⟩
  have q0 := HS.cell 0 rfl
  have q1 := HS.cell 1 rfl
  have q2 := HS.cell 2 rfl
  have q3 := HS.cell 3 rfl
  have q4 := HS.cell 4 rfl
  refine bodyPost_ret (v := .tuple #[.agg #[.int .i64 c.s, .slice T5 n5 m5, .bool y5.s, .slice y5.A y5.n y5.c, .slice y5.A' y5.n' y5.c'], .int .i64 0]) (by simp [results, Tryz.results61, go_sem, q0, q1, q2, q3, q4]) rfl ?_
  exact ⟨_, rfl, by rw [← HC.out]; exact (hc5.kept HZ5 conU0 noT_con ks).val, hbw.trans (Below.kept ks (by omega) hbw.size)⟩
theorem div_C {va vb : Value} {a b : CQ} {K : Nat} (w : World) (ha : ConVal w va (cwOf a)) (hb : ConVal w vb (cwOf b)) (hla : (cwOf a).Le K) (hlb : (cwOf b).Le K) (hK : K ≤ 20000) (hK1 : 1 ≤ K) (hta : a.t.length ≤ 1000) (htb : b.t.length ≤ 1000) :
  Calls Tryz.prog 62 #[va, vb] w (SumRet w (binC 6 a b)) := by
 obtain ⟨T, n, m, x, rfl, hca⟩ := ha.cv
 obtain ⟨T', n', m', x', rfl, hcb⟩ := hb.cv
 have hn : n = a.t.length := by rw [← hca.1.1]; exact cwOf_len a
 have hn' : n' = b.t.length := by rw [← hcb.1.1]; exact cwOf_len b
 have sa := cw_short ha hla
 have sb := cw_short hb hlb
 have HSA := hid fun W (hW : Below w.heap.size w W) (y : RV) (q : Rat) (hq : (rwOf q).Le K) (hy : y.at W (rwOf q)) => rScale_C W (ha.below hW) hy hla hq (by omega) hK1 (by rw [cwOf_len]; omega)
 have HSB := hid fun W (hW : Below w.heap.size w W) (y : RV) (q : Rat) (hq : (rwOf q).Le K) (hy : y.at W (rwOf q)) => rScale_C W (hb.below hW) hy hlb hq (by omega) hK1 (by rw [cwOf_len]; omega)
 simp only [cwOf_q, rwOf_q] at HSA HSB
 have HCA := hid hca
 have HCB := hid hcb
 have hna : (n : Int) ≤ 1000 := by omega
 have hnb : (n' : Int) ≤ 1000 := by omega
 by_cases h2 : b.t ≠ []
 ·have hE : binC 6 a b = .error 6 := by unfold binC; rw [if_neg (by decide), if_neg (by decide), if_neg (by decide), if_pos h2]
  rw [hE]
  have hp2 : 0 < n' := by rw [hn']; exact not_nil_len.1 h2
  clear hE h2 HSA HSB ha hb hca hcb hn hn' sa sb
  have dn' : decide ((0 : Int) < (n' : Int)) = true := decide_eq_true (by omega)
  go_enter Tryz.func62, Tryz.ntmps62
  go_upto_region 1 with fail
  refine wp_world (F := fun W => (Bs W w.heap.size 36 [.int .i64 (cwOf a).s, .slice T n m, .bool x.s, .slice x.A x.n x.c, .slice x.A' x.n' x.c'] ∧ Bs W (w.heap.size + 1) 36 [.int .i64 (cwOf b).s, .slice T' n' m', .bool x'.s, .slice x'.A x'.n x'.c, .slice x'.A' x'.n' x'.c'] ∧ Bs W (w.heap.size + 2) 36 [.int .i64 0, .slice none 0 0, .bool false, .slice none 0 0, .slice none 0 0]) ∧ Below w.heap.size w W)
   ⟨⟨((Bs.new w _ _ _ rfl).alloc _).alloc _, (Bs.new _ _ _ _ (by simp)).alloc _, Bs.new _ _ _ _ (by simp)⟩, Pg.bel⟩ ?_
  rintro w1 ⟨⟨HA, HB, HZ⟩, hb1⟩
  have b0 := HB.cell 0 rfl
  have b1 := HB.cell 1 rfl
  have b2 := HB.cell 2 rfl
  have b3 := HB.cell 3 rfl
  have b4 := HB.cell 4 rfl
  have z0 := HZ.cell 0 rfl
  have z1 := HZ.cell 1 rfl
  have z2 := HZ.cell 2 rfl
  have z3 := HZ.cell 3 rfl
  have z4 := HZ.cell 4 rfl
  have f0 := HZ.frozen 0
  have f1 := HZ.frozen 1
  have f2 := HZ.frozen 2
  have f3 := HZ.frozen 3
  have f4 := HZ.frozen 4
  go_wp2_with fail
  refine bp_world (F := Stored w1 (w.heap.size + 1 + 1) 36 [.int .i64 0, .slice none 0 0, .bool false, .slice none 0 0, .slice none 0 0]) (stored5 HZ) ?_
  rintro wz ⟨HS, ks, ss⟩
  have q0 := HS.cell 0 rfl
  have q1 := HS.cell 1 rfl
  have q2 := HS.cell 2 rfl
  have q3 := HS.cell 3 rfl
  have q4 := HS.cell 4 rfl
  refine bodyPost_ret (v := .tuple #[.agg #[.int .i64 0, .slice none 0 0, .bool false, .slice none 0 0, .slice none 0 0], .int .i64 6]) (by simp [results, Tryz.results62, go_sem, q0, q1, q2, q3, q4]) rfl ?_
  exact ⟨_, rfl, cw0_val _, hb1.trans (Below.kept ks (by omega) hb1.size)⟩
 ·by_cases h0 : b.k = 0
  ·have hE : binC 6 a b = .error 7 := by unfold binC; rw [if_neg (by decide), if_neg (by decide), if_neg (by decide), if_neg h2, if_pos h0]
   rw [hE]
   obtain ⟨q, hq⟩ : ∃ q, 1 / b.k = q := ⟨_, rfl⟩
   obtain ⟨B, hB⟩ : ∃ B, decide (b.k ≠ 0) = B := ⟨_, rfl⟩
   have HD := hid fun W (hW : Below w.heap.size w W) (y : RV) (hy : y.at W (rwOf 1)) => r2Div_Q (q := q) (b := B) W hy (HCB.out.2.below hW) ((short_le short_one).mono hK1) hlb.2 (by omega) hK1 (by rw [rwOf_q]; show 1 / (rwOf b.k).q = q; rw [rwOf_q]; exact hq) (by show decide ((rwOf b.k).q ≠ 0) = B; rw [rwOf_q]; exact hB)
   have hBf : B = false := by rw [← hB]; exact decide_eq_false (fun h => h h0)
   have hp2 : n' = 0 := by rw [hn']; exact List.length_eq_zero_iff.2 (Classical.not_not.1 h2)
   clear hE h2 h0 hq hB HSA HSB ha hb hca hcb hn hn' sa sb
   subst hBf
   have dn' : decide ((0 : Int) < (n' : Int)) = false := decide_eq_false (by omega)
   have dn2 : ¬ 0 < n' := by omega
   replace hp2 := Nat.le_of_eq hp2
   go_enter Tryz.func62, Tryz.ntmps62
   go_upto_region 1 with fail
   refine wp_world (F := fun W => (Bs W w.heap.size 36 [.int .i64 (cwOf a).s, .slice T n m, .bool x.s, .slice x.A x.n x.c, .slice x.A' x.n' x.c'] ∧ Bs W (w.heap.size + 1) 36 [.int .i64 (cwOf b).s, .slice T' n' m', .bool x'.s, .slice x'.A x'.n x'.c, .slice x'.A' x'.n' x'.c'] ∧ Bs W (w.heap.size + 2) 36 [.int .i64 0, .slice none 0 0, .bool false, .slice none 0 0, .slice none 0 0]) ∧ Below w.heap.size w W)
    ⟨⟨((Bs.new w _ _ _ rfl).alloc _).alloc _, (Bs.new _ _ _ _ (by simp)).alloc _, Bs.new _ _ _ _ (by simp)⟩, Pg.bel⟩ ?_
   rintro w1 ⟨⟨HA, HB, HZ⟩, hb1⟩
   have b1' := HB.cell 1 rfl
   go_upto_region 3 with fail
   clear b1'
   refine draw_G (FreshR w1 24 3) (fun W => Below w1.heap.size w1 W) 8 (some 7) [some 14, some 15, some 16, some 17, some 13, some 18, some 19, some 6, none, some 7] [.such (fun W v => ∃ (yX : RV), v = .agg #[.bool yX.s, .slice yX.A yX.n yX.c, .slice yX.A' yX.n' yX.c'] ∧ yX.at W (rwOf (1))), .is (.pointer (some ⟨w.heap.size + 1, 2, none⟩)), .is (.agg #[.bool x'.s, .slice x'.A x'.n x'.c, .slice x'.A' x'.n' x'.c']), .such (fun W v => ∃ (yX : RV), v = .tuple #[.agg #[.bool yX.s, .slice yX.A yX.n yX.c, .slice yX.A' yX.n' yX.c'], .bool false] ∧ yX.at W (rwOf (q))), .such (fun W v => ∃ (yX : RV), v = .tuple #[.agg #[.bool yX.s, .slice yX.A yX.n yX.c, .slice yX.A' yX.n' yX.c'], .bool false] ∧ yX.at W (rwOf (q))), .such (fun W v => ∃ (yX : RV), v = .agg #[.bool yX.s, .slice yX.A yX.n yX.c, .slice yX.A' yX.n' yX.c'] ∧ yX.at W (rwOf (q))), .is (.bool false), .such (FreshAt w1 24 3), .own (fun W v => ∃ (gF : Nat) (y18s : RV), v = .pointer (some ⟨gF, 0, none⟩) ∧ w1.heap.size ≤ gF ∧ Bs W gF 24 [.bool y18s.s, .slice y18s.A y18s.n y18s.c, .slice y18s.A' y18s.n' y18s.c'] ∧ y18s.at W (rwOf (q))), .is (.bool false)]
    (by kernel_rfl) (by kernel_rfl) (by kernel_rfl) (by kernel_rfl) rfl (by kernel_rfl) (fun _ h => h) (fun _ _ h hb => Below.then_ h hb) (fun _ _ hb h => FreshR.bel hb h) (fun q W1 W2 v hm hbw hk hq => by simp at hm; rcases hm with rfl | rfl | rfl | rfl | rfl <;> first | (obtain ⟨yX, rfl, hyX⟩ := hq W1 (Below.refl _ _); exact fun W hW => ⟨_, rfl, (FreshR.rows hk hyX).below hW⟩) | (exact fun W hW => (FreshAt.after (hq W1 (Below.refl _ _)) hk).below hW)) ?_ ?_
   ·refine ⟨?_, ?_, ?_, ?_, ?_, ?_, ?_, ?_, ?_, ?_, trivial⟩
    ·intro a w3 hA K hK
     have hC := r2Int_Q 1 w3 (by omega) (by omega) rfl
     go_simp
     refine hC.mono ?_
     rintro e w4 ⟨y, rfl, hy, hb⟩
     exact hK _ _ (fun W hW => ⟨_, rfl, hy.below hW⟩) hb
    ·intro a w3 hA K hK
     have t3 := hA.old 3 _ rfl rfl
     go_simp
     exact hK _ _ rfl (Below.refl _ _)
    ·intro a w3 hA K hK
     have t15 := bg_is hA 1 15
     have k0 := (HB.below hA.grown).cell 2 rfl
     have k1 := (HB.below hA.grown).cell 3 rfl
     have k2 := (HB.below hA.grown).cell 4 rfl
     go_simp
     exact hK _ _ rfl (Below.refl _ _)
    ·intro a w3 hA K hK
     obtain ⟨v14, t14, p14⟩ := bg_such hA 0 14
     obtain ⟨y14, rfl, hy14⟩ := p14 w3 (Below.refl _ _)
     have t16 := bg_is hA 2 16
     have hC := HD.out _ (Below.then_ hb1 hA.grown) _ hy14
     go_simp
     refine hC.mono ?_
     rintro e w4 ⟨y, rfl, hy, hb⟩
     exact hK _ _ (fun W hW => ⟨_, rfl, hy.below hW⟩) hb
    ·intro a w3 hA K hK
     obtain ⟨v17, t17, p17⟩ := bg_such hA 3 17
     obtain ⟨y17, rfl, hy17⟩ := p17 w3 (Below.refl _ _)
     go_simp
     exact hK _ _ (fun W hW => ⟨_, rfl, hy17.below hW⟩) (Below.refl _ _)
    ·intro a w3 hA K hK
     obtain ⟨v13, t13, p13⟩ := bg_such hA 4 13
     obtain ⟨y13, rfl, hy13⟩ := p13 w3 (Below.refl _ _)
     go_simp
     exact hK _ _ (fun W hW => ⟨_, rfl, hy13.below hW⟩) (Below.refl _ _)
    ·intro a w3 hA K hK
     obtain ⟨v13, t13, p13⟩ := bg_such hA 4 13
     obtain ⟨y13, rfl, hy13⟩ := p13 w3 (Below.refl _ _)
     go_simp
     exact hK _ _ rfl (Below.refl _ _)
    ·intro a w3 hA K hK
     go_simp
     exact hK _ _ (fun W hW => FreshAt.below ⟨_, _, rfl, hA.grown.size, Bs.new w3 _ [.bool false, .slice none 0 0, .slice none 0 0] _ rfl, ⟨(noU_bool (noU_slice (noU_slice noU_nil))), noT_rat⟩, rfl⟩ hW) (Below.new_ (Below.refl _ _) _)
    ·intro a w3 hA K hK
     obtain ⟨v6, lk6, t6, p6⟩ := bg_link hA 7 6
     obtain ⟨g6, cs6, rfl, lg6, hB6, hU6, hl6⟩ := p6 w3 (Below.refl _ _)
     obtain ⟨x0, x1, x2, rfl⟩ := len3 hl6
     have f0 := hB6.frozen 0
     have c0 := hB6.cell 0 rfl
     have f1 := hB6.frozen 1
     have c1 := hB6.cell 1 rfl
     have f2 := hB6.frozen 2
     have c2 := hB6.cell 2 rfl
     obtain ⟨v18, t18, p18⟩ := bg_such hA 5 18
     obtain ⟨y18s, rfl, hy18s⟩ := p18 w3 (Below.refl _ _)
     go_simp
     exact hK (.pointer (some ⟨g6, 0, none⟩)) _ (fun W hW => ⟨g6, _, rfl, lg6, (stored3 hB6).1.below hW, (RV.at.kp hy18s (Kp.stored (B := 0) hB6 hU6.1 (stored3 hB6).2.1 (Nat.zero_le _))).below hW⟩) ⟨⟨g6, _, _, lg6, hB6, hU6, rfl, (stored3 hB6).1, ⟨(noU_bool (noU_slice (noU_slice noU_nil))), noT_rat⟩, rfl, (stored3 hB6).2.1⟩, fun j d h1 h2 => by cases h1; cases h2; exact lk6⟩
    ·intro a w3 hA K hK
     have t19 := bg_is hA 6 19
     go_simp
     exact hK _ _ Pg.fi_ (Below.refl _ _)
   rintro vs wv hV hbv hlk act hact
   replace hV := hV.such_; obtain ⟨v14, _, rfl, p14, hV⟩ := hV
   repeat (replace hV := hV.is_; obtain ⟨_, rfl, hV⟩ := hV)
   replace hV := hV.such_; obtain ⟨v17, _, rfl, p17, hV⟩ := hV
   replace hV := hV.such_; obtain ⟨v13, _, rfl, p13, hV⟩ := hV
   replace hV := hV.such_; obtain ⟨v18, _, rfl, p18, hV⟩ := hV
   replace hV := hV.is_; obtain ⟨_, rfl, hV⟩ := hV
   replace hV := hV.such_; obtain ⟨v6, _, rfl, p6, hV⟩ := hV
   replace hV := hV.own_; obtain ⟨vP, _, rfl, pP, hV⟩ := hV
   replace hV := hV.is_; obtain ⟨_, rfl, hV⟩ := hV
   obtain rfl := hV.nil_
   clear hV
   replace hlk := hlk _ rfl
   simp only [List.getElem?_cons_succ, List.getElem?_cons_zero, Option.some.injEq] at hlk
   subst hlk; clear p6
   obtain ⟨y14, rfl, hy14⟩ := p14 wv (Below.refl _ _)
   clear p14
   obtain ⟨y17, rfl, hy17⟩ := p17 wv (Below.refl _ _)
   clear p17
   obtain ⟨y13, rfl, hy13⟩ := p13 wv (Below.refl _ _)
   clear p13
   obtain ⟨y18, rfl, hy18⟩ := p18 wv (Below.refl _ _)
   clear p18
   obtain ⟨gF, y18s, rfl, lgF, hBF, hy18s⟩ := pP wv (Below.refl _ _)
   clear pP
   simp only [putsO] at hact
   subst hact
   go_simp
   have HB2 := HB.below hbv
   have HZ2 := HZ.below hbv
   have hw2 := Below.then_ hb1 hbv
   have b0 := HB2.cell 0 rfl
   have b1 := HB2.cell 1 rfl
   have b2 := HB2.cell 2 rfl
   have b3 := HB2.cell 3 rfl
   have b4 := HB2.cell 4 rfl
   have z0 := HZ2.cell 0 rfl
   have z1 := HZ2.cell 1 rfl
   have z2 := HZ2.cell 2 rfl
   have z3 := HZ2.cell 3 rfl
   have z4 := HZ2.cell 4 rfl
   have f0 := HZ2.frozen 0
   have f1 := HZ2.frozen 1
   have f2 := HZ2.frozen 2
   have f3 := HZ2.frozen 3
   have f4 := HZ2.frozen 4
   go_wp2_with fail
   refine bp_world (F := Stored wv (w.heap.size + 1 + 1) 36 [.int .i64 0, .slice none 0 0, .bool false, .slice none 0 0, .slice none 0 0]) (stored5 HZ2) ?_
   rintro wz ⟨HS, ks, ss⟩
   have q0 := HS.cell 0 rfl
   have q1 := HS.cell 1 rfl
   have q2 := HS.cell 2 rfl
   have q3 := HS.cell 3 rfl
   have q4 := HS.cell 4 rfl
   refine bodyPost_ret (v := .tuple #[.agg #[.int .i64 0, .slice none 0 0, .bool false, .slice none 0 0, .slice none 0 0], .int .i64 7]) (by simp [results, Tryz.results62, go_sem, q0, q1, q2, q3, q4]) rfl ?_
   exact ⟨_, rfl, cw0_val _, hw2.trans (Below.kept ks (by omega) hw2.size)⟩
  ·have hE : binC 6 a b = .ok (scaleC a (1 / b.k)) := by unfold binC; rw [if_neg (by decide), if_neg (by decide), if_neg (by decide), if_neg h2, if_neg h0]
   have hC : cwOf (scaleC a (1 / b.k)) = conOf (binC 6 a b) := by rw [hE]; rfl
   rw [hE] at hC ⊢
   obtain ⟨q, hq⟩ : ∃ q, 1 / b.k = q := ⟨_, rfl⟩
   obtain ⟨B, hB⟩ : ∃ B, decide (b.k ≠ 0) = B := ⟨_, rfl⟩
   have HD := hid fun W (hW : Below w.heap.size w W) (y : RV) (hy : y.at W (rwOf 1)) => r2Div_Q (q := q) (b := B) W hy (HCB.out.2.below hW) ((short_le short_one).mono hK1) hlb.2 (by omega) hK1 (by rw [rwOf_q]; show 1 / (rwOf b.k).q = q; rw [rwOf_q]; exact hq) (by show decide ((rwOf b.k).q ≠ 0) = B; rw [rwOf_q]; exact hB)
   have hBf : B = true := by rw [← hB]; exact decide_eq_true (show b.k ≠ 0 from h0)
   have hp2 : n' = 0 := by rw [hn']; exact List.length_eq_zero_iff.2 (Classical.not_not.1 h2)
   have hqs : (rwOf q).Le K := by rw [← hq, one_div_inv]; exact short_le sb.2.inv
   have HS3 := hid fun W (hW : Below w.heap.size w W) (y : RV) (hy : y.at W (rwOf q)) => HSA.out W hW y q hqs hy
   rw [hq] at hC
   obtain ⟨c, hc⟩ : ∃ c, cwOf (scaleC a q) = c := ⟨_, rfl⟩
   rw [hc] at HS3 hC
   rw [hq]
   have HC := hid hC
   clear hC hE hc h2 h0 hq hB hqs HSA HSB ha hb hca hcb hn hn' sa sb
   subst hBf
   have dn' : decide ((0 : Int) < (n' : Int)) = false := decide_eq_false (by omega)
   have dn2 : ¬ 0 < n' := by omega
   replace hp2 := Nat.le_of_eq hp2
   go_enter Tryz.func62, Tryz.ntmps62
   go_upto_region 1 with fail
   refine wp_world (F := fun W => (Bs W w.heap.size 36 [.int .i64 (cwOf a).s, .slice T n m, .bool x.s, .slice x.A x.n x.c, .slice x.A' x.n' x.c'] ∧ Bs W (w.heap.size + 1) 36 [.int .i64 (cwOf b).s, .slice T' n' m', .bool x'.s, .slice x'.A x'.n x'.c, .slice x'.A' x'.n' x'.c'] ∧ Bs W (w.heap.size + 2) 36 [.int .i64 0, .slice none 0 0, .bool false, .slice none 0 0, .slice none 0 0]) ∧ Below w.heap.size w W)
    ⟨⟨((Bs.new w _ _ _ rfl).alloc _).alloc _, (Bs.new _ _ _ _ (by simp)).alloc _, Bs.new _ _ _ _ (by simp)⟩, Pg.bel⟩ ?_
   rintro w1 ⟨⟨HA, HB, HZ⟩, hb1⟩
   have b1' := HB.cell 1 rfl
   go_upto_region 3 with fail
   clear b1'
   refine draw_G (FreshR w1 24 3) (fun W => Below w1.heap.size w1 W) 8 (some 7) [some 14, some 15, some 16, some 17, some 13, some 18, some 19, some 6, none, some 7] [.such (fun W v => ∃ (yX : RV), v = .agg #[.bool yX.s, .slice yX.A yX.n yX.c, .slice yX.A' yX.n' yX.c'] ∧ yX.at W (rwOf (1))), .is (.pointer (some ⟨w.heap.size + 1, 2, none⟩)), .is (.agg #[.bool x'.s, .slice x'.A x'.n x'.c, .slice x'.A' x'.n' x'.c']), .such (fun W v => ∃ (yX : RV), v = .tuple #[.agg #[.bool yX.s, .slice yX.A yX.n yX.c, .slice yX.A' yX.n' yX.c'], .bool true] ∧ yX.at W (rwOf (q))), .such (fun W v => ∃ (yX : RV), v = .tuple #[.agg #[.bool yX.s, .slice yX.A yX.n yX.c, .slice yX.A' yX.n' yX.c'], .bool true] ∧ yX.at W (rwOf (q))), .such (fun W v => ∃ (yX : RV), v = .agg #[.bool yX.s, .slice yX.A yX.n yX.c, .slice yX.A' yX.n' yX.c'] ∧ yX.at W (rwOf (q))), .is (.bool true), .such (FreshAt w1 24 3), .own (fun W v => ∃ (gF : Nat) (y18s : RV), v = .pointer (some ⟨gF, 0, none⟩) ∧ w1.heap.size ≤ gF ∧ Bs W gF 24 [.bool y18s.s, .slice y18s.A y18s.n y18s.c, .slice y18s.A' y18s.n' y18s.c'] ∧ y18s.at W (rwOf (q))), .is (.bool true)]
    (by kernel_rfl) (by kernel_rfl) (by kernel_rfl) (by kernel_rfl) rfl (by kernel_rfl) (fun _ h => h) (fun _ _ h hb => Below.then_ h hb) (fun _ _ hb h => FreshR.bel hb h) (fun q W1 W2 v hm hbw hk hq => by simp at hm; rcases hm with rfl | rfl | rfl | rfl | rfl <;> first | (obtain ⟨yX, rfl, hyX⟩ := hq W1 (Below.refl _ _); exact fun W hW => ⟨_, rfl, (FreshR.rows hk hyX).below hW⟩) | (exact fun W hW => (FreshAt.after (hq W1 (Below.refl _ _)) hk).below hW)) ?_ ?_
   ·refine ⟨?_, ?_, ?_, ?_, ?_, ?_, ?_, ?_, ?_, ?_, trivial⟩
    ·intro a w3 hA K hK
     have hC := r2Int_Q 1 w3 (by omega) (by omega) rfl
     go_simp
     refine hC.mono ?_
     rintro e w4 ⟨y, rfl, hy, hb⟩
     exact hK _ _ (fun W hW => ⟨_, rfl, hy.below hW⟩) hb
    ·intro a w3 hA K hK
     have t3 := hA.old 3 _ rfl rfl
     go_simp
     exact hK _ _ rfl (Below.refl _ _)
    ·intro a w3 hA K hK
     have t15 := bg_is hA 1 15
     have k0 := (HB.below hA.grown).cell 2 rfl
     have k1 := (HB.below hA.grown).cell 3 rfl
     have k2 := (HB.below hA.grown).cell 4 rfl
     go_simp
     exact hK _ _ rfl (Below.refl _ _)
    ·intro a w3 hA K hK
     obtain ⟨v14, t14, p14⟩ := bg_such hA 0 14
     obtain ⟨y14, rfl, hy14⟩ := p14 w3 (Below.refl _ _)
     have t16 := bg_is hA 2 16
     have hC := HD.out _ (Below.then_ hb1 hA.grown) _ hy14
     go_simp
     refine hC.mono ?_
     rintro e w4 ⟨y, rfl, hy, hb⟩
     exact hK _ _ (fun W hW => ⟨_, rfl, hy.below hW⟩) hb
    ·intro a w3 hA K hK
     obtain ⟨v17, t17, p17⟩ := bg_such hA 3 17
     obtain ⟨y17, rfl, hy17⟩ := p17 w3 (Below.refl _ _)
     go_simp
     exact hK _ _ (fun W hW => ⟨_, rfl, hy17.below hW⟩) (Below.refl _ _)
    ·intro a w3 hA K hK
     obtain ⟨v13, t13, p13⟩ := bg_such hA 4 13
     obtain ⟨y13, rfl, hy13⟩ := p13 w3 (Below.refl _ _)
     go_simp
     exact hK _ _ (fun W hW => ⟨_, rfl, hy13.below hW⟩) (Below.refl _ _)
    ·intro a w3 hA K hK
     obtain ⟨v13, t13, p13⟩ := bg_such hA 4 13
     obtain ⟨y13, rfl, hy13⟩ := p13 w3 (Below.refl _ _)
     go_simp
     exact hK _ _ rfl (Below.refl _ _)
    ·intro a w3 hA K hK
     go_simp
     exact hK _ _ (fun W hW => FreshAt.below ⟨_, _, rfl, hA.grown.size, Bs.new w3 _ [.bool false, .slice none 0 0, .slice none 0 0] _ rfl, ⟨(noU_bool (noU_slice (noU_slice noU_nil))), noT_rat⟩, rfl⟩ hW) (Below.new_ (Below.refl _ _) _)
    ·intro a w3 hA K hK
     obtain ⟨v6, lk6, t6, p6⟩ := bg_link hA 7 6
     obtain ⟨g6, cs6, rfl, lg6, hB6, hU6, hl6⟩ := p6 w3 (Below.refl _ _)
     obtain ⟨x0, x1, x2, rfl⟩ := len3 hl6
     have f0 := hB6.frozen 0
     have c0 := hB6.cell 0 rfl
     have f1 := hB6.frozen 1
     have c1 := hB6.cell 1 rfl
     have f2 := hB6.frozen 2
     have c2 := hB6.cell 2 rfl
     obtain ⟨v18, t18, p18⟩ := bg_such hA 5 18
     obtain ⟨y18s, rfl, hy18s⟩ := p18 w3 (Below.refl _ _)
     go_simp
     exact hK (.pointer (some ⟨g6, 0, none⟩)) _ (fun W hW => ⟨g6, _, rfl, lg6, (stored3 hB6).1.below hW, (RV.at.kp hy18s (Kp.stored (B := 0) hB6 hU6.1 (stored3 hB6).2.1 (Nat.zero_le _))).below hW⟩) ⟨⟨g6, _, _, lg6, hB6, hU6, rfl, (stored3 hB6).1, ⟨(noU_bool (noU_slice (noU_slice noU_nil))), noT_rat⟩, rfl, (stored3 hB6).2.1⟩, fun j d h1 h2 => by cases h1; cases h2; exact lk6⟩
    ·intro a w3 hA K hK
     have t19 := bg_is hA 6 19
     go_simp
     exact hK _ _ Pg.fi_ (Below.refl _ _)
   rintro vs wv hV hbv hlk act hact
   replace hV := hV.such_; obtain ⟨v14, _, rfl, p14, hV⟩ := hV
   repeat (replace hV := hV.is_; obtain ⟨_, rfl, hV⟩ := hV)
   replace hV := hV.such_; obtain ⟨v17, _, rfl, p17, hV⟩ := hV
   replace hV := hV.such_; obtain ⟨v13, _, rfl, p13, hV⟩ := hV
   replace hV := hV.such_; obtain ⟨v18, _, rfl, p18, hV⟩ := hV
   replace hV := hV.is_; obtain ⟨_, rfl, hV⟩ := hV
   replace hV := hV.such_; obtain ⟨v6, _, rfl, p6, hV⟩ := hV
   replace hV := hV.own_; obtain ⟨vP, _, rfl, pP, hV⟩ := hV
   replace hV := hV.is_; obtain ⟨_, rfl, hV⟩ := hV
   obtain rfl := hV.nil_
   clear hV
   replace hlk := hlk _ rfl
   simp only [List.getElem?_cons_succ, List.getElem?_cons_zero, Option.some.injEq] at hlk
   subst hlk; clear p6
   obtain ⟨y14, rfl, hy14⟩ := p14 wv (Below.refl _ _)
   clear p14
   obtain ⟨y17, rfl, hy17⟩ := p17 wv (Below.refl _ _)
   clear p17
   obtain ⟨y13, rfl, hy13⟩ := p13 wv (Below.refl _ _)
   clear p13
   obtain ⟨y18, rfl, hy18⟩ := p18 wv (Below.refl _ _)
   clear p18
   obtain ⟨gF, y18s, rfl, lgF, hBF, hy18s⟩ := pP wv (Below.refl _ _)
   clear pP
   simp only [putsO] at hact
   subst hact
   go_simp
   have HB2 := HB.below hbv
   have HZ2 := HZ.below hbv
   have hw2 := Below.then_ hb1 hbv
   have HA2 := HA.below hbv
   have a0 := HA2.cell 0 rfl
   have a1 := HA2.cell 1 rfl
   have a2 := HA2.cell 2 rfl
   have a3 := HA2.cell 3 rfl
   have a4 := HA2.cell 4 rfl
   have b0 := HB2.cell 0 rfl
   have b1 := HB2.cell 1 rfl
   have b2 := HB2.cell 2 rfl
   have b3 := HB2.cell 3 rfl
   have b4 := HB2.cell 4 rfl
   have g0 := hBF.cell 0 rfl
   have g1 := hBF.cell 1 rfl
   have g2 := hBF.cell 2 rfl
   go_wp2_with (go_at_call 23; (with_reducible refine (HS3.out _ hw2 _ hy18s).mono ?_); rintro e w5 ⟨v5, rfl, hv5, hb5⟩; obtain ⟨T5, n5, m5, y5, rfl, hc5⟩ := hv5.cv; have HZ5 := HZ2.below hb5; have hbw := Below.then_ hw2 hb5; have f0 := HZ5.frozen 0; have f1 := HZ5.frozen 1; have f2 := HZ5.frozen 2; have f3 := HZ5.frozen 3; have f4 := HZ5.frozen 4; have z0 := HZ5.cell 0 rfl; have z1 := HZ5.cell 1 rfl; have z2 := HZ5.cell 2 rfl; have z3 := HZ5.cell 3 rfl; have z4 := HZ5.cell 4 rfl)
   refine bp_world (F := Stored w5 (w.heap.size + 1 + 1) 36 [.int .i64 c.s, .slice T5 n5 m5, .bool y5.s, .slice y5.A y5.n y5.c, .slice y5.A' y5.n' y5.c']) (stored5 HZ5) ?_
   rintro wz ⟨HS, ks, ss⟩
   have q0 := HS.cell 0 rfl
   have q1 := HS.cell 1 rfl
   have q2 := HS.cell 2 rfl
   have q3 := HS.cell 3 rfl
   have q4 := HS.cell 4 rfl
   refine bodyPost_ret (v := .tuple #[.agg #[.int .i64 c.s, .slice T5 n5 m5, .bool y5.s, .slice y5.A y5.n y5.c, .slice y5.A' y5.n' y5.c'], .int .i64 0]) (by simp [results, Tryz.results62, go_sem, q0, q1, q2, q3, q4]) rfl ?_
   exact ⟨_, rfl, by rw [← HC.out]; exact (hc5.kept HZ5 conU0 noT_con ks).val, hbw.trans (Below.kept ks (by omega) hbw.size)⟩
end Go.Proofs.YtahdlpkncemmaaaGreat
