/- Walk · Walks. Conditions: those that each theorem names. -/
import Derived.Test.YtahdlpkncemmaaaW37
import Derived.Test.YtahdlpkncemmaaaW42
import Derived.Test.YtahdlpkncemmaaaW31
set_option maxRecDepth 100000
set_option maxHeartbeats 8000000
set_option linter.unusedSimpArgs false
set_option linter.unusedVariables false
namespace Pg
def OfX (t : PT) (v : EnvQ) (X : Except Nat CQ) : Prop := (t.is = false ∧ X = .error 5) ∨ (t.is = true ∧ ∃ e, PT.As t e ∧ X = sumX v e)
theorem PT.wt_pos (t : PT) : 1 ≤ t.wt := by
 cases t; unfold PT.wt; omega
end Pg
namespace Go.Proofs.Ytahdlpkncemmaaa
open Go.RowKit Pg
theorem Of_C {t : PT} {v : Value} {x : EW} (w : World) (hv : PT.Val w v t) (hwt : t.wt ≤ 768) (hE : EnvAt w x) (hl : ∀ r ∈ x.vals, r.Le 3) (hn : x.vars.length ≤ 1000) {X : Except Nat CQ} (hX : OfX t x.q X) :
  Calls Try.prog 21 #[v, .agg #[.slice x.A0 x.n0 x.k0, .slice x.A1 x.n1 x.k1, .slice x.A2 x.n2 x.k2]] w (SumRet w X) := by
 obtain ⟨c0, c1, c2, c3, c4, c5, rfl⟩ := hv.six
 have HI := hid fun W (hW : Below w.heap.size w W) => eIs_any W (hv.below hW) (by omega)
 rcases hX with ⟨hi, rfl⟩ | ⟨hi, e, he, rfl⟩
 ·rw [hi] at HI
  clear hv hE
  go_enter Try.func21, Try.ntmps21
  go_upto_region 1 with fail
  refine wp_world (F := fun W => (Bs W w.heap.size 48 [c0, c1, c2, c3, c4, c5] ∧ Bs W (w.heap.size + 1) 55 [.slice x.A0 x.n0 x.k0, .slice x.A1 x.n1 x.k1, .slice x.A2 x.n2 x.k2] ∧ Bs W (w.heap.size + 2) 27 [.int .i64 0, .slice none 0 0, .bool false, .slice none 0 0, .slice none 0 0]) ∧ Below w.heap.size w W)
   ⟨⟨((Bs.new w _ _ _ rfl).alloc _).alloc _, (Bs.new _ _ _ _ (by simp)).alloc _, Bs.new _ _ _ _ (by simp)⟩, Pg.bel⟩ ?_
  rintro w1 ⟨⟨HX, HV, HZ⟩, hb1⟩
  have a0 := HX.cell 0 rfl
  have a1 := HX.cell 1 rfl
  have a2 := HX.cell 2 rfl
  have a3 := HX.cell 3 rfl
  have a4 := HX.cell 4 rfl
  have a5 := HX.cell 5 rfl
  go_wp2_with (go_at_call 30; (with_reducible refine (HI.out _ hb1).mono ?_); rintro e w5 ⟨rfl, hb5⟩; have HZ5 := HZ.below hb5; have hbw := Below.then_ hb1 hb5; have HX5 := HX.below hb5; have HV5 := HV.below hb5; clear a0 a1 a2 a3 a4 a5; have f0 := HZ5.frozen 0; have f1 := HZ5.frozen 1; have f2 := HZ5.frozen 2; have f3 := HZ5.frozen 3; have f4 := HZ5.frozen 4; have z0 := HZ5.cell 0 rfl; have z1 := HZ5.cell 1 rfl; have z2 := HZ5.cell 2 rfl; have z3 := HZ5.cell 3 rfl; have z4 := HZ5.cell 4 rfl; have a0 := HX5.cell 0 rfl; have a1 := HX5.cell 1 rfl; have a2 := HX5.cell 2 rfl; have a3 := HX5.cell 3 rfl; have a4 := HX5.cell 4 rfl; have a5 := HX5.cell 5 rfl; have b0 := HV5.cell 0 rfl; have b1 := HV5.cell 1 rfl; have b2 := HV5.cell 2 rfl)
  refine bp_world (F := Stored w5 (w.heap.size + 1 + 1) 27 [.int .i64 0, .slice none 0 0, .bool false, .slice none 0 0, .slice none 0 0]) (stored5 HZ5) ?_
  rintro wz ⟨HS, ks, ss⟩
  have q0 := HS.cell 0 rfl
  have q1 := HS.cell 1 rfl
  have q2 := HS.cell 2 rfl
  have q3 := HS.cell 3 rfl
  have q4 := HS.cell 4 rfl
  refine bodyPost_ret (v := .tuple #[.agg #[.int .i64 0, .slice none 0 0, .bool false, .slice none 0 0, .slice none 0 0], .int .i64 5]) (by simp [results, Try.results21, go_sem, q0, q1, q2, q3, q4]) rfl ?_
  exact ⟨_, rfl, cw0_val _, hbw.trans (Below.kept ks (by omega) hbw.size)⟩
 ·rw [hi] at HI
  have HS := hid fun W (hW : Below w.heap.size w W) => sum_C hl hn e t.wt W _ (XE.Val.below hW e _ (he.val _ hv (by omega))) (PT.As.sz he _ hv) (by omega) t.wt_pos (hE.below hW)
  obtain ⟨X, hX⟩ : ∃ X, sumX x.q e = X := ⟨_, rfl⟩
  rw [hX] at HS ⊢
  clear hv hE hX he hi
  go_enter Try.func21, Try.ntmps21
  go_upto_region 1 with fail
  refine wp_world (F := fun W => (Bs W w.heap.size 48 [c0, c1, c2, c3, c4, c5] ∧ Bs W (w.heap.size + 1) 55 [.slice x.A0 x.n0 x.k0, .slice x.A1 x.n1 x.k1, .slice x.A2 x.n2 x.k2] ∧ Bs W (w.heap.size + 2) 27 [.int .i64 0, .slice none 0 0, .bool false, .slice none 0 0, .slice none 0 0]) ∧ Below w.heap.size w W)
   ⟨⟨((Bs.new w _ _ _ rfl).alloc _).alloc _, (Bs.new _ _ _ _ (by simp)).alloc _, Bs.new _ _ _ _ (by simp)⟩, Pg.bel⟩ ?_
  rintro w1 ⟨⟨HX, HV, HZ⟩, hb1⟩
  have a0 := HX.cell 0 rfl
  have a1 := HX.cell 1 rfl
  have a2 := HX.cell 2 rfl
  have a3 := HX.cell 3 rfl
  have a4 := HX.cell 4 rfl
  have a5 := HX.cell 5 rfl
  go_wp2_with (first | (go_at_call 30; (with_reducible refine (HI.out _ hb1).mono ?_); rintro e w5 ⟨rfl, hb5⟩; have HZ5 := HZ.below hb5; have hbw := Below.then_ hb1 hb5; have HX5 := HX.below hb5; have HV5 := HV.below hb5; clear a0 a1 a2 a3 a4 a5; have f0 := HZ5.frozen 0; have f1 := HZ5.frozen 1; have f2 := HZ5.frozen 2; have f3 := HZ5.frozen 3; have f4 := HZ5.frozen 4; have z0 := HZ5.cell 0 rfl; have z1 := HZ5.cell 1 rfl; have z2 := HZ5.cell 2 rfl; have z3 := HZ5.cell 3 rfl; have z4 := HZ5.cell 4 rfl; have a0 := HX5.cell 0 rfl; have a1 := HX5.cell 1 rfl; have a2 := HX5.cell 2 rfl; have a3 := HX5.cell 3 rfl; have a4 := HX5.cell 4 rfl; have a5 := HX5.cell 5 rfl; have b0 := HV5.cell 0 rfl; have b1 := HV5.cell 1 rfl; have b2 := HV5.cell 2 rfl) | (go_at_call 31; (with_reducible refine (HS.out _ hbw).mono ?_); rintro e w6 ⟨v6, rfl, hv6, hb6⟩; obtain ⟨T6, n6, m6, y6, rfl, hc6⟩ := hv6.cv; have HZ6 := HZ5.below hb6; have hbz := Below.then_ hbw hb6; clear f0 f1 f2 f3 f4 z0 z1 z2 z3 z4; have f0 := HZ6.frozen 0; have f1 := HZ6.frozen 1; have f2 := HZ6.frozen 2; have f3 := HZ6.frozen 3; have f4 := HZ6.frozen 4; have z0 := HZ6.cell 0 rfl; have z1 := HZ6.cell 1 rfl; have z2 := HZ6.cell 2 rfl; have z3 := HZ6.cell 3 rfl; have z4 := HZ6.cell 4 rfl))
  refine bp_world (F := Stored w6 (w.heap.size + 1 + 1) 27 [.int .i64 (conOf X).s, .slice T6 n6 m6, .bool y6.s, .slice y6.A y6.n y6.c, .slice y6.A' y6.n' y6.c']) (stored5 HZ6) ?_
  rintro wz ⟨HS, ks, ss⟩
  have q0 := HS.cell 0 rfl
  have q1 := HS.cell 1 rfl
  have q2 := HS.cell 2 rfl
  have q3 := HS.cell 3 rfl
  have q4 := HS.cell 4 rfl
  refine bodyPost_ret (v := .tuple #[.agg #[.int .i64 (conOf X).s, .slice T6 n6 m6, .bool y6.s, .slice y6.A y6.n y6.c, .slice y6.A' y6.n' y6.c'], .int .i64 (errOf X : Int)]) (by simp [results, Try.results21, go_sem, q0, q1, q2, q3, q4]) rfl ?_
  exact ⟨_, rfl, (hc6.kept HZ6 conU0 noT_con ks).val, hbz.trans (Below.kept ks (by omega) hbz.size)⟩
end Go.Proofs.Ytahdlpkncemmaaa
namespace Go.Proofs.Ytahdlpkncemmaaa
open Go.RowKit Pg
def knA : PT := .mk 2 ⟨false, [], []⟩ [97] []
def knT : PT := .mk 3 ⟨false, [], []⟩ [] [knA, knA]
def knE (g : Nat) : EW := ⟨some ⟨g, 0, none⟩, none, none, 1, 1, 0, 0, 0, 0, [[97]], [], []⟩
theorem knX (g : Nat) : OfX knT (knE g).q (.ok ⟨0, [⟨0, 2⟩], 0⟩) := by
 refine .inr ⟨by decide, .bin 3 (.name [97]) (.name [97]), .bin 3 _ _ _ _ _ _ (by omega) (by omega) (.name _ _ _) (.name _ _ _), ?_⟩
 have hi : idx [[97]] [97] = some 0 := rfl
 have h2 : (1 : Rat) + 1 = 2 := (Rat.intCast_add 1 1).symm
 have h3 : (0 : Rat) + 0 = 0 := Rat.add_zero 0
 have h4 : ¬ (2 : Rat) = 0 := by decide
 simp [sumX, nameC, EW.q, knE, hi, binC, addC, addT, keepT, h2, h3, h4]
theorem kn_env {w : World} {g : Nat} {t : TypeId} (h : Bs w g t [.string (str [97])]) : EnvAt w (knE g) := by
 refine ⟨⟨rfl, Nat.le_refl _, by simp only [knE]; omega, by simp only [knE]; omega, fun e => by simp [knE] at e, fun _ => ⟨g, 0, rfl, h.lt, ?_⟩⟩, ⟨rfl, Nat.le_refl _, Nat.zero_le _, Nat.zero_le _, fun _ => rfl, fun h => absurd h (Nat.lt_irrefl 0)⟩, ⟨rfl, Nat.le_refl _, Nat.zero_le _, Nat.zero_le _, fun _ => rfl, fun h => absurd h (Nat.lt_irrefl 0)⟩⟩
 intro j x hj
 cases j with
 | zero =>
  obtain rfl : [97] = x := by simpa [knE] using hj
  refine ⟨fun q hq => ?_, by decide⟩
  obtain rfl : q = 0 := by simp at hq; exact hq
  exact h.cell 0 rfl
 | succ j => simp [knE] at hj
theorem kn_val {w : World} {g : Nat} {t : TypeId} (h : Bs w g t [.int .i64 2, .bool false, .slice none 0 0, .slice none 0 0, .string (str [97]), .slice none 0 0, .int .i64 2, .bool false, .slice none 0 0, .slice none 0 0, .string (str [97]), .slice none 0 0]) : PT.Val w (.agg #[.int .i64 3, .bool false, .slice none 0 0, .slice none 0 0, .string (str []), .slice (some ⟨g, 0, none⟩) 2 2]) knT := by
 have hat : ∀ o, (∀ q, q < 6 → w.cell? ⟨g, o + q, none⟩ = [.int .i64 2, .bool false, .slice none 0 0, .slice none 0 0, .string (str [97]), .slice none 0 0][q]?) → PT.At w knA g o := by
  intro o ho
  unfold knA PT.At
  exact ⟨_, _, _, none, 0, fun q hq => ho q hq, rw0_at w, by decide, by decide, by decide, fun h => absurd h (by decide)⟩
 refine ⟨_, _, _, _, 2, rfl, rw0_at w, by decide, by decide, by decide, fun _ => ⟨g, 0, rfl, h.lt, ?_⟩⟩
 unfold PT.Ats PT.Ats PT.Ats
 refine ⟨hat 0 ?_, hat (0 + 6) ?_, trivial⟩
 ·intro q hq
  rcases (by omega : q = 0 ∨ q = 1 ∨ q = 2 ∨ q = 3 ∨ q = 4 ∨ q = 5) with rfl | rfl | rfl | rfl | rfl | rfl
  ·exact h.cell 0 rfl
  ·exact h.cell 1 rfl
  ·exact h.cell 2 rfl
  ·exact h.cell 3 rfl
  ·exact h.cell 4 rfl
  ·exact h.cell 5 rfl
 ·intro q hq
  rcases (by omega : q = 0 ∨ q = 1 ∨ q = 2 ∨ q = 3 ∨ q = 4 ∨ q = 5) with rfl | rfl | rfl | rfl | rfl | rfl
  ·exact h.cell 6 rfl
  ·exact h.cell 7 rfl
  ·exact h.cell 8 rfl
  ·exact h.cell 9 rfl
  ·exact h.cell 10 rfl
  ·exact h.cell 11 rfl
theorem short_two : Short 2 1 := ⟨by rw [show (2 : Rat) = ((2 : Int) : Rat) from rfl, rnum_int]; exact length_limbs_le (by decide), by rw [show (2 : Rat) = ((2 : Int) : Rat) from rfl, rden_int]; exact length_limbs_le (by decide)⟩
theorem kn_of (w : World) {g h : Nat} (HG : Bs w g 48 [.int .i64 2, .bool false, .slice none 0 0, .slice none 0 0, .string (str [97]), .slice none 0 0, .int .i64 2, .bool false, .slice none 0 0, .slice none 0 0, .string (str [97]), .slice none 0 0]) (HH : Bs w h 9 [.string (str [97])]) :
  Calls Try.prog 21 #[.agg #[.int .i64 3, .bool false, .slice none 0 0, .slice none 0 0, .string (str []), .slice (some ⟨g, 0, none⟩) 2 2], .agg #[.slice (some ⟨h, 0, none⟩) 1 1, .slice none 0 0, .slice none 0 0]] w (SumRet w (.ok ⟨0, [⟨0, 2⟩], 0⟩)) :=
 Of_C (x := knE h) w (kn_val HG) (by decide) (kn_env HH) (fun r hr => by simp [knE] at hr) (by simp [knE]) (knX h)
theorem known8_any (w : World) : Calls Try.prog 11 #[] w fun e w' => e = .returned (.bool true) ∧ Below w.heap.size w w' := by
 go_enter Try.func11, Try.ntmps11
 go_wp2_with (go_at_call 21; (refine (kn_of _ (g := w.heap.size + 1) (h := w.heap.size + 1 + 1) ((Bs.new _ _ _ _ (by simp)).alloc _) (Bs.new _ _ _ _ (by simp))).mono ?_); rintro e w5 ⟨v5, rfl, hv5, hb5⟩; obtain ⟨T5, n5, m5, y5, rfl, hc5⟩ := hv5.cv; have hbw : Below w.heap.size w w5 := Pg.bel)
 refine wp_world (F := fun W => (Bs W w5.heap.size 27 [.int .i64 0, .slice T5 n5 m5, .bool y5.s, .slice y5.A y5.n y5.c, .slice y5.A' y5.n' y5.c'] ∧ CV W T5 n5 m5 y5 (conOf (.ok ⟨0, [⟨0, 2⟩], 0⟩))) ∧ Below w.heap.size w W) ⟨⟨Bs.new _ _ _ _ rfl, hc5.below (Below.new_ (Below.refl _ _) _)⟩, Pg.bel⟩ ?_
 rintro w2 ⟨⟨HG, hcv⟩, hb2⟩
 clear hb5 hv5 hc5 hbw
 obtain ⟨g, hg⟩ : ∃ g, w5.heap.size = g := ⟨_, rfl⟩
 rw [hg] at HG ⊢
 clear hg
 have hS := hcv.1
 clear hcv
 have e1 : 1 = n5 := hS.1
 have e6 := hS.2.2.2.2.2
 clear hS
 subst e1
 obtain ⟨b, o, rfl, hbl, hx⟩ := e6 (by omega)
 obtain ⟨x0, x1, x2, hca, hu0⟩ := hx 0 ⟨0, rwOf 2⟩ rfl
 obtain ⟨u, rfl, rfl, rfl, hu⟩ := rows_rv hu0
 rw [Nat.zero_mul, Nat.add_zero] at hca
 have HCL := hid hca
 have HU := hid hu
 have hE2 : eqQ (rwOf 2).q (rwOf 2).q = true := by simp [eqQ]
 clear hca hu hu0 hx
 go_upto_region 3 with fail
 refine draw_G (fun _ _ => False) (fun W => Below w2.heap.size w2 W) 18 none [some 15, some 16, some 17, some 18, some 19, some 20, some 21, some 22, some 23, some 24, some 25, some 26, some 27, some 28, some 29, some 30, some 31, some 0] [.is (.int .i64 0), .is (.bool true), .is (.bool true), .is (.pointer (some ⟨g, 1, none⟩)), .is (.slice (some ⟨b, o, none⟩) 1 m5), .is (.int .i64 1), .is (.bool true), .is (.bool true), .is (.bool true), .is (.pointer (some ⟨g, 1, none⟩)), .is (.slice (some ⟨b, o, none⟩) 1 m5), .is (.pointer (some ⟨b, o, none⟩)), .is (.pointer (some ⟨b, o + 1, none⟩)), .is (.agg #[.bool u.s, .slice u.A u.n u.c, .slice u.A' u.n' u.c']), .such (fun W v => ∃ (yX : RV), v = .agg #[.bool yX.s, .slice yX.A yX.n yX.c, .slice yX.A' yX.n' yX.c'] ∧ yX.at W (rwOf (2))), .is (.bool true), .is (.bool true), .is (.bool true)]
  (by kernel_rfl) (by kernel_rfl) (by kernel_rfl) (by kernel_rfl) rfl (by kernel_rfl) (fun _ h => h) (fun _ _ h hb => Below.then_ h hb) (fun _ _ _ h => h.elim) (fun _ _ _ _ _ _ h => h.elim) ?_ ?_
 ·refine ⟨?_, ?_, ?_, ?_, ?_, ?_, ?_, ?_, ?_, ?_, ?_, ?_, ?_, ?_, ?_, ?_, ?_, ?_, trivial⟩
  ·intro a w3 hA K hK
   have t3 := hA.old 3 _ rfl rfl
   go_simp
   exact hK _ _ rfl (Below.refl _ _)
  ·intro a w3 hA K hK
   have t15 := bg_is hA 0 15
   go_simp
   exact hK _ _ Pg.fi_ (Below.refl _ _)
  ·intro a w3 hA K hK
   have t16 := bg_is hA 1 16
   go_simp
   exact hK _ _ rfl (Below.refl _ _)
  ·intro a w3 hA K hK
   have t2 := hA.old 2 _ rfl rfl
   go_simp
   exact hK _ _ rfl (Below.refl _ _)
  ·intro a w3 hA K hK
   have t18 := bg_is hA 3 18
   have k0 := (HG.below hA.grown).cell 1 rfl
   go_simp
   exact hK _ _ rfl (Below.refl _ _)
  ·intro a w3 hA K hK
   have t19 := bg_is hA 4 19
   go_simp
   exact hK _ _ Pg.fi_ (Below.refl _ _)
  ·intro a w3 hA K hK
   have t20 := bg_is hA 5 20
   go_simp
   exact hK _ _ Pg.fi_ (Below.refl _ _)
  ·intro a w3 hA K hK
   have t17 := bg_is hA 2 17
   have t21 := bg_is hA 6 21
   go_simp
   exact hK _ _ Pg.fi_ (Below.refl _ _)
  ·intro a w3 hA K hK
   have t22 := bg_is hA 7 22
   go_simp
   exact hK _ _ rfl (Below.refl _ _)
  ·intro a w3 hA K hK
   have t2 := hA.old 2 _ rfl rfl
   go_simp
   exact hK _ _ rfl (Below.refl _ _)
  ·intro a w3 hA K hK
   have t24 := bg_is hA 9 24
   have k0 := (HG.below hA.grown).cell 1 rfl
   go_simp
   exact hK _ _ rfl (Below.refl _ _)
  ·intro a w3 hA K hK
   have t25 := bg_is hA 10 25
   go_simp
   exact hK _ _ Pg.fi_ (Below.refl _ _)
  ·intro a w3 hA K hK
   have t26 := bg_is hA 11 26
   go_simp
   exact hK _ _ rfl (Below.refl _ _)
  ·intro a w3 hA K hK
   have t27 := bg_is hA 12 27
   have k0 := (HCL.out.below hbl hA.grown).at_ 1 rfl
   have k1 := (HCL.out.below hbl hA.grown).at_ 2 rfl
   have k2 := (HCL.out.below hbl hA.grown).at_ 3 rfl
   go_simp
   exact hK _ _ rfl (Below.refl _ _)
  ·intro a w3 hA K hK
   have hC := r2Int_Q 2 w3 (by omega) (by omega) rfl
   go_simp
   refine hC.mono ?_
   rintro e w4 ⟨y, rfl, hy, hb⟩
   exact hK _ _ (fun W hW => ⟨_, rfl, hy.below hW⟩) hb
  ·intro a w3 hA K hK
   have t28 := bg_is hA 13 28
   obtain ⟨v29, t29, p29⟩ := bg_such hA 14 29
   obtain ⟨y29, rfl, hy29⟩ := p29 w3 (Below.refl _ _)
   have hC := r2Same_Q w3 (HU.out.below hA.grown) hy29 (k := 1) (short_le short_two) (short_le short_two) (by omega) hE2
   go_simp
   refine hC.mono ?_
   rintro e w4 ⟨rfl, hb⟩
   exact hK _ _ rfl hb
  ·intro a w3 hA K hK
   have t23 := bg_is hA 8 23
   have t30 := bg_is hA 15 30
   go_simp
   exact hK _ _ Pg.fi_ (Below.refl _ _)
  ·intro a w3 hA K hK
   have t31 := bg_is hA 16 31
   go_simp
   exact hK _ _ Pg.fi_ (Below.refl _ _)
 rintro vs wv hV hbv hlk act hact
 repeat (replace hV := hV.is_; obtain ⟨_, rfl, hV⟩ := hV)
 replace hV := hV.such_; obtain ⟨v29, _, rfl, p29, hV⟩ := hV
 repeat (replace hV := hV.is_; obtain ⟨_, rfl, hV⟩ := hV)
 obtain rfl := hV.nil_
 clear hV
 clear hlk
 obtain ⟨y29, rfl, hy29⟩ := p29 wv (Below.refl _ _)
 clear p29
 simp only [putsO] at hact
 subst hact
 go_simp
 go_wp2_with fail
 go_ret
 exact ⟨rfl, Below.then_ hb2 hbv⟩
end Go.Proofs.Ytahdlpkncemmaaa
