/- Walks · Walks · The law AffOfs. Conditions: those that each theorem names. -/
import Derived.Test.YtahdlpkncemmaaaGreatZ43
import Derived.Test.YtahdlpkncemmaaaGreatZ48
import Derived.Test.YtahdlpkncemmaaaGreatZ31
import Derived.Test.YtahdlpkncemmaaaGreatZ39
import Derived.Test.YtahdlpkncemmaaaGreatZ40
namespace Pg
def OfX (t : PT) (v : EnvQ) (X : Except Nat CQ) : Prop := (t.is = false ∧ X = .error 5) ∨ (t.is = true ∧ ∃ e, PT.As t e ∧ X = sumX v e)
theorem ofX_one (t : PT) (v : EnvQ) (h : t.wt ≤ 768) : ∃ X, OfX t v X := by
 by_cases hi : t.is = true
 ·have ho : PT.ok 0 t = true := by rw [← PT.is_light h]; exact hi
  obtain ⟨e, he⟩ := PT.as_of_ok _ t 0 (Nat.le_refl _) ho
  exact ⟨_, .inr ⟨hi, e, he, rfl⟩⟩
 ·exact ⟨_, .inl ⟨by simpa using hi, rfl⟩⟩
theorem PT.wt_pos (t : PT) : 1 ≤ t.wt := by
 cases t; unfold PT.wt; omega
end Pg
namespace Go.Proofs.YtahdlpkncemmaaaGreat
open Go.RowKit Pg
set_option maxRecDepth 100000 in
set_option maxHeartbeats 2000000 in
theorem Of_C {t : PT} {v : Value} {x : EW} (w : World) (hv : PT.Val w v t) (hwt : t.wt ≤ 768) (hE : EnvAt w x) (hl : ∀ r ∈ x.vals, r.Le 3) (hn : x.vars.length ≤ 1000) {X : Except Nat CQ} (hX : OfX t x.q X) :
  Calls Tryz.prog 11 #[v, .agg #[.slice x.A0 x.n0 x.k0, .slice x.A1 x.n1 x.k1, .slice x.A2 x.n2 x.k2]] w (SumRet w X) := by
 obtain ⟨c0, c1, c2, c3, c4, c5, rfl⟩ := hv.six
 have HI := hid fun W (hW : Below w.heap.size w W) => eIs_any W (hv.below hW) (by omega)
 rcases hX with ⟨hi, rfl⟩ | ⟨hi, e, he, rfl⟩
 ·rw [hi] at HI
  clear hv hE
  go_enter Tryz.func11, Tryz.ntmps11
  go_upto_region 1 with fail
  refine wp_world (F := fun W => (Bs W w.heap.size 27 [c0, c1, c2, c3, c4, c5] ∧ Bs W (w.heap.size + 1) 31 [.slice x.A0 x.n0 x.k0, .slice x.A1 x.n1 x.k1, .slice x.A2 x.n2 x.k2] ∧ Bs W (w.heap.size + 2) 36 [.int .i64 0, .slice none 0 0, .bool false, .slice none 0 0, .slice none 0 0]) ∧ Below w.heap.size w W)
   ⟨⟨((Bs.new w _ _ _ rfl).alloc _).alloc _, (Bs.new _ _ _ _ (by simp)).alloc _, Bs.new _ _ _ _ (by simp)⟩, (by repeat first | exact Below.refl _ _ | assumption | refine Pg.Below.then_ ?_ (by assumption) | refine Pg.Below.new_ ?_ _ | refine Pg.Below.drewN_ ?_ _)⟩ ?_
  rintro w1 ⟨⟨HX, HV, HZ⟩, hb1⟩
  have a0 := HX.cell 0 rfl
  have a1 := HX.cell 1 rfl
  have a2 := HX.cell 2 rfl
  have a3 := HX.cell 3 rfl
  have a4 := HX.cell 4 rfl
  have a5 := HX.cell 5 rfl
  go_wp2_with (go_at_call 33; (with_reducible refine (HI.out _ hb1).mono ?_); rintro e w5 ⟨rfl, hb5⟩; have HZ5 := HZ.below hb5; have hbw := Below.then_ hb1 hb5; have HX5 := HX.below hb5; have HV5 := HV.below hb5; clear a0 a1 a2 a3 a4 a5; have f0 := HZ5.frozen 0; have f1 := HZ5.frozen 1; have f2 := HZ5.frozen 2; have f3 := HZ5.frozen 3; have f4 := HZ5.frozen 4; have z0 := HZ5.cell 0 rfl; have z1 := HZ5.cell 1 rfl; have z2 := HZ5.cell 2 rfl; have z3 := HZ5.cell 3 rfl; have z4 := HZ5.cell 4 rfl; have a0 := HX5.cell 0 rfl; have a1 := HX5.cell 1 rfl; have a2 := HX5.cell 2 rfl; have a3 := HX5.cell 3 rfl; have a4 := HX5.cell 4 rfl; have a5 := HX5.cell 5 rfl; have b0 := HV5.cell 0 rfl; have b1 := HV5.cell 1 rfl; have b2 := HV5.cell 2 rfl)
  refine bp_world (F := Stored w5 (w.heap.size + 1 + 1) 36 [.int .i64 0, .slice none 0 0, .bool false, .slice none 0 0, .slice none 0 0]) (stored5 HZ5) ?_
  rintro wz ⟨HS, ks, ss⟩
  have q0 := HS.cell 0 rfl
  have q1 := HS.cell 1 rfl
  have q2 := HS.cell 2 rfl
  have q3 := HS.cell 3 rfl
  have q4 := HS.cell 4 rfl
  refine bodyPost_ret (v := .tuple #[.agg #[.int .i64 0, .slice none 0 0, .bool false, .slice none 0 0, .slice none 0 0], .int .i64 5]) (by simp [results, Tryz.results11, go_sem, q0, q1, q2, q3, q4]) rfl ?_
  exact ⟨_, rfl, cw0_val _, hbw.trans (Below.kept ks (by omega) hbw.size)⟩
 ·rw [hi] at HI
  have HS := hid fun W (hW : Below w.heap.size w W) => sum_C hl hn e t.wt W _ (XE.Val.below hW e _ (he.val _ hv (by omega))) (PT.As.sz he _ hv) (by omega) t.wt_pos (hE.below hW)
  obtain ⟨X, hX⟩ : ∃ X, sumX x.q e = X := ⟨_, rfl⟩
  rw [hX] at HS ⊢
  clear hv hE hX he hi
  go_enter Tryz.func11, Tryz.ntmps11
  go_upto_region 1 with fail
  refine wp_world (F := fun W => (Bs W w.heap.size 27 [c0, c1, c2, c3, c4, c5] ∧ Bs W (w.heap.size + 1) 31 [.slice x.A0 x.n0 x.k0, .slice x.A1 x.n1 x.k1, .slice x.A2 x.n2 x.k2] ∧ Bs W (w.heap.size + 2) 36 [.int .i64 0, .slice none 0 0, .bool false, .slice none 0 0, .slice none 0 0]) ∧ Below w.heap.size w W)
   ⟨⟨((Bs.new w _ _ _ rfl).alloc _).alloc _, (Bs.new _ _ _ _ (by simp)).alloc _, Bs.new _ _ _ _ (by simp)⟩, (by repeat first | exact Below.refl _ _ | assumption | refine Pg.Below.then_ ?_ (by assumption) | refine Pg.Below.new_ ?_ _ | refine Pg.Below.drewN_ ?_ _)⟩ ?_
  rintro w1 ⟨⟨HX, HV, HZ⟩, hb1⟩
  have a0 := HX.cell 0 rfl
  have a1 := HX.cell 1 rfl
  have a2 := HX.cell 2 rfl
  have a3 := HX.cell 3 rfl
  have a4 := HX.cell 4 rfl
  have a5 := HX.cell 5 rfl
  go_wp2_with (first | (go_at_call 33; (with_reducible refine (HI.out _ hb1).mono ?_); rintro e w5 ⟨rfl, hb5⟩; have HZ5 := HZ.below hb5; have hbw := Below.then_ hb1 hb5; have HX5 := HX.below hb5; have HV5 := HV.below hb5; clear a0 a1 a2 a3 a4 a5; have f0 := HZ5.frozen 0; have f1 := HZ5.frozen 1; have f2 := HZ5.frozen 2; have f3 := HZ5.frozen 3; have f4 := HZ5.frozen 4; have z0 := HZ5.cell 0 rfl; have z1 := HZ5.cell 1 rfl; have z2 := HZ5.cell 2 rfl; have z3 := HZ5.cell 3 rfl; have z4 := HZ5.cell 4 rfl; have a0 := HX5.cell 0 rfl; have a1 := HX5.cell 1 rfl; have a2 := HX5.cell 2 rfl; have a3 := HX5.cell 3 rfl; have a4 := HX5.cell 4 rfl; have a5 := HX5.cell 5 rfl; have b0 := HV5.cell 0 rfl; have b1 := HV5.cell 1 rfl; have b2 := HV5.cell 2 rfl) | (go_at_call 34; (with_reducible refine (HS.out _ hbw).mono ?_); rintro e w6 ⟨v6, rfl, hv6, hb6⟩; obtain ⟨T6, n6, m6, y6, rfl, hc6⟩ := hv6.cv; have HZ6 := HZ5.below hb6; have hbz := Below.then_ hbw hb6; clear f0 f1 f2 f3 f4 z0 z1 z2 z3 z4; have f0 := HZ6.frozen 0; have f1 := HZ6.frozen 1; have f2 := HZ6.frozen 2; have f3 := HZ6.frozen 3; have f4 := HZ6.frozen 4; have z0 := HZ6.cell 0 rfl; have z1 := HZ6.cell 1 rfl; have z2 := HZ6.cell 2 rfl; have z3 := HZ6.cell 3 rfl; have z4 := HZ6.cell 4 rfl))
  refine bp_world (F := Stored w6 (w.heap.size + 1 + 1) 36 [.int .i64 (conOf X).s, .slice T6 n6 m6, .bool y6.s, .slice y6.A y6.n y6.c, .slice y6.A' y6.n' y6.c']) (stored5 HZ6) ?_
  rintro wz ⟨HS, ks, ss⟩
  have q0 := HS.cell 0 rfl
  have q1 := HS.cell 1 rfl
  have q2 := HS.cell 2 rfl
  have q3 := HS.cell 3 rfl
  have q4 := HS.cell 4 rfl
  refine bodyPost_ret (v := .tuple #[.agg #[.int .i64 (conOf X).s, .slice T6 n6 m6, .bool y6.s, .slice y6.A y6.n y6.c, .slice y6.A' y6.n' y6.c'], .int .i64 (errOf X : Int)]) (by simp [results, Tryz.results11, go_sem, q0, q1, q2, q3, q4]) rfl ?_
  exact ⟨_, rfl, (hc6.kept HZ6 conU0 noT_con ks).val, hbz.trans (Below.kept ks (by omega) hbz.size)⟩
set_option maxRecDepth 100000 in
set_option maxHeartbeats 2000000 in
theorem rOf_C {t : PT} {v : Value} {x : EW} (w : World) (hv : PT.Val w v t) (hwt : t.wt ≤ 768) (hE : EnvAt w x) (hl : ∀ r ∈ x.vals, r.Le 3) (hn : x.vars.length ≤ 1000) {X : Except Nat CQ} (hX : OfX t x.q X) :
  Calls Tryz.prog 12 #[v, .agg #[.slice x.A0 x.n0 x.k0, .slice x.A1 x.n1 x.k1, .slice x.A2 x.n2 x.k2]] w (SumRet w X) := by
 obtain ⟨c0, c1, c2, c3, c4, c5, rfl⟩ := hv.six
 have HI := hid fun W (hW : Below w.heap.size w W) => is5_any W (hv.below hW) (by omega)
 rcases hX with ⟨hi, rfl⟩ | ⟨hi, e, he, rfl⟩
 ·rw [hi] at HI
  clear hv hE
  go_enter Tryz.func12, Tryz.ntmps12
  go_upto_region 1 with fail
  refine wp_world (F := fun W => (Bs W w.heap.size 27 [c0, c1, c2, c3, c4, c5] ∧ Bs W (w.heap.size + 1) 42 [.slice x.A0 x.n0 x.k0, .slice x.A1 x.n1 x.k1, .slice x.A2 x.n2 x.k2] ∧ Bs W (w.heap.size + 2) 36 [.int .i64 0, .slice none 0 0, .bool false, .slice none 0 0, .slice none 0 0]) ∧ Below w.heap.size w W)
   ⟨⟨((Bs.new w _ _ _ rfl).alloc _).alloc _, (Bs.new _ _ _ _ (by simp)).alloc _, Bs.new _ _ _ _ (by simp)⟩, (by repeat first | exact Below.refl _ _ | assumption | refine Pg.Below.then_ ?_ (by assumption) | refine Pg.Below.new_ ?_ _ | refine Pg.Below.drewN_ ?_ _)⟩ ?_
  rintro w1 ⟨⟨HX, HV, HZ⟩, hb1⟩
  have a0 := HX.cell 0 rfl
  have a1 := HX.cell 1 rfl
  have a2 := HX.cell 2 rfl
  have a3 := HX.cell 3 rfl
  have a4 := HX.cell 4 rfl
  have a5 := HX.cell 5 rfl
  go_wp2_with (go_at_call 30; (with_reducible refine (HI.out _ hb1).mono ?_); rintro e w5 ⟨rfl, hb5⟩; have HZ5 := HZ.below hb5; have hbw := Below.then_ hb1 hb5; have HX5 := HX.below hb5; have HV5 := HV.below hb5; clear a0 a1 a2 a3 a4 a5; have f0 := HZ5.frozen 0; have f1 := HZ5.frozen 1; have f2 := HZ5.frozen 2; have f3 := HZ5.frozen 3; have f4 := HZ5.frozen 4; have z0 := HZ5.cell 0 rfl; have z1 := HZ5.cell 1 rfl; have z2 := HZ5.cell 2 rfl; have z3 := HZ5.cell 3 rfl; have z4 := HZ5.cell 4 rfl; have a0 := HX5.cell 0 rfl; have a1 := HX5.cell 1 rfl; have a2 := HX5.cell 2 rfl; have a3 := HX5.cell 3 rfl; have a4 := HX5.cell 4 rfl; have a5 := HX5.cell 5 rfl; have b0 := HV5.cell 0 rfl; have b1 := HV5.cell 1 rfl; have b2 := HV5.cell 2 rfl)
  refine bp_world (F := Stored w5 (w.heap.size + 1 + 1) 36 [.int .i64 0, .slice none 0 0, .bool false, .slice none 0 0, .slice none 0 0]) (stored5 HZ5) ?_
  rintro wz ⟨HS, ks, ss⟩
  have q0 := HS.cell 0 rfl
  have q1 := HS.cell 1 rfl
  have q2 := HS.cell 2 rfl
  have q3 := HS.cell 3 rfl
  have q4 := HS.cell 4 rfl
  refine bodyPost_ret (v := .tuple #[.agg #[.int .i64 0, .slice none 0 0, .bool false, .slice none 0 0, .slice none 0 0], .int .i64 5]) (by simp [results, Tryz.results12, go_sem, q0, q1, q2, q3, q4]) rfl ?_
  exact ⟨_, rfl, cw0_val _, hbw.trans (Below.kept ks (by omega) hbw.size)⟩
 ·rw [hi] at HI
  have HS := hid fun W (hW : Below w.heap.size w W) => of_C hl hn e t.wt W _ (XE.Val.below hW e _ (he.val _ hv (by omega))) (PT.As.sz he _ hv) (by omega) t.wt_pos (hE.below hW)
  obtain ⟨X, hX⟩ : ∃ X, sumX x.q e = X := ⟨_, rfl⟩
  rw [hX] at HS ⊢
  clear hv hE hX he hi
  go_enter Tryz.func12, Tryz.ntmps12
  go_upto_region 1 with fail
  refine wp_world (F := fun W => (Bs W w.heap.size 27 [c0, c1, c2, c3, c4, c5] ∧ Bs W (w.heap.size + 1) 42 [.slice x.A0 x.n0 x.k0, .slice x.A1 x.n1 x.k1, .slice x.A2 x.n2 x.k2] ∧ Bs W (w.heap.size + 2) 36 [.int .i64 0, .slice none 0 0, .bool false, .slice none 0 0, .slice none 0 0]) ∧ Below w.heap.size w W)
   ⟨⟨((Bs.new w _ _ _ rfl).alloc _).alloc _, (Bs.new _ _ _ _ (by simp)).alloc _, Bs.new _ _ _ _ (by simp)⟩, (by repeat first | exact Below.refl _ _ | assumption | refine Pg.Below.then_ ?_ (by assumption) | refine Pg.Below.new_ ?_ _ | refine Pg.Below.drewN_ ?_ _)⟩ ?_
  rintro w1 ⟨⟨HX, HV, HZ⟩, hb1⟩
  have a0 := HX.cell 0 rfl
  have a1 := HX.cell 1 rfl
  have a2 := HX.cell 2 rfl
  have a3 := HX.cell 3 rfl
  have a4 := HX.cell 4 rfl
  have a5 := HX.cell 5 rfl
  go_wp2_with (first | (go_at_call 30; (with_reducible refine (HI.out _ hb1).mono ?_); rintro e w5 ⟨rfl, hb5⟩; have HZ5 := HZ.below hb5; have hbw := Below.then_ hb1 hb5; have HX5 := HX.below hb5; have HV5 := HV.below hb5; clear a0 a1 a2 a3 a4 a5; have f0 := HZ5.frozen 0; have f1 := HZ5.frozen 1; have f2 := HZ5.frozen 2; have f3 := HZ5.frozen 3; have f4 := HZ5.frozen 4; have z0 := HZ5.cell 0 rfl; have z1 := HZ5.cell 1 rfl; have z2 := HZ5.cell 2 rfl; have z3 := HZ5.cell 3 rfl; have z4 := HZ5.cell 4 rfl; have a0 := HX5.cell 0 rfl; have a1 := HX5.cell 1 rfl; have a2 := HX5.cell 2 rfl; have a3 := HX5.cell 3 rfl; have a4 := HX5.cell 4 rfl; have a5 := HX5.cell 5 rfl; have b0 := HV5.cell 0 rfl; have b1 := HV5.cell 1 rfl; have b2 := HV5.cell 2 rfl) | (go_at_call 35; (with_reducible refine (HS.out _ hbw).mono ?_); rintro e w6 ⟨v6, rfl, hv6, hb6⟩; obtain ⟨T6, n6, m6, y6, rfl, hc6⟩ := hv6.cv; have HZ6 := HZ5.below hb6; have hbz := Below.then_ hbw hb6; clear f0 f1 f2 f3 f4 z0 z1 z2 z3 z4; have f0 := HZ6.frozen 0; have f1 := HZ6.frozen 1; have f2 := HZ6.frozen 2; have f3 := HZ6.frozen 3; have f4 := HZ6.frozen 4; have z0 := HZ6.cell 0 rfl; have z1 := HZ6.cell 1 rfl; have z2 := HZ6.cell 2 rfl; have z3 := HZ6.cell 3 rfl; have z4 := HZ6.cell 4 rfl))
  refine bp_world (F := Stored w6 (w.heap.size + 1 + 1) 36 [.int .i64 (conOf X).s, .slice T6 n6 m6, .bool y6.s, .slice y6.A y6.n y6.c, .slice y6.A' y6.n' y6.c']) (stored5 HZ6) ?_
  rintro wz ⟨HS, ks, ss⟩
  have q0 := HS.cell 0 rfl
  have q1 := HS.cell 1 rfl
  have q2 := HS.cell 2 rfl
  have q3 := HS.cell 3 rfl
  have q4 := HS.cell 4 rfl
  refine bodyPost_ret (v := .tuple #[.agg #[.int .i64 (conOf X).s, .slice T6 n6 m6, .bool y6.s, .slice y6.A y6.n y6.c, .slice y6.A' y6.n' y6.c'], .int .i64 (errOf X : Int)]) (by simp [results, Tryz.results12, go_sem, q0, q1, q2, q3, q4]) rfl ?_
  exact ⟨_, rfl, (hc6.kept HZ6 conU0 noT_con ks).val, hbz.trans (Below.kept ks (by omega) hbz.size)⟩
end Go.Proofs.YtahdlpkncemmaaaGreat
namespace Go.Proofs.YtahdlpkncemmaaaGreat
open Go.RowKit Pg
set_option maxRecDepth 100000 in
set_option maxHeartbeats 2000000 in
theorem long8_any {x : EW} (w : World) (hE : EnvAt w x) :
  Calls Tryz.prog 10 #[.agg #[.slice x.A0 x.n0 x.k0, .slice x.A1 x.n1 x.k1, .slice x.A2 x.n2 x.k2]] w (ManyRet w (x.vars.length ≤ 20 ∧ ∀ r ∈ x.vals, r.Le 3)) := by
 have HM := hid fun W (hW : Below w.heap.size w W) => many8_any W (hE.vals.below rawAt_stays hW)
 have hv : x.vars.length = x.n0 := hE.vars.1
 rw [hv]
 have HX := hid (Bs.new w 31 [.slice x.A0 x.n0 x.k0, .slice x.A1 x.n1 x.k1, .slice x.A2 x.n2 x.k2] _ rfl)
 clear hE hv
 have b0 := HX.out.cell 0 rfl
 have b1 := HX.out.cell 1 rfl
 have b2 := HX.out.cell 2 rfl
 go_enter Tryz.func10, Tryz.ntmps10
 by_cases h0 : x.n0 ≤ 20
 ·have d0 : decide ((20 : Int) < (x.n0 : Int)) = false := decide_eq_false (by omega)
  by_cases h1 : x.n1 ≤ 20
  ·have d1 : decide ((20 : Int) < (x.n1 : Int)) = false := decide_eq_false (by omega)
   go_wp2_with (go_at_call 16; (with_reducible refine (HM.out _ (by repeat first | exact Below.refl _ _ | assumption | refine Pg.Below.then_ ?_ (by assumption) | refine Pg.Below.new_ ?_ _ | refine Pg.Below.drewN_ ?_ _)).mono ?_); rintro e w5 ⟨B, rfl, hB, hb5⟩; rcases B with _ | _)
   all_goals go_ret
   ·exact ⟨_, rfl, fun _ => ⟨h0, (hB (by first | exact rfl | trivial)).2⟩, (by repeat first | exact Below.refl _ _ | assumption | refine Pg.Below.then_ ?_ (by assumption) | refine Pg.Below.new_ ?_ _ | refine Pg.Below.drewN_ ?_ _)⟩
   ·exact ⟨_, rfl, fun h => Bool.noConfusion h, (by repeat first | exact Below.refl _ _ | assumption | refine Pg.Below.then_ ?_ (by assumption) | refine Pg.Below.new_ ?_ _ | refine Pg.Below.drewN_ ?_ _)⟩
  ·have d1 : decide ((20 : Int) < (x.n1 : Int)) = true := decide_eq_true (by omega)
   go_wp2_with fail
   go_ret
   exact ⟨_, rfl, fun h => Bool.noConfusion h, (by repeat first | exact Below.refl _ _ | assumption | refine Pg.Below.then_ ?_ (by assumption) | refine Pg.Below.new_ ?_ _ | refine Pg.Below.drewN_ ?_ _)⟩
 ·have d0 : decide ((20 : Int) < (x.n0 : Int)) = true := decide_eq_true (by omega)
  go_wp2_with fail
  go_ret
  exact ⟨_, rfl, fun h => Bool.noConfusion h, (by repeat first | exact Below.refl _ _ | assumption | refine Pg.Below.then_ ?_ (by assumption) | refine Pg.Below.new_ ?_ _ | refine Pg.Below.drewN_ ?_ _)⟩
def knA : PT := .mk 2 ⟨false, [], []⟩ [97] []
def knT : PT := .mk 3 ⟨false, [], []⟩ [] [knA, knA]
def knE (g : Nat) : EW := ⟨some ⟨g, 0, none⟩, none, none, 1, 1, 0, 0, 0, 0, [[97]], [], []⟩
theorem knX (g : Nat) : OfX knT (knE g).q (.ok ⟨0, [⟨0, 2⟩], 0⟩) := by
 refine .inr ⟨by decide, .bin 3 (.name [97]) (.name [97]), .bin 3 _ _ _ _ _ _ (by omega) (by omega) (.name _ _ _) (.name _ _ _), ?_⟩
 have hi : idx [[97]] [97] = some 0 := rfl
 have h2 : (1 : Rat) + 1 = 2 := (Rat.intCast_add 1 1).symm
 have h3 : (0 : Rat) + 0 = 0 := Rat.add_zero 0
 have h4 : ¬ (2 : Rat) = 0 := by decide
 simp [sumX, nameC, EW.q, knE, hi, binC, addC, addT, keepT, h2, h3, h4]
theorem kn_env {w : World} {g : Nat} {t : TypeId} (h : Bs w g t [.string (str [97])]) : EnvAt w (knE g) := by
 refine ⟨⟨rfl, Nat.le_refl _, by simp only [knE]; omega, by simp only [knE]; omega, fun e => by simp [knE] at e, fun _ => ⟨g, 0, rfl, h.lt, ?_⟩⟩, ⟨rfl, Nat.le_refl _, Nat.zero_le _, Nat.zero_le _, fun _ => rfl, fun h => absurd h (Nat.lt_irrefl 0)⟩, ⟨rfl, Nat.le_refl _, Nat.zero_le _, Nat.zero_le _, fun _ => rfl, fun h => absurd h (Nat.lt_irrefl 0)⟩⟩
 intro j x hj
 cases j with
 | zero =>
  obtain rfl : [97] = x := by simpa [knE] using hj
  refine ⟨fun q hq => ?_, by decide⟩
  obtain rfl : q = 0 := by simp at hq; exact hq
  exact h.cell 0 rfl
 | succ j => simp [knE] at hj
theorem kn_val {w : World} {g : Nat} {t : TypeId} (h : Bs w g t [.int .i64 2, .bool false, .slice none 0 0, .slice none 0 0, .string (str [97]), .slice none 0 0, .int .i64 2, .bool false, .slice none 0 0, .slice none 0 0, .string (str [97]), .slice none 0 0]) : PT.Val w (.agg #[.int .i64 3, .bool false, .slice none 0 0, .slice none 0 0, .string (str []), .slice (some ⟨g, 0, none⟩) 2 2]) knT := by
 have hat : ∀ o, (∀ q, q < 6 → w.cell? ⟨g, o + q, none⟩ = [.int .i64 2, .bool false, .slice none 0 0, .slice none 0 0, .string (str [97]), .slice none 0 0][q]?) → PT.At w knA g o := by
  intro o ho
  unfold knA PT.At
  exact ⟨_, _, _, none, 0, fun q hq => ho q hq, rw0_at w, by decide, by decide, by decide, fun h => absurd h (by decide)⟩
 refine ⟨_, _, _, _, 2, rfl, rw0_at w, by decide, by decide, by decide, fun _ => ⟨g, 0, rfl, h.lt, ?_⟩⟩
 unfold PT.Ats PT.Ats PT.Ats
 refine ⟨hat 0 ?_, hat (0 + 6) ?_, trivial⟩
 ·intro q hq
  rcases (by omega : q = 0 ∨ q = 1 ∨ q = 2 ∨ q = 3 ∨ q = 4 ∨ q = 5) with rfl | rfl | rfl | rfl | rfl | rfl
  ·exact h.cell 0 rfl
  ·exact h.cell 1 rfl
  ·exact h.cell 2 rfl
  ·exact h.cell 3 rfl
  ·exact h.cell 4 rfl
  ·exact h.cell 5 rfl
 ·intro q hq
  rcases (by omega : q = 0 ∨ q = 1 ∨ q = 2 ∨ q = 3 ∨ q = 4 ∨ q = 5) with rfl | rfl | rfl | rfl | rfl | rfl
  ·exact h.cell 6 rfl
  ·exact h.cell 7 rfl
  ·exact h.cell 8 rfl
  ·exact h.cell 9 rfl
  ·exact h.cell 10 rfl
  ·exact h.cell 11 rfl
theorem short_two : Short 2 1 := ⟨by rw [show (2 : Rat) = ((2 : Int) : Rat) from rfl, rnum_int]; exact length_limbs_le (by decide), by rw [show (2 : Rat) = ((2 : Int) : Rat) from rfl, rden_int]; exact length_limbs_le (by decide)⟩
set_option maxRecDepth 100000 in
set_option maxHeartbeats 2000000 in
theorem kn_of (w : World) {g h : Nat} (HG : Bs w g 27 [.int .i64 2, .bool false, .slice none 0 0, .slice none 0 0, .string (str [97]), .slice none 0 0, .int .i64 2, .bool false, .slice none 0 0, .slice none 0 0, .string (str [97]), .slice none 0 0]) (HH : Bs w h 9 [.string (str [97])]) :
  Calls Tryz.prog 11 #[.agg #[.int .i64 3, .bool false, .slice none 0 0, .slice none 0 0, .string (str []), .slice (some ⟨g, 0, none⟩) 2 2], .agg #[.slice (some ⟨h, 0, none⟩) 1 1, .slice none 0 0, .slice none 0 0]] w (SumRet w (.ok ⟨0, [⟨0, 2⟩], 0⟩)) :=
 Of_C (x := knE h) w (kn_val HG) (by decide) (kn_env HH) (fun r hr => by simp [knE] at hr) (by simp [knE]) (knX h)
set_option maxRecDepth 100000 in
set_option maxHeartbeats 2000000 in
theorem known8_any (w : World) : Calls Tryz.prog 14 #[] w fun e w' => e = .returned (.bool true) ∧ Below w.heap.size w w' := by
 go_enter Tryz.func14, Tryz.ntmps14
 go_wp2_with (go_at_call 11; (refine (kn_of _ (g := w.heap.size + 1) (h := w.heap.size + 1 + 1) ((Bs.new _ _ _ _ (by simp)).alloc _) (Bs.new _ _ _ _ (by simp))).mono ?_); rintro e w5 ⟨v5, rfl, hv5, hb5⟩; obtain ⟨T5, n5, m5, y5, rfl, hc5⟩ := hv5.cv; have hbw : Below w.heap.size w w5 := (by repeat first | exact Below.refl _ _ | assumption | refine Pg.Below.then_ ?_ (by assumption) | refine Pg.Below.new_ ?_ _ | refine Pg.Below.drewN_ ?_ _))
 refine wp_world (F := fun W => (Bs W w5.heap.size 36 [.int .i64 0, .slice T5 n5 m5, .bool y5.s, .slice y5.A y5.n y5.c, .slice y5.A' y5.n' y5.c'] ∧ CV W T5 n5 m5 y5 (conOf (.ok ⟨0, [⟨0, 2⟩], 0⟩))) ∧ Below w.heap.size w W) ⟨⟨Bs.new _ _ _ _ rfl, hc5.below (Below.new_ (Below.refl _ _) _)⟩, (by repeat first | exact Below.refl _ _ | assumption | refine Pg.Below.then_ ?_ (by assumption) | refine Pg.Below.new_ ?_ _ | refine Pg.Below.drewN_ ?_ _)⟩ ?_
 rintro w2 ⟨⟨HG, hcv⟩, hb2⟩
 clear hb5 hv5 hc5 hbw
 obtain ⟨g, hg⟩ : ∃ g, w5.heap.size = g := ⟨_, rfl⟩
 rw [hg] at HG ⊢
 clear hg
 have hS := hcv.1
 clear hcv
 have e1 : 1 = n5 := hS.1
 have e6 := hS.2.2.2.2.2
 clear hS
 subst e1
 obtain ⟨b, o, rfl, hbl, hx⟩ := e6 (by omega)
 obtain ⟨x0, x1, x2, hca, hu0⟩ := hx 0 ⟨0, rwOf 2⟩ rfl
 obtain ⟨u, rfl, rfl, rfl, hu⟩ := rows_rv hu0
 rw [Nat.zero_mul, Nat.add_zero] at hca
 have HCL := hid hca
 have HU := hid hu
 have hE2 : eqQ (rwOf 2).q (rwOf 2).q = true := by simp [eqQ]
 clear hca hu hu0 hx
 go_upto_region 3 with fail
 refine draw_G (fun _ _ => False) (fun W => Below w2.heap.size w2 W) 18 none [some 15, some 16, some 17, some 18, some 19, some 20, some 21, some 22, some 23, some 24, some 25, some 26, some 27, some 28, some 29, some 30, some 31, some 0] [.is (.int .i64 0), .is (.bool true), .is (.bool true), .is (.pointer (some ⟨g, 1, none⟩)), .is (.slice (some ⟨b, o, none⟩) 1 m5), .is (.int .i64 1), .is (.bool true), .is (.bool true), .is (.bool true), .is (.pointer (some ⟨g, 1, none⟩)), .is (.slice (some ⟨b, o, none⟩) 1 m5), .is (.pointer (some ⟨b, o, none⟩)), .is (.pointer (some ⟨b, o + 1, none⟩)), .is (.agg #[.bool u.s, .slice u.A u.n u.c, .slice u.A' u.n' u.c']), .such (fun W v => ∃ (yX : RV), v = .agg #[.bool yX.s, .slice yX.A yX.n yX.c, .slice yX.A' yX.n' yX.c'] ∧ yX.at W (rwOf (2))), .is (.bool true), .is (.bool true), .is (.bool true)]
  (by kernel_rfl) (by kernel_rfl) (by kernel_rfl) (by kernel_rfl) rfl (by kernel_rfl) (fun _ h => h) (fun _ _ h hb => Below.then_ h hb) (fun _ _ _ h => h.elim) (fun _ _ _ _ _ _ h => h.elim) ?_ ?_
 ·refine ⟨?_, ?_, ?_, ?_, ?_, ?_, ?_, ?_, ?_, ?_, ?_, ?_, ?_, ?_, ?_, ?_, ?_, ?_, trivial⟩
  ·intro a w3 hA K hK
   have t3 := hA.old 3 _ rfl rfl
   go_simp
   exact hK _ _ rfl (Below.refl _ _)
  ·intro a w3 hA K hK
   have t15 := bg_is hA 0 15 rfl rfl (by kernel_rfl)
   go_simp
   exact hK _ _ (by first | rfl | exact congrArg _ (by first | rfl | omega | (rw [IntKind.wrap_i64]; omega))) (Below.refl _ _)
  ·intro a w3 hA K hK
   have t16 := bg_is hA 1 16 rfl rfl (by kernel_rfl)
   go_simp
   exact hK _ _ rfl (Below.refl _ _)
  ·intro a w3 hA K hK
   have t2 := hA.old 2 _ rfl rfl
   go_simp
   exact hK _ _ rfl (Below.refl _ _)
  ·intro a w3 hA K hK
   have t18 := bg_is hA 3 18 rfl rfl (by kernel_rfl)
   have k0 := (HG.below hA.grown).cell 1 rfl
   go_simp
   exact hK _ _ rfl (Below.refl _ _)
  ·intro a w3 hA K hK
   have t19 := bg_is hA 4 19 rfl rfl (by kernel_rfl)
   go_simp
   exact hK _ _ (by first | rfl | exact congrArg _ (by first | rfl | omega | (rw [IntKind.wrap_i64]; omega))) (Below.refl _ _)
  ·intro a w3 hA K hK
   have t20 := bg_is hA 5 20 rfl rfl (by kernel_rfl)
   go_simp
   exact hK _ _ (by first | rfl | exact congrArg _ (by first | rfl | omega | (rw [IntKind.wrap_i64]; omega))) (Below.refl _ _)
  ·intro a w3 hA K hK
   have t17 := bg_is hA 2 17 rfl rfl (by kernel_rfl)
   have t21 := bg_is hA 6 21 rfl rfl (by kernel_rfl)
   go_simp
   exact hK _ _ (by first | rfl | exact congrArg _ (by first | rfl | omega | (rw [IntKind.wrap_i64]; omega))) (Below.refl _ _)
  ·intro a w3 hA K hK
   have t22 := bg_is hA 7 22 rfl rfl (by kernel_rfl)
   go_simp
   exact hK _ _ rfl (Below.refl _ _)
  ·intro a w3 hA K hK
   have t2 := hA.old 2 _ rfl rfl
   go_simp
   exact hK _ _ rfl (Below.refl _ _)
  ·intro a w3 hA K hK
   have t24 := bg_is hA 9 24 rfl rfl (by kernel_rfl)
   have k0 := (HG.below hA.grown).cell 1 rfl
   go_simp
   exact hK _ _ rfl (Below.refl _ _)
  ·intro a w3 hA K hK
   have t25 := bg_is hA 10 25 rfl rfl (by kernel_rfl)
   go_simp
   exact hK _ _ (by first | rfl | exact congrArg _ (by first | rfl | omega | (rw [IntKind.wrap_i64]; omega))) (Below.refl _ _)
  ·intro a w3 hA K hK
   have t26 := bg_is hA 11 26 rfl rfl (by kernel_rfl)
   go_simp
   exact hK _ _ rfl (Below.refl _ _)
  ·intro a w3 hA K hK
   have t27 := bg_is hA 12 27 rfl rfl (by kernel_rfl)
   have k0 := (HCL.out.below hbl hA.grown).at_ 1 rfl
   have k1 := (HCL.out.below hbl hA.grown).at_ 2 rfl
   have k2 := (HCL.out.below hbl hA.grown).at_ 3 rfl
   go_simp
   exact hK _ _ rfl (Below.refl _ _)
  ·intro a w3 hA K hK
   have hC := r2Int_Q 2 w3 (by omega) (by omega) rfl
   go_simp
   refine hC.mono ?_
   rintro e w4 ⟨y, rfl, hy, hb⟩
   exact hK _ _ (fun W hW => ⟨_, rfl, hy.below hW⟩) hb
  ·intro a w3 hA K hK
   have t28 := bg_is hA 13 28 rfl rfl (by kernel_rfl)
   obtain ⟨v29, t29, p29⟩ := bg_such hA 14 29 rfl rfl (by kernel_rfl)
   obtain ⟨y29, rfl, hy29⟩ := p29 w3 (Below.refl _ _)
   have hC := r2Same_Q w3 (HU.out.below hA.grown) hy29 (k := 1) (short_le short_two) (short_le short_two) (by omega) hE2
   go_simp
   refine hC.mono ?_
   rintro e w4 ⟨rfl, hb⟩
   exact hK _ _ rfl hb
  ·intro a w3 hA K hK
   have t23 := bg_is hA 8 23 rfl rfl (by kernel_rfl)
   have t30 := bg_is hA 15 30 rfl rfl (by kernel_rfl)
   go_simp
   exact hK _ _ (by first | rfl | exact congrArg _ (by first | rfl | omega | (rw [IntKind.wrap_i64]; omega))) (Below.refl _ _)
  ·intro a w3 hA K hK
   have t31 := bg_is hA 16 31 rfl rfl (by kernel_rfl)
   go_simp
   exact hK _ _ (by first | rfl | exact congrArg _ (by first | rfl | omega | (rw [IntKind.wrap_i64]; omega))) (Below.refl _ _)
 rintro vs wv hV hbv hlk act hact
 replace hV := hV.is_; obtain ⟨_, rfl, hV⟩ := hV
 replace hV := hV.is_; obtain ⟨_, rfl, hV⟩ := hV
 replace hV := hV.is_; obtain ⟨_, rfl, hV⟩ := hV
 replace hV := hV.is_; obtain ⟨_, rfl, hV⟩ := hV
 replace hV := hV.is_; obtain ⟨_, rfl, hV⟩ := hV
 replace hV := hV.is_; obtain ⟨_, rfl, hV⟩ := hV
 replace hV := hV.is_; obtain ⟨_, rfl, hV⟩ := hV
 replace hV := hV.is_; obtain ⟨_, rfl, hV⟩ := hV
 replace hV := hV.is_; obtain ⟨_, rfl, hV⟩ := hV
 replace hV := hV.is_; obtain ⟨_, rfl, hV⟩ := hV
 replace hV := hV.is_; obtain ⟨_, rfl, hV⟩ := hV
 replace hV := hV.is_; obtain ⟨_, rfl, hV⟩ := hV
 replace hV := hV.is_; obtain ⟨_, rfl, hV⟩ := hV
 replace hV := hV.is_; obtain ⟨_, rfl, hV⟩ := hV
 replace hV := hV.such_; obtain ⟨v29, _, rfl, p29, hV⟩ := hV
 replace hV := hV.is_; obtain ⟨_, rfl, hV⟩ := hV
 replace hV := hV.is_; obtain ⟨_, rfl, hV⟩ := hV
 replace hV := hV.is_; obtain ⟨_, rfl, hV⟩ := hV
 obtain rfl := hV.nil_
 clear hV
 clear hlk
 obtain ⟨y29, rfl, hy29⟩ := p29 wv (Below.refl _ _)
 clear p29
 simp only [putsO] at hact
 subst hact
 go_simp
 go_wp2_with fail
 go_ret
 exact ⟨rfl, Below.then_ hb2 hbv⟩
end Go.Proofs.YtahdlpkncemmaaaGreat
namespace Go.Proofs.YtahdlpkncemmaaaGreat
open Go.RowKit Pg
theorem cw0_le (k : Nat) : cw0.Le k := ⟨fun t ht => by simp [cw0] at ht, Nat.zero_le _, Nat.zero_le _⟩
theorem ofX_le {w : World} {v : Value} {t : PT} {x : EW} {X : Except Nat CQ} (hv : PT.Val w v t) (hE : EnvAt w x) (hl : ∀ r ∈ x.vals, r.Le 3) (hX : OfX t x.q X) (hwt : t.wt ≤ 768) : (conOf X).Le 768 := by
 rcases hX with ⟨_, rfl⟩ | ⟨_, e, he, rfl⟩
 ·exact cw0_le _
 ·cases hs : sumX x.q e with
  | error y => exact cw0_le _
  | ok c => exact (sumX_short x.q (short_of_at hE.vals hl (by omega)) e 768 c (SzX.mono (PT.As.sz he _ hv) hwt) hs).le
set_option maxRecDepth 100000 in
set_option maxHeartbeats 8000000 in
theorem law_AffOfs (v0 v1 : Value) (t : PT) (x : EW) (w : World) (hv : PT.Val w v0 t) (h1 : EnvArg w v1 x) :
  Calls Tryz.prog 3 #[v0, v1] w fun e w' => e = .returned (.bool true) ∧ Below w.heap.size w w' := by
 obtain ⟨rfl, hE⟩ := h1
 unfold EW.val
 obtain ⟨X, hX⟩ : ∃ X, t.wt ≤ 768 → OfX t x.q X := by
  by_cases h : t.wt ≤ 768
  ·obtain ⟨X, h⟩ := ofX_one t x.q h
   exact ⟨X, fun _ => h⟩
  ·exact ⟨.error 5, fun h' => absurd h' h⟩
 have HW := hid fun W (hW : Below w.heap.size w W) => weight8_any _ t (Nat.le_refl _) 300 v0 W (hv.below hW) (by omega) (by omega)
 have HL := hid fun W (hW : Below w.heap.size w W) => long8_any W (hE.below hW)
 have HO := hid fun W (hW : Below w.heap.size w W) (hwt : t.wt ≤ 300) (hl : ∀ r ∈ x.vals, r.Le 3) (hn : x.vars.length ≤ 1000) => Of_C W (hv.below hW) (by omega) (hE.below hW) hl hn (hX (by omega))
 have HR := hid fun W (hW : Below w.heap.size w W) (hwt : t.wt ≤ 300) (hl : ∀ r ∈ x.vals, r.Le 3) (hn : x.vars.length ≤ 1000) => rOf_C W (hv.below hW) (by omega) (hE.below hW) hl hn (hX (by omega))
 have HLe := hid fun (hwt : t.wt ≤ 300) (hl : ∀ r ∈ x.vals, r.Le 3) => ofX_le hv hE hl (hX (by omega)) (by omega)
 obtain ⟨c0, c1, c2, c3, c4, c5, rfl⟩ := hv.six
 clear hv hE hX
 go_enter Tryz.func3, Tryz.ntmps3
 go_upto_region 1 with fail
 refine wp_world (F := fun W => (Bs W w.heap.size 27 [c0, c1, c2, c3, c4, c5] ∧ Bs W (w.heap.size + 1) 31 [.slice x.A0 x.n0 x.k0, .slice x.A1 x.n1 x.k1, .slice x.A2 x.n2 x.k2]) ∧ Below w.heap.size w W)
  ⟨⟨(Bs.new w _ _ _ rfl).alloc _, Bs.new _ _ _ _ (by simp)⟩, (by repeat first | exact Below.refl _ _ | assumption | refine Pg.Below.then_ ?_ (by assumption) | refine Pg.Below.new_ ?_ _ | refine Pg.Below.drewN_ ?_ _)⟩ ?_
 rintro w1 ⟨⟨HX, HV⟩, hb1⟩
 replace HX := hid HX
 replace HV := hid HV
 have a0 := HX.out.cell 0 rfl
 have a1 := HX.out.cell 1 rfl
 have a2 := HX.out.cell 2 rfl
 have a3 := HX.out.cell 3 rfl
 have a4 := HX.out.cell 4 rfl
 have a5 := HX.out.cell 5 rfl
 have b0 := HV.out.cell 0 rfl
 have b1 := HV.out.cell 1 rfl
 have b2 := HV.out.cell 2 rfl
 go_wp2_with (first
  | (go_at_call 9; (with_reducible refine (HW.out _ hb1).mono ?_); rintro e w2 ⟨q, rfl, q1, q2, q3, hb2⟩; have HX2 := hid (HX.out.below hb2); have HV2 := hid (HV.out.below hb2); have hw2 := Below.then_ hb1 hb2; clear a0 a1 a2 a3 a4 a5 b0 b1 b2; have a0 := HX2.out.cell 0 rfl; have a1 := HX2.out.cell 1 rfl; have a2 := HX2.out.cell 2 rfl; have a3 := HX2.out.cell 3 rfl; have a4 := HX2.out.cell 4 rfl; have a5 := HX2.out.cell 5 rfl; have b0 := HV2.out.cell 0 rfl; have b1 := HV2.out.cell 1 rfl; have b2 := HV2.out.cell 2 rfl; obtain ⟨B, hB⟩ : ∃ B, decide (q < 0) = B := ⟨_, rfl⟩; rcases B with _ | _)
  | (go_at_call 10; (with_reducible refine (HL.out _ hw2).mono ?_); rintro e w3 ⟨B2, rfl, hB2, hb3⟩; have HX3 := hid (HX2.out.below hb3); have HV3 := hid (HV2.out.below hb3); have hw3 := Below.then_ hw2 hb3; clear a0 a1 a2 a3 a4 a5 b0 b1 b2; have a0 := HX3.out.cell 0 rfl; have a1 := HX3.out.cell 1 rfl; have a2 := HX3.out.cell 2 rfl; have a3 := HX3.out.cell 3 rfl; have a4 := HX3.out.cell 4 rfl; have a5 := HX3.out.cell 5 rfl; have b0 := HV3.out.cell 0 rfl; have b1 := HV3.out.cell 1 rfl; have b2 := HV3.out.cell 2 rfl; rcases B2 with _ | _)
  | (go_at_call 11; go_loud (have hwt : t.wt ≤ 300 := (by have h0 : 0 ≤ q := (by have := of_decide_eq_false hB; omega); have := q3 h0; omega); have hlx : ∀ r ∈ x.vals, r.Le 3 := (hB2 (by first | exact rfl | trivial)).2; have hnx : x.vars.length ≤ 1000 := (by have := (hB2 (by first | exact rfl | trivial)).1; omega); (with_reducible refine (HO.out _ hw3 hwt hlx hnx).mono ?_); rintro e w4 ⟨v4, rfl, hv4, hb4⟩; obtain ⟨T4, n4, m4, y4, rfl, hc4⟩ := hv4.cv; have hw4 := Below.then_ hw3 hb4; have HXa := hid ((HX3.out.below hb4).alloc (.cells #[.int .i64 (conOf X).s, .slice T4 n4 m4, .bool y4.s, .slice y4.A y4.n y4.c, .slice y4.A' y4.n' y4.c'] 36)); have HVa := hid ((HV3.out.below hb4).alloc (.cells #[.int .i64 (conOf X).s, .slice T4 n4 m4, .bool y4.s, .slice y4.A y4.n y4.c, .slice y4.A' y4.n' y4.c'] 36)); have HCa := hid (Bs.new w4 36 [.int .i64 (conOf X).s, .slice T4 n4 m4, .bool y4.s, .slice y4.A y4.n y4.c, .slice y4.A' y4.n' y4.c'] _ rfl); have hca := hid (hc4.below (Below.new_ (Below.refl _ _) (.cells #[.int .i64 (conOf X).s, .slice T4 n4 m4, .bool y4.s, .slice y4.A y4.n y4.c, .slice y4.A' y4.n' y4.c'] 36))); have hwa := hw4.trans ((Below.new_ (Below.refl _ _) (.cells #[.int .i64 (conOf X).s, .slice T4 n4 m4, .bool y4.s, .slice y4.A y4.n y4.c, .slice y4.A' y4.n' y4.c'] 36)).mono hw4.size); clear hv4 hc4; clear a0 a1 a2 a3 a4 a5 b0 b1 b2; have a0 := HXa.out.cell 0 rfl; have a1 := HXa.out.cell 1 rfl; have a2 := HXa.out.cell 2 rfl; have a3 := HXa.out.cell 3 rfl; have a4 := HXa.out.cell 4 rfl; have a5 := HXa.out.cell 5 rfl; have b0 := HVa.out.cell 0 rfl; have b1 := HVa.out.cell 1 rfl; have b2 := HVa.out.cell 2 rfl))
  | (go_at_call 12; (with_reducible refine (HR.out _ hwa hwt hlx hnx).mono ?_); rintro e w5 ⟨v5, rfl, hv5, hb5⟩; obtain ⟨T5, n5, m5, y5, rfl, hc5⟩ := hv5.cv; have hw5 := Below.then_ hwa hb5; have HCb := hid ((HCa.out.below hb5).alloc (.cells #[.int .i64 (conOf X).s, .slice T5 n5 m5, .bool y5.s, .slice y5.A y5.n y5.c, .slice y5.A' y5.n' y5.c'] 36)); have HDb := hid (Bs.new w5 36 [.int .i64 (conOf X).s, .slice T5 n5 m5, .bool y5.s, .slice y5.A y5.n y5.c, .slice y5.A' y5.n' y5.c'] _ rfl); have bz := Below.new_ (Below.refl w5.heap.size w5) (.cells #[.int .i64 (conOf X).s, .slice T5 n5 m5, .bool y5.s, .slice y5.A y5.n y5.c, .slice y5.A' y5.n' y5.c'] 36); have hda := hid ((hca.out.below hb5).below bz); have hdb := hid (hc5.below bz); have hwb := hw5.trans (bz.mono hw5.size); clear hv5 hc5 bz a0 a1 a2 a3 a4 a5 b0 b1 b2; have p0 := HCb.out.cell 0 rfl; have p1 := HCb.out.cell 1 rfl; have p2 := HCb.out.cell 2 rfl; have p3 := HCb.out.cell 3 rfl; have p4 := HCb.out.cell 4 rfl; have r0 := HDb.out.cell 0 rfl; have r1 := HDb.out.cell 1 rfl; have r2 := HDb.out.cell 2 rfl; have r3 := HDb.out.cell 3 rfl; have r4 := HDb.out.cell 4 rfl)
  | (go_at_call 13; (with_reducible refine (rSame_C _ hda.out.val hdb.out.val (HLe.out hwt hlx) (HLe.out hwt hlx) (by omega) (sameW_refl _)).mono ?_); rintro e w6 ⟨rfl, hb6⟩; have hw6 := Below.then_ hwb hb6)
  | (go_at_call 14; (with_reducible refine (known8_any _).mono ?_); rintro e w7 ⟨rfl, hb7⟩; have hw7 := Below.then_ hw6 hb7))
 all_goals go_ret
 all_goals exact ⟨by rfl, by first | assumption | exact (by repeat first | exact Below.refl _ _ | assumption | refine Pg.Below.then_ ?_ (by assumption) | refine Pg.Below.new_ ?_ _ | refine Pg.Below.drewN_ ?_ _)⟩
end Go.Proofs.YtahdlpkncemmaaaGreat
