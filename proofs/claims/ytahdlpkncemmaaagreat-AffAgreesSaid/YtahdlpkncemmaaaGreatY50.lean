/- Walk. Conditions: those that each theorem names. -/
import Derived.Test.YtahdlpkncemmaaaGreatY45
import Derived.Test.YtahdlpkncemmaaaGreatY49
set_option maxRecDepth 100000
set_option maxHeartbeats 8000000
set_option linter.unusedSimpArgs false
set_option linter.unusedVariables false
namespace Go.Proofs.YtahdlpkncemmaaaGreat
open Go.RowKit Pg
theorem rOf_C {t : PT} {v : Value} {x : EW} (w : World) (hv : PT.Val w v t) (hwt : t.wt ≤ 768) (hE : EnvAt w x) (hl : ∀ r ∈ x.vals, r.Le 3) (hn : x.vars.length ≤ 1000) {X : Except Nat CQ} (hX : OfX t x.q X) :
  Calls Tryz.prog 12 #[v, .agg #[.slice x.A0 x.n0 x.k0, .slice x.A1 x.n1 x.k1, .slice x.A2 x.n2 x.k2]] w (SumRet w X) := by
 obtain ⟨c0, c1, c2, c3, c4, c5, rfl⟩ := hv.six
 have HI := hid fun W (hW : Below w.heap.size w W) => is5_any W (hv.below hW) (by omega)
 rcases hX with ⟨hi, rfl⟩ | ⟨hi, e, he, rfl⟩
 ·rw [hi] at HI
  clear hv hE
  go_enter Tryz.func12, Tryz.ntmps12
  go_upto_region 1 with fail
  refine wp_world (F := fun W => (Bs W w.heap.size 27 [c0, c1, c2, c3, c4, c5] ∧ Bs W (w.heap.size + 1) 42 [.slice x.A0 x.n0 x.k0, .slice x.A1 x.n1 x.k1, .slice x.A2 x.n2 x.k2] ∧ Bs W (w.heap.size + 2) 36 [.int .i64 0, .slice none 0 0, .bool false, .slice none 0 0, .slice none 0 0]) ∧ Below w.heap.size w W)
   ⟨⟨((Bs.new w _ _ _ rfl).alloc _).alloc _, (Bs.new _ _ _ _ (by simp)).alloc _, Bs.new _ _ _ _ (by simp)⟩, Pg.bel⟩ ?_
  rintro w1 ⟨⟨HX, HV, HZ⟩, hb1⟩
  have a0 := HX.cell 0 rfl
  have a1 := HX.cell 1 rfl
  have a2 := HX.cell 2 rfl
  have a3 := HX.cell 3 rfl
  have a4 := HX.cell 4 rfl
  have a5 := HX.cell 5 rfl
  go_wp2_with (go_at_call 30; (with_reducible refine (HI.out _ hb1).mono ?_); rintro e w5 ⟨rfl, hb5⟩; have HZ5 := HZ.below hb5; have hbw := Below.then_ hb1 hb5; have HX5 := HX.below hb5; have HV5 := HV.below hb5; clear a0 a1 a2 a3 a4 a5; have f0 := HZ5.frozen 0; have f1 := HZ5.frozen 1; have f2 := HZ5.frozen 2; have f3 := HZ5.frozen 3; have f4 := HZ5.frozen 4; have z0 := HZ5.cell 0 rfl; have z1 := HZ5.cell 1 rfl; have z2 := HZ5.cell 2 rfl; have z3 := HZ5.cell 3 rfl; have z4 := HZ5.cell 4 rfl; have a0 := HX5.cell 0 rfl; have a1 := HX5.cell 1 rfl; have a2 := HX5.cell 2 rfl; have a3 := HX5.cell 3 rfl; have a4 := HX5.cell 4 rfl; have a5 := HX5.cell 5 rfl; have b0 := HV5.cell 0 rfl; have b1 := HV5.cell 1 rfl; have b2 := HV5.cell 2 rfl)
  refine bp_world (F := Stored w5 (w.heap.size + 1 + 1) 36 [.int .i64 0, .slice none 0 0, .bool false, .slice none 0 0, .slice none 0 0]) (stored5 HZ5) ?_
  rintro wz ⟨HS, ks, ss⟩
  have q0 := HS.cell 0 rfl
  have q1 := HS.cell 1 rfl
  have q2 := HS.cell 2 rfl
  have q3 := HS.cell 3 rfl
  have q4 := HS.cell 4 rfl
  refine bodyPost_ret (v := .tuple #[.agg #[.int .i64 0, .slice none 0 0, .bool false, .slice none 0 0, .slice none 0 0], .int .i64 5]) (by simp [results, Tryz.results12, go_sem, q0, q1, q2, q3, q4]) rfl ?_
  exact ⟨_, rfl, cw0_val _, hbw.trans (Below.kept ks (by omega) hbw.size)⟩
 ·rw [hi] at HI
  have HS := hid fun W (hW : Below w.heap.size w W) => of_C hl hn e t.wt W _ (XE.Val.below hW e _ (he.val _ hv (by omega))) (PT.As.sz he _ hv) (by omega) t.wt_pos (hE.below hW)
  obtain ⟨X, hX⟩ : ∃ X, sumX x.q e = X := ⟨_, rfl⟩
  rw [hX] at HS ⊢
  clear hv hE hX he hi
  go_enter Tryz.func12, Tryz.ntmps12
  go_upto_region 1 with fail
  refine wp_world (F := fun W => (Bs W w.heap.size 27 [c0, c1, c2, c3, c4, c5] ∧ Bs W (w.heap.size + 1) 42 [.slice x.A0 x.n0 x.k0, .slice x.A1 x.n1 x.k1, .slice x.A2 x.n2 x.k2] ∧ Bs W (w.heap.size + 2) 36 [.int .i64 0, .slice none 0 0, .bool false, .slice none 0 0, .slice none 0 0]) ∧ Below w.heap.size w W)
   ⟨⟨((Bs.new w _ _ _ rfl).alloc _).alloc _, (Bs.new _ _ _ _ (by simp)).alloc _, Bs.new _ _ _ _ (by simp)⟩, Pg.bel⟩ ?_
  rintro w1 ⟨⟨HX, HV, HZ⟩, hb1⟩
  have a0 := HX.cell 0 rfl
  have a1 := HX.cell 1 rfl
  have a2 := HX.cell 2 rfl
  have a3 := HX.cell 3 rfl
  have a4 := HX.cell 4 rfl
  have a5 := HX.cell 5 rfl
  go_wp2_with (first | (go_at_call 30; (with_reducible refine (HI.out _ hb1).mono ?_); rintro e w5 ⟨rfl, hb5⟩; have HZ5 := HZ.below hb5; have hbw := Below.then_ hb1 hb5; have HX5 := HX.below hb5; have HV5 := HV.below hb5; clear a0 a1 a2 a3 a4 a5; have f0 := HZ5.frozen 0; have f1 := HZ5.frozen 1; have f2 := HZ5.frozen 2; have f3 := HZ5.frozen 3; have f4 := HZ5.frozen 4; have z0 := HZ5.cell 0 rfl; have z1 := HZ5.cell 1 rfl; have z2 := HZ5.cell 2 rfl; have z3 := HZ5.cell 3 rfl; have z4 := HZ5.cell 4 rfl; have a0 := HX5.cell 0 rfl; have a1 := HX5.cell 1 rfl; have a2 := HX5.cell 2 rfl; have a3 := HX5.cell 3 rfl; have a4 := HX5.cell 4 rfl; have a5 := HX5.cell 5 rfl; have b0 := HV5.cell 0 rfl; have b1 := HV5.cell 1 rfl; have b2 := HV5.cell 2 rfl) | (go_at_call 35; (with_reducible refine (HS.out _ hbw).mono ?_); rintro e w6 ⟨v6, rfl, hv6, hb6⟩; obtain ⟨T6, n6, m6, y6, rfl, hc6⟩ := hv6.cv; have HZ6 := HZ5.below hb6; have hbz := Below.then_ hbw hb6; clear f0 f1 f2 f3 f4 z0 z1 z2 z3 z4; have f0 := HZ6.frozen 0; have f1 := HZ6.frozen 1; have f2 := HZ6.frozen 2; have f3 := HZ6.frozen 3; have f4 := HZ6.frozen 4; have z0 := HZ6.cell 0 rfl; have z1 := HZ6.cell 1 rfl; have z2 := HZ6.cell 2 rfl; have z3 := HZ6.cell 3 rfl; have z4 := HZ6.cell 4 rfl))
  refine bp_world (F := Stored w6 (w.heap.size + 1 + 1) 36 [.int .i64 (conOf X).s, .slice T6 n6 m6, .bool y6.s, .slice y6.A y6.n y6.c, .slice y6.A' y6.n' y6.c']) (stored5 HZ6) ?_
  rintro wz ⟨HS, ks, ss⟩
  have q0 := HS.cell 0 rfl
  have q1 := HS.cell 1 rfl
  have q2 := HS.cell 2 rfl
  have q3 := HS.cell 3 rfl
  have q4 := HS.cell 4 rfl
  refine bodyPost_ret (v := .tuple #[.agg #[.int .i64 (conOf X).s, .slice T6 n6 m6, .bool y6.s, .slice y6.A y6.n y6.c, .slice y6.A' y6.n' y6.c'], .int .i64 (errOf X : Int)]) (by simp [results, Tryz.results12, go_sem, q0, q1, q2, q3, q4]) rfl ?_
  exact ⟨_, rfl, (hc6.kept HZ6 conU0 noT_con ks).val, hbz.trans (Below.kept ks (by omega) hbz.size)⟩
end Go.Proofs.YtahdlpkncemmaaaGreat
