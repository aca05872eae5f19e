/- Walk. Conditions: those that each theorem names. -/
import Derived.Test.YtahdlpkncemmaaaGreatY45
import Derived.Test.YtahdlpkncemmaaaGreatY46
set_option maxRecDepth 100000
set_option maxHeartbeats 8000000
set_option linter.unusedSimpArgs false
set_option linter.unusedVariables false
namespace Go.Proofs.YtahdlpkncemmaaaGreat
open Go.RowKit Pg
theorem rValue_C {t : PT} {v : Value} {x : EW} {A : Option Addr} {n c : Nat} {l : List RW} (w : World) (hv : PT.Val w v t) (hwt : t.wt ≤ 768) (hE : EnvAt w x) (hl : ∀ r ∈ x.vals, r.Le 3) (hS : SlAt 3 RawAt w A n c l) (hl' : ∀ r ∈ l, r.Le 3) {X : Except Nat Rat} (hX : NumX t x.q (l.map RW.q) X) :
  Calls Tryz.prog 29 #[v, .agg #[.slice x.A0 x.n0 x.k0, .slice x.A1 x.n1 x.k1, .slice x.A2 x.n2 x.k2], .slice A n c] w (R0Ret w X) := by
 obtain ⟨c0, c1, c2, c3, c4, c5, rfl⟩ := hv.six
 have HI := hid fun W (hW : Below w.heap.size w W) => is5_any W (hv.below hW) (by omega)
 rcases hX with ⟨hi, rfl⟩ | ⟨hi, e, he, rfl⟩
 ·rw [hi] at HI
  clear hv hE hS
  go_enter Tryz.func29, Tryz.ntmps29
  go_upto_region 1 with fail
  refine wp_world (F := fun W => (Bs W w.heap.size 27 [c0, c1, c2, c3, c4, c5] ∧ Bs W (w.heap.size + 1) 42 [.slice x.A0 x.n0 x.k0, .slice x.A1 x.n1 x.k1, .slice x.A2 x.n2 x.k2] ∧ Bs W (w.heap.size + 2) 24 [.bool false, .slice none 0 0, .slice none 0 0]) ∧ Below w.heap.size w W)
   ⟨⟨((Bs.new w _ _ _ rfl).alloc _).alloc _, (Bs.new _ _ _ _ (by simp)).alloc _, Bs.new _ _ _ _ (by simp)⟩, Pg.bel⟩ ?_
  rintro w1 ⟨⟨HX, HV, HZ⟩, hb1⟩
  have a0 := HX.cell 0 rfl
  have a1 := HX.cell 1 rfl
  have a2 := HX.cell 2 rfl
  have a3 := HX.cell 3 rfl
  have a4 := HX.cell 4 rfl
  have a5 := HX.cell 5 rfl
  go_wp2_with (first | (go_at_call 30; (with_reducible refine (HI.out _ hb1).mono ?_); rintro e w5 ⟨rfl, hb5⟩; have HZ5 := HZ.below hb5; have hbw := Below.then_ hb1 hb5; have HX5 := HX.below hb5; have HV5 := HV.below hb5; clear a0 a1 a2 a3 a4 a5; have f0 := HZ5.frozen 0; have f1 := HZ5.frozen 1; have f2 := HZ5.frozen 2; have z0 := HZ5.cell 0 rfl; have z1 := HZ5.cell 1 rfl; have z2 := HZ5.cell 2 rfl; have a0 := HX5.cell 0 rfl; have a1 := HX5.cell 1 rfl; have a2 := HX5.cell 2 rfl; have a3 := HX5.cell 3 rfl; have a4 := HX5.cell 4 rfl; have a5 := HX5.cell 5 rfl; have b0 := HV5.cell 0 rfl; have b1 := HV5.cell 1 rfl; have b2 := HV5.cell 2 rfl) | (go_at_call 36; (with_reducible refine (r2Int_Q 0 _ (by omega) (by omega) rfl).mono ?_); rintro e w7 ⟨y7, rfl, hy7, hb7⟩; have HZ7 := HZ5.below hb7; have hbz := Below.then_ hbw hb7; clear f0 f1 f2 z0 z1 z2; have f0 := HZ7.frozen 0; have f1 := HZ7.frozen 1; have f2 := HZ7.frozen 2; have z0 := HZ7.cell 0 rfl; have z1 := HZ7.cell 1 rfl; have z2 := HZ7.cell 2 rfl))
  refine bp_world (F := Stored w7 (w.heap.size + 1 + 1) 24 [.bool y7.s, .slice y7.A y7.n y7.c, .slice y7.A' y7.n' y7.c']) (stored3 HZ7) ?_
  rintro wz ⟨HS, ks, ss⟩
  have q0 := HS.cell 0 rfl
  have q1 := HS.cell 1 rfl
  have q2 := HS.cell 2 rfl
  refine bodyPost_ret (v := .tuple #[.agg #[.bool y7.s, .slice y7.A y7.n y7.c, .slice y7.A' y7.n' y7.c'], .int .i64 5]) (by simp [results, Tryz.results29, go_sem, q0, q1, q2]) rfl ?_
  exact ⟨y7, rfl, hy7.kp (Kp.stored (B := 0) HZ7 ratU0 ks (Nat.zero_le _)), hbz.trans (Below.kept ks (by omega) hbz.size)⟩
 ·rw [hi] at HI
  have HS := hid fun W (hW : Below w.heap.size w W) => value_C hl hl' e t.wt W _ (XE.Val.below hW e _ (he.val _ hv (by omega))) (PT.As.sz he _ hv) (by omega) t.wt_one (hE.below hW) (hS.below rawAt_stays hW)
  obtain ⟨X, hX⟩ : ∃ X, numX x.q (l.map RW.q) e = X := ⟨_, rfl⟩
  rw [hX] at HS ⊢
  rcases X with x1 | q1
  ·have hx := numX_err hX
   have hx1 : ((errOf (Except.error x1 : Except Nat Rat) : Int) != 0) = true := bne_iff_ne.2 (Int.natCast_ne_zero.2 hx)
   clear hv hE hX he hi hS
   go_enter Tryz.func29, Tryz.ntmps29
   go_upto_region 1 with fail
   refine wp_world (F := fun W => (Bs W w.heap.size 27 [c0, c1, c2, c3, c4, c5] ∧ Bs W (w.heap.size + 1) 42 [.slice x.A0 x.n0 x.k0, .slice x.A1 x.n1 x.k1, .slice x.A2 x.n2 x.k2] ∧ Bs W (w.heap.size + 2) 24 [.bool false, .slice none 0 0, .slice none 0 0]) ∧ Below w.heap.size w W)
    ⟨⟨((Bs.new w _ _ _ rfl).alloc _).alloc _, (Bs.new _ _ _ _ (by simp)).alloc _, Bs.new _ _ _ _ (by simp)⟩, Pg.bel⟩ ?_
   rintro w1 ⟨⟨HX, HV, HZ⟩, hb1⟩
   have a0 := HX.cell 0 rfl
   have a1 := HX.cell 1 rfl
   have a2 := HX.cell 2 rfl
   have a3 := HX.cell 3 rfl
   have a4 := HX.cell 4 rfl
   have a5 := HX.cell 5 rfl
   go_wp2_with (first | (go_at_call 30; (with_reducible refine (HI.out _ hb1).mono ?_); rintro e w5 ⟨rfl, hb5⟩; have HZ5 := HZ.below hb5; have hbw := Below.then_ hb1 hb5; have HX5 := HX.below hb5; have HV5 := HV.below hb5; clear a0 a1 a2 a3 a4 a5; have f0 := HZ5.frozen 0; have f1 := HZ5.frozen 1; have f2 := HZ5.frozen 2; have z0 := HZ5.cell 0 rfl; have z1 := HZ5.cell 1 rfl; have z2 := HZ5.cell 2 rfl; have a0 := HX5.cell 0 rfl; have a1 := HX5.cell 1 rfl; have a2 := HX5.cell 2 rfl; have a3 := HX5.cell 3 rfl; have a4 := HX5.cell 4 rfl; have a5 := HX5.cell 5 rfl; have b0 := HV5.cell 0 rfl; have b1 := HV5.cell 1 rfl; have b2 := HV5.cell 2 rfl) | (go_at_call 53; (with_reducible refine (HS.out _ hbw).mono ?_); rintro e w6 ⟨y6, rfl, hy6, hb6⟩; have HZ6 := (HZ5.below hb6).alloc (.cells #[.bool y6.s, .slice y6.A y6.n y6.c, .slice y6.A' y6.n' y6.c'] 24); have HQ6 := Bs.new w6 24 [.bool y6.s, .slice y6.A y6.n y6.c, .slice y6.A' y6.n' y6.c'] _ rfl; have h6 := Below.then_ hbw hb6; have hb6a := h6.trans ((Below.new_ (Below.refl _ _) (.cells #[.bool y6.s, .slice y6.A y6.n y6.c, .slice y6.A' y6.n' y6.c'] 24)).mono h6.size); clear f0 f1 f2 z0 z1 z2; have f0 := HZ6.frozen 0; have f1 := HZ6.frozen 1; have f2 := HZ6.frozen 2; have z0 := HZ6.cell 0 rfl; have z1 := HZ6.cell 1 rfl; have z2 := HZ6.cell 2 rfl; have s0 := HQ6.cell 0 rfl; have s1 := HQ6.cell 1 rfl; have s2 := HQ6.cell 2 rfl) | (go_at_call 36; (with_reducible refine (r2Int_Q 0 _ (by omega) (by omega) rfl).mono ?_); rintro e w7 ⟨y7, rfl, hy7, hb7⟩; have HZ7 := HZ6.below hb7; have hbz := Below.then_ hb6a hb7; clear f0 f1 f2 z0 z1 z2; have f0 := HZ7.frozen 0; have f1 := HZ7.frozen 1; have f2 := HZ7.frozen 2; have z0 := HZ7.cell 0 rfl; have z1 := HZ7.cell 1 rfl; have z2 := HZ7.cell 2 rfl))
   refine bp_world (F := Stored w7 (w.heap.size + 1 + 1) 24 [.bool y7.s, .slice y7.A y7.n y7.c, .slice y7.A' y7.n' y7.c']) (stored3 HZ7) ?_
   rintro wz ⟨HS, ks, ss⟩
   have q0 := HS.cell 0 rfl
   have q1 := HS.cell 1 rfl
   have q2 := HS.cell 2 rfl
   refine bodyPost_ret (v := .tuple #[.agg #[.bool y7.s, .slice y7.A y7.n y7.c, .slice y7.A' y7.n' y7.c'], .int .i64 (errOf (Except.error x1 : Except Nat Rat) : Int)]) (by simp [results, Tryz.results29, go_sem, q0, q1, q2]) rfl ?_
   exact ⟨y7, rfl, hy7.kp (Kp.stored (B := 0) HZ7 ratU0 ks (Nat.zero_le _)), hbz.trans (Below.kept ks (by omega) hbz.size)⟩
  ·have hx1 : ((errOf (Except.ok q1 : Except Nat Rat) : Int) != 0) = false := rfl
   clear hv hE hX he hi hS
   go_enter Tryz.func29, Tryz.ntmps29
   go_upto_region 1 with fail
   refine wp_world (F := fun W => (Bs W w.heap.size 27 [c0, c1, c2, c3, c4, c5] ∧ Bs W (w.heap.size + 1) 42 [.slice x.A0 x.n0 x.k0, .slice x.A1 x.n1 x.k1, .slice x.A2 x.n2 x.k2] ∧ Bs W (w.heap.size + 2) 24 [.bool false, .slice none 0 0, .slice none 0 0]) ∧ Below w.heap.size w W)
    ⟨⟨((Bs.new w _ _ _ rfl).alloc _).alloc _, (Bs.new _ _ _ _ (by simp)).alloc _, Bs.new _ _ _ _ (by simp)⟩, Pg.bel⟩ ?_
   rintro w1 ⟨⟨HX, HV, HZ⟩, hb1⟩
   have a0 := HX.cell 0 rfl
   have a1 := HX.cell 1 rfl
   have a2 := HX.cell 2 rfl
   have a3 := HX.cell 3 rfl
   have a4 := HX.cell 4 rfl
   have a5 := HX.cell 5 rfl
   go_wp2_with (first | (go_at_call 30; (with_reducible refine (HI.out _ hb1).mono ?_); rintro e w5 ⟨rfl, hb5⟩; have HZ5 := HZ.below hb5; have hbw := Below.then_ hb1 hb5; have HX5 := HX.below hb5; have HV5 := HV.below hb5; clear a0 a1 a2 a3 a4 a5; have f0 := HZ5.frozen 0; have f1 := HZ5.frozen 1; have f2 := HZ5.frozen 2; have z0 := HZ5.cell 0 rfl; have z1 := HZ5.cell 1 rfl; have z2 := HZ5.cell 2 rfl; have a0 := HX5.cell 0 rfl; have a1 := HX5.cell 1 rfl; have a2 := HX5.cell 2 rfl; have a3 := HX5.cell 3 rfl; have a4 := HX5.cell 4 rfl; have a5 := HX5.cell 5 rfl; have b0 := HV5.cell 0 rfl; have b1 := HV5.cell 1 rfl; have b2 := HV5.cell 2 rfl) | (go_at_call 53; (with_reducible refine (HS.out _ hbw).mono ?_); rintro e w6 ⟨y6, rfl, hy6, hb6⟩; have HZ6 := (HZ5.below hb6).alloc (.cells #[.bool y6.s, .slice y6.A y6.n y6.c, .slice y6.A' y6.n' y6.c'] 24); have HQ6 := Bs.new w6 24 [.bool y6.s, .slice y6.A y6.n y6.c, .slice y6.A' y6.n' y6.c'] _ rfl; have h6 := Below.then_ hbw hb6; have hb6a := h6.trans ((Below.new_ (Below.refl _ _) (.cells #[.bool y6.s, .slice y6.A y6.n y6.c, .slice y6.A' y6.n' y6.c'] 24)).mono h6.size); clear f0 f1 f2 z0 z1 z2; have f0 := HZ6.frozen 0; have f1 := HZ6.frozen 1; have f2 := HZ6.frozen 2; have z0 := HZ6.cell 0 rfl; have z1 := HZ6.cell 1 rfl; have z2 := HZ6.cell 2 rfl; have s0 := HQ6.cell 0 rfl; have s1 := HQ6.cell 1 rfl; have s2 := HQ6.cell 2 rfl))
   refine bp_world (F := Stored ((w6.alloc (.cells #[.bool y6.s, .slice y6.A y6.n y6.c, .slice y6.A' y6.n' y6.c'] 24))) (w.heap.size + 1 + 1) 24 [.bool y6.s, .slice y6.A y6.n y6.c, .slice y6.A' y6.n' y6.c']) (stored3 HZ6) ?_
   rintro wz ⟨HS, ks, ss⟩
   have q0 := HS.cell 0 rfl
   have q1 := HS.cell 1 rfl
   have q2 := HS.cell 2 rfl
   refine bodyPost_ret (v := .tuple #[.agg #[.bool y6.s, .slice y6.A y6.n y6.c, .slice y6.A' y6.n' y6.c'], .int .i64 0]) (by simp [results, Tryz.results29, go_sem, q0, q1, q2]) rfl ?_
   exact ⟨y6, rfl, (hy6.below (Below.new_ (Below.refl _ _) _)).kp (Kp.stored (B := 0) HZ6 ratU0 ks (Nat.zero_le _)), hb6a.trans (Below.kept ks (by omega) hb6a.size)⟩
end Go.Proofs.YtahdlpkncemmaaaGreat
