/- The law AffValues. Conditions: those that each theorem names. -/
import Derived.Test.YtahdlpkncemmaaaGreatY45
import Derived.Test.YtahdlpkncemmaaaGreatY47
import Derived.Test.YtahdlpkncemmaaaGreatY38
set_option maxRecDepth 100000
set_option maxHeartbeats 8000000
set_option linter.unusedSimpArgs false
set_option linter.unusedVariables false
namespace Go.Proofs.YtahdlpkncemmaaaGreat
open Go.RowKit Pg
theorem num_same (X : Except Nat Rat) : eqQ (numOf X).q (rwOf (r0Of X)).q = true := by
 rw [rwOf_q]
 cases X with
 | error x => exact decide_eq_true rw0_q
 | ok q => exact decide_eq_true (rwOf_q q)
theorem numX_le {w : World} {v : Value} {t : PT} {x : EW} {A : Option Addr} {n c : Nat} {l : List RW} {X : Except Nat Rat} (hv : PT.Val w v t) (hE : EnvAt w x) (hS : SlAt 3 RawAt w A n c l) (hl : ∀ r ∈ x.vals, r.Le 3) (hl' : ∀ r ∈ l, r.Le 3) (hX : NumX t x.q (l.map RW.q) X) (hwt : t.wt ≤ 768) : (numOf X).Le 768 ∧ (rwOf (r0Of X)).Le 768 := by
 have e0 : ∀ y, X = .error y → (numOf X).Le 768 ∧ (rwOf (r0Of X)).Le 768 := fun y h => by rw [h]; exact ⟨⟨Nat.zero_le _, Nat.zero_le _⟩, short_le (short_zero.mono (by omega))⟩
 rcases hX with ⟨_, h⟩ | ⟨_, e, he, h⟩
 ·exact e0 _ h
 ·cases hs : numX x.q (l.map RW.q) e with
  | error y => exact e0 y (h.trans hs)
  | ok c =>
   have hc := numX_short x.q _ (short_of_at hE.vals hl (by omega)) (short_of_at hS hl' (by omega)) e 768 c (SzX.mono (PT.As.sz he _ hv) hwt) hs
   rw [h, hs]
   exact ⟨short_le hc, short_le hc⟩
theorem law_AffValues (v0 v1 v2 : Value) (t : PT) (x : EW) (y : LW) (w : World) (hv : PT.Val w v0 t) (h1 : EnvArg w v1 x) (h2 : RatsArg w v2 y) :
  Calls Tryz.prog 5 #[v0, v1, v2] w fun e w' => e = .returned (.bool true) ∧ Below w.heap.size w w' := by
 obtain ⟨rfl, hE⟩ := h1
 obtain ⟨rfl, hS⟩ := h2
 unfold EW.val LW.val
 obtain ⟨X, hX⟩ : ∃ X, t.wt ≤ 768 → NumX t x.q (y.l.map RW.q) X := by
  by_cases h : t.wt ≤ 768
  ·obtain ⟨X, h⟩ := numX_one t x.q (y.l.map RW.q) h
   exact ⟨X, fun _ => h⟩
  ·exact ⟨.error 5, fun h' => absurd h' h⟩
 have HW := hid fun W (hW : Below w.heap.size w W) => weight8_any _ t (Nat.le_refl _) 300 v0 W (hv.below hW) (by omega) (by omega)
 have HL := hid fun W (hW : Below w.heap.size w W) => long8_any W (hE.below hW)
 have HM := hid fun W (hW : Below w.heap.size w W) => many8_any W (hS.below rawAt_stays hW)
 have HO := hid fun W (hW : Below w.heap.size w W) (hwt : t.wt ≤ 300) (hl : ∀ r ∈ x.vals, r.Le 3) (hl' : ∀ r ∈ y.l, r.Le 3) => Value_C W (hv.below hW) (by omega) (hE.below hW) hl (hS.below rawAt_stays hW) hl' (hX (by omega))
 have HR := hid fun W (hW : Below w.heap.size w W) (hwt : t.wt ≤ 300) (hl : ∀ r ∈ x.vals, r.Le 3) (hl' : ∀ r ∈ y.l, r.Le 3) => rValue_C W (hv.below hW) (by omega) (hE.below hW) hl (hS.below rawAt_stays hW) hl' (hX (by omega))
 have HLe := hid fun (hwt : t.wt ≤ 300) (hl : ∀ r ∈ x.vals, r.Le 3) (hl' : ∀ r ∈ y.l, r.Le 3) => numX_le hv hE hS hl hl' (hX (by omega)) (by omega)
 obtain ⟨c0, c1, c2, c3, c4, c5, rfl⟩ := hv.six
 clear hv hE hX hS
 go_enter Tryz.func5, Tryz.ntmps5
 go_upto_region 1 with fail
 refine wp_world (F := fun W => (Bs W w.heap.size 27 [c0, c1, c2, c3, c4, c5] ∧ Bs W (w.heap.size + 1) 31 [.slice x.A0 x.n0 x.k0, .slice x.A1 x.n1 x.k1, .slice x.A2 x.n2 x.k2]) ∧ Below w.heap.size w W)
  ⟨⟨(Bs.new w _ _ _ rfl).alloc _, Bs.new _ _ _ _ (by simp)⟩, Pg.bel⟩ ?_
 rintro w1 ⟨⟨HX, HV⟩, hb1⟩
 replace HX := hid HX
 replace HV := hid HV
 have a0 := HX.out.cell 0 rfl
 have a1 := HX.out.cell 1 rfl
 have a2 := HX.out.cell 2 rfl
 have a3 := HX.out.cell 3 rfl
 have a4 := HX.out.cell 4 rfl
 have a5 := HX.out.cell 5 rfl
 have b0 := HV.out.cell 0 rfl
 have b1 := HV.out.cell 1 rfl
 have b2 := HV.out.cell 2 rfl
 go_wp2_with (first
  | (go_at_call 9; (with_reducible refine (HW.out _ hb1).mono ?_); rintro e w2 ⟨q, rfl, q1, q2, q3, hb2⟩; have HX2 := hid (HX.out.below hb2); have HV2 := hid (HV.out.below hb2); have hw2 := Below.then_ hb1 hb2; clear a0 a1 a2 a3 a4 a5 b0 b1 b2; have a0 := HX2.out.cell 0 rfl; have a1 := HX2.out.cell 1 rfl; have a2 := HX2.out.cell 2 rfl; have a3 := HX2.out.cell 3 rfl; have a4 := HX2.out.cell 4 rfl; have a5 := HX2.out.cell 5 rfl; have b0 := HV2.out.cell 0 rfl; have b1 := HV2.out.cell 1 rfl; have b2 := HV2.out.cell 2 rfl; obtain ⟨B, hB⟩ : ∃ B, decide (q < 0) = B := ⟨_, rfl⟩; rcases B with _ | _)
  | (go_at_call 10; (with_reducible refine (HL.out _ hw2).mono ?_); rintro e w3 ⟨B2, rfl, hB2, hb3⟩; have HX3 := hid (HX2.out.below hb3); have HV3 := hid (HV2.out.below hb3); have hw3 := Below.then_ hw2 hb3; clear a0 a1 a2 a3 a4 a5 b0 b1 b2; have a0 := HX3.out.cell 0 rfl; have a1 := HX3.out.cell 1 rfl; have a2 := HX3.out.cell 2 rfl; have a3 := HX3.out.cell 3 rfl; have a4 := HX3.out.cell 4 rfl; have a5 := HX3.out.cell 5 rfl; have b0 := HV3.out.cell 0 rfl; have b1 := HV3.out.cell 1 rfl; have b2 := HV3.out.cell 2 rfl; rcases B2 with _ | _)
  | (go_at_call 16; (with_reducible refine (HM.out _ hw3).mono ?_); rintro e w4 ⟨B3, rfl, hB3, hb4⟩; have HX4 := hid (HX3.out.below hb4); have HV4 := hid (HV3.out.below hb4); have hw4 := Below.then_ hw3 hb4; clear a0 a1 a2 a3 a4 a5 b0 b1 b2; have a0 := HX4.out.cell 0 rfl; have a1 := HX4.out.cell 1 rfl; have a2 := HX4.out.cell 2 rfl; have a3 := HX4.out.cell 3 rfl; have a4 := HX4.out.cell 4 rfl; have a5 := HX4.out.cell 5 rfl; have b0 := HV4.out.cell 0 rfl; have b1 := HV4.out.cell 1 rfl; have b2 := HV4.out.cell 2 rfl; rcases B3 with _ | _)
  | (go_at_call 28; go_loud (have hwt : t.wt ≤ 300 := (by have h0 : 0 ≤ q := (by have := of_decide_eq_false hB; omega); have := q3 h0; omega); have hlx : ∀ r ∈ x.vals, r.Le 3 := (hB2 (by first | exact rfl | trivial)).2; have hly : ∀ r ∈ y.l, r.Le 3 := (hB3 (by first | exact rfl | trivial)).2; (with_reducible refine (HO.out _ hw4 hwt hlx hly).mono ?_); rintro e w5 ⟨y5, rfl, hy5, hb5⟩; have hw5 := Below.then_ hw4 hb5; have HXa := hid ((HX4.out.below hb5).alloc (.cells #[.bool y5.s, .slice y5.A y5.n y5.c, .slice y5.A' y5.n' y5.c'] 24)); have HVa := hid ((HV4.out.below hb5).alloc (.cells #[.bool y5.s, .slice y5.A y5.n y5.c, .slice y5.A' y5.n' y5.c'] 24)); have HCa := hid (Bs.new w5 24 [.bool y5.s, .slice y5.A y5.n y5.c, .slice y5.A' y5.n' y5.c'] _ rfl); have hya := hid (hy5.below (Below.new_ (Below.refl _ _) (.cells #[.bool y5.s, .slice y5.A y5.n y5.c, .slice y5.A' y5.n' y5.c'] 24))); have hwa := hw5.trans ((Below.new_ (Below.refl _ _) (.cells #[.bool y5.s, .slice y5.A y5.n y5.c, .slice y5.A' y5.n' y5.c'] 24)).mono hw5.size); clear hy5; clear a0 a1 a2 a3 a4 a5 b0 b1 b2; have a0 := HXa.out.cell 0 rfl; have a1 := HXa.out.cell 1 rfl; have a2 := HXa.out.cell 2 rfl; have a3 := HXa.out.cell 3 rfl; have a4 := HXa.out.cell 4 rfl; have a5 := HXa.out.cell 5 rfl; have b0 := HVa.out.cell 0 rfl; have b1 := HVa.out.cell 1 rfl; have b2 := HVa.out.cell 2 rfl))
  | (go_at_call 29; (with_reducible refine (HR.out _ hwa hwt hlx hly).mono ?_); rintro e w6 ⟨y6, rfl, hy6, hb6⟩; have hw6 := Below.then_ hwa hb6; have HCb := hid ((HCa.out.below hb6).alloc (.cells #[.bool y6.s, .slice y6.A y6.n y6.c, .slice y6.A' y6.n' y6.c'] 24)); have HDb := hid (Bs.new w6 24 [.bool y6.s, .slice y6.A y6.n y6.c, .slice y6.A' y6.n' y6.c'] _ rfl); have bz := Below.new_ (Below.refl w6.heap.size w6) (.cells #[.bool y6.s, .slice y6.A y6.n y6.c, .slice y6.A' y6.n' y6.c'] 24); have hda := hid ((hya.out.below hb6).below bz); have hdb := hid (hy6.below bz); have hwb := hw6.trans (bz.mono hw6.size); clear hy6 bz a0 a1 a2 a3 a4 a5 b0 b1 b2; have p0 := HCb.out.cell 0 rfl; have p1 := HCb.out.cell 1 rfl; have p2 := HCb.out.cell 2 rfl; have r0 := HDb.out.cell 0 rfl; have r1 := HDb.out.cell 1 rfl; have r2 := HDb.out.cell 2 rfl)
  | (go_at_call 24; (with_reducible refine (r2Same_Q _ hda.out hdb.out (HLe.out hwt hlx hly).1 (HLe.out hwt hlx hly).2 (by omega) (num_same X)).mono ?_); rintro e w7 ⟨rfl, hb7⟩; have hw7 := Below.then_ hwb hb7)
  | (go_at_call 14; (with_reducible refine (known8_any _).mono ?_); rintro e w8 ⟨rfl, hb8⟩; have hw8 := Below.then_ hw7 hb8))
 all_goals go_ret
 all_goals exact ⟨by rfl, by first | assumption | exact Pg.bel⟩
end Go.Proofs.YtahdlpkncemmaaaGreat
