/- The law AffPlain. Conditions: those that each theorem names. -/
import Derived.Test.YtahdlpkncemmaaaGreatY45
import Derived.Test.YtahdlpkncemmaaaGreatY50
import Derived.Test.YtahdlpkncemmaaaGreatY51
import Derived.Test.YtahdlpkncemmaaaGreatY38
set_option maxRecDepth 100000
set_option maxHeartbeats 8000000
set_option linter.unusedSimpArgs false
set_option linter.unusedVariables false
namespace Pg
open Go Go.RowKit
theorem plain_val {w : World} {y : RV} {r : RW} (hy : y.at w r) : ConVal w (.agg #[.int .i64 0, .slice none 0 0, .bool y.s, .slice y.A y.n y.c, .slice y.A' y.n' y.c']) ⟨0, [], r⟩ :=
 ⟨none, 0, 0, _, _, _, rfl, ⟨rfl, Nat.le_refl _, by omega, by omega, fun _ => rfl, fun h => absurd h (by omega)⟩, hy⟩
theorem plain_one (t : PT) (v : EnvQ) (hv : v.vars = []) (h : t.wt ≤ 768) : ∃ X Y, OfX t v X ∧ NumX t v [] Y ∧ errOf X = errOf Y ∧ conOf X = ⟨0, [], numOf Y⟩ := by
 by_cases hi : t.is = true
 ·have ho : PT.ok 0 t = true := by rw [← PT.is_light h]; exact hi
  obtain ⟨e, he⟩ := PT.as_of_ok _ t 0 (Nat.le_refl _) ho
  refine ⟨_, _, .inr ⟨hi, e, he, rfl⟩, .inr ⟨hi, e, he, rfl⟩, ?_⟩
  rcases plainX v hv e with ⟨k, h1, h2⟩ | ⟨x, h1, h2⟩
  ·rw [h1, h2]; exact ⟨rfl, rfl⟩
  ·rw [h1, h2]; exact ⟨rfl, rfl⟩
 ·exact ⟨_, _, .inl ⟨by simpa using hi, rfl⟩, .inl ⟨by simpa using hi, rfl⟩, rfl, rfl⟩
end Pg
namespace Go.Proofs.YtahdlpkncemmaaaGreat
open Go.RowKit Pg
def EW.bare (x : EW) : EW := ⟨none, x.A1, x.A2, 0, 0, x.n1, x.k1, x.n2, x.k2, [], x.names, x.vals⟩
theorem EnvAt.bare {w : World} {x : EW} (h : EnvAt w x) : EnvAt w x.bare := ⟨⟨rfl, Nat.le_refl _, by simp [EW.bare], by simp [EW.bare], fun _ => rfl, fun h => absurd h (by simp [EW.bare])⟩, h.names, h.vals⟩
theorem cw0_le3 (k : Nat) : cw0.Le k := ⟨fun t ht => by simp [cw0] at ht, Nat.zero_le _, Nat.zero_le _⟩
theorem ofX_le3 {w : World} {v : Value} {t : PT} {x : EW} {X : Except Nat CQ} (hv : PT.Val w v t) (hE : EnvAt w x) (hl : ∀ r ∈ x.vals, r.Le 3) (hX : OfX t x.q X) (hwt : t.wt ≤ 768) : (conOf X).Le 768 := by
 rcases hX with ⟨_, rfl⟩ | ⟨_, e, he, rfl⟩
 ·exact cw0_le3 _
 ·cases hs : sumX x.q e with
  | error y => exact cw0_le3 _
  | ok c => exact (sumX_short x.q (short_of_at hE.vals hl (by omega)) e 768 c (SzX.mono (PT.As.sz he _ hv) hwt) hs).le
theorem rats0 (w : World) : SlAt 3 RawAt w none 0 0 [] := ⟨rfl, Nat.le_refl _, by omega, by omega, fun _ => rfl, fun h => absurd h (by omega)⟩
theorem law_AffPlain (v0 v1 : Value) (t : PT) (x : EW) (w : World) (hv : PT.Val w v0 t) (h1 : EnvArg w v1 x) :
  Calls Tryz.prog 7 #[v0, v1] w fun e w' => e = .returned (.bool true) ∧ Below w.heap.size w w' := by
 obtain ⟨rfl, hE⟩ := h1
 unfold EW.val
 have hF := hE.bare
 obtain ⟨X, Y, hX, hq, hc⟩ : ∃ X Y, (t.wt ≤ 768 → OfX t x.bare.q X ∧ NumX t x.bare.q [] Y) ∧ errOf X = errOf Y ∧ conOf X = ⟨0, [], numOf Y⟩ := by
  by_cases h : t.wt ≤ 768
  ·obtain ⟨X, Y, h1, h2, h3, h4⟩ := plain_one t x.bare.q rfl h
   exact ⟨X, Y, fun _ => ⟨h1, h2⟩, h3, h4⟩
  ·exact ⟨.error 5, .error 5, fun h' => absurd h' h, rfl, rfl⟩
 have HW := hid fun W (hW : Below w.heap.size w W) => weight8_any _ t (Nat.le_refl _) 300 v0 W (hv.below hW) (by omega) (by omega)
 have HL := hid fun W (hW : Below w.heap.size w W) => long8_any W (hE.below hW)
 have HO := hid fun W (hW : Below w.heap.size w W) (hwt : t.wt ≤ 300) (hl : ∀ r ∈ x.vals, r.Le 3) => (show Calls Tryz.prog 11 #[v0, .agg #[.slice none 0 0, .slice x.A1 x.n1 x.k1, .slice x.A2 x.n2 x.k2]] W (SumRet W X) from Of_C W (hv.below hW) (by omega) (hF.below hW) hl (Nat.zero_le _) (hX (by omega)).1)
 have HU := hid fun W (hW : Below w.heap.size w W) (hwt : t.wt ≤ 300) (hl : ∀ r ∈ x.vals, r.Le 3) => (show Calls Tryz.prog 28 #[v0, .agg #[.slice none 0 0, .slice x.A1 x.n1 x.k1, .slice x.A2 x.n2 x.k2], .slice none 0 0] W (PNumRet W Y) from Value_C W (hv.below hW) (by omega) (hF.below hW) hl (rats0 W) (fun r hr => by cases hr) (hX (by omega)).2)
 have HR := hid fun W (hW : Below w.heap.size w W) (hwt : t.wt ≤ 300) (hl : ∀ r ∈ x.vals, r.Le 3) => (show Calls Tryz.prog 12 #[v0, .agg #[.slice none 0 0, .slice x.A1 x.n1 x.k1, .slice x.A2 x.n2 x.k2]] W (SumRet W X) from rOf_C W (hv.below hW) (by omega) (hF.below hW) hl (Nat.zero_le _) (hX (by omega)).1)
 have HLe := hid fun (hwt : t.wt ≤ 300) (hl : ∀ r ∈ x.vals, r.Le 3) => (have h := ofX_le3 hv hF hl (hX (by omega)).1 (by omega); And.intro h (show CW.Le ⟨0, [], numOf Y⟩ 768 from hc ▸ h))
 have hs6 := hv.six
 have HN : Hid ((conOf X).t = []) := hid (by rw [hc])
 have HS : Hid (sameW (conOf X) ⟨0, [], numOf Y⟩ = true) := hid (by rw [hc]; exact sameW_refl _)
 have e1 : ((errOf X : Int) != (errOf Y : Int)) = false := by rw [hq]; simp
 obtain ⟨E, e3⟩ : ∃ E, ((errOf X : Int) != 0) = E := ⟨_, rfl⟩
 clear hE hX hF hq hc
 obtain ⟨c0, c1, c2, c3, c4, c5, rfl⟩ := hs6
 clear hv
 go_enter Tryz.func7, Tryz.ntmps7
 go_upto_region 1 with fail
 refine wp_world (F := fun W => (Bs W w.heap.size 27 [c0, c1, c2, c3, c4, c5] ∧ Bs W (w.heap.size + 1) 31 [.slice x.A0 x.n0 x.k0, .slice x.A1 x.n1 x.k1, .slice x.A2 x.n2 x.k2]) ∧ Below w.heap.size w W)
  ⟨⟨(Bs.new w _ _ _ rfl).alloc _, Bs.new _ _ _ _ (by simp)⟩, Pg.bel⟩ ?_
 rintro w1 ⟨⟨HX, HV⟩, hb1⟩
 replace HX := hid HX
 replace HV := hid HV
 have a0 := HX.out.cell 0 rfl
 have a1 := HX.out.cell 1 rfl
 have a2 := HX.out.cell 2 rfl
 have a3 := HX.out.cell 3 rfl
 have a4 := HX.out.cell 4 rfl
 have a5 := HX.out.cell 5 rfl
 have b0 := HV.out.cell 0 rfl
 have b1 := HV.out.cell 1 rfl
 have b2 := HV.out.cell 2 rfl
 go_wp2_with (first
  | (go_at_call 9; (with_reducible refine (HW.out _ hb1).mono ?_); rintro e w2 ⟨q, rfl, q1, q2, q3, hb2⟩; have HX2 := hid (HX.out.below hb2); have HV2 := hid (HV.out.below hb2); have hw2 := Below.then_ hb1 hb2; clear a0 a1 a2 a3 a4 a5 b0 b1 b2; have a0 := HX2.out.cell 0 rfl; have a1 := HX2.out.cell 1 rfl; have a2 := HX2.out.cell 2 rfl; have a3 := HX2.out.cell 3 rfl; have a4 := HX2.out.cell 4 rfl; have a5 := HX2.out.cell 5 rfl; have b0 := HV2.out.cell 0 rfl; have b1 := HV2.out.cell 1 rfl; have b2 := HV2.out.cell 2 rfl; obtain ⟨B, hB⟩ : ∃ B, decide (q < 0) = B := ⟨_, rfl⟩; rcases B with _ | _)
  | (go_at_call 10; (with_reducible refine (HL.out _ hw2).mono ?_); rintro e w3 ⟨B2, rfl, hB2, hb3⟩; have HX3 := hid (HX2.out.below hb3); have HV3 := hid (HV2.out.below hb3); have hw3 := Below.then_ hw2 hb3; clear a0 a1 a2 a3 a4 a5 b0 b1 b2; have a0 := HX3.out.cell 0 rfl; have a1 := HX3.out.cell 1 rfl; have a2 := HX3.out.cell 2 rfl; have a3 := HX3.out.cell 3 rfl; have a4 := HX3.out.cell 4 rfl; have a5 := HX3.out.cell 5 rfl; have b0 := HV3.out.cell 0 rfl; have b1 := HV3.out.cell 1 rfl; have b2 := HV3.out.cell 2 rfl; have f0 := HV3.out.frozen 0; rcases B2 with _ | _)
  | (go_at_call 11; go_loud (have hwt : t.wt ≤ 300 := (by have h0 : 0 ≤ q := (by have := of_decide_eq_false hB; omega); have := q3 h0; omega); have hlx : ∀ r ∈ x.vals, r.Le 3 := (hB2 (by first | exact rfl | trivial)).2; have HVt := stored1 (i := 0) (u := .slice none 0 0) HV3.out; have HXs := hid (HX3.out.grown HVt.2.1 (by simp)); have HVs : Hid (Bs (w3.setCell ⟨w.heap.size + 1, 0, none⟩ (.slice none 0 0)) (w.heap.size + 1) 31 [.slice none 0 0, .slice x.A1 x.n1 x.k1, .slice x.A2 x.n2 x.k2]) := hid HVt.1; have hws := hw3.trans (Below.kept HVt.2.1 (by omega) hw3.size); clear f0 HVt; (with_reducible refine (HO.out _ hws hwt hlx).mono ?_); rintro e w4 ⟨v4, rfl, hv4, hb4⟩; obtain ⟨T4, n4, m4, y4, rfl, hc4⟩ := hv4.cv; obtain rfl : n4 = 0 := (by have h0 := hc4.1.1; rw [HN.out] at h0; exact h0.symm); have h4 := Below.then_ hws hb4; have HXa := hid ((HXs.out.below hb4).alloc (.cells #[.int .i64 (conOf X).s, .slice T4 0 m4, .bool y4.s, .slice y4.A y4.n y4.c, .slice y4.A' y4.n' y4.c'] 36)); have HVa := hid ((HVs.out.below hb4).alloc (.cells #[.int .i64 (conOf X).s, .slice T4 0 m4, .bool y4.s, .slice y4.A y4.n y4.c, .slice y4.A' y4.n' y4.c'] 36)); have HCa := hid (Bs.new w4 36 [.int .i64 (conOf X).s, .slice T4 0 m4, .bool y4.s, .slice y4.A y4.n y4.c, .slice y4.A' y4.n' y4.c'] _ rfl); have hca := hid (hc4.below (Below.new_ (Below.refl _ _) (.cells #[.int .i64 (conOf X).s, .slice T4 0 m4, .bool y4.s, .slice y4.A y4.n y4.c, .slice y4.A' y4.n' y4.c'] 36))); have hwa := h4.trans ((Below.new_ (Below.refl _ _) (.cells #[.int .i64 (conOf X).s, .slice T4 0 m4, .bool y4.s, .slice y4.A y4.n y4.c, .slice y4.A' y4.n' y4.c'] 36)).mono h4.size); clear hv4 hc4; clear a0 a1 a2 a3 a4 a5 b0 b1 b2; have a0 := HXa.out.cell 0 rfl; have a1 := HXa.out.cell 1 rfl; have a2 := HXa.out.cell 2 rfl; have a3 := HXa.out.cell 3 rfl; have a4 := HXa.out.cell 4 rfl; have a5 := HXa.out.cell 5 rfl; have b0 := HVa.out.cell 0 rfl; have b1 := HVa.out.cell 1 rfl; have b2 := HVa.out.cell 2 rfl))
  | (go_at_call 28; (with_reducible refine (HU.out _ hwa hwt hlx).mono ?_); rintro e w5 ⟨y5, rfl, hy5, hb5⟩; have h5 := Below.then_ hwa hb5; have HXb := hid ((HXa.out.below hb5).alloc (.cells #[.bool y5.s, .slice y5.A y5.n y5.c, .slice y5.A' y5.n' y5.c'] 24)); have HVb := hid ((HVa.out.below hb5).alloc (.cells #[.bool y5.s, .slice y5.A y5.n y5.c, .slice y5.A' y5.n' y5.c'] 24)); have HCb := hid ((HCa.out.below hb5).alloc (.cells #[.bool y5.s, .slice y5.A y5.n y5.c, .slice y5.A' y5.n' y5.c'] 24)); have hcb := hid ((hca.out.below hb5).below (Below.new_ (Below.refl _ _) (.cells #[.bool y5.s, .slice y5.A y5.n y5.c, .slice y5.A' y5.n' y5.c'] 24))); have HRb := hid (Bs.new w5 24 [.bool y5.s, .slice y5.A y5.n y5.c, .slice y5.A' y5.n' y5.c'] _ rfl); have hyb := hid (hy5.below (Below.new_ (Below.refl _ _) (.cells #[.bool y5.s, .slice y5.A y5.n y5.c, .slice y5.A' y5.n' y5.c'] 24))); have hwb := h5.trans ((Below.new_ (Below.refl _ _) (.cells #[.bool y5.s, .slice y5.A y5.n y5.c, .slice y5.A' y5.n' y5.c'] 24)).mono h5.size); clear hy5; clear a0 a1 a2 a3 a4 a5 b0 b1 b2; have a0 := HXb.out.cell 0 rfl; have a1 := HXb.out.cell 1 rfl; have a2 := HXb.out.cell 2 rfl; have a3 := HXb.out.cell 3 rfl; have a4 := HXb.out.cell 4 rfl; have a5 := HXb.out.cell 5 rfl; have b0 := HVb.out.cell 0 rfl; have b1 := HVb.out.cell 1 rfl; have b2 := HVb.out.cell 2 rfl)
  | (go_at_call 12; (with_reducible refine (HR.out _ hwb hwt hlx).mono ?_); rintro e w6 ⟨v6, rfl, hv6, hb6⟩; obtain ⟨T6, n6, m6, y6, rfl, hc6⟩ := hv6.cv; have h6 := Below.then_ hwb hb6; have HCc := hid ((HCb.out.below hb6).alloc (.cells #[.int .i64 (conOf X).s, .slice T6 n6 m6, .bool y6.s, .slice y6.A y6.n y6.c, .slice y6.A' y6.n' y6.c'] 36)); have hcc := hid ((hcb.out.below hb6).below (Below.new_ (Below.refl _ _) (.cells #[.int .i64 (conOf X).s, .slice T6 n6 m6, .bool y6.s, .slice y6.A y6.n y6.c, .slice y6.A' y6.n' y6.c'] 36))); have HRc := hid ((HRb.out.below hb6).alloc (.cells #[.int .i64 (conOf X).s, .slice T6 n6 m6, .bool y6.s, .slice y6.A y6.n y6.c, .slice y6.A' y6.n' y6.c'] 36)); have hyc := hid ((hyb.out.below hb6).below (Below.new_ (Below.refl _ _) (.cells #[.int .i64 (conOf X).s, .slice T6 n6 m6, .bool y6.s, .slice y6.A y6.n y6.c, .slice y6.A' y6.n' y6.c'] 36))); have hwc := h6.trans ((Below.new_ (Below.refl _ _) (.cells #[.int .i64 (conOf X).s, .slice T6 n6 m6, .bool y6.s, .slice y6.A y6.n y6.c, .slice y6.A' y6.n' y6.c'] 36)).mono h6.size); clear hv6 hc6 a0 a1 a2 a3 a4 a5 b0 b1 b2; have p0 := HCc.out.cell 0 rfl; have p1 := HCc.out.cell 1 rfl; have p2 := HCc.out.cell 2 rfl; have p3 := HCc.out.cell 3 rfl; have p4 := HCc.out.cell 4 rfl; have r0 := HRc.out.cell 0 rfl; have r1 := HRc.out.cell 1 rfl; have r2 := HRc.out.cell 2 rfl; rcases E with _ | _)
  | (go_at_call 13; (with_reducible refine (rSame_C _ hcc.out.val (plain_val hyc.out) (HLe.out hwt hlx).1 (HLe.out hwt hlx).2 (by omega) HS.out).mono ?_); rintro e w7 ⟨rfl, hb7⟩; have hw7 := Below.then_ hwc hb7)
  | (go_at_call 14; (with_reducible refine (known8_any _).mono ?_); rintro e w8 ⟨rfl, hb8⟩; have hw8 : Below w.heap.size w w8 := (by first | exact Below.then_ hw7 hb8 | exact Below.then_ hwc hb8)))
 all_goals go_ret
 all_goals exact ⟨by rfl, by first | assumption | exact Pg.bel⟩
end Go.Proofs.YtahdlpkncemmaaaGreat
