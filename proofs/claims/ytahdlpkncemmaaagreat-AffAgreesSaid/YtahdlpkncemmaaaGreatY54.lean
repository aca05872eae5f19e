/- The law AffAgrees. Conditions: those that each theorem names. -/
import Derived.Test.YtahdlpkncemmaaaGreatY45
import Derived.Test.YtahdlpkncemmaaaGreatY50
import Derived.Test.YtahdlpkncemmaaaGreatY53
import Derived.Test.YtahdlpkncemmaaaGreatY36
import Derived.Test.YtahdlpkncemmaaaGreatY38
set_option maxRecDepth 100000
set_option maxHeartbeats 8000000
set_option linter.unusedSimpArgs false
set_option linter.unusedVariables false
namespace Go.Proofs.YtahdlpkncemmaaaGreat
open Go.RowKit Pg
theorem rwOf_norm (q : Rat) : (rwOf q).norm = true := by simp [RW.norm, rwOf_q]; simp [rwOf]
theorem isL_of {n : Int} : ∀ (l : List TQ) (a : Int), termsOk n a l = true → isL n a (l.map twOf) = true
 | [], _, _ => rfl
 | t :: l, a, h => by
  simp only [termsOk, Bool.and_eq_true, decide_eq_true_eq] at h
  simp only [List.map_cons, isL, Bool.and_eq_true, decide_eq_true_eq]
  refine ⟨⟨⟨⟨h.1.1.1, h.1.1.2⟩, rwOf_norm _⟩, ?_⟩, isL_of l _ h.2⟩
  have h0 : rnum t.c ≠ 0 := by rw [Ne, rnum_zero_iff]; exact h.1.2
  have h1 := (tl_top h0).1
  show (!(limbs (rnum t.c)).isEmpty) = true
  cases hx : limbs (rnum t.c) with
  | nil => unfold tl at h1; rw [hx] at h1; simp at h1
  | cons a b => rfl
theorem isW_of {v : EnvQ} {e : XE} {c : CQ} (h : sumX v e = .ok c) : isW (cwOf c) v.vars.length = true := by
 have h0 := sumX_ok v e c h
 simp only [isW, Bool.and_eq_true, decide_eq_true_eq]
 exact ⟨⟨⟨show 0 ≤ c.s by omega, show c.s ≤ 4 by omega⟩, rwOf_norm _⟩, isL_of _ _ h0.2⟩
def AgX (t : PT) (v : EnvQ) (l : List Rat) (X : Except Nat CQ) (Y : Except Nat Rat) : Prop := (t.is = false ∧ X = .error 5 ∧ Y = .error 5) ∨ (t.is = true ∧ ∃ e, PT.As t e ∧ X = sumX v e ∧ Y = numX v l e)
theorem agX_one (t : PT) (v : EnvQ) (l : List Rat) (h : t.wt ≤ 768) : ∃ X Y, AgX t v l X Y := by
 by_cases hi : t.is = true
 ·have ho : PT.ok 0 t = true := by rw [← PT.is_light h]; exact hi
  obtain ⟨e, he⟩ := PT.as_of_ok _ t 0 (Nat.le_refl _) ho
  exact ⟨_, _, .inr ⟨hi, e, he, rfl, rfl⟩⟩
 ·exact ⟨_, _, .inl ⟨by simpa using hi, rfl, rfl⟩⟩
theorem AgX.of {t : PT} {v : EnvQ} {l : List Rat} {X : Except Nat CQ} {Y : Except Nat Rat} (h : AgX t v l X Y) : OfX t v X := by
 rcases h with ⟨h, h1, _⟩ | ⟨h, e, he, h1, _⟩
 ·exact .inl ⟨h, h1⟩
 ·exact .inr ⟨h, e, he, h1⟩
theorem AgX.num {t : PT} {v : EnvQ} {l : List Rat} {X : Except Nat CQ} {Y : Except Nat Rat} (h : AgX t v l X Y) : NumX t v l Y := by
 rcases h with ⟨h, _, h1⟩ | ⟨h, e, he, _, h1⟩
 ·exact .inl ⟨h, h1⟩
 ·exact .inr ⟨h, e, he, h1⟩
theorem AgX.ok {w : World} {v : Value} {t : PT} {x : EW} {A : Option Addr} {n c : Nat} {l : List RW} {X : Except Nat CQ} {Y : Except Nat Rat} (h : AgX t x.q (l.map RW.q) X Y) (hv : PT.Val w v t) (hE : EnvAt w x) (hS : SlAt 3 RawAt w A n c l) (hl : ∀ r ∈ x.vals, r.Le 3) (hl' : ∀ r ∈ l, r.Le 3) (hwt : t.wt ≤ 300) (hn : x.vars.length ≤ 20)
  (h1 : ((errOf X : Int) != 0) = false) (h2 : ((errOf Y : Int) != 0) = false) : (∃ a, numOf Y = rwOf a ∧ atC (valAt (l.map RW.q)) (conOf X).q = a) ∧ (conOf X).Le 300 ∧ (conOf X).t.length ≤ 200 ∧ isW (conOf X) x.vars.length = true ∧ (numOf Y).Le 300 := by
 have g1 : errOf X = 0 := by have := bne_eq_false_iff_eq.1 h1; omega
 have g2 : errOf Y = 0 := by have := bne_eq_false_iff_eq.1 h2; omega
 rcases h with ⟨_, rfl, _⟩ | ⟨_, e, he, hX, hY⟩
 ·cases g1
 ·have hvs := short_of_at hE.vals hl (by omega)
  have hls := short_of_at hS hl' (by omega)
  have hsz := SzX.mono (PT.As.sz he _ hv) hwt
  rcases X with x1 | c
  ·exact absurd g1 (sumX_err hX.symm)
  ·rcases Y with x2 | a
   ·exact absurd g2 (numX_err hY.symm)
   ·have hc := (sumX_short x.q hvs e 300 c hsz hX.symm)
    have ha := (numX_short x.q _ hvs hls e 300 a hsz hY.symm)
    have hlen := sumX_len hX.symm
    refine ⟨⟨a, rfl, ?_⟩, hc.le, ?_, isW_of hX.symm, short_le ha⟩
    ·show atC _ (cwOf c).q = a
     rw [cwOf_q]
     exact agree x.q _ e c a hX.symm hY.symm
    ·show (cwOf c).t.length ≤ 200
     rw [cwOf_len]
     have : x.q.vars.length = x.vars.length := rfl
     omega
theorem law_AffAgrees (v0 v1 v2 : Value) (t : PT) (x : EW) (y : LW) (w : World) (hv : PT.Val w v0 t) (h1 : EnvArg w v1 x) (h2 : RatsArg w v2 y) :
  Calls Tryz.prog 6 #[v0, v1, v2] w fun e w' => e = .returned (.bool true) ∧ Below w.heap.size w w' := by
 obtain ⟨rfl, hE⟩ := h1
 obtain ⟨rfl, hS⟩ := h2
 unfold EW.val LW.val
 obtain ⟨X, Y, hX⟩ : ∃ X Y, t.wt ≤ 768 → AgX t x.q (y.l.map RW.q) X Y := by
  by_cases h : t.wt ≤ 768
  ·obtain ⟨X, Y, h⟩ := agX_one t x.q (y.l.map RW.q) h
   exact ⟨X, Y, fun _ => h⟩
  ·exact ⟨.error 5, .error 5, fun h' => absurd h' h⟩
 have hn0 : x.vars.length = x.n0 := hE.vars.1
 have HW := hid fun W (hW : Below w.heap.size w W) => weight8_any _ t (Nat.le_refl _) 300 v0 W (hv.below hW) (by omega) (by omega)
 have HL := hid fun W (hW : Below w.heap.size w W) => long8_any W (hE.below hW)
 have HM := hid fun W (hW : Below w.heap.size w W) => many8_any W (hS.below rawAt_stays hW)
 have HO := hid fun W (hW : Below w.heap.size w W) (hwt : t.wt ≤ 300) (hl : ∀ r ∈ x.vals, r.Le 3) (hn : x.vars.length ≤ 20) => Of_C W (hv.below hW) (by omega) (hE.below hW) hl (by omega) (hX (by omega)).of
 have HU := hid fun W (hW : Below w.heap.size w W) (hwt : t.wt ≤ 300) (hl : ∀ r ∈ x.vals, r.Le 3) (hl' : ∀ r ∈ y.l, r.Le 3) => Value_C W (hv.below hW) (by omega) (hE.below hW) hl (hS.below rawAt_stays hW) hl' (hX (by omega)).num
 have HR := hid fun W (hW : Below w.heap.size w W) (hwt : t.wt ≤ 300) (hl : ∀ r ∈ x.vals, r.Le 3) (hn : x.vars.length ≤ 20) => rOf_C W (hv.below hW) (by omega) (hE.below hW) hl (by omega) (hX (by omega)).of
 have HOK := hid fun (hwt : t.wt ≤ 300) (hl : ∀ r ∈ x.vals, r.Le 3) (hl' : ∀ r ∈ y.l, r.Le 3) (hn : x.vars.length ≤ 20) => (hX (by omega)).ok hv hE hS hl hl' hwt hn
 have HS := hid hS
 have HN0 := hid hn0
 have hs6 := hv.six
 obtain ⟨E1, e1⟩ : ∃ E, ((errOf X : Int) != 0) = E := ⟨_, rfl⟩
 obtain ⟨E2, e2⟩ : ∃ E, ((errOf Y : Int) != 0) = E := ⟨_, rfl⟩
 clear hE hX hS hn0
 obtain ⟨c0, c1, c2, c3, c4, c5, rfl⟩ := hs6
 clear hv
 go_enter Tryz.func6, Tryz.ntmps6
 go_upto_region 1 with fail
 refine wp_world (F := fun W => (Bs W w.heap.size 27 [c0, c1, c2, c3, c4, c5] ∧ Bs W (w.heap.size + 1) 31 [.slice x.A0 x.n0 x.k0, .slice x.A1 x.n1 x.k1, .slice x.A2 x.n2 x.k2]) ∧ Below w.heap.size w W)
  ⟨⟨(Bs.new w _ _ _ rfl).alloc _, Bs.new _ _ _ _ (by simp)⟩, Pg.bel⟩ ?_
 rintro w1 ⟨⟨HX, HV⟩, hb1⟩
 replace HX := hid HX
 replace HV := hid HV
 have a0 := HX.out.cell 0 rfl
 have a1 := HX.out.cell 1 rfl
 have a2 := HX.out.cell 2 rfl
 have a3 := HX.out.cell 3 rfl
 have a4 := HX.out.cell 4 rfl
 have a5 := HX.out.cell 5 rfl
 have b0 := HV.out.cell 0 rfl
 have b1 := HV.out.cell 1 rfl
 have b2 := HV.out.cell 2 rfl
 go_wp2_with (first
  | (go_at_call 9; (with_reducible refine (HW.out _ hb1).mono ?_); rintro e w2 ⟨q, rfl, q1, q2, q3, hb2⟩; have HX2 := hid (HX.out.below hb2); have HV2 := hid (HV.out.below hb2); have hw2 := Below.then_ hb1 hb2; clear a0 a1 a2 a3 a4 a5 b0 b1 b2; have a0 := HX2.out.cell 0 rfl; have a1 := HX2.out.cell 1 rfl; have a2 := HX2.out.cell 2 rfl; have a3 := HX2.out.cell 3 rfl; have a4 := HX2.out.cell 4 rfl; have a5 := HX2.out.cell 5 rfl; have b0 := HV2.out.cell 0 rfl; have b1 := HV2.out.cell 1 rfl; have b2 := HV2.out.cell 2 rfl; obtain ⟨B, hB⟩ : ∃ B, decide (q < 0) = B := ⟨_, rfl⟩; rcases B with _ | _)
  | (go_at_call 10; (with_reducible refine (HL.out _ hw2).mono ?_); rintro e w3 ⟨B2, rfl, hB2, hb3⟩; have HX3 := hid (HX2.out.below hb3); have HV3 := hid (HV2.out.below hb3); have hw3 := Below.then_ hw2 hb3; clear a0 a1 a2 a3 a4 a5 b0 b1 b2; have a0 := HX3.out.cell 0 rfl; have a1 := HX3.out.cell 1 rfl; have a2 := HX3.out.cell 2 rfl; have a3 := HX3.out.cell 3 rfl; have a4 := HX3.out.cell 4 rfl; have a5 := HX3.out.cell 5 rfl; have b0 := HV3.out.cell 0 rfl; have b1 := HV3.out.cell 1 rfl; have b2 := HV3.out.cell 2 rfl; rcases B2 with _ | _)
  | (go_at_call 16; (with_reducible refine (HM.out _ hw3).mono ?_); rintro e wm ⟨B3, rfl, hB3, hbm⟩; have HXm := hid (HX3.out.below hbm); have HVm := hid (HV3.out.below hbm); have hwm := Below.then_ hw3 hbm; clear a0 a1 a2 a3 a4 a5 b0 b1 b2; have a0 := HXm.out.cell 0 rfl; have a1 := HXm.out.cell 1 rfl; have a2 := HXm.out.cell 2 rfl; have a3 := HXm.out.cell 3 rfl; have a4 := HXm.out.cell 4 rfl; have a5 := HXm.out.cell 5 rfl; have b0 := HVm.out.cell 0 rfl; have b1 := HVm.out.cell 1 rfl; have b2 := HVm.out.cell 2 rfl; rcases B3 with _ | _)
  | (go_at_call 11; go_loud (have hwt : t.wt ≤ 300 := (by have h0 : 0 ≤ q := (by have := of_decide_eq_false hB; omega); have := q3 h0; omega); have hlx : ∀ r ∈ x.vals, r.Le 3 := (hB2 (by first | exact rfl | trivial)).2; have hnx : x.vars.length ≤ 20 := (hB2 (by first | exact rfl | trivial)).1; have hly : ∀ r ∈ y.l, r.Le 3 := (hB3 (by first | exact rfl | trivial)).2; (with_reducible refine (HO.out _ hwm hwt hlx hnx).mono ?_); rintro e w4 ⟨v4, rfl, hv4, hb4⟩; obtain ⟨T4, n4, m4, y4, rfl, hc4⟩ := hv4.cv; have h4 := Below.then_ hwm hb4; have HXa := hid ((HXm.out.below hb4).alloc (.cells #[.int .i64 (conOf X).s, .slice T4 n4 m4, .bool y4.s, .slice y4.A y4.n y4.c, .slice y4.A' y4.n' y4.c'] 36)); have HVa := hid ((HVm.out.below hb4).alloc (.cells #[.int .i64 (conOf X).s, .slice T4 n4 m4, .bool y4.s, .slice y4.A y4.n y4.c, .slice y4.A' y4.n' y4.c'] 36)); have HCa := hid (Bs.new w4 36 [.int .i64 (conOf X).s, .slice T4 n4 m4, .bool y4.s, .slice y4.A y4.n y4.c, .slice y4.A' y4.n' y4.c'] _ rfl); have hca := hid (hc4.below (Below.new_ (Below.refl _ _) (.cells #[.int .i64 (conOf X).s, .slice T4 n4 m4, .bool y4.s, .slice y4.A y4.n y4.c, .slice y4.A' y4.n' y4.c'] 36))); have hwa := h4.trans ((Below.new_ (Below.refl _ _) (.cells #[.int .i64 (conOf X).s, .slice T4 n4 m4, .bool y4.s, .slice y4.A y4.n y4.c, .slice y4.A' y4.n' y4.c'] 36)).mono h4.size); clear hv4 hc4; clear a0 a1 a2 a3 a4 a5 b0 b1 b2; have a0 := HXa.out.cell 0 rfl; have a1 := HXa.out.cell 1 rfl; have a2 := HXa.out.cell 2 rfl; have a3 := HXa.out.cell 3 rfl; have a4 := HXa.out.cell 4 rfl; have a5 := HXa.out.cell 5 rfl; have b0 := HVa.out.cell 0 rfl; have b1 := HVa.out.cell 1 rfl; have b2 := HVa.out.cell 2 rfl))
  | (go_at_call 28; (with_reducible refine (HU.out _ hwa hwt hlx hly).mono ?_); rintro e w5 ⟨y5, rfl, hy5, hb5⟩; have h5 := Below.then_ hwa hb5; have HXb := hid ((HXa.out.below hb5).alloc (.cells #[.bool y5.s, .slice y5.A y5.n y5.c, .slice y5.A' y5.n' y5.c'] 24)); have HVb := hid ((HVa.out.below hb5).alloc (.cells #[.bool y5.s, .slice y5.A y5.n y5.c, .slice y5.A' y5.n' y5.c'] 24)); have HCb := hid ((HCa.out.below hb5).alloc (.cells #[.bool y5.s, .slice y5.A y5.n y5.c, .slice y5.A' y5.n' y5.c'] 24)); have hcb := hid ((hca.out.below hb5).below (Below.new_ (Below.refl _ _) (.cells #[.bool y5.s, .slice y5.A y5.n y5.c, .slice y5.A' y5.n' y5.c'] 24))); have HRb := hid (Bs.new w5 24 [.bool y5.s, .slice y5.A y5.n y5.c, .slice y5.A' y5.n' y5.c'] _ rfl); have hyb := hid (hy5.below (Below.new_ (Below.refl _ _) (.cells #[.bool y5.s, .slice y5.A y5.n y5.c, .slice y5.A' y5.n' y5.c'] 24))); have hwb := h5.trans ((Below.new_ (Below.refl _ _) (.cells #[.bool y5.s, .slice y5.A y5.n y5.c, .slice y5.A' y5.n' y5.c'] 24)).mono h5.size); clear hy5; clear a0 a1 a2 a3 a4 a5 b0 b1 b2; have a0 := HXb.out.cell 0 rfl; have a1 := HXb.out.cell 1 rfl; have a2 := HXb.out.cell 2 rfl; have a3 := HXb.out.cell 3 rfl; have a4 := HXb.out.cell 4 rfl; have a5 := HXb.out.cell 5 rfl; have b0 := HVb.out.cell 0 rfl; have b1 := HVb.out.cell 1 rfl; have b2 := HVb.out.cell 2 rfl; rcases E1 with _ | _ <;> rcases E2 with _ | _)
  | (go_at_call 12; (with_reducible refine (HR.out _ hwb hwt hlx hnx).mono ?_); rintro e w6 ⟨v6, rfl, hv6, hb6⟩; obtain ⟨T6, n6, m6, y6, rfl, hc6⟩ := hv6.cv; have h6 := Below.then_ hwb hb6; have hwc := h6.trans ((Below.new_ (Below.refl _ _) (.cells #[.int .i64 (conOf X).s, .slice T6 n6 m6, .bool y6.s, .slice y6.A y6.n y6.c, .slice y6.A' y6.n' y6.c'] 36)).mono h6.size); clear hv6 hc6 a0 a1 a2 a3 a4 a5 b0 b1 b2)
  | (go_at_call 14; (with_reducible refine (known8_any _).mono ?_); rintro e w8 ⟨rfl, hb8⟩; have hw8 : Below w.heap.size w w8 := Below.then_ hwc hb8))
 all_goals try (go_ret; exact ⟨by rfl, by first | assumption | exact Pg.bel⟩)
 obtain ⟨⟨a, hYa, hat⟩, hXl, hXn, hIW, hYl⟩ := HOK.out hwt hlx hly hnx e1 e2
 rw [HN0.out] at hIW
 replace hXl := hXl.mono (show 300 ≤ 262144 by omega)
 replace hYl := hYl.mono (show 300 ≤ 262144 by omega)
 have HAt := hid fun (W : World) (hW : Below w.heap.size w W) {v : Value} (hv : ConVal W v (conOf X)) => rAt_C W hv (HS.out.below rawAt_stays hW) (fun r hr => (hly r hr).mono (by omega)) ((HOK.out hwt hlx hly hnx e1 e2).2.1) (by omega) (by omega) hXn
 rw [hat] at HAt
 rw [hYa] at hYl hyb
 clear hat hYa HOK
 refine wp_world (F := fun W => (Bs W w4.heap.size 36 [.int .i64 (conOf X).s, .slice T4 n4 m4, .bool y4.s, .slice y4.A y4.n y4.c, .slice y4.A' y4.n' y4.c'] ∧ Bs W w5.heap.size 24 [.bool y5.s, .slice y5.A y5.n y5.c, .slice y5.A' y5.n' y5.c'] ∧ Bs W (w.heap.size + 1) 31 [.slice x.A0 x.n0 x.k0, .slice x.A1 x.n1 x.k1, .slice x.A2 x.n2 x.k2]) ∧ CV W T4 n4 m4 y4 (conOf X) ∧ y5.at W (rwOf a) ∧ Below w.heap.size w W)
  ⟨⟨HCb.out, HRb.out, HVb.out⟩, hcb.out, hyb.out, hwb⟩ ?_
 rintro w6 ⟨⟨HCc, HRc, HVc⟩, hcc, hyc, hw6⟩
 clear a0 a1 a2 a3 a4 a5 b0 b1 b2
 refine draw_G (fun _ _ => False) (fun W => Below w6.heap.size w6 W) 16 none [some 55, some 56, some 57, some 58, some 59, some 60, some 61, some 62, some 63, some 64, some 65, some 66, some 67, some 68, some 69, some 6] [.is (.agg #[.int .i64 (conOf X).s, .slice T4 n4 m4, .bool y4.s, .slice y4.A y4.n y4.c, .slice y4.A' y4.n' y4.c']), .is (.slice y.A y.n y.k), .such (fun W v => ∃ (yX : RV), v = .agg #[.bool yX.s, .slice yX.A yX.n yX.c, .slice yX.A' yX.n' yX.c'] ∧ yX.at W (rwOf a)), .is (.agg #[.bool y5.s, .slice y5.A y5.n y5.c, .slice y5.A' y5.n' y5.c']), .is (.bool true), .is (.bool true), .is (.agg #[.int .i64 (conOf X).s, .slice T4 n4 m4, .bool y4.s, .slice y4.A y4.n y4.c, .slice y4.A' y4.n' y4.c']), .is (.pointer (some ⟨w.heap.size + 1, 0, none⟩)), .is (.slice x.A0 x.n0 x.k0), .is (.int .i64 (x.n0 : Int)), .is (.bool true), .is (.bool true), .is (.bool true), .is (.bool true), .is (.bool true), .is (.bool true)]
  (by kernel_rfl) (by kernel_rfl) (by kernel_rfl) (by kernel_rfl) rfl (by kernel_rfl) (fun _ h => h) (fun _ _ h hb => Below.then_ h hb) (fun _ _ _ h => h.elim) (fun _ _ _ _ _ _ h => h.elim) ?_ ?_
 ·refine ⟨?_, ?_, ?_, ?_, ?_, ?_, ?_, ?_, ?_, ?_, ?_, ?_, ?_, ?_, ?_, ?_, trivial⟩
  ·intro a w3 hA K hK
   have t7 := hA.old 7 _ rfl rfl
   have k0 := (HCc.below hA.grown).cell 0 rfl
   have k1 := (HCc.below hA.grown).cell 1 rfl
   have k2 := (HCc.below hA.grown).cell 2 rfl
   have k3 := (HCc.below hA.grown).cell 3 rfl
   have k4 := (HCc.below hA.grown).cell 4 rfl
   go_simp
   exact hK _ _ rfl (Below.refl _ _)
  ·intro a w3 hA K hK
   have t2 := hA.old 2 _ rfl rfl
   go_simp
   exact hK _ _ rfl (Below.refl _ _)
  ·intro a w3 hA K hK
   have t55 := bg_is hA 0 55
   have t56 := bg_is hA 1 56
   have hC := HAt.out w3 (hw6.trans (Below.mono hA.grown hw6.size)) (hcc.below hA.grown).val
   go_simp
   refine hC.mono ?_
   rintro e w4 ⟨y, rfl, hy, hb⟩
   exact hK _ _ (fun W hW => ⟨_, rfl, hy.below hW⟩) hb
  ·intro a w3 hA K hK
   have t9 := hA.old 9 _ rfl rfl
   have k0 := (HRc.below hA.grown).cell 0 rfl
   have k1 := (HRc.below hA.grown).cell 1 rfl
   have k2 := (HRc.below hA.grown).cell 2 rfl
   go_simp
   exact hK _ _ rfl (Below.refl _ _)
  ·intro a w3 hA K hK
   obtain ⟨v57, t57, p57⟩ := bg_such hA 2 57
   obtain ⟨y57, rfl, hy57⟩ := p57 w3 (Below.refl _ _)
   have t58 := bg_is hA 3 58
   have hC := r2Same_Q w3 hy57 (hyc.below hA.grown) hYl hYl (by omega) (decide_eq_true rfl)
   go_simp
   refine hC.mono ?_
   rintro e w4 ⟨rfl, hb⟩
   exact hK _ _ rfl hb
  ·intro a w3 hA K hK
   have t59 := bg_is hA 4 59
   go_simp
   exact hK _ _ rfl (Below.refl _ _)
  ·intro a w3 hA K hK
   have t7 := hA.old 7 _ rfl rfl
   have k0 := (HCc.below hA.grown).cell 0 rfl
   have k1 := (HCc.below hA.grown).cell 1 rfl
   have k2 := (HCc.below hA.grown).cell 2 rfl
   have k3 := (HCc.below hA.grown).cell 3 rfl
   have k4 := (HCc.below hA.grown).cell 4 rfl
   go_simp
   exact hK _ _ rfl (Below.refl _ _)
  ·intro a w3 hA K hK
   have t4 := hA.old 4 _ rfl rfl
   go_simp
   exact hK _ _ rfl (Below.refl _ _)
  ·intro a w3 hA K hK
   have t62 := bg_is hA 7 62
   have k0 := (HVc.below hA.grown).cell 0 rfl
   go_simp
   exact hK _ _ rfl (Below.refl _ _)
  ·intro a w3 hA K hK
   have t63 := bg_is hA 8 63
   go_simp
   exact hK _ _ Pg.fi_ (Below.refl _ _)
  ·intro a w3 hA K hK
   have t61 := bg_is hA 6 61
   have t64 := bg_is hA 9 64
   have hC := rIs_true w3 (hcc.below hA.grown).val hXl hIW
   go_simp
   refine hC.mono ?_
   rintro e w4 ⟨rfl, hb⟩
   exact hK _ _ rfl hb
  ·intro a w3 hA K hK
   have t60 := bg_is hA 5 60
   have t65 := bg_is hA 10 65
   go_simp
   exact hK _ _ Pg.fi_ (Below.refl _ _)
  ·intro a w3 hA K hK
   have t66 := bg_is hA 11 66
   go_simp
   exact hK _ _ rfl (Below.refl _ _)
  ·intro a w3 hA K hK
   have hC := known8_any w3
   go_simp
   refine hC.mono ?_
   rintro e w4 ⟨rfl, hb⟩
   exact hK _ _ rfl hb
  ·intro a w3 hA K hK
   have t67 := bg_is hA 12 67
   have t68 := bg_is hA 13 68
   go_simp
   exact hK _ _ Pg.fi_ (Below.refl _ _)
  ·intro a w3 hA K hK
   have t69 := bg_is hA 14 69
   go_simp
   exact hK _ _ Pg.fi_ (Below.refl _ _)
 rintro vs w7 hV hg7 hlk act hact
 repeat (replace hV := hV.is_; obtain ⟨_, rfl, hV⟩ := hV)
 replace hV := hV.such_; obtain ⟨v57, _, rfl, p57, hV⟩ := hV
 repeat (replace hV := hV.is_; obtain ⟨_, rfl, hV⟩ := hV)
 obtain rfl := hV.nil_
 clear hV
 clear hlk
 obtain ⟨y57, rfl, hy57⟩ := p57 w7 (Below.refl _ _)
 clear p57
 simp only [putsO] at hact
 subst hact
 go_simp
 go_wp2_with fail
 go_ret
 exact ⟨by rfl, Below.then_ hw6 hg7⟩
end Go.Proofs.YtahdlpkncemmaaaGreat
