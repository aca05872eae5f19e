/- Walk: the law ViewShows. Conditions: those that each theorem names. -/
import Derived.Test.YtbhieajpodnfpaaGreatZ39
import Derived.Test.YtbhieajpodnfpaaGreatZ36
import Derived.Test.YtbhieajpodnfpaaGreatZ42
import Derived.Test.YtbhieajpodnfpaaGreatZ15
namespace Go.Proofs.YtbhieajpodnfpaaGreat
open Go.RowKit Pg
theorem i64_wf {n : Int} (h : (Lit.int .i64 n).wf = true) : -9223372036854775808 ≤ n ∧ n ≤ 9223372036854775807 := by
  simp only [Lit.wf, Bool.and_eq_true, decide_eq_true_eq] at h
  exact h
set_option maxRecDepth 100000 in
set_option maxHeartbeats 8000000 in
theorem law_ViewShows (v0 v1 : Value) (x : FormD) (y : DocD) (w : World) (hF : FormArg w v0 x) (hD : DocArg w v1 y) (z : Int) (hz0 : -9223372036854775808 ≤ z) (hz1 : z ≤ 9223372036854775807) :
    Calls Tryz.prog 3 #[v0, v1, .int .i64 z] w fun e w' => e = .returned (.bool true) ∧ Below w.heap.size w w' := by
  obtain ⟨rfl, hF⟩ := hF
  obtain ⟨rfl, hD⟩ := hD
  have hVR : Hid ((∀ a ∈ y.va, a.1.n ≤ 3 ∧ a.1.n' ≤ 3) → VRead w x.GA x.FA x.RA y.VA y.UA y.QA y.LA x.gn x.gc x.fn x.fc x.rn x.rc y.vn y.vc y.un y.uc y.qn y.qc y.ln y.lc 3 (vdata x y)) := hid fun hv => vread_of hF hD hv
  obtain ⟨D, hDv⟩ : ∃ D, vdata x y = D := ⟨_, rfl⟩
  have hDf : D.flds = x.fl := by rw [← hDv]; rfl
  have hDp : D.pages = x.pg.map (·.1) := by rw [← hDv]; rfl
  have hDq : D.pins = y.pi.map (·.on) := by rw [← hDv]; rfl
  rw [hDv] at hVR
  clear hDv
  obtain ⟨SA, PA, GA, FA, RA, CA, sn, sc, pn, pc, gn, gc, fn, fc, rn, rc, cn, cc, sw, pa, pg, fl, ru, ck⟩ := x
  obtain ⟨PA', OA, VA, UA, QA, LA, pn', pc', on, oc, vn, vc, un, uc, qn, qc, ln, lc, pa', on', va, ou, pi, fi⟩ := y
  unfold FormD.Ok at hF
  unfold DocD.Ok at hD
  simp only at hF hD hVR hDf hDp hDq
  have hgl : pg.length = gn := hF.pg.1
  have hfl : fl.length = fn := hF.fl.1
  have hgn : gn ≤ 140737488355328 := hF.pg.2.2.1
  have hfn0 : fn ≤ 140737488355328 := hF.fl.2.2.1
  show Calls Tryz.prog 3 #[.agg #[.slice SA sn sc, .slice PA pn pc, .slice GA gn gc, .slice FA fn fc, .slice RA rn rc, .slice CA cn cc], .agg #[.slice PA' pn' pc', .slice OA on oc, .slice VA vn vc, .slice UA un uc, .slice QA qn qc, .slice LA ln lc], .int .i64 z] w _
  obtain ⟨W0, hW0⟩ : ∃ W0, W0 = (w.alloc (.cells #[.slice SA sn sc, .slice PA pn pc, .slice GA gn gc, .slice FA fn fc, .slice RA rn rc, .slice CA cn cc] 29)).alloc (.cells #[.slice PA' pn' pc', .slice OA on oc, .slice VA vn vc, .slice UA un uc, .slice QA qn qc, .slice LA ln lc] 35) := ⟨_, rfl⟩
  have HX := hid ((B6n.newg w 29 (.slice SA sn sc) (.slice PA pn pc) (.slice GA gn gc) (.slice FA fn fc) (.slice RA rn rc) (.slice CA cn cc) _ rfl).alloc (.cells #[.slice PA' pn' pc', .slice OA on oc, .slice VA vn vc, .slice UA un uc, .slice QA qn qc, .slice LA ln lc] 35))
  have HY := hid (B6n.newg (w.alloc (.cells #[.slice SA sn sc, .slice PA pn pc, .slice GA gn gc, .slice FA fn fc, .slice RA rn rc, .slice CA cn cc] 29)) 35 (.slice PA' pn' pc') (.slice OA on oc) (.slice VA vn vc) (.slice UA un uc) (.slice QA qn qc) (.slice LA ln lc) (w.heap.size + 1) (by simp))
  have hb0 : Below w.heap.size w W0 := by rw [hW0]; exact Below.new_ (Below.new_ (Below.refl _ _) _) _
  rw [← hW0] at HX HY
  have HH := hid (heavy19_any W0 SA PA GA FA RA CA sn sc pn pc gn gc fn fc rn rc cn cc sw pa pg fl ru ck (hF.below hb0))
  have HPl := hid fun W (hW : Below w.heap.size w W) => plain19_any PA' OA VA UA QA LA pn' pc' on oc vn vc un uc qn qc ln lc pa' on' va ou pi fi W (hD.below hW)
  have HS := hid fun W (hW : Below w.heap.size w W) => scaled19_any (.slice SA sn sc) (.slice PA pn pc) (.slice GA gn gc) (.slice RA rn rc) (.slice CA cn cc) FA fn fc fl W (hF.below hW).fl
  have HOt := hid fun W (hW : Below w.heap.size w W) (hq : qn ≤ 1000) => other_any PA' OA VA UA QA LA pn' pc' on oc vn vc un uc qn qc ln lc pi W (hD.below hW).pi hq
  have HF := hid hF
  clear hF hD
  obtain ⟨k0, k1, k2, k3, k4, k5⟩ := HX.out.cells
  obtain ⟨j0, j1, j2, j3, j4, j5⟩ := HY.out.cells
  have HDf := hid hDf
  have HDq := hid hDq
  have HDp := hid hDp
  clear hDf hDp hDq
  go_enter Tryz.func3, Tryz.ntmps3
  go_upto_region 1 with fail
  rw [← hW0]
  clear hW0
  go_upto_if 19 with (first
    | (go_at_call 4; refine HH.out.mono ?_; rintro e w1 ⟨b1, rfl, hl1, hb1⟩; have hbw1 := Below.then_ hb0 hb1; clear k0 k1 k2 k3 k4 k5 j0 j1 j2 j3 j4 j5; obtain ⟨k0, k1, k2, k3, k4, k5⟩ := (HX.out.below hb1).cells; obtain ⟨j0, j1, j2, j3, j4, j5⟩ := (HY.out.below hb1).cells; rcases b1 with _ | _)
    | (go_at_call 5; refine (HPl.out _ hbw1).mono ?_; rintro e w2 ⟨b2, rfl, hp2, hb2⟩; have hbw2 := Below.then_ hbw1 hb2; have hbz2 := Below.then_ hb1 hb2; clear k0 k1 k2 k3 k4 k5 j0 j1 j2 j3 j4 j5; obtain ⟨k0, k1, k2, k3, k4, k5⟩ := (HX.out.below hbz2).cells; obtain ⟨j0, j1, j2, j3, j4, j5⟩ := (HY.out.below hbz2).cells; rcases b2 with _ | _)
    | (go_at_call 6; refine (HS.out _ hbw2).mono ?_; rintro e w3 ⟨b3, rfl, hs3, hb3⟩; have hbw3 := Below.then_ hbw2 hb3; have hbz3 := Below.then_ hbz2 hb3; clear k0 k1 k2 k3 k4 k5 j0 j1 j2 j3 j4 j5; obtain ⟨k0, k1, k2, k3, k4, k5⟩ := (HX.out.below hbz3).cells; obtain ⟨j0, j1, j2, j3, j4, j5⟩ := (HY.out.below hbz3).cells; rcases b3 with _ | _))
  · go_wp2_with fail
    go_ret
    exact ⟨rfl, hbw2⟩
  · go_wp2_with fail
    go_ret
    exact ⟨rfl, hbw3⟩
  · have hpl := (hp2 (by first | rfl | trivial))
    have hV := hVR.out hpl.2
    have hqn : qn ≤ 1000 := by have := hpl.1; omega
    have hfew := (hl1 (by first | rfl | trivial)).few
    have hsc : Scaled D := by unfold Scaled; rw [HDf.out]; exact hs3 (by first | rfl | trivial)
    have hfn : fn ≤ 30 := by omega
    have hO := hid (HOt.out w3 hbw3 hqn)
    clear HOt
    go_upto_region 4 with (go_at_call 7; refine hO.out.mono ?_; rintro e w4 ⟨A, c, rfl, hSl, hb4⟩)
    obtain ⟨W5, hW5⟩ : ∃ W5, W5 = w4.alloc (.cells #[.slice PA' pn' pc', .slice OA on oc, .slice VA vn vc, .slice UA un uc, .slice A qn c, .slice LA ln lc] 40) := ⟨_, rfl⟩
    have hQ5 : B6n W5 w4.heap.size 40 (.slice PA' pn' pc') (.slice OA on oc) (.slice VA vn vc) (.slice UA un uc) (.slice A qn c) (.slice LA ln lc) := by rw [hW5]; exact B6n.newg w4 _ _ _ _ _ _ _ _ rfl
    have hb45 : Below w4.heap.size w4 W5 := by rw [hW5]; exact Below.new_ (Below.refl _ _) _
    have HQ5 := hid hQ5
    have hz35 := Below.then_ (Below.then_ hbz3 hb4) hb45
    have HX5 := hid (HX.out.below hz35)
    have HY5 := hid (HY.out.below hz35)
    have hbw5 := Below.then_ (Below.then_ hbw3 hb4) hb45
    have hV5 := hV.below hbw5
    have hSl5 := hSl.below boolAt_stays hb45
    rw [← HDq.out] at hSl5
    have hR5 : VRead W5 GA FA RA VA UA A LA gn gc fn fc rn rc vn vc un uc qn c ln lc 3 D := ⟨hV5.pages, hV5.flds, hV5.rules, hV5.vals, hV5.outs, hSl5, hV5.filled⟩
    rw [← hW5]
    have HFi : Hid (∀ W, Below W5.heap.size W5 W → Calls Tryz.prog 8 #[.agg #[.slice SA sn sc, .slice PA pn pc, .slice GA gn gc, .slice FA fn fc, .slice RA rn rc, .slice CA cn cc], .agg #[.slice PA' pn' pc', .slice OA on oc, .slice VA vn vc, .slice UA un uc, .slice QA qn qc, .slice LA ln lc], .int .i64 z] W fun e w' => e = .returned (.string (str (fieldT D z))) ∧ Below W.heap.size W w') := hid fun W hW => Field_all (.slice SA sn sc) (.slice PA pn pc) (.slice CA cn cc) (.slice PA' pn' pc') (.slice OA on oc) GA FA RA VA UA QA LA gn gc fn fc rn rc vn vc un uc qn qc ln lc D z W (hV5.below hW) hsc hz0 hz1
    have HrFi : Hid (∀ W, Below W5.heap.size W5 W → Calls Tryz.prog 9 #[.agg #[.slice SA sn sc, .slice PA pn pc, .slice GA gn gc, .slice FA fn fc, .slice RA rn rc, .slice CA cn cc], .agg #[.slice PA' pn' pc', .slice OA on oc, .slice VA vn vc, .slice UA un uc, .slice A qn c, .slice LA ln lc], .int .i64 z] W fun e w' => e = .returned (.string (str (fieldT D z))) ∧ Below W.heap.size W w') := hid fun W hW => rField_all (.slice SA sn sc) (.slice PA pn pc) (.slice CA cn cc) (.slice PA' pn' pc') (.slice OA on oc) GA FA RA VA UA A LA gn gc fn fc rn rc vn vc un uc qn c ln lc D z W (hR5.below hW) hsc hz0 hz1
    have HPg : Hid (∀ W, Below W5.heap.size W5 W → Calls Tryz.prog 10 #[.agg #[.slice SA sn sc, .slice PA pn pc, .slice GA gn gc, .slice FA fn fc, .slice RA rn rc, .slice CA cn cc], .agg #[.slice PA' pn' pc', .slice OA on oc, .slice VA vn vc, .slice UA un uc, .slice QA qn qc, .slice LA ln lc], .int .i64 z] W fun e w' => e = .returned (.string (str (pageT D z))) ∧ Below W.heap.size W w') := hid fun W hW => Page_all (.slice SA sn sc) (.slice PA pn pc) (.slice CA cn cc) (.slice PA' pn' pc') (.slice OA on oc) GA FA RA VA UA QA LA gn gc fn fc rn rc vn vc un uc qn qc ln lc D z W (hV5.below hW) hsc (by omega) hz0 hz1
    have HrPg : Hid (∀ W, Below W5.heap.size W5 W → Calls Tryz.prog 11 #[.agg #[.slice SA sn sc, .slice PA pn pc, .slice GA gn gc, .slice FA fn fc, .slice RA rn rc, .slice CA cn cc], .agg #[.slice PA' pn' pc', .slice OA on oc, .slice VA vn vc, .slice UA un uc, .slice A qn c, .slice LA ln lc], .int .i64 z] W fun e w' => e = .returned (.string (str (pageT D z))) ∧ Below W.heap.size W w') := hid fun W hW => rPage_all (.slice SA sn sc) (.slice PA pn pc) (.slice CA cn cc) (.slice PA' pn' pc') (.slice OA on oc) GA FA RA VA UA A LA gn gc fn fc rn rc vn vc un uc qn c ln lc D z W (hR5.below hW) hsc (by omega) hz0 hz1
    have HFt : Hid (∀ W, Below W5.heap.size W5 W → Calls Tryz.prog 13 #[.agg #[.slice SA sn sc, .slice PA pn pc, .slice GA gn gc, .slice FA fn fc, .slice RA rn rc, .slice CA cn cc], .agg #[.slice PA' pn' pc', .slice OA on oc, .slice VA vn vc, .slice UA un uc, .slice QA qn qc, .slice LA ln lc], .int .i64 z] W fun e w' => e = .returned (.float .f64 (floatF D z)) ∧ Below W.heap.size W w') := hid fun W hW => Float_all (.slice SA sn sc) (.slice PA pn pc) (.slice GA gn gc) (.slice RA rn rc) (.slice CA cn cc) (.slice PA' pn' pc') (.slice OA on oc) (.slice UA un uc) (.slice QA qn qc) (.slice LA ln lc) FA VA fn fc vn vc D z W (hV5.below hW).flds (hV5.below hW).vals hz0 hz1
    have HrFt : Hid (∀ W, Below W5.heap.size W5 W → Calls Tryz.prog 14 #[.agg #[.slice SA sn sc, .slice PA pn pc, .slice GA gn gc, .slice FA fn fc, .slice RA rn rc, .slice CA cn cc], .agg #[.slice PA' pn' pc', .slice OA on oc, .slice VA vn vc, .slice UA un uc, .slice A qn c, .slice LA ln lc], .int .i64 z] W fun e w' => e = .returned (.float .f64 (floatF D z)) ∧ Below W.heap.size W w') := hid fun W hW => rFloat_all (.slice SA sn sc) (.slice PA pn pc) (.slice GA gn gc) (.slice RA rn rc) (.slice CA cn cc) (.slice PA' pn' pc') (.slice OA on oc) (.slice UA un uc) (.slice A qn c) (.slice LA ln lc) FA VA fn fc vn vc D z W (hR5.below hW).flds (hR5.below hW).vals hz0 hz1
    have HTo : Hid (∀ W, Below W5.heap.size W5 W → Calls Tryz.prog 15 #[.agg #[.slice SA sn sc, .slice PA pn pc, .slice GA gn gc, .slice FA fn fc, .slice RA rn rc, .slice CA cn cc], .agg #[.slice PA' pn' pc', .slice OA on oc, .slice VA vn vc, .slice UA un uc, .slice QA qn qc, .slice LA ln lc], .int .i64 z] W fun e w' => e = .returned (.string (str (told D z))) ∧ Below W.heap.size W w') := hid fun W hW => Told_any (.slice SA sn sc) (.slice PA pn pc) (.slice GA gn gc) (.slice FA fn fc) (.slice CA cn cc) (.slice PA' pn' pc') (.slice OA on oc) (.slice VA vn vc) (.slice QA qn qc) (.slice LA ln lc) RA UA rn rc un uc D z W (hV5.below hW).rules (hV5.below hW).outs hz0 hz1
    have HrTo : Hid (∀ W, Below W5.heap.size W5 W → Calls Tryz.prog 16 #[.agg #[.slice SA sn sc, .slice PA pn pc, .slice GA gn gc, .slice FA fn fc, .slice RA rn rc, .slice CA cn cc], .agg #[.slice PA' pn' pc', .slice OA on oc, .slice VA vn vc, .slice UA un uc, .slice A qn c, .slice LA ln lc], .int .i64 z] W fun e w' => e = .returned (.string (str (told D z))) ∧ Below W.heap.size W w') := hid fun W hW => rTold_any (.slice SA sn sc) (.slice PA pn pc) (.slice GA gn gc) (.slice FA fn fc) (.slice CA cn cc) (.slice PA' pn' pc') (.slice OA on oc) (.slice VA vn vc) (.slice A qn c) (.slice LA ln lc) RA UA rn rc un uc D z W (hR5.below hW).rules (hR5.below hW).outs hz0 hz1
    generalize fieldT D z = F1 at HFi HrFi
    generalize pageT D z = P1 at HPg HrPg
    generalize floatF D z = FL at HFt HrFt
    generalize told D z = T1 at HTo HrTo
    generalize w4.heap.size = g7 at *
    clear hW5 hQ5 hV hV5 hR5 hSl hSl5 hl1 hp2 hs3 hVR HH HPl HS hb1 hb2 hb3 hbw1 hbw2 hbw3 hbz2 hbz3 hb0 HX HY hfew hsc hgl hfl HF HDf HDp HDq hO hpl hb4 hb45 hz35 k0 k1 k2 k3 k4 k5 j0 j1 j2 j3 j4 j5
    refine draw_hd [22, 23, 24, 25, 26, 27, 28, 29, 30, 31, 32, 33, 34, 35, 36, 37, 38, 39, 40, 41, 42, 43, 44, 45, 46, 47, 48, 49, 50, 51, 52, 53, 54, 55, 56, 57, 58, 59, 60, 61, 62, 63, 64, 65, 66, 67, 68, 6] [.is (.agg #[.slice SA sn sc, .slice PA pn pc, .slice GA gn gc, .slice FA fn fc, .slice RA rn rc, .slice CA cn cc]), .is (.agg #[.slice PA' pn' pc', .slice OA on oc, .slice VA vn vc, .slice UA un uc, .slice QA qn qc, .slice LA ln lc]), .is (.int .i64 z), .is (.string (str F1)), .is (.agg #[.slice SA sn sc, .slice PA pn pc, .slice GA gn gc, .slice FA fn fc, .slice RA rn rc, .slice CA cn cc]), .is (.agg #[.slice PA' pn' pc', .slice OA on oc, .slice VA vn vc, .slice UA un uc, .slice A qn c, .slice LA ln lc]), .is (.int .i64 z), .is (.string (str F1)), .is (.bool true), .is (.bool true), .is (.agg #[.slice SA sn sc, .slice PA pn pc, .slice GA gn gc, .slice FA fn fc, .slice RA rn rc, .slice CA cn cc]), .is (.agg #[.slice PA' pn' pc', .slice OA on oc, .slice VA vn vc, .slice UA un uc, .slice QA qn qc, .slice LA ln lc]), .is (.int .i64 z), .is (.string (str P1)), .is (.agg #[.slice SA sn sc, .slice PA pn pc, .slice GA gn gc, .slice FA fn fc, .slice RA rn rc, .slice CA cn cc]), .is (.agg #[.slice PA' pn' pc', .slice OA on oc, .slice VA vn vc, .slice UA un uc, .slice A qn c, .slice LA ln lc]), .is (.int .i64 z), .is (.string (str P1)), .is (.bool true), .is (.bool true), .is (.bool true), .is (.agg #[.slice SA sn sc, .slice PA pn pc, .slice GA gn gc, .slice FA fn fc, .slice RA rn rc, .slice CA cn cc]), .is (.agg #[.slice PA' pn' pc', .slice OA on oc, .slice VA vn vc, .slice UA un uc, .slice QA qn qc, .slice LA ln lc]), .is (.int .i64 z), .is (.float .f64 FL), .is (.int .u64 (FL : Int)), .is (.agg #[.slice SA sn sc, .slice PA pn pc, .slice GA gn gc, .slice FA fn fc, .slice RA rn rc, .slice CA cn cc]), .is (.agg #[.slice PA' pn' pc', .slice OA on oc, .slice VA vn vc, .slice UA un uc, .slice A qn c, .slice LA ln lc]), .is (.int .i64 z), .is (.float .f64 FL), .is (.int .u64 (FL : Int)), .is (.bool true), .is (.bool true), .is (.bool true), .is (.agg #[.slice SA sn sc, .slice PA pn pc, .slice GA gn gc, .slice FA fn fc, .slice RA rn rc, .slice CA cn cc]), .is (.agg #[.slice PA' pn' pc', .slice OA on oc, .slice VA vn vc, .slice UA un uc, .slice QA qn qc, .slice LA ln lc]), .is (.int .i64 z), .is (.string (str T1)), .is (.agg #[.slice SA sn sc, .slice PA pn pc, .slice GA gn gc, .slice FA fn fc, .slice RA rn rc, .slice CA cn cc]), .is (.agg #[.slice PA' pn' pc', .slice OA on oc, .slice VA vn vc, .slice UA un uc, .slice A qn c, .slice LA ln lc]), .is (.int .i64 z), .is (.string (str T1)), .is (.bool true), .is (.bool true), .is (.bool true), .is (.bool true), .is (.bool true), .is (.bool true)]
      (by kernel_rfl) (by kernel_rfl) (by kernel_rfl) (by decide) (by kernel_rfl) (by kernel_rfl) ?_ ?_
    · refine ⟨?_, ?_, ?_, ?_, ?_, ?_, ?_, ?_, ?_, ?_, ?_, ?_, ?_, ?_, ?_, ?_, ?_, ?_, ?_, ?_, ?_, ?_, ?_, ?_, ?_, ?_, ?_, ?_, ?_, ?_, ?_, ?_, ?_, ?_, ?_, ?_, ?_, ?_, ?_, ?_, ?_, ?_, ?_, ?_, ?_, ?_, ?_, ?_, trivial⟩
      · intro a w3 hA K hK
        have t3 := hA.old 3 _ rfl rfl
        obtain ⟨k0, k1, k2, k3, k4, k5⟩ := (HX5.out.below hA.below).cells
        go_simp
        exact hK _ _ (by first | rfl | exact congrArg _ (by first | rfl | omega | (rw [IntKind.wrap_i64]; omega))) (Below.refl _ _)
      · intro a w3 hA K hK
        have t4 := hA.old 4 _ rfl rfl
        obtain ⟨k0, k1, k2, k3, k4, k5⟩ := (HY5.out.below hA.below).cells
        go_simp
        exact hK _ _ (by first | rfl | exact congrArg _ (by first | rfl | omega | (rw [IntKind.wrap_i64]; omega))) (Below.refl _ _)
      · intro a w3 hA K hK
        have t2 := hA.old 2 _ rfl rfl
        go_simp
        exact hK _ _ (by first | rfl | exact congrArg _ (by first | rfl | omega | (rw [IntKind.wrap_i64]; omega))) (Below.refl _ _)
      · intro a w3 hA K hK
        have t22 := bt_is hA 0 22 rfl rfl (by kernel_rfl)
        have t23 := bt_is hA 1 23 rfl rfl (by kernel_rfl)
        have t24 := bt_is hA 2 24 rfl rfl (by kernel_rfl)
        have hC := HFi.out w3 hA.below
        go_simp
        refine hC.mono ?_
        rintro e w4 ⟨rfl, hb⟩
        exact hK _ _ rfl hb
      · intro a w3 hA K hK
        have t3 := hA.old 3 _ rfl rfl
        obtain ⟨k0, k1, k2, k3, k4, k5⟩ := (HX5.out.below hA.below).cells
        go_simp
        exact hK _ _ (by first | rfl | exact congrArg _ (by first | rfl | omega | (rw [IntKind.wrap_i64]; omega))) (Below.refl _ _)
      · intro a w3 hA K hK
        have t7 := hA.old 7 _ rfl rfl
        obtain ⟨k0, k1, k2, k3, k4, k5⟩ := (HQ5.out.below hA.below).cells
        go_simp
        exact hK _ _ (by first | rfl | exact congrArg _ (by first | rfl | omega | (rw [IntKind.wrap_i64]; omega))) (Below.refl _ _)
      · intro a w3 hA K hK
        have t2 := hA.old 2 _ rfl rfl
        go_simp
        exact hK _ _ (by first | rfl | exact congrArg _ (by first | rfl | omega | (rw [IntKind.wrap_i64]; omega))) (Below.refl _ _)
      · intro a w3 hA K hK
        have t26 := bt_is hA 4 26 rfl rfl (by kernel_rfl)
        have t27 := bt_is hA 5 27 rfl rfl (by kernel_rfl)
        have t28 := bt_is hA 6 28 rfl rfl (by kernel_rfl)
        have hC := HrFi.out w3 hA.below
        go_simp
        refine hC.mono ?_
        rintro e w4 ⟨rfl, hb⟩
        exact hK _ _ rfl hb
      · intro a w3 hA K hK
        have t25 := bt_is hA 3 25 rfl rfl (by kernel_rfl)
        have t29 := bt_is hA 7 29 rfl rfl (by kernel_rfl)
        go_simp
        exact hK _ _ (by first | rfl | exact congrArg _ (by first | rfl | omega | (rw [IntKind.wrap_i64]; omega))) (Below.refl _ _)
      · intro a w3 hA K hK
        have t30 := bt_is hA 8 30 rfl rfl (by kernel_rfl)
        go_simp
        exact hK _ _ (by first | rfl | exact congrArg _ (by first | rfl | omega | (rw [IntKind.wrap_i64]; omega))) (Below.refl _ _)
      · intro a w3 hA K hK
        have t3 := hA.old 3 _ rfl rfl
        obtain ⟨k0, k1, k2, k3, k4, k5⟩ := (HX5.out.below hA.below).cells
        go_simp
        exact hK _ _ (by first | rfl | exact congrArg _ (by first | rfl | omega | (rw [IntKind.wrap_i64]; omega))) (Below.refl _ _)
      · intro a w3 hA K hK
        have t4 := hA.old 4 _ rfl rfl
        obtain ⟨k0, k1, k2, k3, k4, k5⟩ := (HY5.out.below hA.below).cells
        go_simp
        exact hK _ _ (by first | rfl | exact congrArg _ (by first | rfl | omega | (rw [IntKind.wrap_i64]; omega))) (Below.refl _ _)
      · intro a w3 hA K hK
        have t2 := hA.old 2 _ rfl rfl
        go_simp
        exact hK _ _ (by first | rfl | exact congrArg _ (by first | rfl | omega | (rw [IntKind.wrap_i64]; omega))) (Below.refl _ _)
      · intro a w3 hA K hK
        have t32 := bt_is hA 10 32 rfl rfl (by kernel_rfl)
        have t33 := bt_is hA 11 33 rfl rfl (by kernel_rfl)
        have t34 := bt_is hA 12 34 rfl rfl (by kernel_rfl)
        have hC := HPg.out w3 hA.below
        go_simp
        refine hC.mono ?_
        rintro e w4 ⟨rfl, hb⟩
        exact hK _ _ rfl hb
      · intro a w3 hA K hK
        have t3 := hA.old 3 _ rfl rfl
        obtain ⟨k0, k1, k2, k3, k4, k5⟩ := (HX5.out.below hA.below).cells
        go_simp
        exact hK _ _ (by first | rfl | exact congrArg _ (by first | rfl | omega | (rw [IntKind.wrap_i64]; omega))) (Below.refl _ _)
      · intro a w3 hA K hK
        have t7 := hA.old 7 _ rfl rfl
        obtain ⟨k0, k1, k2, k3, k4, k5⟩ := (HQ5.out.below hA.below).cells
        go_simp
        exact hK _ _ (by first | rfl | exact congrArg _ (by first | rfl | omega | (rw [IntKind.wrap_i64]; omega))) (Below.refl _ _)
      · intro a w3 hA K hK
        have t2 := hA.old 2 _ rfl rfl
        go_simp
        exact hK _ _ (by first | rfl | exact congrArg _ (by first | rfl | omega | (rw [IntKind.wrap_i64]; omega))) (Below.refl _ _)
      · intro a w3 hA K hK
        have t36 := bt_is hA 14 36 rfl rfl (by kernel_rfl)
        have t37 := bt_is hA 15 37 rfl rfl (by kernel_rfl)
        have t38 := bt_is hA 16 38 rfl rfl (by kernel_rfl)
        have hC := HrPg.out w3 hA.below
        go_simp
        refine hC.mono ?_
        rintro e w4 ⟨rfl, hb⟩
        exact hK _ _ rfl hb
      · intro a w3 hA K hK
        have t35 := bt_is hA 13 35 rfl rfl (by kernel_rfl)
        have t39 := bt_is hA 17 39 rfl rfl (by kernel_rfl)
        go_simp
        exact hK _ _ (by first | rfl | exact congrArg _ (by first | rfl | omega | (rw [IntKind.wrap_i64]; omega))) (Below.refl _ _)
      · intro a w3 hA K hK
        have t31 := bt_is hA 9 31 rfl rfl (by kernel_rfl)
        have t40 := bt_is hA 18 40 rfl rfl (by kernel_rfl)
        go_simp
        exact hK _ _ (by first | rfl | exact congrArg _ (by first | rfl | omega | (rw [IntKind.wrap_i64]; omega))) (Below.refl _ _)
      · intro a w3 hA K hK
        have t41 := bt_is hA 19 41 rfl rfl (by kernel_rfl)
        go_simp
        exact hK _ _ (by first | rfl | exact congrArg _ (by first | rfl | omega | (rw [IntKind.wrap_i64]; omega))) (Below.refl _ _)
      · intro a w3 hA K hK
        have t3 := hA.old 3 _ rfl rfl
        obtain ⟨k0, k1, k2, k3, k4, k5⟩ := (HX5.out.below hA.below).cells
        go_simp
        exact hK _ _ (by first | rfl | exact congrArg _ (by first | rfl | omega | (rw [IntKind.wrap_i64]; omega))) (Below.refl _ _)
      · intro a w3 hA K hK
        have t4 := hA.old 4 _ rfl rfl
        obtain ⟨k0, k1, k2, k3, k4, k5⟩ := (HY5.out.below hA.below).cells
        go_simp
        exact hK _ _ (by first | rfl | exact congrArg _ (by first | rfl | omega | (rw [IntKind.wrap_i64]; omega))) (Below.refl _ _)
      · intro a w3 hA K hK
        have t2 := hA.old 2 _ rfl rfl
        go_simp
        exact hK _ _ (by first | rfl | exact congrArg _ (by first | rfl | omega | (rw [IntKind.wrap_i64]; omega))) (Below.refl _ _)
      · intro a w3 hA K hK
        have t43 := bt_is hA 21 43 rfl rfl (by kernel_rfl)
        have t44 := bt_is hA 22 44 rfl rfl (by kernel_rfl)
        have t45 := bt_is hA 23 45 rfl rfl (by kernel_rfl)
        have hC := HFt.out w3 hA.below
        go_simp
        refine hC.mono ?_
        rintro e w4 ⟨rfl, hb⟩
        exact hK _ _ rfl hb
      · intro a w3 hA K hK
        have t46 := bt_is hA 24 46 rfl rfl (by kernel_rfl)
        have q1 := run_f64bits FL w3
        go_simp
        exact hK _ _ rfl (Below.refl _ _)
      · intro a w3 hA K hK
        have t3 := hA.old 3 _ rfl rfl
        obtain ⟨k0, k1, k2, k3, k4, k5⟩ := (HX5.out.below hA.below).cells
        go_simp
        exact hK _ _ (by first | rfl | exact congrArg _ (by first | rfl | omega | (rw [IntKind.wrap_i64]; omega))) (Below.refl _ _)
      · intro a w3 hA K hK
        have t7 := hA.old 7 _ rfl rfl
        obtain ⟨k0, k1, k2, k3, k4, k5⟩ := (HQ5.out.below hA.below).cells
        go_simp
        exact hK _ _ (by first | rfl | exact congrArg _ (by first | rfl | omega | (rw [IntKind.wrap_i64]; omega))) (Below.refl _ _)
      · intro a w3 hA K hK
        have t2 := hA.old 2 _ rfl rfl
        go_simp
        exact hK _ _ (by first | rfl | exact congrArg _ (by first | rfl | omega | (rw [IntKind.wrap_i64]; omega))) (Below.refl _ _)
      · intro a w3 hA K hK
        have t48 := bt_is hA 26 48 rfl rfl (by kernel_rfl)
        have t49 := bt_is hA 27 49 rfl rfl (by kernel_rfl)
        have t50 := bt_is hA 28 50 rfl rfl (by kernel_rfl)
        have hC := HrFt.out w3 hA.below
        go_simp
        refine hC.mono ?_
        rintro e w4 ⟨rfl, hb⟩
        exact hK _ _ rfl hb
      · intro a w3 hA K hK
        have t51 := bt_is hA 29 51 rfl rfl (by kernel_rfl)
        have q1 := run_f64bits FL w3
        go_simp
        exact hK _ _ rfl (Below.refl _ _)
      · intro a w3 hA K hK
        have t47 := bt_is hA 25 47 rfl rfl (by kernel_rfl)
        have t52 := bt_is hA 30 52 rfl rfl (by kernel_rfl)
        go_simp
        exact hK _ _ (by first | rfl | exact congrArg _ (by first | rfl | omega | (rw [IntKind.wrap_i64]; omega))) (Below.refl _ _)
      · intro a w3 hA K hK
        have t42 := bt_is hA 20 42 rfl rfl (by kernel_rfl)
        have t53 := bt_is hA 31 53 rfl rfl (by kernel_rfl)
        go_simp
        exact hK _ _ (by first | rfl | exact congrArg _ (by first | rfl | omega | (rw [IntKind.wrap_i64]; omega))) (Below.refl _ _)
      · intro a w3 hA K hK
        have t54 := bt_is hA 32 54 rfl rfl (by kernel_rfl)
        go_simp
        exact hK _ _ (by first | rfl | exact congrArg _ (by first | rfl | omega | (rw [IntKind.wrap_i64]; omega))) (Below.refl _ _)
      · intro a w3 hA K hK
        have t3 := hA.old 3 _ rfl rfl
        obtain ⟨k0, k1, k2, k3, k4, k5⟩ := (HX5.out.below hA.below).cells
        go_simp
        exact hK _ _ (by first | rfl | exact congrArg _ (by first | rfl | omega | (rw [IntKind.wrap_i64]; omega))) (Below.refl _ _)
      · intro a w3 hA K hK
        have t4 := hA.old 4 _ rfl rfl
        obtain ⟨k0, k1, k2, k3, k4, k5⟩ := (HY5.out.below hA.below).cells
        go_simp
        exact hK _ _ (by first | rfl | exact congrArg _ (by first | rfl | omega | (rw [IntKind.wrap_i64]; omega))) (Below.refl _ _)
      · intro a w3 hA K hK
        have t2 := hA.old 2 _ rfl rfl
        go_simp
        exact hK _ _ (by first | rfl | exact congrArg _ (by first | rfl | omega | (rw [IntKind.wrap_i64]; omega))) (Below.refl _ _)
      · intro a w3 hA K hK
        have t56 := bt_is hA 34 56 rfl rfl (by kernel_rfl)
        have t57 := bt_is hA 35 57 rfl rfl (by kernel_rfl)
        have t58 := bt_is hA 36 58 rfl rfl (by kernel_rfl)
        have hC := HTo.out w3 hA.below
        go_simp
        refine hC.mono ?_
        rintro e w4 ⟨rfl, hb⟩
        exact hK _ _ rfl hb
      · intro a w3 hA K hK
        have t3 := hA.old 3 _ rfl rfl
        obtain ⟨k0, k1, k2, k3, k4, k5⟩ := (HX5.out.below hA.below).cells
        go_simp
        exact hK _ _ (by first | rfl | exact congrArg _ (by first | rfl | omega | (rw [IntKind.wrap_i64]; omega))) (Below.refl _ _)
      · intro a w3 hA K hK
        have t7 := hA.old 7 _ rfl rfl
        obtain ⟨k0, k1, k2, k3, k4, k5⟩ := (HQ5.out.below hA.below).cells
        go_simp
        exact hK _ _ (by first | rfl | exact congrArg _ (by first | rfl | omega | (rw [IntKind.wrap_i64]; omega))) (Below.refl _ _)
      · intro a w3 hA K hK
        have t2 := hA.old 2 _ rfl rfl
        go_simp
        exact hK _ _ (by first | rfl | exact congrArg _ (by first | rfl | omega | (rw [IntKind.wrap_i64]; omega))) (Below.refl _ _)
      · intro a w3 hA K hK
        have t60 := bt_is hA 38 60 rfl rfl (by kernel_rfl)
        have t61 := bt_is hA 39 61 rfl rfl (by kernel_rfl)
        have t62 := bt_is hA 40 62 rfl rfl (by kernel_rfl)
        have hC := HrTo.out w3 hA.below
        go_simp
        refine hC.mono ?_
        rintro e w4 ⟨rfl, hb⟩
        exact hK _ _ rfl hb
      · intro a w3 hA K hK
        have t59 := bt_is hA 37 59 rfl rfl (by kernel_rfl)
        have t63 := bt_is hA 41 63 rfl rfl (by kernel_rfl)
        go_simp
        exact hK _ _ (by first | rfl | exact congrArg _ (by first | rfl | omega | (rw [IntKind.wrap_i64]; omega))) (Below.refl _ _)
      · intro a w3 hA K hK
        have t55 := bt_is hA 33 55 rfl rfl (by kernel_rfl)
        have t64 := bt_is hA 42 64 rfl rfl (by kernel_rfl)
        go_simp
        exact hK _ _ (by first | rfl | exact congrArg _ (by first | rfl | omega | (rw [IntKind.wrap_i64]; omega))) (Below.refl _ _)
      · intro a w3 hA K hK
        have t65 := bt_is hA 43 65 rfl rfl (by kernel_rfl)
        go_simp
        exact hK _ _ (by first | rfl | exact congrArg _ (by first | rfl | omega | (rw [IntKind.wrap_i64]; omega))) (Below.refl _ _)
      · intro a w3 hA K hK
        have hC := known19_any w3
        go_simp
        refine hC.mono ?_
        rintro e w4 ⟨rfl, hb⟩
        exact hK _ _ rfl hb
      · intro a w3 hA K hK
        have t66 := bt_is hA 44 66 rfl rfl (by kernel_rfl)
        have t67 := bt_is hA 45 67 rfl rfl (by kernel_rfl)
        go_simp
        exact hK _ _ (by first | rfl | exact congrArg _ (by first | rfl | omega | (rw [IntKind.wrap_i64]; omega))) (Below.refl _ _)
      · intro a w3 hA K hK
        have t68 := bt_is hA 46 68 rfl rfl (by kernel_rfl)
        go_simp
        exact hK _ _ (by first | rfl | exact congrArg _ (by first | rfl | omega | (rw [IntKind.wrap_i64]; omega))) (Below.refl _ _)
    rintro vs w6 hV hb6 act hact
    have hV' := hV.is_
    clear hV
    obtain ⟨_, rfl, hV⟩ := hV'
    have hV' := hV.is_
    clear hV
    obtain ⟨_, rfl, hV⟩ := hV'
    have hV' := hV.is_
    clear hV
    obtain ⟨_, rfl, hV⟩ := hV'
    have hV' := hV.is_
    clear hV
    obtain ⟨_, rfl, hV⟩ := hV'
    have hV' := hV.is_
    clear hV
    obtain ⟨_, rfl, hV⟩ := hV'
    have hV' := hV.is_
    clear hV
    obtain ⟨_, rfl, hV⟩ := hV'
    have hV' := hV.is_
    clear hV
    obtain ⟨_, rfl, hV⟩ := hV'
    have hV' := hV.is_
    clear hV
    obtain ⟨_, rfl, hV⟩ := hV'
    have hV' := hV.is_
    clear hV
    obtain ⟨_, rfl, hV⟩ := hV'
    have hV' := hV.is_
    clear hV
    obtain ⟨_, rfl, hV⟩ := hV'
    have hV' := hV.is_
    clear hV
    obtain ⟨_, rfl, hV⟩ := hV'
    have hV' := hV.is_
    clear hV
    obtain ⟨_, rfl, hV⟩ := hV'
    have hV' := hV.is_
    clear hV
    obtain ⟨_, rfl, hV⟩ := hV'
    have hV' := hV.is_
    clear hV
    obtain ⟨_, rfl, hV⟩ := hV'
    have hV' := hV.is_
    clear hV
    obtain ⟨_, rfl, hV⟩ := hV'
    have hV' := hV.is_
    clear hV
    obtain ⟨_, rfl, hV⟩ := hV'
    have hV' := hV.is_
    clear hV
    obtain ⟨_, rfl, hV⟩ := hV'
    have hV' := hV.is_
    clear hV
    obtain ⟨_, rfl, hV⟩ := hV'
    have hV' := hV.is_
    clear hV
    obtain ⟨_, rfl, hV⟩ := hV'
    have hV' := hV.is_
    clear hV
    obtain ⟨_, rfl, hV⟩ := hV'
    have hV' := hV.is_
    clear hV
    obtain ⟨_, rfl, hV⟩ := hV'
    have hV' := hV.is_
    clear hV
    obtain ⟨_, rfl, hV⟩ := hV'
    have hV' := hV.is_
    clear hV
    obtain ⟨_, rfl, hV⟩ := hV'
    have hV' := hV.is_
    clear hV
    obtain ⟨_, rfl, hV⟩ := hV'
    have hV' := hV.is_
    clear hV
    obtain ⟨_, rfl, hV⟩ := hV'
    have hV' := hV.is_
    clear hV
    obtain ⟨_, rfl, hV⟩ := hV'
    have hV' := hV.is_
    clear hV
    obtain ⟨_, rfl, hV⟩ := hV'
    have hV' := hV.is_
    clear hV
    obtain ⟨_, rfl, hV⟩ := hV'
    have hV' := hV.is_
    clear hV
    obtain ⟨_, rfl, hV⟩ := hV'
    have hV' := hV.is_
    clear hV
    obtain ⟨_, rfl, hV⟩ := hV'
    have hV' := hV.is_
    clear hV
    obtain ⟨_, rfl, hV⟩ := hV'
    have hV' := hV.is_
    clear hV
    obtain ⟨_, rfl, hV⟩ := hV'
    have hV' := hV.is_
    clear hV
    obtain ⟨_, rfl, hV⟩ := hV'
    have hV' := hV.is_
    clear hV
    obtain ⟨_, rfl, hV⟩ := hV'
    have hV' := hV.is_
    clear hV
    obtain ⟨_, rfl, hV⟩ := hV'
    have hV' := hV.is_
    clear hV
    obtain ⟨_, rfl, hV⟩ := hV'
    have hV' := hV.is_
    clear hV
    obtain ⟨_, rfl, hV⟩ := hV'
    have hV' := hV.is_
    clear hV
    obtain ⟨_, rfl, hV⟩ := hV'
    have hV' := hV.is_
    clear hV
    obtain ⟨_, rfl, hV⟩ := hV'
    have hV' := hV.is_
    clear hV
    obtain ⟨_, rfl, hV⟩ := hV'
    have hV' := hV.is_
    clear hV
    obtain ⟨_, rfl, hV⟩ := hV'
    have hV' := hV.is_
    clear hV
    obtain ⟨_, rfl, hV⟩ := hV'
    have hV' := hV.is_
    clear hV
    obtain ⟨_, rfl, hV⟩ := hV'
    have hV' := hV.is_
    clear hV
    obtain ⟨_, rfl, hV⟩ := hV'
    have hV' := hV.is_
    clear hV
    obtain ⟨_, rfl, hV⟩ := hV'
    have hV' := hV.is_
    clear hV
    obtain ⟨_, rfl, hV⟩ := hV'
    have hV' := hV.is_
    clear hV
    obtain ⟨_, rfl, hV⟩ := hV'
    have hV' := hV.is_
    clear hV
    obtain ⟨_, rfl, hV⟩ := hV'
    obtain rfl := hV.nil_
    clear hV
    simp only [puts] at hact
    subst hact
    go_simp
    go_wp2_with fail
    go_ret
    exact ⟨rfl, Below.then_ hbw5 hb6⟩
  · go_wp2_with fail
    go_ret
    exact ⟨rfl, hbw1⟩
end Go.Proofs.YtbhieajpodnfpaaGreat
