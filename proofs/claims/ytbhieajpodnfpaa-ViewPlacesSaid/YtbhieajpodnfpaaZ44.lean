/- Walk: the law ViewPlaces. Conditions: those that each theorem names. -/
import Derived.Test.YtbhieajpodnfpaaZ43
namespace Go.Proofs.Ytbhieajpodnfpaa
open Go.RowKit Pg
theorem i64_wf {n : Int} (h : (Lit.int .i64 n).wf = true) : -9223372036854775808 ≤ n ∧ n ≤ 9223372036854775807 := by
  simp only [Lit.wf, Bool.and_eq_true, decide_eq_true_eq] at h
  exact h
theorem fieldT_out (D : VData) (z : Int) (h : ¬ (0 ≤ z ∧ z < (D.flds.length : Int) ∧ z < (D.vals.length : Int))) : fieldT D z = [] := by
  unfold fieldT
  split
  · split
    · rename_i x q hx hq
      have i1 := (List.getElem?_eq_some_iff.1 hx).1
      have i2 := (List.getElem?_eq_some_iff.1 hq).1
      exact absurd ⟨by omega, by omega, by omega⟩ h
    · rfl
  · rfl
theorem floatF_out (D : VData) (z : Int) (h : ¬ (0 ≤ z ∧ z < (D.flds.length : Int) ∧ z < (D.vals.length : Int))) : floatF D z = 0 := by
  unfold floatF
  split
  · split
    · rename_i x q hx hq
      have i1 := (List.getElem?_eq_some_iff.1 hx).1
      have i2 := (List.getElem?_eq_some_iff.1 hq).1
      exact absurd ⟨by omega, by omega, by omega⟩ h
    · rfl
  · rfl
theorem fieldT_in (D : VData) (z : Int) (h0 : 0 ≤ z) (h1 : z < (D.flds.length : Int)) (h2 : z < (D.vals.length : Int)) : fieldT D z ≠ [] := by
  unfold fieldT
  rw [if_pos h0, List.getElem?_eq_getElem (show z.toNat < D.flds.length by omega), List.getElem?_eq_getElem (show z.toNat < D.vals.length by omega)]
  simp [lineT]
set_option maxRecDepth 100000 in
set_option maxHeartbeats 8000000 in
theorem law_ViewPlaces (v0 v1 : Value) (x : FormD) (y : DocD) (w : World) (hF : FormArg w v0 x) (hD : DocArg w v1 y) (z : Int) (hz0 : -9223372036854775808 ≤ z) (hz1 : z ≤ 9223372036854775807) :
    Calls Try.prog 5 #[v0, v1, .int .i64 z] w fun e w' => e = .returned (.bool true) ∧ Below w.heap.size w w' := by
  obtain ⟨rfl, hF⟩ := hF
  obtain ⟨rfl, hD⟩ := hD
  have hVR : Hid ((∀ a ∈ y.va, a.1.n ≤ 3 ∧ a.1.n' ≤ 3) → VRead w x.GA x.FA x.RA y.VA y.UA y.QA y.LA x.gn x.gc x.fn x.fc x.rn x.rc y.vn y.vc y.un y.uc y.qn y.qc y.ln y.lc 3 (vdata x y)) := hid fun hv => vread_of hF hD hv
  obtain ⟨D, hDv⟩ : ∃ D, vdata x y = D := ⟨_, rfl⟩
  have hDf : D.flds = x.fl := by rw [← hDv]; rfl
  have hDp : D.pages = x.pg.map (·.1) := by rw [← hDv]; rfl
  rw [hDv] at hVR
  clear hDv
  obtain ⟨SA, PA, GA, FA, RA, CA, sn, sc, pn, pc, gn, gc, fn, fc, rn, rc, cn, cc, sw, pa, pg, fl, ru, ck⟩ := x
  obtain ⟨PA', OA, VA, UA, QA, LA, pn', pc', on, oc, vn, vc, un, uc, qn, qc, ln, lc, pa', on', va, ou, pi, fi⟩ := y
  unfold FormD.Ok at hF
  unfold DocD.Ok at hD
  simp only at hF hD hVR hDf hDp
  have hgl : pg.length = gn := hF.pg.1
  have hfl : fl.length = fn := hF.fl.1
  have hgn : gn ≤ 140737488355328 := hF.pg.2.2.1
  have hfn0 : fn ≤ 140737488355328 := hF.fl.2.2.1
  show Calls Try.prog 5 #[.agg #[.slice SA sn sc, .slice PA pn pc, .slice GA gn gc, .slice FA fn fc, .slice RA rn rc, .slice CA cn cc], .agg #[.slice PA' pn' pc', .slice OA on oc, .slice VA vn vc, .slice UA un uc, .slice QA qn qc, .slice LA ln lc], .int .i64 z] w _
  obtain ⟨W0, hW0⟩ : ∃ W0, W0 = (w.alloc (.cells #[.slice SA sn sc, .slice PA pn pc, .slice GA gn gc, .slice FA fn fc, .slice RA rn rc, .slice CA cn cc] 38)).alloc (.cells #[.slice PA' pn' pc', .slice OA on oc, .slice VA vn vc, .slice UA un uc, .slice QA qn qc, .slice LA ln lc] 45) := ⟨_, rfl⟩
  have HX := hid ((B6n.newg w 38 (.slice SA sn sc) (.slice PA pn pc) (.slice GA gn gc) (.slice FA fn fc) (.slice RA rn rc) (.slice CA cn cc) _ rfl).alloc (.cells #[.slice PA' pn' pc', .slice OA on oc, .slice VA vn vc, .slice UA un uc, .slice QA qn qc, .slice LA ln lc] 45))
  have HY := hid (B6n.newg (w.alloc (.cells #[.slice SA sn sc, .slice PA pn pc, .slice GA gn gc, .slice FA fn fc, .slice RA rn rc, .slice CA cn cc] 38)) 45 (.slice PA' pn' pc') (.slice OA on oc) (.slice VA vn vc) (.slice UA un uc) (.slice QA qn qc) (.slice LA ln lc) (w.heap.size + 1) (by simp))
  have hb0 : Below w.heap.size w W0 := by rw [hW0]; exact Below.new_ (Below.new_ (Below.refl _ _) _) _
  rw [← hW0] at HX HY
  have HH := hid (heavy19_any W0 SA PA GA FA RA CA sn sc pn pc gn gc fn fc rn rc cn cc sw pa pg fl ru ck (hF.below hb0))
  have HPl := hid fun W (hW : Below w.heap.size w W) => plain19_any PA' OA VA UA QA LA pn' pc' on oc vn vc un uc qn qc ln lc pa' on' va ou pi fi W (hD.below hW)
  have HS := hid fun W (hW : Below w.heap.size w W) => scaled19_any (.slice SA sn sc) (.slice PA pn pc) (.slice GA gn gc) (.slice RA rn rc) (.slice CA cn cc) FA fn fc fl W (hF.below hW).fl
  have HF := hid hF
  clear hF hD
  obtain ⟨k0, k1, k2, k3, k4, k5⟩ := HX.out.cells
  obtain ⟨j0, j1, j2, j3, j4, j5⟩ := HY.out.cells
  have HDf := hid hDf
  have HDp := hid hDp
  clear hDf hDp
  go_enter Try.func5, Try.ntmps5
  go_upto_region 1 with fail
  rw [← hW0]
  clear hW0
  go_upto_if 18 with (first
    | (go_at_call 12; refine HH.out.mono ?_; rintro e w1 ⟨b1, rfl, hl1, hb1⟩; have hbw1 := Below.then_ hb0 hb1; clear k0 k1 k2 k3 k4 k5 j0 j1 j2 j3 j4 j5; obtain ⟨k0, k1, k2, k3, k4, k5⟩ := (HX.out.below hb1).cells; obtain ⟨j0, j1, j2, j3, j4, j5⟩ := (HY.out.below hb1).cells; rcases b1 with _ | _)
    | (go_at_call 13; refine (HPl.out _ hbw1).mono ?_; rintro e w2 ⟨b2, rfl, hp2, hb2⟩; have hbw2 := Below.then_ hbw1 hb2; have hbz2 := Below.then_ hb1 hb2; clear k0 k1 k2 k3 k4 k5 j0 j1 j2 j3 j4 j5; obtain ⟨k0, k1, k2, k3, k4, k5⟩ := (HX.out.below hbz2).cells; obtain ⟨j0, j1, j2, j3, j4, j5⟩ := (HY.out.below hbz2).cells; rcases b2 with _ | _)
    | (go_at_call 14; refine (HS.out _ hbw2).mono ?_; rintro e w3 ⟨b3, rfl, hs3, hb3⟩; have hbw3 := Below.then_ hbw2 hb3; have hbz3 := Below.then_ hbz2 hb3; clear k0 k1 k2 k3 k4 k5 j0 j1 j2 j3 j4 j5; obtain ⟨k0, k1, k2, k3, k4, k5⟩ := (HX.out.below hbz3).cells; obtain ⟨j0, j1, j2, j3, j4, j5⟩ := (HY.out.below hbz3).cells; rcases b3 with _ | _))
  · go_wp2_with fail
    go_ret
    exact ⟨rfl, hbw2⟩
  · go_wp2_with fail
    go_ret
    exact ⟨rfl, hbw3⟩
  · have hV := hVR.out (hp2 (by first | rfl | trivial)).2
    have hfew := (hl1 (by first | rfl | trivial)).few
    have hsc : Scaled D := by unfold Scaled; rw [HDf.out]; exact hs3 (by first | rfl | trivial)
    have hfn : fn ≤ 30 := by omega
    have hdl : D.flds.length = fn := by rw [HDf.out]; exact hfl
    have hdp : D.pages.length = gn := by rw [HDp.out, List.length_map]; exact hgl
    have hdv : D.vals.length = vn := hV.vals.1
    have HFi := Field_all (.slice SA sn sc) (.slice PA pn pc) (.slice CA cn cc) (.slice PA' pn' pc') (.slice OA on oc) GA FA RA VA UA QA LA gn gc fn fc rn rc vn vc un uc qn qc ln lc D z w3 (hV.below hbw3) hsc hz0 hz1
    have HFt : Hid (∀ W, Below w.heap.size w W → Calls Try.prog 16 #[.agg #[.slice SA sn sc, .slice PA pn pc, .slice GA gn gc, .slice FA fn fc, .slice RA rn rc, .slice CA cn cc], .agg #[.slice PA' pn' pc', .slice OA on oc, .slice VA vn vc, .slice UA un uc, .slice QA qn qc, .slice LA ln lc], .int .i64 z] W fun e w' => e = .returned (.float .f64 (floatF D z)) ∧ Below W.heap.size W w') := hid fun W (hW : Below w.heap.size w W) => Float_all (.slice SA sn sc) (.slice PA pn pc) (.slice GA gn gc) (.slice RA rn rc) (.slice CA cn cc) (.slice PA' pn' pc') (.slice OA on oc) (.slice UA un uc) (.slice QA qn qc) (.slice LA ln lc) FA VA fn fc vn vc D z W (hV.below hW).flds (hV.below hW).vals hz0 hz1
    have HPg := hid fun W (hW : Below w.heap.size w W) => Page_all (.slice SA sn sc) (.slice PA pn pc) (.slice CA cn cc) (.slice PA' pn' pc') (.slice OA on oc) GA FA RA VA UA QA LA gn gc fn fc rn rc vn vc un uc qn qc ln lc D z W (hV.below hW) hsc (by omega) hz0 hz1
    have HX3 := hid (HX.out.below hbz3)
    have HY3 := hid (HY.out.below hbz3)
    have hse : (str ([] : List UInt8)).toList = [] := by rw [Lib.toList_data]; rfl
    clear hV hl1 hp2 hs3 hVR HH HPl HS hb1 hb2 hb3 hbw1 hbw2 hbz2 hbz3 hb0 HX HY hfew hsc hgl hfl HF HDf HDp
    by_cases z0 : 0 ≤ z
    · have d0 : decide (0 ≤ z) = true := decide_eq_true z0
      by_cases z1 : z < (fn : Int)
      · have d1 : decide (z < (fn : Int)) = true := decide_eq_true z1
        by_cases z2 : z < (vn : Int)
        · have d2 : decide (z < (vn : Int)) = true := decide_eq_true z2
          have hne := fieldT_in D z z0 (by rw [hdl]; exact z1) (by rw [hdv]; exact z2)
          obtain ⟨F, hF⟩ : ∃ F, fieldT D z = F := ⟨_, rfl⟩
          rw [hF] at hne HFi
          have HFi := hid HFi
          have hnl : ¬ (str F).toList = [] := fun h => hne (by rw [Lib.toList_data] at h; exact h)
          have hnl2 : (str F).toList.isEmpty = false := by rw [Lib.toList_data]; exact List.isEmpty_eq_false_iff.2 hne
          clear hF hne HFt HPg
          go_wp2_with (first
            | (go_at_call 7; refine HFi.out.mono ?_; rintro e w4 ⟨rfl, hb4⟩)
            | (go_at_call 11; refine (known19_any _).mono ?_; rintro e w6 ⟨rfl, hb6⟩))
          go_ret
          exact ⟨rfl, Below.then_ (Below.then_ hbw3 hb4) hb6⟩
        · have d2 : decide (z < (vn : Int)) = false := decide_eq_false z2
          have hfo := fieldT_out D z (by rw [hdl, hdv]; omega)
          have hfl0 := floatF_out D z (by rw [hdl, hdv]; omega)
          rw [hfo] at HFi
          rw [hfl0] at HFt
          have HFi := hid HFi
          clear hfo hfl0
          by_cases z3 : z < (gn : Int)
          · have d3 : decide (z < (gn : Int)) = true := decide_eq_true z3
            go_wp2_with (first
              | (go_at_call 7; refine HFi.out.mono ?_; rintro e w4 ⟨rfl, hb4⟩; have hbw4 := Below.then_ hbw3 hb4; clear k0 k1 k2 k3 k4 k5 j0 j1 j2 j3 j4 j5; obtain ⟨k0, k1, k2, k3, k4, k5⟩ := (HX3.out.below hb4).cells; obtain ⟨j0, j1, j2, j3, j4, j5⟩ := (HY3.out.below hb4).cells)
              | (go_at_call 16; refine (HFt.out _ hbw4).mono ?_; rintro e w5 ⟨rfl, hb5⟩; have hbw5 := Below.then_ hbw4 hb5; have hbz5 := Below.then_ hb4 hb5; clear k0 k1 k2 k3 k4 k5 j0 j1 j2 j3 j4 j5; obtain ⟨k0, k1, k2, k3, k4, k5⟩ := (HX3.out.below hbz5).cells; obtain ⟨j0, j1, j2, j3, j4, j5⟩ := (HY3.out.below hbz5).cells)
              | (go_at_call 15; refine (HPg.out _ hbw5).mono ?_; rintro e w6 ⟨rfl, hb6⟩; have hbw6 := Below.then_ hbw5 hb6)
              | (go_at_call 11; refine (known19_any _).mono ?_; rintro e w7 ⟨rfl, hb7⟩))
            go_ret
            exact ⟨rfl, Below.then_ hbw5 hb7⟩
          · have d3 : decide (z < (gn : Int)) = false := decide_eq_false z3
            have hpo := pageT_out D z (by rw [hdp]; omega)
            rw [hpo] at HPg
            clear hpo
            go_wp2_with (first
              | (go_at_call 7; refine HFi.out.mono ?_; rintro e w4 ⟨rfl, hb4⟩; have hbw4 := Below.then_ hbw3 hb4; clear k0 k1 k2 k3 k4 k5 j0 j1 j2 j3 j4 j5; obtain ⟨k0, k1, k2, k3, k4, k5⟩ := (HX3.out.below hb4).cells; obtain ⟨j0, j1, j2, j3, j4, j5⟩ := (HY3.out.below hb4).cells)
              | (go_at_call 16; refine (HFt.out _ hbw4).mono ?_; rintro e w5 ⟨rfl, hb5⟩; have hbw5 := Below.then_ hbw4 hb5; have hbz5 := Below.then_ hb4 hb5; clear k0 k1 k2 k3 k4 k5 j0 j1 j2 j3 j4 j5; obtain ⟨k0, k1, k2, k3, k4, k5⟩ := (HX3.out.below hbz5).cells; obtain ⟨j0, j1, j2, j3, j4, j5⟩ := (HY3.out.below hbz5).cells)
              | (go_at_call 15; refine (HPg.out _ hbw5).mono ?_; rintro e w6 ⟨rfl, hb6⟩; have hbw6 := Below.then_ hbw5 hb6)
              | (go_at_call 11; refine (known19_any _).mono ?_; rintro e w7 ⟨rfl, hb7⟩))
            go_ret
            exact ⟨rfl, Below.then_ hbw6 hb7⟩
      · have d1 : decide (z < (fn : Int)) = false := decide_eq_false z1
        have hfo := fieldT_out D z (by rw [hdl, hdv]; omega)
        have hfl0 := floatF_out D z (by rw [hdl, hdv]; omega)
        rw [hfo] at HFi
        rw [hfl0] at HFt
        have HFi := hid HFi
        clear hfo hfl0
        by_cases z3 : z < (gn : Int)
        · have d3 : decide (z < (gn : Int)) = true := decide_eq_true z3
          go_wp2_with (first
            | (go_at_call 7; refine HFi.out.mono ?_; rintro e w4 ⟨rfl, hb4⟩; have hbw4 := Below.then_ hbw3 hb4; clear k0 k1 k2 k3 k4 k5 j0 j1 j2 j3 j4 j5; obtain ⟨k0, k1, k2, k3, k4, k5⟩ := (HX3.out.below hb4).cells; obtain ⟨j0, j1, j2, j3, j4, j5⟩ := (HY3.out.below hb4).cells)
            | (go_at_call 16; refine (HFt.out _ hbw4).mono ?_; rintro e w5 ⟨rfl, hb5⟩; have hbw5 := Below.then_ hbw4 hb5; have hbz5 := Below.then_ hb4 hb5; clear k0 k1 k2 k3 k4 k5 j0 j1 j2 j3 j4 j5; obtain ⟨k0, k1, k2, k3, k4, k5⟩ := (HX3.out.below hbz5).cells; obtain ⟨j0, j1, j2, j3, j4, j5⟩ := (HY3.out.below hbz5).cells)
            | (go_at_call 15; refine (HPg.out _ hbw5).mono ?_; rintro e w6 ⟨rfl, hb6⟩; have hbw6 := Below.then_ hbw5 hb6)
            | (go_at_call 11; refine (known19_any _).mono ?_; rintro e w7 ⟨rfl, hb7⟩))
          go_ret
          exact ⟨rfl, Below.then_ hbw5 hb7⟩
        · have d3 : decide (z < (gn : Int)) = false := decide_eq_false z3
          have hpo := pageT_out D z (by rw [hdp]; omega)
          rw [hpo] at HPg
          clear hpo
          go_wp2_with (first
            | (go_at_call 7; refine HFi.out.mono ?_; rintro e w4 ⟨rfl, hb4⟩; have hbw4 := Below.then_ hbw3 hb4; clear k0 k1 k2 k3 k4 k5 j0 j1 j2 j3 j4 j5; obtain ⟨k0, k1, k2, k3, k4, k5⟩ := (HX3.out.below hb4).cells; obtain ⟨j0, j1, j2, j3, j4, j5⟩ := (HY3.out.below hb4).cells)
            | (go_at_call 16; refine (HFt.out _ hbw4).mono ?_; rintro e w5 ⟨rfl, hb5⟩; have hbw5 := Below.then_ hbw4 hb5; have hbz5 := Below.then_ hb4 hb5; clear k0 k1 k2 k3 k4 k5 j0 j1 j2 j3 j4 j5; obtain ⟨k0, k1, k2, k3, k4, k5⟩ := (HX3.out.below hbz5).cells; obtain ⟨j0, j1, j2, j3, j4, j5⟩ := (HY3.out.below hbz5).cells)
            | (go_at_call 15; refine (HPg.out _ hbw5).mono ?_; rintro e w6 ⟨rfl, hb6⟩; have hbw6 := Below.then_ hbw5 hb6)
            | (go_at_call 11; refine (known19_any _).mono ?_; rintro e w7 ⟨rfl, hb7⟩))
          go_ret
          exact ⟨rfl, Below.then_ hbw6 hb7⟩
    · have d0 : decide (0 ≤ z) = false := decide_eq_false z0
      have hfo := fieldT_out D z (by rw [hdl, hdv]; omega)
      have hfl0 := floatF_out D z (by rw [hdl, hdv]; omega)
      rw [hfo] at HFi
      rw [hfl0] at HFt
      have HFi := hid HFi
      clear hfo hfl0
      have hpo := pageT_out D z (by rw [hdp]; omega)
      rw [hpo] at HPg
      clear hpo
      go_wp2_with (first
        | (go_at_call 7; refine HFi.out.mono ?_; rintro e w4 ⟨rfl, hb4⟩; have hbw4 := Below.then_ hbw3 hb4; clear k0 k1 k2 k3 k4 k5 j0 j1 j2 j3 j4 j5; obtain ⟨k0, k1, k2, k3, k4, k5⟩ := (HX3.out.below hb4).cells; obtain ⟨j0, j1, j2, j3, j4, j5⟩ := (HY3.out.below hb4).cells)
        | (go_at_call 16; refine (HFt.out _ hbw4).mono ?_; rintro e w5 ⟨rfl, hb5⟩; have hbw5 := Below.then_ hbw4 hb5; have hbz5 := Below.then_ hb4 hb5; clear k0 k1 k2 k3 k4 k5 j0 j1 j2 j3 j4 j5; obtain ⟨k0, k1, k2, k3, k4, k5⟩ := (HX3.out.below hbz5).cells; obtain ⟨j0, j1, j2, j3, j4, j5⟩ := (HY3.out.below hbz5).cells)
        | (go_at_call 15; refine (HPg.out _ hbw5).mono ?_; rintro e w6 ⟨rfl, hb6⟩; have hbw6 := Below.then_ hbw5 hb6)
        | (go_at_call 11; refine (known19_any _).mono ?_; rintro e w7 ⟨rfl, hb7⟩))
      go_ret
      exact ⟨rfl, Below.then_ hbw6 hb7⟩
  · go_wp2_with fail
    go_ret
    exact ⟨rfl, hbw1⟩
end Go.Proofs.Ytbhieajpodnfpaa
