/- From the readings of a form and a document to what view reads, behind the law's tests · Walk: the law ViewPages. Conditions: those that each theorem names. -/
import Derived.Test.YtbhieajpodnfpaaZ37
import Derived.Test.YtbhieajpodnfpaaZ38
import Derived.Test.YtbhieajpodnfpaaZ40
import Derived.Test.YtbhieajpodnfpaaZ42
import Derived.Test.YtbhieajpodnfpaaZ36
namespace Go.Proofs.Ytbhieajpodnfpaa
open Go.RowKit Pg
theorem SlAt.map_mem {α β : Type} {sz : Nat} {E : World → Nat → Nat → α → Prop} {E' : World → Nat → Nat → β → Prop} (f : α → β) {w : World} {A : Option Addr} {n c : Nat} {l : List α} (hE : ∀ b o x, x ∈ l → E w b o x → E' w b o (f x)) (h : SlAt sz E w A n c l) : SlAt sz E' w A n c (l.map f) := by
  obtain ⟨h1, h2, h3, h4, h5, h6⟩ := h
  refine ⟨by simp [h1], h2, h3, h4, h5, fun hn => ?_⟩
  obtain ⟨b, o, e, hb, hx⟩ := h6 hn
  refine ⟨b, o, e, hb, fun j x hj => ?_⟩
  rw [List.getElem?_map] at hj
  match hl : l[j]?, hj with
  | some y, hj =>
    simp at hj
    subst hj
    exact hE _ _ _ (List.mem_of_getElem? hl) (hx j y hl)
/-- What view reads of a form and a document. -/
def vdata (x : FormD) (y : DocD) : VData := ⟨x.pg.map (·.1), x.fl, x.ru.map (·.name), y.va.map (·.2), y.ou, y.pi.map (·.on), y.fi⟩
theorem vread_of {w : World} {x : FormD} {y : DocD} (hx : x.Ok w) (hy : y.Ok w) (hv : ∀ a ∈ y.va, a.1.n ≤ 3 ∧ a.1.n' ≤ 3) :
    VRead w x.GA x.FA x.RA y.VA y.UA y.QA y.LA x.gn x.gc x.fn x.fc x.rn x.rc y.vn y.vc y.un y.uc y.qn y.qc y.ln y.lc 3 (vdata x y) where
  pages := SlAt.map (·.1) pagAt_name hx.pg
  flds := hx.fl
  rules := SlAt.map (·.name) rulAt_name hx.ru
  vals := SlAt.map_mem (·.2) (fun b o a ha h => by
    obtain ⟨hc, xs, ys, h1, h2, _, _, h5⟩ := h
    obtain ⟨l1, l2⟩ := hv a ha
    exact ⟨_, _, _, _, _, _, _, xs, ys, hc, h1, h2, l1, l2, h5⟩) hy.va
  outs := hy.ou
  pins := SlAt.map (·.on) pnAt_on hy.pi
  filled := hy.fi
end Go.Proofs.Ytbhieajpodnfpaa
namespace Go.Proofs.Ytbhieajpodnfpaa
open Go.RowKit Pg
theorem pageT_in (D : VData) (p : Nat) (h : p < D.pages.length) : pageT D (p : Int) = pageL D (p : Int) D.flds.length := by unfold pageT; rw [if_pos ⟨by omega, by omega⟩]
theorem pageT_out (D : VData) (z : Int) (h : ¬ (0 ≤ z ∧ z < (D.pages.length : Int))) : pageT D z = [] := by unfold pageT; rw [if_neg h]
set_option maxRecDepth 100000 in
set_option maxHeartbeats 8000000 in
theorem law_ViewPages (v0 v1 : Value) (x : FormD) (y : DocD) (w : World) (hF : FormArg w v0 x) (hD : DocArg w v1 y) :
    Calls Try.prog 4 #[v0, v1] w fun e w' => e = .returned (.bool true) ∧ Below w.heap.size w w' := by
  obtain ⟨rfl, hF⟩ := hF
  obtain ⟨rfl, hD⟩ := hD
  have hVR : Hid ((∀ a ∈ y.va, a.1.n ≤ 3 ∧ a.1.n' ≤ 3) → VRead w x.GA x.FA x.RA y.VA y.UA y.QA y.LA x.gn x.gc x.fn x.fc x.rn x.rc y.vn y.vc y.un y.uc y.qn y.qc y.ln y.lc 3 (vdata x y)) := hid fun hv => vread_of hF hD hv
  obtain ⟨D, hDv⟩ : ∃ D, vdata x y = D := ⟨_, rfl⟩
  have hDf : D.flds = x.fl := by rw [← hDv]; rfl
  have hDp : D.pages = x.pg.map (·.1) := by rw [← hDv]; rfl
  rw [hDv] at hVR
  clear hDv
  obtain ⟨SA, PA, GA, FA, RA, CA, sn, sc, pn, pc, gn, gc, fn, fc, rn, rc, cn, cc, sw, pa, pg, fl, ru, ck⟩ := x
  obtain ⟨PA', OA, VA, UA, QA, LA, pn', pc', on, oc, vn, vc, un, uc, qn, qc, ln, lc, pa', on', va, ou, pi, fi⟩ := y
  unfold FormD.Ok at hF
  unfold DocD.Ok at hD
  simp only at hF hD hVR hDf hDp
  have hgl : pg.length = gn := hF.pg.1
  have hfl : fl.length = fn := hF.fl.1
  have hgn : gn ≤ 140737488355328 := hF.pg.2.2.1
  have hfn0 : fn ≤ 140737488355328 := hF.fl.2.2.1
  show Calls Try.prog 4 #[.agg #[.slice SA sn sc, .slice PA pn pc, .slice GA gn gc, .slice FA fn fc, .slice RA rn rc, .slice CA cn cc], .agg #[.slice PA' pn' pc', .slice OA on oc, .slice VA vn vc, .slice UA un uc, .slice QA qn qc, .slice LA ln lc]] w _
  obtain ⟨W0, hW0⟩ : ∃ W0, W0 = (w.alloc (.cells #[.slice SA sn sc, .slice PA pn pc, .slice GA gn gc, .slice FA fn fc, .slice RA rn rc, .slice CA cn cc] 38)).alloc (.cells #[.slice PA' pn' pc', .slice OA on oc, .slice VA vn vc, .slice UA un uc, .slice QA qn qc, .slice LA ln lc] 45) := ⟨_, rfl⟩
  have HX := hid ((B6n.newg w 38 (.slice SA sn sc) (.slice PA pn pc) (.slice GA gn gc) (.slice FA fn fc) (.slice RA rn rc) (.slice CA cn cc) _ rfl).alloc (.cells #[.slice PA' pn' pc', .slice OA on oc, .slice VA vn vc, .slice UA un uc, .slice QA qn qc, .slice LA ln lc] 45))
  have HY := hid (B6n.newg (w.alloc (.cells #[.slice SA sn sc, .slice PA pn pc, .slice GA gn gc, .slice FA fn fc, .slice RA rn rc, .slice CA cn cc] 38)) 45 (.slice PA' pn' pc') (.slice OA on oc) (.slice VA vn vc) (.slice UA un uc) (.slice QA qn qc) (.slice LA ln lc) (w.heap.size + 1) (by simp))
  have hb0 : Below w.heap.size w W0 := by rw [hW0]; exact Below.new_ (Below.new_ (Below.refl _ _) _) _
  rw [← hW0] at HX HY
  have HH := hid (heavy19_any W0 SA PA GA FA RA CA sn sc pn pc gn gc fn fc rn rc cn cc sw pa pg fl ru ck (hF.below hb0))
  have HPl := hid fun W (hW : Below w.heap.size w W) => plain19_any PA' OA VA UA QA LA pn' pc' on oc vn vc un uc qn qc ln lc pa' on' va ou pi fi W (hD.below hW)
  have HS := hid fun W (hW : Below w.heap.size w W) => scaled19_any (.slice SA sn sc) (.slice PA pn pc) (.slice GA gn gc) (.slice RA rn rc) (.slice CA cn cc) FA fn fc fl W (hF.below hW).fl
  have HF := hid hF
  clear hF hD
  obtain ⟨k0, k1, k2, k3, k4, k5⟩ := HX.out.cells
  obtain ⟨j0, j1, j2, j3, j4, j5⟩ := HY.out.cells
  have HDf := hid hDf
  have HDp := hid hDp
  clear hDf hDp
  go_enter Try.func4, Try.ntmps4
  go_upto_region 1 with fail
  rw [← hW0]
  clear hW0
  go_upto_if 19 with (first
    | (go_at_call 12; refine HH.out.mono ?_; rintro e w1 ⟨b1, rfl, hl1, hb1⟩; have hbw1 := Below.then_ hb0 hb1; clear k0 k1 k2 k3 k4 k5 j0 j1 j2 j3 j4 j5; obtain ⟨k0, k1, k2, k3, k4, k5⟩ := (HX.out.below hb1).cells; obtain ⟨j0, j1, j2, j3, j4, j5⟩ := (HY.out.below hb1).cells; rcases b1 with _ | _)
    | (go_at_call 13; refine (HPl.out _ hbw1).mono ?_; rintro e w2 ⟨b2, rfl, hp2, hb2⟩; have hbw2 := Below.then_ hbw1 hb2; have hbz2 := Below.then_ hb1 hb2; clear k0 k1 k2 k3 k4 k5 j0 j1 j2 j3 j4 j5; obtain ⟨k0, k1, k2, k3, k4, k5⟩ := (HX.out.below hbz2).cells; obtain ⟨j0, j1, j2, j3, j4, j5⟩ := (HY.out.below hbz2).cells; rcases b2 with _ | _)
    | (go_at_call 14; refine (HS.out _ hbw2).mono ?_; rintro e w3 ⟨b3, rfl, hs3, hb3⟩; have hbw3 := Below.then_ hbw2 hb3; have hbz3 := Below.then_ hbz2 hb3; clear k0 k1 k2 k3 k4 k5 j0 j1 j2 j3 j4 j5; obtain ⟨k0, k1, k2, k3, k4, k5⟩ := (HX.out.below hbz3).cells; obtain ⟨j0, j1, j2, j3, j4, j5⟩ := (HY.out.below hbz3).cells; rcases b3 with _ | _))
  · go_wp2_with fail
    go_ret
    exact ⟨rfl, hbw2⟩
  · go_wp2_with fail
    go_ret
    exact ⟨rfl, hbw3⟩
  · have hV := hVR.out (hp2 (by first | rfl | trivial)).2
    have hfew := (hl1 (by first | rfl | trivial)).few
    have hsc : Scaled D := by unfold Scaled; rw [HDf.out]; exact hs3 (by first | rfl | trivial)
    have hfn : fn ≤ 30 := by omega
    have hdl : D.flds.length = fn := by rw [HDf.out]; exact hfl
    have hdp : D.pages.length = gn := by rw [HDp.out, List.length_map]; exact hgl
    have HFi := hid fun W (hW : Below w.heap.size w W) (i : Nat) (hi : i ≤ 1000) => Field_all (.slice SA sn sc) (.slice PA pn pc) (.slice CA cn cc) (.slice PA' pn' pc') (.slice OA on oc) GA FA RA VA UA QA LA gn gc fn fc rn rc vn vc un uc qn qc ln lc D (i : Int) W (hV.below hW) hsc (by omega) (by omega)
    have HPg := hid fun W (hW : Below w.heap.size w W) (z : Int) (h1 : -1 ≤ z) (h2 : z ≤ 140737488355328) => Page_all (.slice SA sn sc) (.slice PA pn pc) (.slice CA cn cc) (.slice PA' pn' pc') (.slice OA on oc) GA FA RA VA UA QA LA gn gc fn fc rn rc vn vc un uc qn qc ln lc D z W (hV.below hW) hsc (by omega) (by omega) (by omega)
    have HFL := hid (fieldT_len hV hsc)
    have HPL := hid (fun z => pageL_len hV hsc z)
    have HTi := hid (fun p hp => pageT_in D p (by rw [hdp]; exact hp))
    have HTo := hid (fun z hz => pageT_out D z (by rw [hdp]; exact hz))
    rw [hdl] at HTi
    have HPs := hid hV.pages
    have HX3 := hid (HX.out.below hbz3)
    have HY3 := hid (HY.out.below hbz3)
    have HFs := hid hV.flds
    clear hV hl1 hp2 hs3 hVR HH HPl HS hb1 hb2 hb3 hbw1 hbw2 hbz2 hbz3 hb0 HX HY hfew hsc hgl hfl HF HDf HDp
    go_wp2_with fail
    go_loopw [5] (fun i wr => ∃ p : Nat, p ≤ gn ∧ i = .int .i64 p ∧ Below w3.heap.size w3 wr) (fun i _ => gn - (intOf i).toNat)
    case atStart => exact ⟨0, Nat.zero_le _, rfl, Below.refl _ _⟩
    case round =>
      obtain ⟨p, hp, rfl, hbr⟩ := hrel
      clear k0 k1 k2 k3 k4 k5 j0 j1 j2 j3 j4 j5
      obtain ⟨k0, k1, k2, k3, k4, k5⟩ := (HX3.out.below hbr).cells
      obtain ⟨j0, j1, j2, j3, j4, j5⟩ := (HY3.out.below hbr).cells
      by_cases hlt : p < gn
      · have hbw := Below.then_ hbw3 hbr
        obtain ⟨hpl, _, _, _, _, hpx⟩ := HPs.out.below nameAt_stays hbw
        obtain ⟨b, o, rfl, hb, hx⟩ := hpx (by omega)
        have hlt' : p < D.pages.length := by omega
        obtain ⟨hc0, hnl⟩ := hx p D.pages[p] (List.getElem?_eq_getElem hlt')
        have c0 : wr.cell? ⟨b, o + p * 2, none⟩ = some (.string (str D.pages[p])) := hc0.at_ 0 rfl
        have hL0 : pageL D (p : Int) 0 = [112, 97, 103, 101, 32] ++ D.pages[p] ++ [10] := by
          unfold pageL
          rw [Int.toNat_natCast, List.getD_eq_getElem?_getD, List.getElem?_eq_getElem hlt']
          rfl
        obtain ⟨nm, hnm⟩ : ∃ nm, D.pages[p] = nm := ⟨_, rfl⟩
        rw [hnm] at c0 hL0 hnl
        have HL0 := hid hL0
        clear hx hc0 hnm hL0 hpx hlt' hpl
        obtain ⟨T0, hT0⟩ : ∃ T0, [112, 97, 103, 101, 32] ++ nm = T0 := ⟨_, rfl⟩
        have lT0 : T0.length ≤ 140737488355400 := by rw [← hT0, List.length_append, show [(112 : UInt8), 97, 103, 101, 32].length = 5 from rfl]; omega
        have q1 : ∀ W, (Op.stringOp .add ⟨#[112, 97, 103, 101, 32]⟩ (str nm)).run Try.prog W = .ok (.string (str T0)) W := fun W => by
          rw [← hT0]
          exact add_text [112, 97, 103, 101, 32] nm (by rw [show [(112 : UInt8), 97, 103, 101, 32].length = 5 from rfl]; omega) W
        have q2 : ∀ W, (Op.stringOp .add (str T0) ⟨#[10]⟩).run Try.prog W = .ok (.string (str (pageL D (p : Int) 0))) W := fun W => by
          rw [HL0.out, hT0]
          exact add_text T0 [10] (by simp; omega) W
        clear hT0
        go_wp2_with fail
        clear q1 q2 c0 k0 k1 k2 k3 k4 k5 j0 j1 j2 j3 j4 j5
        go_loopw [6, 7] (fun s i wi => ∃ k : Nat, k ≤ fn ∧ i = .int .i64 k ∧ s = .string (str (pageL D (p : Int) k)) ∧ Below wr.heap.size wr wi) (fun _ i _ => fn - (intOf i).toNat)
        case atStart => exact ⟨0, Nat.zero_le _, rfl, rfl, Below.refl _ _⟩
        case round =>
          obtain ⟨k, hk, rfl, rfl, hbi⟩ := hrel
          have hbi3 := Below.then_ hbr hbi
          obtain ⟨k0, k1, k2, k3, k4, k5⟩ := (HX3.out.below hbi3).cells
          obtain ⟨j0, j1, j2, j3, j4, j5⟩ := (HY3.out.below hbi3).cells
          have hbwi := Below.then_ hbw hbi
          by_cases hlk : k < fn
          · obtain ⟨_, _, _, _, _, hf⟩ := HFs.out.below fldAt_stays hbwi
            obtain ⟨b2, o2, rfl, hb2, hx⟩ := hf (by omega)
            have hkl : k < D.flds.length := by omega
            have e1 : D.flds[k]? = some D.flds[k] := List.getElem?_eq_getElem hkl
            obtain ⟨hca, _⟩ := hx k _ e1
            obtain ⟨z, hz'⟩ : ∃ z, D.flds[k] = z := ⟨_, rfl⟩
            rw [hz'] at hca e1
            have c1 := hca.at_ 1 rfl
            have hst : pageL D (p : Int) (k + 1) = if z.page = (p : Int) then pageL D (p : Int) k ++ (fieldT D (k : Int) ++ [10]) else pageL D (p : Int) k := by
              rw [pageL, e1]
            have lP := HPL.out (p : Int) k (by omega)
            have lF := HFL.out (k : Int)
            obtain ⟨zp, hzp⟩ : ∃ zp, z.page = zp := ⟨_, rfl⟩
            rw [hzp] at hst c1
            clear hx hca hz' e1 hf hzp
            by_cases hpg : zp = (p : Int)
            · rw [if_pos hpg] at hst
              subst hpg
              have Hst := hid hst
              clear hst
              obtain ⟨P1, hP1⟩ : ∃ P1, pageL D (p : Int) k = P1 := ⟨_, rfl⟩
              obtain ⟨F1, hF1⟩ : ∃ F1, fieldT D (k : Int) = F1 := ⟨_, rfl⟩
              have HFc := hid fun W hW => HFi.out W hW k (by omega)
              rw [hP1] at lP Hst
              rw [hF1] at lF Hst HFc
              rw [hP1]
              clear hP1 hF1
              rw [← List.append_assoc] at Hst
              obtain ⟨F2, hF2⟩ : ∃ F2, P1 ++ F1 = F2 := ⟨_, rfl⟩
              have lF2 : F2.length ≤ 1155173304420532224 := by rw [← hF2]; simp; omega
              have q1 : ∀ W, (Op.stringOp .add (str P1) (str F1)).run Try.prog W = .ok (.string (str F2)) W := fun W => by
                rw [← hF2]
                exact add_text P1 F1 (by omega) W
              rw [hF2] at Hst
              clear hF2
              obtain ⟨P2, hP2⟩ : ∃ P2, F2 ++ [10] = P2 := ⟨_, rfl⟩
              have q2 : ∀ W, (Op.stringOp .add (str F2) ⟨#[10]⟩).run Try.prog W = .ok (.string (str P2)) W := fun W => by
                rw [← hP2]
                exact add_text F2 [10] (by simp; omega) W
              rw [hP2] at Hst
              clear hP2
              go_wp2_with (go_at_call 7; refine (HFc.out _ hbwi).mono ?_; rintro e w2 ⟨rfl, hb3⟩)
              refine ⟨⟨k + 1, hlk, by go_num, by rw [Hst.out], Below.then_ hbi hb3⟩, ?_⟩
              simp [intOf]; omega
            · have d3 : (zp == (p : Int)) = false := by simp [hpg]
              rw [if_neg hpg] at hst
              have Hst := hid hst
              clear hst
              go_wp2_with fail
              refine ⟨⟨k + 1, hlk, by go_num, by rw [Hst.out], hbi⟩, ?_⟩
              simp [intOf]; omega
          · obtain rfl : k = fn := by omega
            have HPc := HPg.out wr hbwi (p : Int) (by omega) (by omega)
            rw [HTi.out p hlt] at HPc
            have HPc := hid HPc
            obtain ⟨P1, hP1⟩ : ∃ P1, pageL D (p : Int) k = P1 := ⟨_, rfl⟩
            rw [hP1] at HPc
            rw [hP1]
            clear hP1
            go_wp2_with (go_at_call 15; refine HPc.out.mono ?_; rintro e w2 ⟨rfl, hb3⟩)
            refine ⟨⟨p + 1, hlt, by go_num, Below.then_ (Below.then_ hbr hbi) hb3⟩, ?_⟩
            simp [intOf]; omega
      · obtain rfl : p = gn := by omega
        have hbw := Below.then_ hbw3 hbr
        have HP1 := HPg.out wr hbw (-1) (by omega) (by omega)
        rw [HTo.out (-1) (by omega)] at HP1
        have HP1 := hid HP1
        have HP2 := hid fun W hW => HPg.out W hW (p : Int) (by omega) (by omega)
        rw [HTo.out (p : Int) (by omega)] at HP2
        have hse : (str ([] : List UInt8)).toList = [] := by rw [Lib.toList_data]; rfl
        have HXr := hid (HX3.out.below hbr)
        have HYr := hid (HY3.out.below hbr)
        go_wp2_with (first
          | (go_at_call 15; (with_reducible refine HP1.out.mono ?_); rintro e w4 ⟨rfl, hb4⟩; have hbw4 := Below.then_ hbw hb4; clear k0 k1 k2 k3 k4 k5 j0 j1 j2 j3 j4 j5; obtain ⟨k0, k1, k2, k3, k4, k5⟩ := (HXr.out.below hb4).cells; obtain ⟨j0, j1, j2, j3, j4, j5⟩ := (HYr.out.below hb4).cells)
          | (go_at_call 15; (with_reducible refine (HP2.out _ hbw4).mono ?_); rintro e w5 ⟨rfl, hb5⟩)
          | (go_at_call 11; refine (known19_any _).mono ?_; rintro e w6 ⟨rfl, hb6⟩))
        go_ret
        exact ⟨rfl, Below.then_ (Below.then_ hbw4 hb5) hb6⟩
  · go_wp2_with fail
    go_ret
    exact ⟨rfl, hbw1⟩
end Go.Proofs.Ytbhieajpodnfpaa
