/- Walks: view.Field of any form and document, view.Page, view.Float. Conditions: those that each theorem names. -/
import Derived.Test.YtbhieajpodnfpaaZ33
import Derived.Test.YtbhieajpodnfpaaZ21
namespace Go.Proofs.Ytbhieajpodnfpaa
open Go.RowKit Pg
/-- A field's line, or nothing. -/
def fieldT (D : VData) (z : Int) : List UInt8 :=
  if 0 ≤ z then (match D.flds[z.toNat]?, D.vals[z.toNat]? with | some x, some q => lineT x q D z.toNat | _, _ => []) else []
/-- A page's lines of its first k fields. -/
def pageL (D : VData) (z : Int) : Nat → List UInt8
  | 0 => [112, 97, 103, 101, 32] ++ D.pages.getD z.toNat [] ++ [10]
  | k + 1 => match D.flds[k]? with
    | some x => if x.page = z then pageL D z k ++ (fieldT D (k : Int) ++ [10]) else pageL D z k
    | none => pageL D z k
def pageT (D : VData) (z : Int) : List UInt8 := if 0 ≤ z ∧ z < (D.pages.length : Int) then pageL D z D.flds.length else []
def Scaled (D : VData) : Prop := ∀ y ∈ D.flds, 0 ≤ y.scale ∧ y.scale ≤ 9
theorem RatAt.arg {k m : Nat} {w : World} {b o : Nat} {q : Rat} (h : RatAt k w b o q) (hkm : k ≤ m) : ∃ s A n c A' n' c', CellsAt w b o [.bool s, .slice A n c, .slice A' n' c'] ∧ RArg w (.agg #[.bool s, .slice A n c, .slice A' n' c']) q m := by
  obtain ⟨s, A, n, c, A', n', c', xs, ys, hc, h1, h2, h3, h4, h5⟩ := h
  exact ⟨s, A, n, c, A', n', c', hc, ⟨_, _, _, _, _, _, _, _, _, rfl, h1, h2, by omega, by omega, h5⟩⟩
theorem RatAt.mono {k m : Nat} {w : World} {b o : Nat} {q : Rat} (h : RatAt k w b o q) (hkm : k ≤ m) : RatAt m w b o q := by
  obtain ⟨s, A, n, c, A', n', c', xs, ys, hc, h1, h2, h3, h4, h5⟩ := h
  exact ⟨s, A, n, c, A', n', c', xs, ys, hc, h1, h2, by omega, by omega, h5⟩
theorem lineT_len {w : World} {RA : Option Addr} {rn rc : Nat} {x : Fld} {q : Rat} (D : VData) (i : Nat) (hn : x.name.length ≤ 140737488355328) (hq : Short q 1000) (hk : 0 ≤ x.scale ∧ x.scale ≤ 9) (h : SlAt 15 NameAt w RA rn rc D.rules) : (lineT x q D i).length ≤ 562949953421312 := by
  have h1 := told_len D (i : Int) h
  have h2 := fixedT_len hq (show x.scale.toNat ≤ 9 by omega)
  unfold lineT
  generalize told D (i : Int) = T at *
  generalize fixedT q x.scale.toNat = X at *
  simp only [List.length_append]
  have e1 : (if eqQ (roundQ q x.scale.toNat) q then [(32 : UInt8), 101, 120, 97, 99, 116] else [32, 97, 98, 111, 117, 116]).length = 6 := by split <;> rfl
  have e2 : (if D.pins.getD i false then [(32 : UInt8), 112, 105, 110, 110, 101, 100] else []).length ≤ 7 := by split <;> simp
  have e3 : (if T = [] then [] else [(32 : UInt8), 116, 111, 108, 100, 32, 98, 121, 32] ++ T).length ≤ 9 + T.length := by split <;> simp; omega
  have e4 : (if x.must && !D.filled.getD i false then [(32 : UInt8), 109, 105, 115, 115, 105, 110, 103] else []).length ≤ 8 := by split <;> simp
  have e5 : [(32 : UInt8), 61, 32].length = 3 := rfl
  omega
section
variable {w : World} {PA FA RA VA OA QA LA : Option Addr} {pn pc fn fc rn rc vn vc on oc qn qc ln lc : Nat} {D : VData}
theorem fieldT_len (h : VRead w PA FA RA VA OA QA LA pn pc fn fc rn rc vn vc on oc qn qc ln lc 3 D) (hs : Scaled D) (z : Int) : (fieldT D z).length ≤ 562949953421312 := by
  unfold fieldT
  split
  · split
    · rename_i x q hx hq
      obtain ⟨hl, _, _, _, _, h1⟩ := h.flds
      obtain ⟨hl', _, _, _, _, h2⟩ := h.vals
      have i1 := (List.getElem?_eq_some_iff.1 hx).1
      have i2 := (List.getElem?_eq_some_iff.1 hq).1
      obtain ⟨b, o, _, _, hf⟩ := h1 (by omega)
      obtain ⟨b', o', _, _, hv⟩ := h2 (by omega)
      obtain ⟨_, _, _, _, _, _, _, _, ha⟩ := (hv _ q hq).arg (by omega : 3 ≤ 1000)
      exact lineT_len D _ (hf _ x hx).2 (ha.short (by omega)) (hs x (List.mem_of_getElem? hx)) h.rules
    · simp
  · simp
theorem pageL_len' (M : Nat) (z : Int) (hp : (D.pages.getD z.toNat []).length + 6 ≤ M) (hf : ∀ z, (fieldT D z).length ≤ M) : ∀ k, (pageL D z k).length ≤ M + k * (M + 1)
  | 0 => by
    unfold pageL
    simp only [List.length_append, List.length_cons, List.length_nil]
    omega
  | k + 1 => by
    have ih := pageL_len' M z hp hf k
    have h1 := hf (k : Int)
    rw [Nat.add_mul]
    unfold pageL
    split
    · split
      · simp only [List.length_append, List.length_cons, List.length_nil]; omega
      · omega
    · omega
theorem pageL_len (h : VRead w PA FA RA VA OA QA LA pn pc fn fc rn rc vn vc on oc qn qc ln lc 3 D) (hs : Scaled D) (z : Int) (k : Nat) (hk : k ≤ 1000) : (pageL D z k).length ≤ 1152921504606846976 := by
  have hp : (D.pages.getD z.toNat []).length ≤ 140737488355328 := by
    obtain ⟨hl, _, _, _, _, h1⟩ := h.pages
    rw [List.getD_eq_getElem?_getD]
    match hx : D.pages[z.toNat]? with
    | some x =>
      have i1 := (List.getElem?_eq_some_iff.1 hx).1
      obtain ⟨b, o, _, _, hf⟩ := h1 (by omega)
      exact (hf _ x hx).2
    | none => simp
  have h1 := pageL_len' 562949953421312 z (by omega) (fieldT_len h hs) k
  have h2 : k * (562949953421312 + 1) ≤ 1000 * (562949953421312 + 1) := Nat.mul_le_mul_right _ hk
  omega
end
set_option maxRecDepth 100000 in
set_option maxHeartbeats 1000000 in
theorem Field_out (f0 f1 f2 f4 f5 d0 d1 d3 d4 d5 : Value) (FA VA : Option Addr) (fn fc vn vc : Nat) (z : Int) (w : World) (hz0 : -9223372036854775808 ≤ z) (hz1 : z ≤ 9223372036854775807) (hz : ¬ (0 ≤ z ∧ z < (fn : Int) ∧ z < (vn : Int))) :
    Calls Try.prog 7 #[.agg #[f0, f1, f2, .slice FA fn fc, f4, f5], .agg #[d0, d1, .slice VA vn vc, d3, d4, d5], .int .i64 z] w fun e w' => e = .returned (.string (str [])) ∧ Below w.heap.size w w' := by
  obtain ⟨W0, hW0⟩ : ∃ W0, W0 = (w.alloc (.cells #[f0, f1, f2, .slice FA fn fc, f4, f5] 38)).alloc (.cells #[d0, d1, .slice VA vn vc, d3, d4, d5] 45) := ⟨_, rfl⟩
  have HX := hid ((B6n.newg w 38 f0 f1 f2 (.slice FA fn fc) f4 f5 _ rfl).alloc (.cells #[d0, d1, .slice VA vn vc, d3, d4, d5] 45))
  have HY := hid (B6n.newg (w.alloc (.cells #[f0, f1, f2, .slice FA fn fc, f4, f5] 38)) 45 d0 d1 (.slice VA vn vc) d3 d4 d5 (w.heap.size + 1) (by simp))
  have hb0 : Below w.heap.size w W0 := by rw [hW0]; exact Below.new_ (Below.new_ (Below.refl _ _) _) _
  rw [← hW0] at HX HY
  have hth := hid (there_any f0 f1 f2 f4 f5 d0 d1 d3 d4 d5 FA VA fn fc vn vc z W0 hz0 hz1)
  rw [decide_eq_false hz] at hth
  obtain ⟨k0, k1, k2, k3, k4, k5⟩ := HX.out.cells
  obtain ⟨j0, j1, j2, j3, j4, j5⟩ := HY.out.cells
  go_enter Try.func7, Try.ntmps7
  go_upto_region 1 with fail
  rw [← hW0]
  clear hW0 hz
  go_wp2_with (go_at_call 17; refine hth.out.mono ?_; rintro e w1 ⟨rfl, hb1⟩)
  go_ret
  exact ⟨rfl, Below.then_ hb0 hb1⟩
theorem Field_all (f0 f1 f5 d0 d1 : Value) (PA FA RA VA OA QA LA : Option Addr) (pn pc fn fc rn rc vn vc on oc qn qc ln lc : Nat) (D : VData) (z : Int) (w : World) (hV : VRead w PA FA RA VA OA QA LA pn pc fn fc rn rc vn vc on oc qn qc ln lc 3 D) (hs : Scaled D) (hz0 : -9223372036854775808 ≤ z) (hz1 : z ≤ 9223372036854775807) :
    Calls Try.prog 7 #[.agg #[f0, f1, .slice PA pn pc, .slice FA fn fc, .slice RA rn rc, f5], .agg #[d0, d1, .slice VA vn vc, .slice OA on oc, .slice QA qn qc, .slice LA ln lc], .int .i64 z] w fun e w' => e = .returned (.string (str (fieldT D z))) ∧ Below w.heap.size w w' := by
  obtain ⟨hfl, _, hfn, _, _, hf⟩ := hV.flds
  obtain ⟨hvl, _, hvn, _, _, hv⟩ := hV.vals
  by_cases h : 0 ≤ z ∧ z < (fn : Int) ∧ z < (vn : Int)
  · obtain ⟨h0, h1, h2⟩ := h
    obtain ⟨i, rfl⟩ : ∃ i : Nat, z = (i : Int) := ⟨z.toNat, by omega⟩
    obtain ⟨b, o, rfl, hb, hx⟩ := hf (by omega)
    obtain ⟨b', o', rfl, hb', hx'⟩ := hv (by omega)
    have e1 : D.flds[i]? = some (D.flds[i]'(by omega)) := List.getElem?_eq_getElem _
    have e2 : D.vals[i]? = some (D.vals[i]'(by omega)) := List.getElem?_eq_getElem _
    have hsc := hs _ (List.mem_of_getElem? e1)
    have := Field_in f0 f1 (.slice PA pn pc) f5 d0 d1 b o b' o' none RA none OA QA LA fn fc rn rc vn vc on oc qn qc ln lc i _ _ D w (hx i _ e1) ((hx' i _ e2).mono (by omega)) hb hb' (by omega) (by omega) hfn hvn _ (show _ = ((D.flds[i]'(by omega)).scale.toNat : Int) by omega) (by omega) hV.rules hV.outs hV.pins hV.filled
    have e3 : fieldT D (i : Int) = lineT (D.flds[i]'(by omega)) (D.vals[i]'(by omega)) D i := by
      unfold fieldT
      rw [if_pos h0, Int.toNat_natCast, e1, e2]
    rw [e3]
    exact this
  · have e3 : fieldT D z = [] := by
      unfold fieldT
      split
      · split
        · rename_i x q hx hq
          have i1 := (List.getElem?_eq_some_iff.1 hx).1
          have i2 := (List.getElem?_eq_some_iff.1 hq).1
          exact absurd ⟨by omega, by omega, by omega⟩ h
        · rfl
      · rfl
    rw [e3]
    exact Field_out _ _ _ _ _ _ _ _ _ _ _ _ _ _ _ _ _ w hz0 hz1 h
set_option maxRecDepth 100000 in
set_option maxHeartbeats 4000000 in
theorem Page_all (f0 f1 f5 d0 d1 : Value) (PA FA RA VA OA QA LA : Option Addr) (pn pc fn fc rn rc vn vc on oc qn qc ln lc : Nat) (D : VData) (z : Int) (w : World) (hV : VRead w PA FA RA VA OA QA LA pn pc fn fc rn rc vn vc on oc qn qc ln lc 3 D) (hs : Scaled D) (hfew : fn ≤ 1000) (hz0 : -9223372036854775808 ≤ z) (hz1 : z ≤ 9223372036854775807) :
    Calls Try.prog 15 #[.agg #[f0, f1, .slice PA pn pc, .slice FA fn fc, .slice RA rn rc, f5], .agg #[d0, d1, .slice VA vn vc, .slice OA on oc, .slice QA qn qc, .slice LA ln lc], .int .i64 z] w fun e w' => e = .returned (.string (str (pageT D z))) ∧ Below w.heap.size w w' := by
  obtain ⟨W0, hW0⟩ : ∃ W0, W0 = (w.alloc (.cells #[f0, f1, .slice PA pn pc, .slice FA fn fc, .slice RA rn rc, f5] 38)).alloc (.cells #[d0, d1, .slice VA vn vc, .slice OA on oc, .slice QA qn qc, .slice LA ln lc] 45) := ⟨_, rfl⟩
  have HX := hid ((B6n.newg w 38 f0 f1 (.slice PA pn pc) (.slice FA fn fc) (.slice RA rn rc) f5 _ rfl).alloc (.cells #[d0, d1, .slice VA vn vc, .slice OA on oc, .slice QA qn qc, .slice LA ln lc] 45))
  have HY := hid (B6n.newg (w.alloc (.cells #[f0, f1, .slice PA pn pc, .slice FA fn fc, .slice RA rn rc, f5] 38)) 45 d0 d1 (.slice VA vn vc) (.slice OA on oc) (.slice QA qn qc) (.slice LA ln lc) (w.heap.size + 1) (by simp))
  have hb0 : Below w.heap.size w W0 := by rw [hW0]; exact Below.new_ (Below.new_ (Below.refl _ _) _) _
  rw [← hW0] at HX HY
  have HFi := hid fun W (hW : Below w.heap.size w W) (i : Nat) (hi : i ≤ 1000) => Field_all f0 f1 f5 d0 d1 PA FA RA VA OA QA LA pn pc fn fc rn rc vn vc on oc qn qc ln lc D (i : Int) W (hV.below hW) hs (by omega) (by omega)
  have HFL := hid (fieldT_len hV hs)
  have HPL := hid (pageL_len hV hs z)
  have HFl := hid (hV.flds)
  obtain ⟨hpl, _, hpn, _, _, hp⟩ := hV.pages.below nameAt_stays hb0
  have hpt : pageT D z = if 0 ≤ z ∧ z < (D.pages.length : Int) then pageL D z D.flds.length else [] := rfl
  rw [hpl, hV.flds.1] at hpt
  clear hV hs
  obtain ⟨k0, k1, k2, k3, k4, k5⟩ := HX.out.cells
  obtain ⟨j0, j1, j2, j3, j4, j5⟩ := HY.out.cells
  by_cases h0 : z < 0
  · have d0 : decide (z < 0) = true := decide_eq_true h0
    rw [if_neg (by omega)] at hpt
    have Hpt := hid hpt
    clear hpt hp hpl
    go_enter Try.func15, Try.ntmps15
    go_upto_region 1 with fail
    rw [← hW0]
    clear hW0
    go_wp2_with fail
    go_ret
    exact ⟨by rw [Hpt.out]; rfl, hb0⟩
  · have d0 : decide (z < 0) = false := decide_eq_false h0
    by_cases h1 : (pn : Int) ≤ z
    · have d1 : decide ((pn : Int) ≤ z) = true := decide_eq_true h1
      rw [if_neg (by omega)] at hpt
      have Hpt := hid hpt
      clear hpt hp hpl
      go_enter Try.func15, Try.ntmps15
      go_upto_region 1 with fail
      rw [← hW0]
      clear hW0
      go_wp2_with fail
      go_ret
      exact ⟨by rw [Hpt.out]; rfl, hb0⟩
    · have d1 : decide ((pn : Int) ≤ z) = false := decide_eq_false h1
      rw [if_pos (by omega)] at hpt
      have Hpt := hid hpt
      clear hpt
      obtain ⟨p, rfl⟩ : ∃ p : Nat, z = (p : Int) := ⟨z.toNat, by omega⟩
      obtain ⟨b, o, rfl, hb, hx⟩ := hp (by omega)
      have hlt : p < D.pages.length := by omega
      obtain ⟨hc0, hnl⟩ := hx p D.pages[p] (List.getElem?_eq_getElem hlt)
      have c0 : W0.cell? ⟨b, o + p * 2, none⟩ = some (.string (str D.pages[p])) := hc0.at_ 0 rfl
      have hL0 : pageL D (p : Int) 0 = [112, 97, 103, 101, 32] ++ D.pages[p] ++ [10] := by
        unfold pageL
        rw [Int.toNat_natCast, List.getD_eq_getElem?_getD, List.getElem?_eq_getElem hlt]
        rfl
      obtain ⟨nm, hnm⟩ : ∃ nm, D.pages[p] = nm := ⟨_, rfl⟩
      rw [hnm] at c0 hL0 hnl
      have HL0 := hid hL0
      have hpp : p < pn := by omega
      clear hx hc0 hnm hL0 hp hlt hpl
      obtain ⟨T0, hT0⟩ : ∃ T0, [112, 97, 103, 101, 32] ++ nm = T0 := ⟨_, rfl⟩
      have lT0 : T0.length ≤ 140737488355400 := by rw [← hT0, List.length_append, show [(112 : UInt8), 97, 103, 101, 32].length = 5 from rfl]; omega
      have q1 : ∀ W, (Op.stringOp .add ⟨#[112, 97, 103, 101, 32]⟩ (str nm)).run Try.prog W = .ok (.string (str T0)) W := fun W => by
        rw [← hT0]
        exact add_text [112, 97, 103, 101, 32] nm (by rw [show [(112 : UInt8), 97, 103, 101, 32].length = 5 from rfl]; omega) W
      have q2 : ∀ W, (Op.stringOp .add (str T0) ⟨#[10]⟩).run Try.prog W = .ok (.string (str (pageL D (p : Int) 0))) W := fun W => by
        rw [HL0.out, hT0]
        exact add_text T0 [10] (by simp; omega) W
      clear hT0
      go_enter Try.func15, Try.ntmps15
      go_upto_region 1 with fail
      rw [← hW0]
      clear hW0
      go_wp2_with fail
      clear q1 q2 c0 k0 k1 k2 k3 k4 k5 j0 j1 j2 j3 j4 j5
      go_loopw [7, 30] (fun s i wr => ∃ k : Nat, k ≤ fn ∧ i = .int .i64 k ∧ s = .string (str (pageL D (p : Int) k)) ∧ Below W0.heap.size W0 wr) (fun _ i _ => fn - (intOf i).toNat)
      case atStart => exact ⟨0, Nat.zero_le _, rfl, rfl, Below.refl _ _⟩
      case round =>
        obtain ⟨k, hk, rfl, rfl, hbr⟩ := hrel
        by_cases hlt : k < fn
        · have hbw := Below.then_ hb0 hbr
          obtain ⟨hfl, _, _, _, _, hf⟩ := HFl.out.below fldAt_stays hbw
          obtain ⟨b2, o2, rfl, hb2, hx⟩ := hf (by omega)
          have hkl : k < D.flds.length := by omega
          have e1 : D.flds[k]? = some D.flds[k] := List.getElem?_eq_getElem hkl
          obtain ⟨hca, hxn⟩ := hx k _ e1
          obtain ⟨x, hx'⟩ : ∃ x, D.flds[k] = x := ⟨_, rfl⟩
          rw [hx'] at hca e1
          have c0 : wr.cell? ⟨b2, o2 + k * 4, none⟩ = some (.string (str x.name)) := hca.at_ 0 rfl
          have c1 := hca.at_ 1 rfl
          have c2 := hca.at_ 2 rfl
          have c3 := hca.at_ 3 rfl
          have hst : pageL D (p : Int) (k + 1) = if x.page = (p : Int) then pageL D (p : Int) k ++ (fieldT D (k : Int) ++ [10]) else pageL D (p : Int) k := by
            rw [pageL, e1]
          have lP := HPL.out k (by omega)
          have lF := HFL.out (k : Int)
          have Hst := hid hst
          clear hx hca hx' e1 hf hst hxn hfl
          by_cases hpg : x.page = (p : Int)
          · have Hst2 := hid (show pageL D (p : Int) (k + 1) = pageL D (p : Int) k ++ (fieldT D (k : Int) ++ [10]) by rw [Hst.out, if_pos hpg])
            clear Hst
            obtain ⟨xn, xp, xm, xs⟩ := x
            simp only at hpg c0 c1 c2 c3
            subst hpg
            obtain ⟨k0, k1, k2, k3, k4, k5⟩ := ((HX.out.below hbr).alloc (.cells #[.string (str xn), .int .i64 (p : Int), .bool xm, .int .i64 xs] 31)).cells
            obtain ⟨j0, j1, j2, j3, j4, j5⟩ := ((HY.out.below hbr).alloc (.cells #[.string (str xn), .int .i64 (p : Int), .bool xm, .int .i64 xs] 31)).cells
            obtain ⟨P1, hP1⟩ : ∃ P1, pageL D (p : Int) k = P1 := ⟨_, rfl⟩
            obtain ⟨F1, hF1⟩ : ∃ F1, fieldT D (k : Int) = F1 := ⟨_, rfl⟩
            have HFc := hid fun W hW => HFi.out W hW k (by omega)
            rw [hP1] at lP Hst2
            rw [hF1] at lF Hst2 HFc
            rw [hP1]
            clear hP1 hF1 HFi HFL HPL
            have hbw2 := Below.new_ hbw (.cells #[.string (str xn), .int .i64 (p : Int), .bool xm, .int .i64 xs] 31)
            obtain ⟨F2, hF2⟩ : ∃ F2, F1 ++ [10] = F2 := ⟨_, rfl⟩
            have lF2 : F2.length ≤ 562949953421320 := by rw [← hF2]; simp; omega
            have q1 : ∀ W, (Op.stringOp .add (str F1) ⟨#[10]⟩).run Try.prog W = .ok (.string (str F2)) W := fun W => by
              rw [← hF2]
              exact add_text F1 [10] (by simp; omega) W
            rw [hF2] at Hst2
            clear hF2
            obtain ⟨P2, hP2⟩ : ∃ P2, P1 ++ F2 = P2 := ⟨_, rfl⟩
            have q2 : ∀ W, (Op.stringOp .add (str P1) (str F2)).run Try.prog W = .ok (.string (str P2)) W := fun W => by
              rw [← hP2]
              exact add_text P1 F2 (by omega) W
            rw [hP2] at Hst2
            clear hP2
            go_wp2_with (go_at_call 7; refine (HFc.out _ hbw2).mono ?_; rintro e w2 ⟨rfl, hb3⟩)
            refine ⟨⟨k + 1, hlt, by go_num, by rw [Hst2.out], Below.then_ (Below.new_ hbr _) hb3⟩, ?_⟩
            simp [intOf]; omega
          · have d3 : (x.page == (p : Int)) = false := by simp [hpg]
            have Hst2 := hid (show pageL D (p : Int) (k + 1) = pageL D (p : Int) k by rw [Hst.out, if_neg hpg])
            clear Hst HFi HFL HPL
            go_wp2_with fail
            refine ⟨⟨k + 1, hlt, by go_num, by rw [Hst2.out], (by repeat first | exact Below.refl _ _ | assumption | refine Pg.Below.then_ ?_ (by assumption) | refine Pg.Below.new_ ?_ _ | refine Pg.Below.drewN_ ?_ _)⟩, ?_⟩
            simp [intOf]; omega
        · obtain rfl : k = fn := by omega
          go_wp2_with fail
          go_ret
          exact ⟨by rw [Hpt.out]; rfl, Below.then_ hb0 hbr⟩
/-- A field's value as a number of 64 bits, or 0. -/
def floatF (D : VData) (z : Int) : Nat := if 0 ≤ z then (match D.flds[z.toNat]?, D.vals[z.toNat]? with | some _, some q => fw q | _, _ => 0) else 0
set_option maxRecDepth 100000 in
set_option maxHeartbeats 2000000 in
theorem Float_all (f0 f1 f2 f4 f5 d0 d1 d3 d4 d5 : Value) (FA VA : Option Addr) (fn fc vn vc : Nat) (D : VData) (z : Int) (w : World) (hFl : SlAt 4 FldAt w FA fn fc D.flds) (hVa : SlAt 3 (RatAt 3) w VA vn vc D.vals) (hz0 : -9223372036854775808 ≤ z) (hz1 : z ≤ 9223372036854775807) :
    Calls Try.prog 16 #[.agg #[f0, f1, f2, .slice FA fn fc, f4, f5], .agg #[d0, d1, .slice VA vn vc, d3, d4, d5], .int .i64 z] w fun e w' => e = .returned (.float .f64 (floatF D z)) ∧ Below w.heap.size w w' := by
  obtain ⟨W0, hW0⟩ : ∃ W0, W0 = (w.alloc (.cells #[f0, f1, f2, .slice FA fn fc, f4, f5] 38)).alloc (.cells #[d0, d1, .slice VA vn vc, d3, d4, d5] 45) := ⟨_, rfl⟩
  have HX := hid ((B6n.newg w 38 f0 f1 f2 (.slice FA fn fc) f4 f5 _ rfl).alloc (.cells #[d0, d1, .slice VA vn vc, d3, d4, d5] 45))
  have HY := hid (B6n.newg (w.alloc (.cells #[f0, f1, f2, .slice FA fn fc, f4, f5] 38)) 45 d0 d1 (.slice VA vn vc) d3 d4 d5 (w.heap.size + 1) (by simp))
  have hb0 : Below w.heap.size w W0 := by rw [hW0]; exact Below.new_ (Below.new_ (Below.refl _ _) _) _
  rw [← hW0] at HX HY
  have hth := hid (there_any f0 f1 f2 f4 f5 d0 d1 d3 d4 d5 FA VA fn fc vn vc z W0 hz0 hz1)
  have hfl := hFl.1
  have hvl := hVa.1
  have hfn := hFl.2.2.1
  have hvn := hVa.2.2.1
  obtain ⟨k0, k1, k2, k3, k4, k5⟩ := HX.out.cells
  obtain ⟨j0, j1, j2, j3, j4, j5⟩ := HY.out.cells
  by_cases h : 0 ≤ z ∧ z < (fn : Int) ∧ z < (vn : Int)
  · rw [decide_eq_true h] at hth
    obtain ⟨h0, h1, h2⟩ := h
    obtain ⟨i, rfl⟩ : ∃ i : Nat, z = (i : Int) := ⟨z.toNat, by omega⟩
    have HVa := hid hVa
    obtain ⟨q, hq⟩ : ∃ q, D.vals[i]? = some q := ⟨D.vals[i]'(by omega), List.getElem?_eq_getElem _⟩
    have Hq := hid hq
    have e3 := hid (show floatF D (i : Int) = fw q by
      unfold floatF
      rw [if_pos h0, Int.toNat_natCast, List.getElem?_eq_getElem (show i < D.flds.length by omega), hq])
    clear hq hVa hFl hfl hvl
    go_enter Try.func16, Try.ntmps16
    go_upto_region 1 with fail
    rw [← hW0]
    clear hW0
    go_upto_region 3 with (go_at_call 17; refine hth.out.mono ?_; rintro e w1 ⟨rfl, hb1⟩; clear k0 k1 k2 k3 k4 k5 j0 j1 j2 j3 j4 j5; obtain ⟨j0, j1, j2, j3, j4, j5⟩ := (HY.out.below hb1).cells)
    obtain ⟨_, _, _, _, _, hv⟩ := HVa.out.below (ratAt_stays 3) (Below.then_ hb0 hb1)
    obtain ⟨b', o', rfl, hbl', hx'⟩ := hv (by omega)
    obtain ⟨s, A, n, c, A', n', c', hc, hra⟩ := (hx' i q Hq.out).arg (Nat.le_refl 3)
    have c0 : w1.cell? ⟨b', o' + i * 3, none⟩ = some (.bool s) := hc.at_ 0 rfl
    have c1 := hc.at_ 1 rfl
    have c2 := hc.at_ 2 rfl
    have HT := hid (fltTo_R w1 hra (by omega) (by omega))
    clear hc hx' hv hra HVa Hq
    go_wp2_with (go_at_call 34; refine HT.out.mono ?_; rintro e w2 ⟨rfl, hb2⟩)
    go_ret
    exact ⟨by rw [e3.out]; rfl, Below.then_ (Below.then_ hb0 hb1) hb2⟩
  · have e3 := hid (show floatF D z = 0 by
      unfold floatF
      split
      · split
        · rename_i x q hx hq
          have i1 := (List.getElem?_eq_some_iff.1 hx).1
          have i2 := (List.getElem?_eq_some_iff.1 hq).1
          exact absurd ⟨by omega, by omega, by omega⟩ h
        · rfl
      · rfl)
    rw [decide_eq_false h] at hth
    clear h hFl hVa hfl hvl
    go_enter Try.func16, Try.ntmps16
    go_upto_region 1 with fail
    rw [← hW0]
    clear hW0
    go_wp2_with (go_at_call 17; refine hth.out.mono ?_; rintro e w1 ⟨rfl, hb1⟩)
    go_ret
    exact ⟨by rw [e3.out]; rfl, Below.then_ hb0 hb1⟩
end Go.Proofs.Ytbhieajpodnfpaa
