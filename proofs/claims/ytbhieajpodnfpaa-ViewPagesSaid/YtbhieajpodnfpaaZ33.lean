/- Walk: view.Field. Conditions: those that each theorem names. -/
import Derived.Test.YtbhieajpodnfpaaZ31
import Derived.BigRegion
import Derived.Test.YtbhieajpodnfpaaZ32
namespace Go.Proofs.Ytbhieajpodnfpaa
open Go.RowKit Pg
theorem keep_alloc {w : World} {b o : Nat} {v : Value} (h : w.cell? ⟨b, o, none⟩ = some v) (x : Obj) : (w.alloc x).cell? ⟨b, o, none⟩ = some v :=
  ((Below.new_ (Below.refl w.heap.size w) x).cell (p := ⟨b, o, none⟩) (cell_lt h)).trans h
/-- A block of four cells. -/
def B4n (w : World) (g : Nat) (t : TypeId) (v0 v1 v2 v3 : Value) : Prop := w.heap[g]? = some (.cells #[v0, v1, v2, v3] t (0, 0))
theorem B4n.newg (w : World) (t : TypeId) (v0 v1 v2 v3 : Value) (g : Nat) (hg : g = w.heap.size) : B4n (w.alloc (.cells #[v0, v1, v2, v3] t)) g t v0 v1 v2 v3 := by subst hg; exact heap_alloc_new w _
theorem B4n.lt {w : World} {g : Nat} {t : TypeId} {v0 v1 v2 v3 : Value} (h : B4n w g t v0 v1 v2 v3) : g < w.heap.size := by
  rcases Nat.lt_or_ge g w.heap.size with h1 | h1
  · exact h1
  · unfold B4n at h; rw [Array.getElem?_eq_none h1] at h; cases h
theorem B4n.below {w w' : World} {g : Nat} {t : TypeId} {v0 v1 v2 v3 : Value} (h : B4n w g t v0 v1 v2 v3) (hb : Below w.heap.size w w') : B4n w' g t v0 v1 v2 v3 := (hb.block g h.lt).trans h
theorem B4n.alloc {w : World} {g : Nat} {t : TypeId} {v0 v1 v2 v3 : Value} (h : B4n w g t v0 v1 v2 v3) (o : Obj) : B4n (w.alloc o) g t v0 v1 v2 v3 := (Below.heap_alloc w o g h.lt).trans h
theorem B4n.cells {w : World} {g : Nat} {t : TypeId} {v0 v1 v2 v3 : Value} (h : B4n w g t v0 v1 v2 v3) : w.cell? ⟨g, 0, none⟩ = some v0 ∧ w.cell? ⟨g, 1, none⟩ = some v1 ∧ w.cell? ⟨g, 2, none⟩ = some v2 ∧ w.cell? ⟨g, 3, none⟩ = some v3 := by
  refine ⟨?_, ?_, ?_, ?_⟩ <;> (rw [cell_of_row w g _ _ t (0, 0) h]; rfl)

theorem fixedT_len {q : Rat} {k : Nat} (h : Short q 1000) (hk : k ≤ 9) : (fixedT q k).length ≤ 30000 := by
  unfold fixedT
  have h1 := units_len h (show k ≤ 60 by omega)
  have h2 := dtext_len h1
  have h3 := pt_len (dtext (unitsN q k)) k
  rw [pt_dtext] at h3
  have h4 := stext_len (rneg q && decide (0 < unitsN q k))
  rw [List.length_append]
  omega
theorem told_len {w : World} {RA : Option Addr} {rn rc : Nat} (D : VData) (z : Int) (h : SlAt 15 NameAt w RA rn rc D.rules) : (told D z).length ≤ 140737488355328 := by
  unfold told
  split
  · obtain ⟨hl, _, _, _, _, hx⟩ := h
    by_cases hlt : (Lib.idxOf D.outs z).toNat < D.rules.length
    · obtain ⟨b, o, _, _, hc⟩ := hx (by omega)
      have := (hc _ D.rules[(Lib.idxOf D.outs z).toNat] (List.getElem?_eq_getElem hlt)).2
      simpa [List.getD, hlt] using this
    · simp [List.getD, List.getElem?_eq_none (show D.rules.length ≤ (Lib.idxOf D.outs z).toNat by omega)]
  · simp
theorem Same_R {va vb : Value} {p q : Rat} {E : Bool} (w : World) (ha : RArg w va p 2002) (hb : RArg w vb q 2002) (hE : E = eqQ p q) :
    Calls Try.prog 19 #[va, vb] w fun e w' => e = .returned (.bool E) ∧ Below w.heap.size w w' := by
  subst hE
  obtain ⟨s1, A, n, c, A', n', c', xs, ys, rfl, h1, h2, h3, h4, rfl⟩ := ha
  obtain ⟨s2, C, m, d, C', m', d', us, vs, rfl, g1, g2, g3, g4, rfl⟩ := hb
  exact Same_any _ _ _ _ _ _ _ _ _ _ _ _ _ _ _ _ _ _ w h1 h2 g1 g2 (by omega) (by omega) (by omega) (by omega)
/-- A field's line. -/
def lineT (x : Fld) (q : Rat) (D : VData) (i : Nat) : List UInt8 :=
  x.name ++ [32, 61, 32] ++ fixedT q x.scale.toNat ++ (if eqQ (roundQ q x.scale.toNat) q then [32, 101, 120, 97, 99, 116] else [32, 97, 98, 111, 117, 116]) ++ (if D.pins.getD i false then [32, 112, 105, 110, 110, 101, 100] else []) ++
    (if told D i = [] then [] else [32, 116, 111, 108, 100, 32, 98, 121, 32] ++ told D i) ++ (if x.must && !D.filled.getD i false then [32, 109, 105, 115, 115, 105, 110, 103] else [])
set_option maxRecDepth 100000 in
set_option maxHeartbeats 8000000 in
theorem Field_in (f0 f1 f2 f5 d0 d1 : Value) (b o b' o' : Nat) (_FA RA _VA OA QA LA : Option Addr) (fn fc rn rc vn vc on oc qn qc ln lc i : Nat) (x : Fld) (q : Rat) (D : VData) (w : World)
    (hF : FldAt w b (o + i * 4) x) (hV : RatAt 1000 w b' (o' + i * 3) q) (hbl : b < w.heap.size) (hbl' : b' < w.heap.size) (hi : i < fn) (hi' : i < vn) (hfn : fn ≤ 140737488355328) (_hvn : vn ≤ 140737488355328) (k : Nat) (hk : x.scale = (k : Int)) (hk9 : k ≤ 9) (hR : SlAt 15 NameAt w RA rn rc D.rules) (hO : SlAt 1 IntAt w OA on oc D.outs) (hP : SlAt 5 BoolAt w QA qn qc D.pins) (hL : SlAt 1 BoolAt w LA ln lc D.filled) :
    Calls Try.prog 7 #[.agg #[f0, f1, f2, .slice (some ⟨b, o, none⟩) fn fc, .slice RA rn rc, f5], .agg #[d0, d1, .slice (some ⟨b', o', none⟩) vn vc, .slice OA on oc, .slice QA qn qc, .slice LA ln lc], .int .i64 (i : Int)] w fun e w' => e = .returned (.string (str (lineT x q D i))) ∧ Below w.heap.size w w' := by
  obtain ⟨W0, hW0⟩ : ∃ W0, W0 = (w.alloc (.cells #[f0, f1, f2, .slice (some ⟨b, o, none⟩) fn fc, .slice RA rn rc, f5] 38)).alloc (.cells #[d0, d1, .slice (some ⟨b', o', none⟩) vn vc, .slice OA on oc, .slice QA qn qc, .slice LA ln lc] 45) := ⟨_, rfl⟩
  have HX := hid ((B6n.newg w 38 f0 f1 f2 (.slice (some ⟨b, o, none⟩) fn fc) (.slice RA rn rc) f5 _ rfl).alloc (.cells #[d0, d1, .slice (some ⟨b', o', none⟩) vn vc, .slice OA on oc, .slice QA qn qc, .slice LA ln lc] 45))
  have HY := hid (B6n.newg (w.alloc (.cells #[f0, f1, f2, .slice (some ⟨b, o, none⟩) fn fc, .slice RA rn rc, f5] 38)) 45 d0 d1 (.slice (some ⟨b', o', none⟩) vn vc) (.slice OA on oc) (.slice QA qn qc) (.slice LA ln lc) (w.heap.size + 1) (by simp))
  have hb0 : Below w.heap.size w W0 := by rw [hW0]; exact Below.new_ (Below.new_ (Below.refl _ _) _) _
  rw [← hW0] at HX HY
  have hth := hid (there_any f0 f1 f2 (.slice RA rn rc) f5 d0 d1 (.slice OA on oc) (.slice QA qn qc) (.slice LA ln lc) (some ⟨b, o, none⟩) (some ⟨b', o', none⟩) fn fc vn vc (i : Int) W0 (by omega) (by omega))
  have hd : decide ((0 : Int) ≤ (i : Int) ∧ (i : Int) < (fn : Int) ∧ (i : Int) < (vn : Int)) = true := decide_eq_true ⟨by omega, by omega, by omega⟩
  rw [hd] at hth
  clear hd
  obtain ⟨k0, k1, k2, k3, k4, k5⟩ := HX.out.cells
  obtain ⟨j0, j1, j2, j3, j4, j5⟩ := HY.out.cells
  go_enter Try.func7, Try.ntmps7
  go_upto_region 1 with fail
  rw [← hW0]
  clear hW0
  go_upto_region 3 with (go_at_call 17; refine hth.out.mono ?_; rintro e w1 ⟨rfl, hb1⟩; clear k0 k1 k2 k3 k4 k5 j0 j1 j2 j3 j4 j5; obtain ⟨k0, k1, k2, k3, k4, k5⟩ := (HX.out.below hb1).cells; obtain ⟨j0, j1, j2, j3, j4, j5⟩ := (HY.out.below hb1).cells)
  have hbw := Below.then_ hb0 hb1
  have hF1 := fldAt_stays _ _ _ _ _ hbl hF hbw
  obtain ⟨s, A, n, c, A', n', c', xs, ys, hc, hr1, hr2, hn, hn', hp⟩ := ratAt_stays 1000 _ _ _ _ _ hbl' hV hbw
  have m0 := hF1.1.at_ 0 rfl
  have m1 := hF1.1.at_ 1 rfl
  have m2 := hF1.1.at_ 2 rfl
  have m3 := hF1.1.at_ 3 rfl
  have l0 := hc.at_ 0 rfl
  have l1 := hc.at_ 1 rfl
  have l2 := hc.at_ 2 rfl
  rw [Nat.add_zero] at m0 l0
  have HF1 := hid hF1
  have HP := hid hp
  clear hF1 hp hc
  go_cut [7, 8] (fun s7 s8 wd => ∃ g7 g8, s7 = .pointer (some ⟨g7, 0, none⟩) ∧ s8 = .pointer (some ⟨g8, 0, none⟩) ∧ B4n wd g7 31 (.string (str x.name)) (.int .i64 x.page) (.bool x.must) (.int .i64 (k : Int)) ∧ B3 wd g8 24 (.bool s) (.slice A n c) (.slice A' n' c') ∧ w.heap.size ≤ g7 ∧ w.heap.size ≤ g8 ∧ Below w1.heap.size w1 wd)
  case first =>
    have k3a := fun o => keep_alloc k3 o
    have k3b := fun o o' => keep_alloc (keep_alloc k3 o) o'
    have j2a := fun o => keep_alloc j2 o
    have j2b := fun o o' => keep_alloc (keep_alloc j2 o) o'
    have m0a := fun o => keep_alloc m0 o
    have m0b := fun o o' => keep_alloc (keep_alloc m0 o) o'
    have m1a := fun o => keep_alloc m1 o
    have m1b := fun o o' => keep_alloc (keep_alloc m1 o) o'
    have m2a := fun o => keep_alloc m2 o
    have m2b := fun o o' => keep_alloc (keep_alloc m2 o) o'
    have m3a := fun o => keep_alloc m3 o
    have m3b := fun o o' => keep_alloc (keep_alloc m3 o) o'
    have l0a := fun o => keep_alloc l0 o
    have l0b := fun o o' => keep_alloc (keep_alloc l0 o) o'
    have l1a := fun o => keep_alloc l1 o
    have l1b := fun o o' => keep_alloc (keep_alloc l1 o) o'
    have l2a := fun o => keep_alloc l2 o
    have l2b := fun o o' => keep_alloc (keep_alloc l2 o) o'
    go_region
    · go_wp2_with fail
      go_meet
      exact ⟨_, _, rfl, rfl, (B4n.newg w1 _ _ _ _ _ _ rfl).alloc _, B3.newg (w1.alloc _) _ _ _ _ _ (by simp), by have := hbw.size; omega, by have := hbw.size; omega, Go.RowKit.Below.drew (Below.new_ (Below.new_ (Below.refl _ _) _) _)⟩
    · go_wp2_with fail
      go_meet
      exact ⟨_, _, rfl, rfl, B4n.newg (w1.alloc _) _ _ _ _ _ _ (by simp), (B3.new w1 _ _ _ _).alloc _, by have := hbw.size; omega, by have := hbw.size; omega, Go.RowKit.Below.drew (Below.new_ (Below.new_ (Below.refl _ _) _) _)⟩
  case rest =>
    obtain ⟨g7, g8, rfl, rfl, hB7, hB8, hg7, hg8, hbc⟩ := hcut
    clear hth hF hV hbl hbl' m0 m1 m2 m3 l0 l1 l2 k0 k1 k2 k3 k4 k5 j0 j1 j2 j3 j4 j5
    have hnm := HF1.out.2
    have HA := hid (show RArg wc (.agg #[.bool s, .slice A n c, .slice A' n' c']) q 1000 from ⟨_, _, _, _, _, _, _, _, _, rfl, hr1.below hbc, hr2.below hbc, hn, hn', HP.out⟩)
    have hsq := HA.out.short (by omega)
    have hrs := round_short hsq (show k ≤ 60 by omega)
    have hfx := fixedT_len hsq hk9
    obtain ⟨T1, hT1'⟩ : ∃ T1, x.name ++ [32, 61, 32] ++ fixedT q k = T1 := ⟨_, rfl⟩
    have hT1 := hid hT1'
    have lT1 : T1.length ≤ 140737488400000 := by rw [← hT1', List.length_append, List.length_append, show [(32 : UInt8), 61, 32].length = 3 from rfl]; omega
    obtain ⟨E, hE'⟩ : ∃ E, E = eqQ (roundQ q k) q := ⟨_, rfl⟩
    have hE := hid hE'
    have hbw1 := Below.then_ hbw hbc
    clear hT1' hE' hr1 hr2 HF1 HP hsq
    go_upto_region 4 with fail
    refine draw_hd [26, 27, 28, 29, 30, 31, 32, 33, 9] [.is (.pointer (some ⟨g7, 0, none⟩)), .is (.string (str x.name)), .is (.string (str (x.name ++ [32, 61, 32]))), .is (.agg #[.bool s, .slice A n c, .slice A' n' c']), .is (.pointer (some ⟨g7, 3, none⟩)), .is (.int .i64 (k : Int)), .is (.string (str (fixedT q k))), .is (.string (str T1)), .is (.string (str T1))]
      (by kernel_rfl) (by kernel_rfl) (by kernel_rfl) (by decide) (by kernel_rfl) (by kernel_rfl) ?_ ?_
    · refine ⟨?_, ?_, ?_, ?_, ?_, ?_, ?_, ?_, ?_, trivial⟩
      · intro a w3 hA K hK
        have t7 := hA.old 7 _ rfl rfl
        go_simp
        exact hK _ _ (by first | rfl | exact congrArg _ (by first | rfl | omega | (rw [IntKind.wrap_i64]; omega))) (Below.refl _ _)
      · intro a w3 hA K hK
        have t26 := bt_is hA 0 26 rfl rfl (by kernel_rfl)
        obtain ⟨k0', k1', k2', k3'⟩ := (hB7.below hA.below).cells
        go_simp
        exact hK _ _ (by first | rfl | exact congrArg _ (by first | rfl | omega | (rw [IntKind.wrap_i64]; omega))) (Below.refl _ _)
      · intro a w3 hA K hK
        have t27 := bt_is hA 1 27 rfl rfl (by kernel_rfl)
        have q1 : (Op.stringOp .add (str x.name) ⟨#[32, 61, 32]⟩).run Try.prog w3 = .ok (.string (str (x.name ++ [32, 61, 32]))) w3 := add_text x.name [32, 61, 32] (by rw [show [(32 : UInt8), 61, 32].length = 3 from rfl]; omega) w3
        go_simp
        exact hK _ _ rfl (Below.refl _ _)
      · intro a w3 hA K hK
        have t8 := hA.old 8 _ rfl rfl
        obtain ⟨k0, k1, k2, _, _, _⟩ := (hB8.below hA.below).cells
        go_simp
        exact hK _ _ (by first | rfl | exact congrArg _ (by first | rfl | omega | (rw [IntKind.wrap_i64]; omega))) (Below.refl _ _)
      · intro a w3 hA K hK
        have t7 := hA.old 7 _ rfl rfl
        go_simp
        exact hK _ _ (by first | rfl | exact congrArg _ (by first | rfl | omega | (rw [IntKind.wrap_i64]; omega))) (Below.refl _ _)
      · intro a w3 hA K hK
        have t30 := bt_is hA 4 30 rfl rfl (by kernel_rfl)
        obtain ⟨k0', k1', k2', k3'⟩ := (hB7.below hA.below).cells
        go_simp
        exact hK _ _ (by first | rfl | exact congrArg _ (by first | rfl | omega | (rw [IntKind.wrap_i64]; omega))) (Below.refl _ _)
      · intro a w3 hA K hK
        have t29 := bt_is hA 3 29 rfl rfl (by kernel_rfl)
        have t31 := bt_is hA 5 31 rfl rfl (by kernel_rfl)
        have hC := Fixed_any k w3 (HA.out.below hA.below) hk9
        go_simp
        refine hC.mono ?_
        rintro e w4 ⟨rfl, hb⟩
        exact hK _ _ rfl hb
      · intro a w3 hA K hK
        have t28 := bt_is hA 2 28 rfl rfl (by kernel_rfl)
        have t32 := bt_is hA 6 32 rfl rfl (by kernel_rfl)
        have q1 := add_text (x.name ++ [32, 61, 32]) (fixedT q k) (by rw [List.length_append, show [(32 : UInt8), 61, 32].length = 3 from rfl]; omega) w3
        rw [hT1.out] at q1
        go_simp
        exact hK _ _ rfl (Below.refl _ _)
      · intro a w3 hA K hK
        have t33 := bt_is hA 7 33 rfl rfl (by kernel_rfl)
        go_simp
        exact hK _ _ (by first | rfl | exact congrArg _ (by first | rfl | omega | (rw [IntKind.wrap_i64]; omega))) (Below.refl _ _)
    rintro vs w5 hV hb5 act hact
    have hV' := hV.is_
    clear hV
    obtain ⟨_, rfl, hV⟩ := hV'
    have hV' := hV.is_
    clear hV
    obtain ⟨_, rfl, hV⟩ := hV'
    have hV' := hV.is_
    clear hV
    obtain ⟨_, rfl, hV⟩ := hV'
    have hV' := hV.is_
    clear hV
    obtain ⟨_, rfl, hV⟩ := hV'
    have hV' := hV.is_
    clear hV
    obtain ⟨_, rfl, hV⟩ := hV'
    have hV' := hV.is_
    clear hV
    obtain ⟨_, rfl, hV⟩ := hV'
    have hV' := hV.is_
    clear hV
    obtain ⟨_, rfl, hV⟩ := hV'
    have hV' := hV.is_
    clear hV
    obtain ⟨_, rfl, hV⟩ := hV'
    have hV' := hV.is_
    clear hV
    obtain ⟨_, rfl, hV⟩ := hV'
    obtain rfl := hV.nil_
    clear hV
    simp only [puts] at hact
    subst hact
    go_simp
    have HA5 := hid (HA.out.below hb5)
    have hB7b := hB7.below hb5
    have hB8b := hB8.below hb5
    clear HA hB8
    go_upto_region 5 with fail
    refine draw_hd [34, 35, 36, 37, 38, 39] [.is (.agg #[.bool s, .slice A n c, .slice A' n' c']), .is (.pointer (some ⟨g7, 3, none⟩)), .is (.int .i64 (k : Int)), .rat (roundQ q k), .is (.agg #[.bool s, .slice A n c, .slice A' n' c']), .is (.bool E)]
      (by kernel_rfl) (by kernel_rfl) (by kernel_rfl) (by decide) (by kernel_rfl) (by kernel_rfl) ?_ ?_
    · refine ⟨?_, ?_, ?_, ?_, ?_, ?_, trivial⟩
      · intro a w3 hA K hK
        have t8 := hA.old 8 _ rfl rfl
        obtain ⟨k0, k1, k2, _, _, _⟩ := (hB8b.below hA.below).cells
        go_simp
        exact hK _ _ (by first | rfl | exact congrArg _ (by first | rfl | omega | (rw [IntKind.wrap_i64]; omega))) (Below.refl _ _)
      · intro a w3 hA K hK
        have t7 := hA.old 7 _ rfl rfl
        go_simp
        exact hK _ _ (by first | rfl | exact congrArg _ (by first | rfl | omega | (rw [IntKind.wrap_i64]; omega))) (Below.refl _ _)
      · intro a w3 hA K hK
        have t35 := bt_is hA 1 35 rfl rfl (by kernel_rfl)
        obtain ⟨k0', k1', k2', k3'⟩ := (hB7b.below hA.below).cells
        go_simp
        exact hK _ _ (by first | rfl | exact congrArg _ (by first | rfl | omega | (rw [IntKind.wrap_i64]; omega))) (Below.refl _ _)
      · intro a w3 hA K hK
        have t34 := bt_is hA 0 34 rfl rfl (by kernel_rfl)
        have t36 := bt_is hA 2 36 rfl rfl (by kernel_rfl)
        have hC := Round_any k w3 (HA5.out.below hA.below) hk9
        go_simp
        refine hC.mono ?_
        rintro e w4 ⟨A3, c3, A4, c4, rfl, hr, hr', hb⟩
        exact hK _ _ ⟨_, _, _, _, rfl, hr, hr'⟩ hb
      · intro a w3 hA K hK
        have t8 := hA.old 8 _ rfl rfl
        obtain ⟨k0, k1, k2, _, _, _⟩ := (hB8b.below hA.below).cells
        go_simp
        exact hK _ _ (by first | rfl | exact congrArg _ (by first | rfl | omega | (rw [IntKind.wrap_i64]; omega))) (Below.refl _ _)
      · intro a w3 hA K hK
        obtain ⟨A37, c37, B37, d37, t37, r37, s37⟩ := bt_rat hA 3 37 rfl rfl (by kernel_rfl)
        have t38 := bt_is hA 4 38 rfl rfl (by kernel_rfl)
        have hC := Same_R (E := E) w3 (RArg.norm r37 s37 hrs.1 hrs.2) ((HA5.out.below hA.below).mono (by omega : 1000 ≤ 2002)) hE.out
        go_simp
        refine hC.mono ?_
        rintro e w4 ⟨rfl, hb⟩
        exact hK _ _ rfl hb
    rintro vs w7 hV hb7 act hact
    have hV' := hV.is_
    clear hV
    obtain ⟨_, rfl, hV⟩ := hV'
    have hV' := hV.is_
    clear hV
    obtain ⟨_, rfl, hV⟩ := hV'
    have hV' := hV.is_
    clear hV
    obtain ⟨_, rfl, hV⟩ := hV'
    have hV' := hV.rat_
    clear hV
    obtain ⟨A37, c37, B37, d37, _, rfl, r37, s37, hV⟩ := hV'
    have hV' := hV.is_
    clear hV
    obtain ⟨_, rfl, hV⟩ := hV'
    have hV' := hV.is_
    clear hV
    obtain ⟨_, rfl, hV⟩ := hV'
    obtain rfl := hV.nil_
    clear hV
    simp only [puts] at hact
    subst hact
    go_simp
    have hbw7 := Below.then_ (Below.then_ hbw1 hb5) hb7
    have hB7c := hB7b.below hb7
    clear hB7 hB7b hB8b HA5 r37 s37 hrs
    have hX7 := HX.out.below (Below.then_ (Below.then_ (Below.then_ hb1 hbc) hb5) hb7)
    have hY7 := HY.out.below (Below.then_ (Below.then_ (Below.then_ hb1 hbc) hb5) hb7)
    have hR7 := hR.below nameAt_stays hbw7
    have hO7 := hO.below intAt_stays hbw7
    have hP7 := hP.below boolAt_stays hbw7
    have hL7 := hL.below boolAt_stays hbw7
    clear hbw1 hbw hbc hb5 hb7 hb1 hb0 HX HY hR hO hP hL
    have hT := hid (Told_any f0 f1 f2 (.slice (some ⟨b, o, none⟩) fn fc) f5 d0 d1 (.slice (some ⟨b', o', none⟩) vn vc) (.slice QA qn qc) (.slice LA ln lc) RA OA rn rc on oc D (i : Int) w7 hR7 hO7 (by omega) (by omega))
    have ltd := told_len D (i : Int) hR7
    clear hR7 hO7
    obtain ⟨td, htd'⟩ : ∃ td, told D (i : Int) = td := ⟨_, rfl⟩
    rw [htd'] at hT ltd
    have htd := hid htd'
    clear htd'
    go_upto_if 39 with fail
    obtain ⟨T2, hT2'⟩ : ∃ T2, T1 ++ (if E then [32, 101, 120, 97, 99, 116] else [32, 97, 98, 111, 117, 116]) = T2 := ⟨_, rfl⟩
    have hT2 := hid hT2'
    have lT2 : T2.length ≤ 140737488400010 := by
      rw [← hT2', List.length_append]
      have : (if E then [(32 : UInt8), 101, 120, 97, 99, 116] else [32, 97, 98, 111, 117, 116]).length = 6 := by cases E <;> rfl
      omega
    go_cut [9] (fun s9 wd => s9 = .string (str T2) ∧ w7 = wd)
    case first =>
      have q1 : ∀ W, (Op.stringOp .add (str T1) ⟨#[32, 101, 120, 97, 99, 116]⟩).run Try.prog W = .ok (.string (str (T1 ++ [32, 101, 120, 97, 99, 116]))) W := fun W => add_text T1 [32, 101, 120, 97, 99, 116] (by rw [show [(32 : UInt8), 101, 120, 97, 99, 116].length = 6 from rfl]; omega) W
      have q2 : ∀ W, (Op.stringOp .add (str T1) ⟨#[32, 97, 98, 111, 117, 116]⟩).run Try.prog W = .ok (.string (str (T1 ++ [32, 97, 98, 111, 117, 116]))) W := fun W => add_text T1 [32, 97, 98, 111, 117, 116] (by rw [show [(32 : UInt8), 97, 98, 111, 117, 116].length = 6 from rfl]; omega) W
      rcases E with _ | _
      · have hT2e : T2 = T1 ++ [32, 97, 98, 111, 117, 116] := by rw [← hT2']; rfl
        have HT2e := hid hT2e
        clear hT2' hT2 hT2e
        go_wp2_with fail
        go_meet
        exact ⟨by rw [HT2e.out], rfl⟩
      · have hT2e : T2 = T1 ++ [32, 101, 120, 97, 99, 116] := by rw [← hT2']; rfl
        have HT2e := hid hT2e
        clear hT2' hT2 hT2e
        go_wp2_with fail
        go_meet
        exact ⟨by rw [HT2e.out], rfl⟩
    case rest =>
    obtain ⟨rfl, rfl⟩ := hcut
    clear hT2'
    obtain ⟨k0, k1, k2, k3, k4, k5⟩ := hX7.cells
    obtain ⟨j0, j1, j2, j3, j4, j5⟩ := hY7.cells
    obtain ⟨hPl, hPc, hPn, hPm, _, hPx⟩ := hP7
    have HL7 := hid hL7
    clear hL7
    obtain ⟨pb, hpb⟩ : ∃ pb, pb = D.pins.getD i false := ⟨_, rfl⟩
    obtain ⟨T3, hT3'⟩ : ∃ T3, T2 ++ (if pb then [32, 112, 105, 110, 110, 101, 100] else []) = T3 := ⟨_, rfl⟩
    have hT3 := hid hT3'
    have lT3 : T3.length ≤ 140737488400020 := by
      rw [← hT3', List.length_append]
      have : (if pb then [(32 : UInt8), 112, 105, 110, 110, 101, 100] else []).length ≤ 7 := by cases pb <;> decide
      omega
    go_upto_region 8 with fail
    go_cut [56] (fun s56 wd => s56 = .bool pb ∧ w7 = wd)
    case first =>
      by_cases hip : i < qn
      · obtain ⟨bp, op, rfl, _, hpx⟩ := hPx (by omega)
        have hlt : i < D.pins.length := by omega
        have hc := (hpx i D.pins[i] (List.getElem?_eq_getElem hlt)).at_ 0 rfl
        have he : D.pins[i] = pb := by rw [hpb]; simp [List.getD, hlt]
        rw [he, Nat.add_zero] at hc
        have hip' : (i : Int) < (qn : Int) := by omega
        clear hpx he hPx hlt hpb hT3' hT3 hT2
        go_wp2_with fail
        go_meet
        exact ⟨by first | rfl | (cases pb <;> rfl), rfl⟩
      · have he : pb = false := by rw [hpb]; simp [List.getD, List.getElem?_eq_none (show D.pins.length ≤ i by omega)]
        have hip' : decide ((i : Int) < (qn : Int)) = false := decide_eq_false (by omega)
        subst he
        clear hPx hpb hT3' hT3 hT2
        go_wp2_with fail
        go_meet
        exact ⟨rfl, rfl⟩
    case rest =>
    obtain ⟨rfl, rfl⟩ := hcut
    go_upto_if 56 with fail
    go_cut [9] (fun s9 wd => s9 = .string (str T3) ∧ w7 = wd)
    case first =>
      have q1 : ∀ W, (Op.stringOp .add (str T2) ⟨#[32, 112, 105, 110, 110, 101, 100]⟩).run Try.prog W = .ok (.string (str (T2 ++ [32, 112, 105, 110, 110, 101, 100]))) W := fun W => add_text T2 [32, 112, 105, 110, 110, 101, 100] (by rw [show [(32 : UInt8), 112, 105, 110, 110, 101, 100].length = 7 from rfl]; omega) W
      rcases pb with _ | _
      · have HT3e := hid (show T3 = T2 by rw [← hT3']; simp)
        clear hT3' hT3 hPx hpb hT2
        go_wp2_with fail
        go_meet
        exact ⟨by rw [HT3e.out], rfl⟩
      · have HT3e := hid (show T3 = T2 ++ [32, 112, 105, 110, 110, 101, 100] by rw [← hT3']; rfl)
        clear hT3' hT3 hPx hpb hT2
        go_wp2_with fail
        go_meet
        exact ⟨by rw [HT3e.out], rfl⟩
    case rest =>
    obtain ⟨rfl, rfl⟩ := hcut
    clear hT3'
    go_upto_if 64 with (go_at_call 21; refine hT.out.mono ?_; rintro e w8 ⟨rfl, hb8⟩)
    clear k0 k1 k2 k3 k4 k5 j0 j1 j2 j3 j4 j5 hPx
    have HPB := hid hpb
    clear hpb
    obtain ⟨U, hU'⟩ : ∃ U, [32, 116, 111, 108, 100, 32, 98, 121, 32] ++ td = U := ⟨_, rfl⟩
    have lU : U.length ≤ 140737488355400 := by rw [← hU', List.length_append, show [(32 : UInt8), 116, 111, 108, 100, 32, 98, 121, 32].length = 9 from rfl]; omega
    obtain ⟨T4, hT4'⟩ : ∃ T4, T3 ++ (if td = [] then [] else U) = T4 := ⟨_, rfl⟩
    have hT4 := hid hT4'
    have hU := hid hU'
    have lT4 : T4.length ≤ 281474976800000 := by
      rw [← hT4', List.length_append]
      split
      · simp; omega
      · omega
    go_cut [9] (fun s9 wd => s9 = .string (str T4) ∧ w8 = wd)
    case first =>
      have q1 : ∀ W, (Op.stringOp .add ⟨#[32, 116, 111, 108, 100, 32, 98, 121, 32]⟩ (str td)).run Try.prog W = .ok (.string (str U)) W := fun W => by
        have := add_text [32, 116, 111, 108, 100, 32, 98, 121, 32] td (by rw [show [(32 : UInt8), 116, 111, 108, 100, 32, 98, 121, 32].length = 9 from rfl]; omega) W
        rw [hU'] at this
        exact this
      have q2 := fun W => add_text T3 U (by omega) W
      by_cases h0 : td = []
      · have h1 : (str td).toList.isEmpty = true := by rw [h0, Lib.toList_data]; rfl
        have HT4e := hid (show T4 = T3 by rw [← hT4', if_pos h0]; simp)
        clear hT4' hT4 hU hU' h0 htd q1 q2
        rw [h1]
        go_wp2_with fail
        go_meet
        exact ⟨by rw [HT4e.out], rfl⟩
      · have h1 : (str td).toList.isEmpty = false := isEmpty_of _ (by rw [str_size]; exact List.length_pos_iff.2 h0)
        have HT4e := hid (show T4 = T3 ++ U by rw [← hT4', if_neg h0])
        clear hT4' hT4 hU hU' h0 htd
        rw [h1]
        go_wp2_with fail
        go_meet
        exact ⟨by rw [HT4e.out], rfl⟩
    case rest =>
    obtain ⟨rfl, rfl⟩ := hcut
    clear hT4' hU'
    obtain ⟨m0, m1, m2, m3⟩ := (hB7c.below hb8).cells
    obtain ⟨k0, k1, k2, k3, k4, k5⟩ := (hX7.below hb8).cells
    obtain ⟨j0, j1, j2, j3, j4, j5⟩ := (hY7.below hb8).cells
    obtain ⟨hLl, hLc, hLn, hLm, _, hLx⟩ := HL7.out.below boolAt_stays hb8
    obtain ⟨mu, hmu⟩ : ∃ mu, mu = x.must := ⟨_, rfl⟩
    rw [← hmu] at m2
    obtain ⟨fb, hfb⟩ : ∃ fb, fb = (mu && !D.filled.getD i false) := ⟨_, rfl⟩
    obtain ⟨T5, hT5'⟩ : ∃ T5, T4 ++ (if fb then [32, 109, 105, 115, 115, 105, 110, 103] else []) = T5 := ⟨_, rfl⟩
    have hT5 := hid hT5'
    have HFB := hid hfb
    have HMU := hid hmu
    clear hmu
    go_upto_region 13 with fail
    go_cut [85] (fun s85 wd => s85 = .bool fb ∧ w8 = wd)
    case first =>
      rcases mu with _ | _
      · have he : fb = false := hfb
        subst he
        clear hfb hLx hT5' hT5 HFB HMU
        go_wp2_with fail
        go_meet
        exact ⟨rfl, rfl⟩
      · by_cases hil : i < ln
        · obtain ⟨bp, op, rfl, _, hpx⟩ := hLx (by omega)
          have hlt : i < D.filled.length := by omega
          have hc := (hpx i D.filled[i] (List.getElem?_eq_getElem hlt)).at_ 0 rfl
          obtain ⟨fl, hfl⟩ : ∃ fl, fl = D.filled[i] := ⟨_, rfl⟩
          have he : fb = !fl := by rw [hfb, hfl]; simp [List.getD, hlt]
          rw [← hfl, Nat.mul_one, Nat.add_zero] at hc
          have hil' : decide ((ln : Int) ≤ (i : Int)) = false := decide_eq_false (by omega)
          have hil2 : decide (ln ≤ i) = false := decide_eq_false (by omega)
          subst he
          clear hpx hfl hLx hlt hfb hT5' hT5 HFB HMU
          go_wp2_with fail
          go_meet
          exact ⟨by first | rfl | (cases fl <;> rfl), rfl⟩
        · have he : fb = true := by rw [hfb]; simp [List.getD, List.getElem?_eq_none (show D.filled.length ≤ i by omega)]
          have hil' : decide ((ln : Int) ≤ (i : Int)) = true := decide_eq_true (by omega)
          have hil2 : decide (ln ≤ i) = true := decide_eq_true (by omega)
          subst he
          clear hLx hfb hT5' hT5 HFB HMU
          go_wp2_with fail
          go_meet
          exact ⟨rfl, rfl⟩
    case rest =>
    obtain ⟨rfl, rfl⟩ := hcut
    clear hfb hLx
    go_upto_if 85 with fail
    go_cut [9] (fun s9 wd => s9 = .string (str T5) ∧ w8 = wd)
    case first =>
      have q1 : ∀ W, (Op.stringOp .add (str T4) ⟨#[32, 109, 105, 115, 115, 105, 110, 103]⟩).run Try.prog W = .ok (.string (str (T4 ++ [32, 109, 105, 115, 115, 105, 110, 103]))) W := fun W => add_text T4 [32, 109, 105, 115, 115, 105, 110, 103] (by rw [show [(32 : UInt8), 109, 105, 115, 115, 105, 110, 103].length = 8 from rfl]; omega) W
      rcases fb with _ | _
      · have HT5e := hid (show T5 = T4 by rw [← hT5']; simp)
        clear hT5' hT5 HFB
        go_wp2_with fail
        go_meet
        exact ⟨by rw [HT5e.out], rfl⟩
      · have HT5e := hid (show T5 = T4 ++ [32, 109, 105, 115, 115, 105, 110, 103] by rw [← hT5']; rfl)
        clear hT5' hT5 HFB
        go_wp2_with fail
        go_meet
        exact ⟨by rw [HT5e.out], rfl⟩
    case rest =>
    obtain ⟨rfl, rfl⟩ := hcut
    clear hT5'
    go_wp2_with fail
    go_ret
    refine ⟨?_, Below.then_ hbw7 hb8⟩
    have e : lineT x q D i = T5 := by
      unfold lineT
      rw [hk, Int.toNat_natCast, htd.out, ← hE.out, hT1.out, hT2.out, ← HPB.out, hT3.out]
      have h4 := hT4.out
      have h5 := hT5.out
      rw [← hU.out] at h4
      rw [h4, ← HMU.out, ← HFB.out, h5]
    rw [e]; rfl
end Go.Proofs.Ytbhieajpodnfpaa
