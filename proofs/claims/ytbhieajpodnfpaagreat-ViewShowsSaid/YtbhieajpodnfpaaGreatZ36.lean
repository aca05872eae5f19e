/- Walk: view.Field · Walks: view.Field of any form and document, view.Page, view.Float · Walks: pantographref3.Round, pantographref19.Told · Walk: pantographref19.Field · Walks: pantographref19.Field of any form and document, Page, Float. Conditions: those that each theorem names. -/
import Derived.Test.YtbhieajpodnfpaaGreatZ34
import Derived.BigRegion
import Derived.Test.YtbhieajpodnfpaaGreatZ35
import Derived.Test.YtbhieajpodnfpaaGreatZ24
import Derived.Test.YtbhieajpodnfpaaGreatZ33
import Derived.Test.YtbhieajpodnfpaaGreatZ18
namespace Go.Proofs.YtbhieajpodnfpaaGreat
open Go.RowKit Pg
theorem keep_alloc {w : World} {b o : Nat} {v : Value} (h : w.cell? ⟨b, o, none⟩ = some v) (x : Obj) : (w.alloc x).cell? ⟨b, o, none⟩ = some v :=
  ((Below.new_ (Below.refl w.heap.size w) x).cell (p := ⟨b, o, none⟩) (cell_lt h)).trans h
/-- A block of four cells. -/
def B4n (w : World) (g : Nat) (t : TypeId) (v0 v1 v2 v3 : Value) : Prop := w.heap[g]? = some (.cells #[v0, v1, v2, v3] t (0, 0))
theorem B4n.newg (w : World) (t : TypeId) (v0 v1 v2 v3 : Value) (g : Nat) (hg : g = w.heap.size) : B4n (w.alloc (.cells #[v0, v1, v2, v3] t)) g t v0 v1 v2 v3 := by subst hg; exact heap_alloc_new w _
theorem B4n.lt {w : World} {g : Nat} {t : TypeId} {v0 v1 v2 v3 : Value} (h : B4n w g t v0 v1 v2 v3) : g < w.heap.size := by
  rcases Nat.lt_or_ge g w.heap.size with h1 | h1
  · exact h1
  · unfold B4n at h; rw [Array.getElem?_eq_none h1] at h; cases h
theorem B4n.below {w w' : World} {g : Nat} {t : TypeId} {v0 v1 v2 v3 : Value} (h : B4n w g t v0 v1 v2 v3) (hb : Below w.heap.size w w') : B4n w' g t v0 v1 v2 v3 := (hb.block g h.lt).trans h
theorem B4n.alloc {w : World} {g : Nat} {t : TypeId} {v0 v1 v2 v3 : Value} (h : B4n w g t v0 v1 v2 v3) (o : Obj) : B4n (w.alloc o) g t v0 v1 v2 v3 := (Below.heap_alloc w o g h.lt).trans h
theorem B4n.cells {w : World} {g : Nat} {t : TypeId} {v0 v1 v2 v3 : Value} (h : B4n w g t v0 v1 v2 v3) : w.cell? ⟨g, 0, none⟩ = some v0 ∧ w.cell? ⟨g, 1, none⟩ = some v1 ∧ w.cell? ⟨g, 2, none⟩ = some v2 ∧ w.cell? ⟨g, 3, none⟩ = some v3 := by
  refine ⟨?_, ?_, ?_, ?_⟩ <;> (rw [cell_of_row w g _ _ t (0, 0) h]; rfl)

theorem fixedT_len {q : Rat} {k : Nat} (h : Short q 1000) (hk : k ≤ 9) : (fixedT q k).length ≤ 30000 := by
  unfold fixedT
  have h1 := units_len h (show k ≤ 60 by omega)
  have h2 := dtext_len h1
  have h3 := pt_len (dtext (unitsN q k)) k
  rw [pt_dtext] at h3
  have h4 := stext_len (rneg q && decide (0 < unitsN q k))
  rw [List.length_append]
  omega
theorem told_len {w : World} {RA : Option Addr} {rn rc : Nat} (D : VData) (z : Int) (h : SlAt 15 NameAt w RA rn rc D.rules) : (told D z).length ≤ 140737488355328 := by
  unfold told
  split
  · obtain ⟨hl, _, _, _, _, hx⟩ := h
    by_cases hlt : (Lib.idxOf D.outs z).toNat < D.rules.length
    · obtain ⟨b, o, _, _, hc⟩ := hx (by omega)
      have := (hc _ D.rules[(Lib.idxOf D.outs z).toNat] (List.getElem?_eq_getElem hlt)).2
      simpa [List.getD, hlt] using this
    · simp [List.getD, List.getElem?_eq_none (show D.rules.length ≤ (Lib.idxOf D.outs z).toNat by omega)]
  · simp
theorem Same_R {va vb : Value} {p q : Rat} {E : Bool} (w : World) (ha : RArg w va p 2002) (hb : RArg w vb q 2002) (hE : E = eqQ p q) :
    Calls Tryz.prog 22 #[va, vb] w fun e w' => e = .returned (.bool E) ∧ Below w.heap.size w w' := by
  subst hE
  obtain ⟨s1, A, n, c, A', n', c', xs, ys, rfl, h1, h2, h3, h4, rfl⟩ := ha
  obtain ⟨s2, C, m, d, C', m', d', us, vs, rfl, g1, g2, g3, g4, rfl⟩ := hb
  exact Same_any _ _ _ _ _ _ _ _ _ _ _ _ _ _ _ _ _ _ w h1 h2 g1 g2 (by omega) (by omega) (by omega) (by omega)
/-- A field's line. -/
def lineT (x : Fld) (q : Rat) (D : VData) (i : Nat) : List UInt8 :=
  x.name ++ [32, 61, 32] ++ fixedT q x.scale.toNat ++ (if eqQ (roundQ q x.scale.toNat) q then [32, 101, 120, 97, 99, 116] else [32, 97, 98, 111, 117, 116]) ++ (if D.pins.getD i false then [32, 112, 105, 110, 110, 101, 100] else []) ++
    (if told D i = [] then [] else [32, 116, 111, 108, 100, 32, 98, 121, 32] ++ told D i) ++ (if x.must && !D.filled.getD i false then [32, 109, 105, 115, 115, 105, 110, 103] else [])
set_option maxRecDepth 100000 in
set_option maxHeartbeats 8000000 in
theorem Field_in (f0 f1 f2 f5 d0 d1 : Value) (b o b' o' : Nat) (_FA RA _VA OA QA LA : Option Addr) (fn fc rn rc vn vc on oc qn qc ln lc i : Nat) (x : Fld) (q : Rat) (D : VData) (w : World)
    (hF : FldAt w b (o + i * 4) x) (hV : RatAt 1000 w b' (o' + i * 3) q) (hbl : b < w.heap.size) (hbl' : b' < w.heap.size) (hi : i < fn) (hi' : i < vn) (hfn : fn ≤ 140737488355328) (_hvn : vn ≤ 140737488355328) (k : Nat) (hk : x.scale = (k : Int)) (hk9 : k ≤ 9) (hR : SlAt 15 NameAt w RA rn rc D.rules) (hO : SlAt 1 IntAt w OA on oc D.outs) (hP : SlAt 5 BoolAt w QA qn qc D.pins) (hL : SlAt 1 BoolAt w LA ln lc D.filled) :
    Calls Tryz.prog 8 #[.agg #[f0, f1, f2, .slice (some ⟨b, o, none⟩) fn fc, .slice RA rn rc, f5], .agg #[d0, d1, .slice (some ⟨b', o', none⟩) vn vc, .slice OA on oc, .slice QA qn qc, .slice LA ln lc], .int .i64 (i : Int)] w fun e w' => e = .returned (.string (str (lineT x q D i))) ∧ Below w.heap.size w w' := by
  obtain ⟨W0, hW0⟩ : ∃ W0, W0 = (w.alloc (.cells #[f0, f1, f2, .slice (some ⟨b, o, none⟩) fn fc, .slice RA rn rc, f5] 29)).alloc (.cells #[d0, d1, .slice (some ⟨b', o', none⟩) vn vc, .slice OA on oc, .slice QA qn qc, .slice LA ln lc] 35) := ⟨_, rfl⟩
  have HX := hid ((B6n.newg w 29 f0 f1 f2 (.slice (some ⟨b, o, none⟩) fn fc) (.slice RA rn rc) f5 _ rfl).alloc (.cells #[d0, d1, .slice (some ⟨b', o', none⟩) vn vc, .slice OA on oc, .slice QA qn qc, .slice LA ln lc] 35))
  have HY := hid (B6n.newg (w.alloc (.cells #[f0, f1, f2, .slice (some ⟨b, o, none⟩) fn fc, .slice RA rn rc, f5] 29)) 35 d0 d1 (.slice (some ⟨b', o', none⟩) vn vc) (.slice OA on oc) (.slice QA qn qc) (.slice LA ln lc) (w.heap.size + 1) (by simp))
  have hb0 : Below w.heap.size w W0 := by rw [hW0]; exact Below.new_ (Below.new_ (Below.refl _ _) _) _
  rw [← hW0] at HX HY
  have hth := hid (there_any f0 f1 f2 (.slice RA rn rc) f5 d0 d1 (.slice OA on oc) (.slice QA qn qc) (.slice LA ln lc) (some ⟨b, o, none⟩) (some ⟨b', o', none⟩) fn fc vn vc (i : Int) W0 (by omega) (by omega))
  have hd : decide ((0 : Int) ≤ (i : Int) ∧ (i : Int) < (fn : Int) ∧ (i : Int) < (vn : Int)) = true := decide_eq_true ⟨by omega, by omega, by omega⟩
  rw [hd] at hth
  clear hd
  obtain ⟨k0, k1, k2, k3, k4, k5⟩ := HX.out.cells
  obtain ⟨j0, j1, j2, j3, j4, j5⟩ := HY.out.cells
  go_enter Tryz.func8, Tryz.ntmps8
  go_upto_region 1 with fail
  rw [← hW0]
  clear hW0
  go_upto_region 3 with (go_at_call 20; refine hth.out.mono ?_; rintro e w1 ⟨rfl, hb1⟩; clear k0 k1 k2 k3 k4 k5 j0 j1 j2 j3 j4 j5; obtain ⟨k0, k1, k2, k3, k4, k5⟩ := (HX.out.below hb1).cells; obtain ⟨j0, j1, j2, j3, j4, j5⟩ := (HY.out.below hb1).cells)
  have hbw := Below.then_ hb0 hb1
  have hF1 := fldAt_stays _ _ _ _ _ hbl hF hbw
  obtain ⟨s, A, n, c, A', n', c', xs, ys, hc, hr1, hr2, hn, hn', hp⟩ := ratAt_stays 1000 _ _ _ _ _ hbl' hV hbw
  have m0 := hF1.1.at_ 0 rfl
  have m1 := hF1.1.at_ 1 rfl
  have m2 := hF1.1.at_ 2 rfl
  have m3 := hF1.1.at_ 3 rfl
  have l0 := hc.at_ 0 rfl
  have l1 := hc.at_ 1 rfl
  have l2 := hc.at_ 2 rfl
  rw [Nat.add_zero] at m0 l0
  have HF1 := hid hF1
  have HP := hid hp
  clear hF1 hp hc
  go_cut [7, 8] (fun s7 s8 wd => ∃ g7 g8, s7 = .pointer (some ⟨g7, 0, none⟩) ∧ s8 = .pointer (some ⟨g8, 0, none⟩) ∧ B4n wd g7 61 (.string (str x.name)) (.int .i64 x.page) (.bool x.must) (.int .i64 (k : Int)) ∧ B3 wd g8 53 (.bool s) (.slice A n c) (.slice A' n' c') ∧ w.heap.size ≤ g7 ∧ w.heap.size ≤ g8 ∧ Below w1.heap.size w1 wd)
  case first =>
    have k3a := fun o => keep_alloc k3 o
    have k3b := fun o o' => keep_alloc (keep_alloc k3 o) o'
    have j2a := fun o => keep_alloc j2 o
    have j2b := fun o o' => keep_alloc (keep_alloc j2 o) o'
    have m0a := fun o => keep_alloc m0 o
    have m0b := fun o o' => keep_alloc (keep_alloc m0 o) o'
    have m1a := fun o => keep_alloc m1 o
    have m1b := fun o o' => keep_alloc (keep_alloc m1 o) o'
    have m2a := fun o => keep_alloc m2 o
    have m2b := fun o o' => keep_alloc (keep_alloc m2 o) o'
    have m3a := fun o => keep_alloc m3 o
    have m3b := fun o o' => keep_alloc (keep_alloc m3 o) o'
    have l0a := fun o => keep_alloc l0 o
    have l0b := fun o o' => keep_alloc (keep_alloc l0 o) o'
    have l1a := fun o => keep_alloc l1 o
    have l1b := fun o o' => keep_alloc (keep_alloc l1 o) o'
    have l2a := fun o => keep_alloc l2 o
    have l2b := fun o o' => keep_alloc (keep_alloc l2 o) o'
    go_region
    · go_wp2_with fail
      go_meet
      exact ⟨_, _, rfl, rfl, (B4n.newg w1 _ _ _ _ _ _ rfl).alloc _, B3.newg (w1.alloc _) _ _ _ _ _ (by simp), by have := hbw.size; omega, by have := hbw.size; omega, Go.RowKit.Below.drew (Below.new_ (Below.new_ (Below.refl _ _) _) _)⟩
    · go_wp2_with fail
      go_meet
      exact ⟨_, _, rfl, rfl, B4n.newg (w1.alloc _) _ _ _ _ _ _ (by simp), (B3.new w1 _ _ _ _).alloc _, by have := hbw.size; omega, by have := hbw.size; omega, Go.RowKit.Below.drew (Below.new_ (Below.new_ (Below.refl _ _) _) _)⟩
  case rest =>
    obtain ⟨g7, g8, rfl, rfl, hB7, hB8, hg7, hg8, hbc⟩ := hcut
    clear hth hF hV hbl hbl' m0 m1 m2 m3 l0 l1 l2 k0 k1 k2 k3 k4 k5 j0 j1 j2 j3 j4 j5
    have hnm := HF1.out.2
    have HA := hid (show RArg wc (.agg #[.bool s, .slice A n c, .slice A' n' c']) q 1000 from ⟨_, _, _, _, _, _, _, _, _, rfl, hr1.below hbc, hr2.below hbc, hn, hn', HP.out⟩)
    have hsq := HA.out.short (by omega)
    have hrs := round_short hsq (show k ≤ 60 by omega)
    have hfx := fixedT_len hsq hk9
    obtain ⟨T1, hT1'⟩ : ∃ T1, x.name ++ [32, 61, 32] ++ fixedT q k = T1 := ⟨_, rfl⟩
    have hT1 := hid hT1'
    have lT1 : T1.length ≤ 140737488400000 := by rw [← hT1', List.length_append, List.length_append, show [(32 : UInt8), 61, 32].length = 3 from rfl]; omega
    obtain ⟨E, hE'⟩ : ∃ E, E = eqQ (roundQ q k) q := ⟨_, rfl⟩
    have hE := hid hE'
    have hbw1 := Below.then_ hbw hbc
    clear hT1' hE' hr1 hr2 HF1 HP hsq
    go_upto_region 4 with fail
    refine draw_hd [26, 27, 28, 29, 30, 31, 32, 33, 9] [.is (.pointer (some ⟨g7, 0, none⟩)), .is (.string (str x.name)), .is (.string (str (x.name ++ [32, 61, 32]))), .is (.agg #[.bool s, .slice A n c, .slice A' n' c']), .is (.pointer (some ⟨g7, 3, none⟩)), .is (.int .i64 (k : Int)), .is (.string (str (fixedT q k))), .is (.string (str T1)), .is (.string (str T1))]
      (by kernel_rfl) (by kernel_rfl) (by kernel_rfl) (by decide) (by kernel_rfl) (by kernel_rfl) ?_ ?_
    · refine ⟨?_, ?_, ?_, ?_, ?_, ?_, ?_, ?_, ?_, trivial⟩
      · intro a w3 hA K hK
        have t7 := hA.old 7 _ rfl rfl
        go_simp
        exact hK _ _ (by first | rfl | exact congrArg _ (by first | rfl | omega | (rw [IntKind.wrap_i64]; omega))) (Below.refl _ _)
      · intro a w3 hA K hK
        have t26 := bt_is hA 0 26 rfl rfl (by kernel_rfl)
        obtain ⟨k0', k1', k2', k3'⟩ := (hB7.below hA.below).cells
        go_simp
        exact hK _ _ (by first | rfl | exact congrArg _ (by first | rfl | omega | (rw [IntKind.wrap_i64]; omega))) (Below.refl _ _)
      · intro a w3 hA K hK
        have t27 := bt_is hA 1 27 rfl rfl (by kernel_rfl)
        have q1 : (Op.stringOp .add (str x.name) ⟨#[32, 61, 32]⟩).run Tryz.prog w3 = .ok (.string (str (x.name ++ [32, 61, 32]))) w3 := add_text x.name [32, 61, 32] (by rw [show [(32 : UInt8), 61, 32].length = 3 from rfl]; omega) w3
        go_simp
        exact hK _ _ rfl (Below.refl _ _)
      · intro a w3 hA K hK
        have t8 := hA.old 8 _ rfl rfl
        obtain ⟨k0, k1, k2, _, _, _⟩ := (hB8.below hA.below).cells
        go_simp
        exact hK _ _ (by first | rfl | exact congrArg _ (by first | rfl | omega | (rw [IntKind.wrap_i64]; omega))) (Below.refl _ _)
      · intro a w3 hA K hK
        have t7 := hA.old 7 _ rfl rfl
        go_simp
        exact hK _ _ (by first | rfl | exact congrArg _ (by first | rfl | omega | (rw [IntKind.wrap_i64]; omega))) (Below.refl _ _)
      · intro a w3 hA K hK
        have t30 := bt_is hA 4 30 rfl rfl (by kernel_rfl)
        obtain ⟨k0', k1', k2', k3'⟩ := (hB7.below hA.below).cells
        go_simp
        exact hK _ _ (by first | rfl | exact congrArg _ (by first | rfl | omega | (rw [IntKind.wrap_i64]; omega))) (Below.refl _ _)
      · intro a w3 hA K hK
        have t29 := bt_is hA 3 29 rfl rfl (by kernel_rfl)
        have t31 := bt_is hA 5 31 rfl rfl (by kernel_rfl)
        have hC := Fixed_any k w3 (HA.out.below hA.below) hk9
        go_simp
        refine hC.mono ?_
        rintro e w4 ⟨rfl, hb⟩
        exact hK _ _ rfl hb
      · intro a w3 hA K hK
        have t28 := bt_is hA 2 28 rfl rfl (by kernel_rfl)
        have t32 := bt_is hA 6 32 rfl rfl (by kernel_rfl)
        have q1 := add_text (x.name ++ [32, 61, 32]) (fixedT q k) (by rw [List.length_append, show [(32 : UInt8), 61, 32].length = 3 from rfl]; omega) w3
        rw [hT1.out] at q1
        go_simp
        exact hK _ _ rfl (Below.refl _ _)
      · intro a w3 hA K hK
        have t33 := bt_is hA 7 33 rfl rfl (by kernel_rfl)
        go_simp
        exact hK _ _ (by first | rfl | exact congrArg _ (by first | rfl | omega | (rw [IntKind.wrap_i64]; omega))) (Below.refl _ _)
    rintro vs w5 hV hb5 act hact
    have hV' := hV.is_
    clear hV
    obtain ⟨_, rfl, hV⟩ := hV'
    have hV' := hV.is_
    clear hV
    obtain ⟨_, rfl, hV⟩ := hV'
    have hV' := hV.is_
    clear hV
    obtain ⟨_, rfl, hV⟩ := hV'
    have hV' := hV.is_
    clear hV
    obtain ⟨_, rfl, hV⟩ := hV'
    have hV' := hV.is_
    clear hV
    obtain ⟨_, rfl, hV⟩ := hV'
    have hV' := hV.is_
    clear hV
    obtain ⟨_, rfl, hV⟩ := hV'
    have hV' := hV.is_
    clear hV
    obtain ⟨_, rfl, hV⟩ := hV'
    have hV' := hV.is_
    clear hV
    obtain ⟨_, rfl, hV⟩ := hV'
    have hV' := hV.is_
    clear hV
    obtain ⟨_, rfl, hV⟩ := hV'
    obtain rfl := hV.nil_
    clear hV
    simp only [puts] at hact
    subst hact
    go_simp
    have HA5 := hid (HA.out.below hb5)
    have hB7b := hB7.below hb5
    have hB8b := hB8.below hb5
    clear HA hB8
    go_upto_region 5 with fail
    refine draw_hd [34, 35, 36, 37, 38, 39] [.is (.agg #[.bool s, .slice A n c, .slice A' n' c']), .is (.pointer (some ⟨g7, 3, none⟩)), .is (.int .i64 (k : Int)), .rat (roundQ q k), .is (.agg #[.bool s, .slice A n c, .slice A' n' c']), .is (.bool E)]
      (by kernel_rfl) (by kernel_rfl) (by kernel_rfl) (by decide) (by kernel_rfl) (by kernel_rfl) ?_ ?_
    · refine ⟨?_, ?_, ?_, ?_, ?_, ?_, trivial⟩
      · intro a w3 hA K hK
        have t8 := hA.old 8 _ rfl rfl
        obtain ⟨k0, k1, k2, _, _, _⟩ := (hB8b.below hA.below).cells
        go_simp
        exact hK _ _ (by first | rfl | exact congrArg _ (by first | rfl | omega | (rw [IntKind.wrap_i64]; omega))) (Below.refl _ _)
      · intro a w3 hA K hK
        have t7 := hA.old 7 _ rfl rfl
        go_simp
        exact hK _ _ (by first | rfl | exact congrArg _ (by first | rfl | omega | (rw [IntKind.wrap_i64]; omega))) (Below.refl _ _)
      · intro a w3 hA K hK
        have t35 := bt_is hA 1 35 rfl rfl (by kernel_rfl)
        obtain ⟨k0', k1', k2', k3'⟩ := (hB7b.below hA.below).cells
        go_simp
        exact hK _ _ (by first | rfl | exact congrArg _ (by first | rfl | omega | (rw [IntKind.wrap_i64]; omega))) (Below.refl _ _)
      · intro a w3 hA K hK
        have t34 := bt_is hA 0 34 rfl rfl (by kernel_rfl)
        have t36 := bt_is hA 2 36 rfl rfl (by kernel_rfl)
        have hC := Round_any k w3 (HA5.out.below hA.below) hk9
        go_simp
        refine hC.mono ?_
        rintro e w4 ⟨A3, c3, A4, c4, rfl, hr, hr', hb⟩
        exact hK _ _ ⟨_, _, _, _, rfl, hr, hr'⟩ hb
      · intro a w3 hA K hK
        have t8 := hA.old 8 _ rfl rfl
        obtain ⟨k0, k1, k2, _, _, _⟩ := (hB8b.below hA.below).cells
        go_simp
        exact hK _ _ (by first | rfl | exact congrArg _ (by first | rfl | omega | (rw [IntKind.wrap_i64]; omega))) (Below.refl _ _)
      · intro a w3 hA K hK
        obtain ⟨A37, c37, B37, d37, t37, r37, s37⟩ := bt_rat hA 3 37 rfl rfl (by kernel_rfl)
        have t38 := bt_is hA 4 38 rfl rfl (by kernel_rfl)
        have hC := Same_R (E := E) w3 (RArg.norm r37 s37 hrs.1 hrs.2) ((HA5.out.below hA.below).mono (by omega : 1000 ≤ 2002)) hE.out
        go_simp
        refine hC.mono ?_
        rintro e w4 ⟨rfl, hb⟩
        exact hK _ _ rfl hb
    rintro vs w7 hV hb7 act hact
    have hV' := hV.is_
    clear hV
    obtain ⟨_, rfl, hV⟩ := hV'
    have hV' := hV.is_
    clear hV
    obtain ⟨_, rfl, hV⟩ := hV'
    have hV' := hV.is_
    clear hV
    obtain ⟨_, rfl, hV⟩ := hV'
    have hV' := hV.rat_
    clear hV
    obtain ⟨A37, c37, B37, d37, _, rfl, r37, s37, hV⟩ := hV'
    have hV' := hV.is_
    clear hV
    obtain ⟨_, rfl, hV⟩ := hV'
    have hV' := hV.is_
    clear hV
    obtain ⟨_, rfl, hV⟩ := hV'
    obtain rfl := hV.nil_
    clear hV
    simp only [puts] at hact
    subst hact
    go_simp
    have hbw7 := Below.then_ (Below.then_ hbw1 hb5) hb7
    have hB7c := hB7b.below hb7
    clear hB7 hB7b hB8b HA5 r37 s37 hrs
    have hX7 := HX.out.below (Below.then_ (Below.then_ (Below.then_ hb1 hbc) hb5) hb7)
    have hY7 := HY.out.below (Below.then_ (Below.then_ (Below.then_ hb1 hbc) hb5) hb7)
    have hR7 := hR.below nameAt_stays hbw7
    have hO7 := hO.below intAt_stays hbw7
    have hP7 := hP.below boolAt_stays hbw7
    have hL7 := hL.below boolAt_stays hbw7
    clear hbw1 hbw hbc hb5 hb7 hb1 hb0 HX HY hR hO hP hL
    have hT := hid (Told_any f0 f1 f2 (.slice (some ⟨b, o, none⟩) fn fc) f5 d0 d1 (.slice (some ⟨b', o', none⟩) vn vc) (.slice QA qn qc) (.slice LA ln lc) RA OA rn rc on oc D (i : Int) w7 hR7 hO7 (by omega) (by omega))
    have ltd := told_len D (i : Int) hR7
    clear hR7 hO7
    obtain ⟨td, htd'⟩ : ∃ td, told D (i : Int) = td := ⟨_, rfl⟩
    rw [htd'] at hT ltd
    have htd := hid htd'
    clear htd'
    go_upto_if 39 with fail
    obtain ⟨T2, hT2'⟩ : ∃ T2, T1 ++ (if E then [32, 101, 120, 97, 99, 116] else [32, 97, 98, 111, 117, 116]) = T2 := ⟨_, rfl⟩
    have hT2 := hid hT2'
    have lT2 : T2.length ≤ 140737488400010 := by
      rw [← hT2', List.length_append]
      have : (if E then [(32 : UInt8), 101, 120, 97, 99, 116] else [32, 97, 98, 111, 117, 116]).length = 6 := by cases E <;> rfl
      omega
    go_cut [9] (fun s9 wd => s9 = .string (str T2) ∧ w7 = wd)
    case first =>
      have q1 : ∀ W, (Op.stringOp .add (str T1) ⟨#[32, 101, 120, 97, 99, 116]⟩).run Tryz.prog W = .ok (.string (str (T1 ++ [32, 101, 120, 97, 99, 116]))) W := fun W => add_text T1 [32, 101, 120, 97, 99, 116] (by rw [show [(32 : UInt8), 101, 120, 97, 99, 116].length = 6 from rfl]; omega) W
      have q2 : ∀ W, (Op.stringOp .add (str T1) ⟨#[32, 97, 98, 111, 117, 116]⟩).run Tryz.prog W = .ok (.string (str (T1 ++ [32, 97, 98, 111, 117, 116]))) W := fun W => add_text T1 [32, 97, 98, 111, 117, 116] (by rw [show [(32 : UInt8), 97, 98, 111, 117, 116].length = 6 from rfl]; omega) W
      rcases E with _ | _
      · have hT2e : T2 = T1 ++ [32, 97, 98, 111, 117, 116] := by rw [← hT2']; rfl
        have HT2e := hid hT2e
        clear hT2' hT2 hT2e
        go_wp2_with fail
        go_meet
        exact ⟨by rw [HT2e.out], rfl⟩
      · have hT2e : T2 = T1 ++ [32, 101, 120, 97, 99, 116] := by rw [← hT2']; rfl
        have HT2e := hid hT2e
        clear hT2' hT2 hT2e
        go_wp2_with fail
        go_meet
        exact ⟨by rw [HT2e.out], rfl⟩
    case rest =>
    obtain ⟨rfl, rfl⟩ := hcut
    clear hT2'
    obtain ⟨k0, k1, k2, k3, k4, k5⟩ := hX7.cells
    obtain ⟨j0, j1, j2, j3, j4, j5⟩ := hY7.cells
    obtain ⟨hPl, hPc, hPn, hPm, _, hPx⟩ := hP7
    have HL7 := hid hL7
    clear hL7
    obtain ⟨pb, hpb⟩ : ∃ pb, pb = D.pins.getD i false := ⟨_, rfl⟩
    obtain ⟨T3, hT3'⟩ : ∃ T3, T2 ++ (if pb then [32, 112, 105, 110, 110, 101, 100] else []) = T3 := ⟨_, rfl⟩
    have hT3 := hid hT3'
    have lT3 : T3.length ≤ 140737488400020 := by
      rw [← hT3', List.length_append]
      have : (if pb then [(32 : UInt8), 112, 105, 110, 110, 101, 100] else []).length ≤ 7 := by cases pb <;> decide
      omega
    go_upto_region 8 with fail
    go_cut [56] (fun s56 wd => s56 = .bool pb ∧ w7 = wd)
    case first =>
      by_cases hip : i < qn
      · obtain ⟨bp, op, rfl, _, hpx⟩ := hPx (by omega)
        have hlt : i < D.pins.length := by omega
        have hc := (hpx i D.pins[i] (List.getElem?_eq_getElem hlt)).at_ 0 rfl
        have he : D.pins[i] = pb := by rw [hpb]; simp [List.getD, hlt]
        rw [he, Nat.add_zero] at hc
        have hip' : (i : Int) < (qn : Int) := by omega
        clear hpx he hPx hlt hpb hT3' hT3 hT2
        go_wp2_with fail
        go_meet
        exact ⟨by first | rfl | (cases pb <;> rfl), rfl⟩
      · have he : pb = false := by rw [hpb]; simp [List.getD, List.getElem?_eq_none (show D.pins.length ≤ i by omega)]
        have hip' : decide ((i : Int) < (qn : Int)) = false := decide_eq_false (by omega)
        subst he
        clear hPx hpb hT3' hT3 hT2
        go_wp2_with fail
        go_meet
        exact ⟨rfl, rfl⟩
    case rest =>
    obtain ⟨rfl, rfl⟩ := hcut
    go_upto_if 56 with fail
    go_cut [9] (fun s9 wd => s9 = .string (str T3) ∧ w7 = wd)
    case first =>
      have q1 : ∀ W, (Op.stringOp .add (str T2) ⟨#[32, 112, 105, 110, 110, 101, 100]⟩).run Tryz.prog W = .ok (.string (str (T2 ++ [32, 112, 105, 110, 110, 101, 100]))) W := fun W => add_text T2 [32, 112, 105, 110, 110, 101, 100] (by rw [show [(32 : UInt8), 112, 105, 110, 110, 101, 100].length = 7 from rfl]; omega) W
      rcases pb with _ | _
      · have HT3e := hid (show T3 = T2 by rw [← hT3']; simp)
        clear hT3' hT3 hPx hpb hT2
        go_wp2_with fail
        go_meet
        exact ⟨by rw [HT3e.out], rfl⟩
      · have HT3e := hid (show T3 = T2 ++ [32, 112, 105, 110, 110, 101, 100] by rw [← hT3']; rfl)
        clear hT3' hT3 hPx hpb hT2
        go_wp2_with fail
        go_meet
        exact ⟨by rw [HT3e.out], rfl⟩
    case rest =>
    obtain ⟨rfl, rfl⟩ := hcut
    clear hT3'
    go_upto_if 64 with (go_at_call 15; refine hT.out.mono ?_; rintro e w8 ⟨rfl, hb8⟩)
    clear k0 k1 k2 k3 k4 k5 j0 j1 j2 j3 j4 j5 hPx
    have HPB := hid hpb
    clear hpb
    obtain ⟨U, hU'⟩ : ∃ U, [32, 116, 111, 108, 100, 32, 98, 121, 32] ++ td = U := ⟨_, rfl⟩
    have lU : U.length ≤ 140737488355400 := by rw [← hU', List.length_append, show [(32 : UInt8), 116, 111, 108, 100, 32, 98, 121, 32].length = 9 from rfl]; omega
    obtain ⟨T4, hT4'⟩ : ∃ T4, T3 ++ (if td = [] then [] else U) = T4 := ⟨_, rfl⟩
    have hT4 := hid hT4'
    have hU := hid hU'
    have lT4 : T4.length ≤ 281474976800000 := by
      rw [← hT4', List.length_append]
      split
      · simp; omega
      · omega
    go_cut [9] (fun s9 wd => s9 = .string (str T4) ∧ w8 = wd)
    case first =>
      have q1 : ∀ W, (Op.stringOp .add ⟨#[32, 116, 111, 108, 100, 32, 98, 121, 32]⟩ (str td)).run Tryz.prog W = .ok (.string (str U)) W := fun W => by
        have := add_text [32, 116, 111, 108, 100, 32, 98, 121, 32] td (by rw [show [(32 : UInt8), 116, 111, 108, 100, 32, 98, 121, 32].length = 9 from rfl]; omega) W
        rw [hU'] at this
        exact this
      have q2 := fun W => add_text T3 U (by omega) W
      by_cases h0 : td = []
      · have h1 : (str td).toList.isEmpty = true := by rw [h0, Lib.toList_data]; rfl
        have HT4e := hid (show T4 = T3 by rw [← hT4', if_pos h0]; simp)
        clear hT4' hT4 hU hU' h0 htd q1 q2
        rw [h1]
        go_wp2_with fail
        go_meet
        exact ⟨by rw [HT4e.out], rfl⟩
      · have h1 : (str td).toList.isEmpty = false := isEmpty_of _ (by rw [str_size]; exact List.length_pos_iff.2 h0)
        have HT4e := hid (show T4 = T3 ++ U by rw [← hT4', if_neg h0])
        clear hT4' hT4 hU hU' h0 htd
        rw [h1]
        go_wp2_with fail
        go_meet
        exact ⟨by rw [HT4e.out], rfl⟩
    case rest =>
    obtain ⟨rfl, rfl⟩ := hcut
    clear hT4' hU'
    obtain ⟨m0, m1, m2, m3⟩ := (hB7c.below hb8).cells
    obtain ⟨k0, k1, k2, k3, k4, k5⟩ := (hX7.below hb8).cells
    obtain ⟨j0, j1, j2, j3, j4, j5⟩ := (hY7.below hb8).cells
    obtain ⟨hLl, hLc, hLn, hLm, _, hLx⟩ := HL7.out.below boolAt_stays hb8
    obtain ⟨mu, hmu⟩ : ∃ mu, mu = x.must := ⟨_, rfl⟩
    rw [← hmu] at m2
    obtain ⟨fb, hfb⟩ : ∃ fb, fb = (mu && !D.filled.getD i false) := ⟨_, rfl⟩
    obtain ⟨T5, hT5'⟩ : ∃ T5, T4 ++ (if fb then [32, 109, 105, 115, 115, 105, 110, 103] else []) = T5 := ⟨_, rfl⟩
    have hT5 := hid hT5'
    have HFB := hid hfb
    have HMU := hid hmu
    clear hmu
    go_upto_region 13 with fail
    go_cut [85] (fun s85 wd => s85 = .bool fb ∧ w8 = wd)
    case first =>
      rcases mu with _ | _
      · have he : fb = false := hfb
        subst he
        clear hfb hLx hT5' hT5 HFB HMU
        go_wp2_with fail
        go_meet
        exact ⟨rfl, rfl⟩
      · by_cases hil : i < ln
        · obtain ⟨bp, op, rfl, _, hpx⟩ := hLx (by omega)
          have hlt : i < D.filled.length := by omega
          have hc := (hpx i D.filled[i] (List.getElem?_eq_getElem hlt)).at_ 0 rfl
          obtain ⟨fl, hfl⟩ : ∃ fl, fl = D.filled[i] := ⟨_, rfl⟩
          have he : fb = !fl := by rw [hfb, hfl]; simp [List.getD, hlt]
          rw [← hfl, Nat.mul_one, Nat.add_zero] at hc
          have hil' : decide ((ln : Int) ≤ (i : Int)) = false := decide_eq_false (by omega)
          have hil2 : decide (ln ≤ i) = false := decide_eq_false (by omega)
          subst he
          clear hpx hfl hLx hlt hfb hT5' hT5 HFB HMU
          go_wp2_with fail
          go_meet
          exact ⟨by first | rfl | (cases fl <;> rfl), rfl⟩
        · have he : fb = true := by rw [hfb]; simp [List.getD, List.getElem?_eq_none (show D.filled.length ≤ i by omega)]
          have hil' : decide ((ln : Int) ≤ (i : Int)) = true := decide_eq_true (by omega)
          have hil2 : decide (ln ≤ i) = true := decide_eq_true (by omega)
          subst he
          clear hLx hfb hT5' hT5 HFB HMU
          go_wp2_with fail
          go_meet
          exact ⟨rfl, rfl⟩
    case rest =>
    obtain ⟨rfl, rfl⟩ := hcut
    clear hfb hLx
    go_upto_if 85 with fail
    go_cut [9] (fun s9 wd => s9 = .string (str T5) ∧ w8 = wd)
    case first =>
      have q1 : ∀ W, (Op.stringOp .add (str T4) ⟨#[32, 109, 105, 115, 115, 105, 110, 103]⟩).run Tryz.prog W = .ok (.string (str (T4 ++ [32, 109, 105, 115, 115, 105, 110, 103]))) W := fun W => add_text T4 [32, 109, 105, 115, 115, 105, 110, 103] (by rw [show [(32 : UInt8), 109, 105, 115, 115, 105, 110, 103].length = 8 from rfl]; omega) W
      rcases fb with _ | _
      · have HT5e := hid (show T5 = T4 by rw [← hT5']; simp)
        clear hT5' hT5 HFB
        go_wp2_with fail
        go_meet
        exact ⟨by rw [HT5e.out], rfl⟩
      · have HT5e := hid (show T5 = T4 ++ [32, 109, 105, 115, 115, 105, 110, 103] by rw [← hT5']; rfl)
        clear hT5' hT5 HFB
        go_wp2_with fail
        go_meet
        exact ⟨by rw [HT5e.out], rfl⟩
    case rest =>
    obtain ⟨rfl, rfl⟩ := hcut
    clear hT5'
    go_wp2_with fail
    go_ret
    refine ⟨?_, Below.then_ hbw7 hb8⟩
    have e : lineT x q D i = T5 := by
      unfold lineT
      rw [hk, Int.toNat_natCast, htd.out, ← hE.out, hT1.out, hT2.out, ← HPB.out, hT3.out]
      have h4 := hT4.out
      have h5 := hT5.out
      rw [← hU.out] at h4
      rw [h4, ← HMU.out, ← HFB.out, h5]
    rw [e]; rfl
end Go.Proofs.YtbhieajpodnfpaaGreat
namespace Go.Proofs.YtbhieajpodnfpaaGreat
open Go.RowKit Pg
/-- A field's line, or nothing. -/
def fieldT (D : VData) (z : Int) : List UInt8 :=
  if 0 ≤ z then (match D.flds[z.toNat]?, D.vals[z.toNat]? with | some x, some q => lineT x q D z.toNat | _, _ => []) else []
/-- A page's lines of its first k fields. -/
def pageL (D : VData) (z : Int) : Nat → List UInt8
  | 0 => [112, 97, 103, 101, 32] ++ D.pages.getD z.toNat [] ++ [10]
  | k + 1 => match D.flds[k]? with
    | some x => if x.page = z then pageL D z k ++ (fieldT D (k : Int) ++ [10]) else pageL D z k
    | none => pageL D z k
def pageT (D : VData) (z : Int) : List UInt8 := if 0 ≤ z ∧ z < (D.pages.length : Int) then pageL D z D.flds.length else []
def Scaled (D : VData) : Prop := ∀ y ∈ D.flds, 0 ≤ y.scale ∧ y.scale ≤ 9
theorem RatAt.arg {k m : Nat} {w : World} {b o : Nat} {q : Rat} (h : RatAt k w b o q) (hkm : k ≤ m) : ∃ s A n c A' n' c', CellsAt w b o [.bool s, .slice A n c, .slice A' n' c'] ∧ RArg w (.agg #[.bool s, .slice A n c, .slice A' n' c']) q m := by
  obtain ⟨s, A, n, c, A', n', c', xs, ys, hc, h1, h2, h3, h4, h5⟩ := h
  exact ⟨s, A, n, c, A', n', c', hc, ⟨_, _, _, _, _, _, _, _, _, rfl, h1, h2, by omega, by omega, h5⟩⟩
theorem RatAt.mono {k m : Nat} {w : World} {b o : Nat} {q : Rat} (h : RatAt k w b o q) (hkm : k ≤ m) : RatAt m w b o q := by
  obtain ⟨s, A, n, c, A', n', c', xs, ys, hc, h1, h2, h3, h4, h5⟩ := h
  exact ⟨s, A, n, c, A', n', c', xs, ys, hc, h1, h2, by omega, by omega, h5⟩
theorem lineT_len {w : World} {RA : Option Addr} {rn rc : Nat} {x : Fld} {q : Rat} (D : VData) (i : Nat) (hn : x.name.length ≤ 140737488355328) (hq : Short q 1000) (hk : 0 ≤ x.scale ∧ x.scale ≤ 9) (h : SlAt 15 NameAt w RA rn rc D.rules) : (lineT x q D i).length ≤ 562949953421312 := by
  have h1 := told_len D (i : Int) h
  have h2 := fixedT_len hq (show x.scale.toNat ≤ 9 by omega)
  unfold lineT
  generalize told D (i : Int) = T at *
  generalize fixedT q x.scale.toNat = X at *
  simp only [List.length_append]
  have e1 : (if eqQ (roundQ q x.scale.toNat) q then [(32 : UInt8), 101, 120, 97, 99, 116] else [32, 97, 98, 111, 117, 116]).length = 6 := by split <;> rfl
  have e2 : (if D.pins.getD i false then [(32 : UInt8), 112, 105, 110, 110, 101, 100] else []).length ≤ 7 := by split <;> simp
  have e3 : (if T = [] then [] else [(32 : UInt8), 116, 111, 108, 100, 32, 98, 121, 32] ++ T).length ≤ 9 + T.length := by split <;> simp; omega
  have e4 : (if x.must && !D.filled.getD i false then [(32 : UInt8), 109, 105, 115, 115, 105, 110, 103] else []).length ≤ 8 := by split <;> simp
  have e5 : [(32 : UInt8), 61, 32].length = 3 := rfl
  omega
section
variable {w : World} {PA FA RA VA OA QA LA : Option Addr} {pn pc fn fc rn rc vn vc on oc qn qc ln lc : Nat} {D : VData}
theorem fieldT_len (h : VRead w PA FA RA VA OA QA LA pn pc fn fc rn rc vn vc on oc qn qc ln lc 3 D) (hs : Scaled D) (z : Int) : (fieldT D z).length ≤ 562949953421312 := by
  unfold fieldT
  split
  · split
    · rename_i x q hx hq
      obtain ⟨hl, _, _, _, _, h1⟩ := h.flds
      obtain ⟨hl', _, _, _, _, h2⟩ := h.vals
      have i1 := (List.getElem?_eq_some_iff.1 hx).1
      have i2 := (List.getElem?_eq_some_iff.1 hq).1
      obtain ⟨b, o, _, _, hf⟩ := h1 (by omega)
      obtain ⟨b', o', _, _, hv⟩ := h2 (by omega)
      obtain ⟨_, _, _, _, _, _, _, _, ha⟩ := (hv _ q hq).arg (by omega : 3 ≤ 1000)
      exact lineT_len D _ (hf _ x hx).2 (ha.short (by omega)) (hs x (List.mem_of_getElem? hx)) h.rules
    · simp
  · simp
theorem pageL_len' (M : Nat) (z : Int) (hp : (D.pages.getD z.toNat []).length + 6 ≤ M) (hf : ∀ z, (fieldT D z).length ≤ M) : ∀ k, (pageL D z k).length ≤ M + k * (M + 1)
  | 0 => by
    unfold pageL
    simp only [List.length_append, List.length_cons, List.length_nil]
    omega
  | k + 1 => by
    have ih := pageL_len' M z hp hf k
    have h1 := hf (k : Int)
    rw [Nat.add_mul]
    unfold pageL
    split
    · split
      · simp only [List.length_append, List.length_cons, List.length_nil]; omega
      · omega
    · omega
theorem pageL_len (h : VRead w PA FA RA VA OA QA LA pn pc fn fc rn rc vn vc on oc qn qc ln lc 3 D) (hs : Scaled D) (z : Int) (k : Nat) (hk : k ≤ 1000) : (pageL D z k).length ≤ 1152921504606846976 := by
  have hp : (D.pages.getD z.toNat []).length ≤ 140737488355328 := by
    obtain ⟨hl, _, _, _, _, h1⟩ := h.pages
    rw [List.getD_eq_getElem?_getD]
    match hx : D.pages[z.toNat]? with
    | some x =>
      have i1 := (List.getElem?_eq_some_iff.1 hx).1
      obtain ⟨b, o, _, _, hf⟩ := h1 (by omega)
      exact (hf _ x hx).2
    | none => simp
  have h1 := pageL_len' 562949953421312 z (by omega) (fieldT_len h hs) k
  have h2 : k * (562949953421312 + 1) ≤ 1000 * (562949953421312 + 1) := Nat.mul_le_mul_right _ hk
  omega
end
set_option maxRecDepth 100000 in
set_option maxHeartbeats 1000000 in
theorem Field_out (f0 f1 f2 f4 f5 d0 d1 d3 d4 d5 : Value) (FA VA : Option Addr) (fn fc vn vc : Nat) (z : Int) (w : World) (hz0 : -9223372036854775808 ≤ z) (hz1 : z ≤ 9223372036854775807) (hz : ¬ (0 ≤ z ∧ z < (fn : Int) ∧ z < (vn : Int))) :
    Calls Tryz.prog 8 #[.agg #[f0, f1, f2, .slice FA fn fc, f4, f5], .agg #[d0, d1, .slice VA vn vc, d3, d4, d5], .int .i64 z] w fun e w' => e = .returned (.string (str [])) ∧ Below w.heap.size w w' := by
  obtain ⟨W0, hW0⟩ : ∃ W0, W0 = (w.alloc (.cells #[f0, f1, f2, .slice FA fn fc, f4, f5] 29)).alloc (.cells #[d0, d1, .slice VA vn vc, d3, d4, d5] 35) := ⟨_, rfl⟩
  have HX := hid ((B6n.newg w 29 f0 f1 f2 (.slice FA fn fc) f4 f5 _ rfl).alloc (.cells #[d0, d1, .slice VA vn vc, d3, d4, d5] 35))
  have HY := hid (B6n.newg (w.alloc (.cells #[f0, f1, f2, .slice FA fn fc, f4, f5] 29)) 35 d0 d1 (.slice VA vn vc) d3 d4 d5 (w.heap.size + 1) (by simp))
  have hb0 : Below w.heap.size w W0 := by rw [hW0]; exact Below.new_ (Below.new_ (Below.refl _ _) _) _
  rw [← hW0] at HX HY
  have hth := hid (there_any f0 f1 f2 f4 f5 d0 d1 d3 d4 d5 FA VA fn fc vn vc z W0 hz0 hz1)
  rw [decide_eq_false hz] at hth
  obtain ⟨k0, k1, k2, k3, k4, k5⟩ := HX.out.cells
  obtain ⟨j0, j1, j2, j3, j4, j5⟩ := HY.out.cells
  go_enter Tryz.func8, Tryz.ntmps8
  go_upto_region 1 with fail
  rw [← hW0]
  clear hW0 hz
  go_wp2_with (go_at_call 20; refine hth.out.mono ?_; rintro e w1 ⟨rfl, hb1⟩)
  go_ret
  exact ⟨rfl, Below.then_ hb0 hb1⟩
theorem Field_all (f0 f1 f5 d0 d1 : Value) (PA FA RA VA OA QA LA : Option Addr) (pn pc fn fc rn rc vn vc on oc qn qc ln lc : Nat) (D : VData) (z : Int) (w : World) (hV : VRead w PA FA RA VA OA QA LA pn pc fn fc rn rc vn vc on oc qn qc ln lc 3 D) (hs : Scaled D) (hz0 : -9223372036854775808 ≤ z) (hz1 : z ≤ 9223372036854775807) :
    Calls Tryz.prog 8 #[.agg #[f0, f1, .slice PA pn pc, .slice FA fn fc, .slice RA rn rc, f5], .agg #[d0, d1, .slice VA vn vc, .slice OA on oc, .slice QA qn qc, .slice LA ln lc], .int .i64 z] w fun e w' => e = .returned (.string (str (fieldT D z))) ∧ Below w.heap.size w w' := by
  obtain ⟨hfl, _, hfn, _, _, hf⟩ := hV.flds
  obtain ⟨hvl, _, hvn, _, _, hv⟩ := hV.vals
  by_cases h : 0 ≤ z ∧ z < (fn : Int) ∧ z < (vn : Int)
  · obtain ⟨h0, h1, h2⟩ := h
    obtain ⟨i, rfl⟩ : ∃ i : Nat, z = (i : Int) := ⟨z.toNat, by omega⟩
    obtain ⟨b, o, rfl, hb, hx⟩ := hf (by omega)
    obtain ⟨b', o', rfl, hb', hx'⟩ := hv (by omega)
    have e1 : D.flds[i]? = some (D.flds[i]'(by omega)) := List.getElem?_eq_getElem _
    have e2 : D.vals[i]? = some (D.vals[i]'(by omega)) := List.getElem?_eq_getElem _
    have hsc := hs _ (List.mem_of_getElem? e1)
    have := Field_in f0 f1 (.slice PA pn pc) f5 d0 d1 b o b' o' none RA none OA QA LA fn fc rn rc vn vc on oc qn qc ln lc i _ _ D w (hx i _ e1) ((hx' i _ e2).mono (by omega)) hb hb' (by omega) (by omega) hfn hvn _ (show _ = ((D.flds[i]'(by omega)).scale.toNat : Int) by omega) (by omega) hV.rules hV.outs hV.pins hV.filled
    have e3 : fieldT D (i : Int) = lineT (D.flds[i]'(by omega)) (D.vals[i]'(by omega)) D i := by
      unfold fieldT
      rw [if_pos h0, Int.toNat_natCast, e1, e2]
    rw [e3]
    exact this
  · have e3 : fieldT D z = [] := by
      unfold fieldT
      split
      · split
        · rename_i x q hx hq
          have i1 := (List.getElem?_eq_some_iff.1 hx).1
          have i2 := (List.getElem?_eq_some_iff.1 hq).1
          exact absurd ⟨by omega, by omega, by omega⟩ h
        · rfl
      · rfl
    rw [e3]
    exact Field_out _ _ _ _ _ _ _ _ _ _ _ _ _ _ _ _ _ w hz0 hz1 h
set_option maxRecDepth 100000 in
set_option maxHeartbeats 4000000 in
theorem Page_all (f0 f1 f5 d0 d1 : Value) (PA FA RA VA OA QA LA : Option Addr) (pn pc fn fc rn rc vn vc on oc qn qc ln lc : Nat) (D : VData) (z : Int) (w : World) (hV : VRead w PA FA RA VA OA QA LA pn pc fn fc rn rc vn vc on oc qn qc ln lc 3 D) (hs : Scaled D) (hfew : fn ≤ 1000) (hz0 : -9223372036854775808 ≤ z) (hz1 : z ≤ 9223372036854775807) :
    Calls Tryz.prog 10 #[.agg #[f0, f1, .slice PA pn pc, .slice FA fn fc, .slice RA rn rc, f5], .agg #[d0, d1, .slice VA vn vc, .slice OA on oc, .slice QA qn qc, .slice LA ln lc], .int .i64 z] w fun e w' => e = .returned (.string (str (pageT D z))) ∧ Below w.heap.size w w' := by
  obtain ⟨W0, hW0⟩ : ∃ W0, W0 = (w.alloc (.cells #[f0, f1, .slice PA pn pc, .slice FA fn fc, .slice RA rn rc, f5] 29)).alloc (.cells #[d0, d1, .slice VA vn vc, .slice OA on oc, .slice QA qn qc, .slice LA ln lc] 35) := ⟨_, rfl⟩
  have HX := hid ((B6n.newg w 29 f0 f1 (.slice PA pn pc) (.slice FA fn fc) (.slice RA rn rc) f5 _ rfl).alloc (.cells #[d0, d1, .slice VA vn vc, .slice OA on oc, .slice QA qn qc, .slice LA ln lc] 35))
  have HY := hid (B6n.newg (w.alloc (.cells #[f0, f1, .slice PA pn pc, .slice FA fn fc, .slice RA rn rc, f5] 29)) 35 d0 d1 (.slice VA vn vc) (.slice OA on oc) (.slice QA qn qc) (.slice LA ln lc) (w.heap.size + 1) (by simp))
  have hb0 : Below w.heap.size w W0 := by rw [hW0]; exact Below.new_ (Below.new_ (Below.refl _ _) _) _
  rw [← hW0] at HX HY
  have HFi := hid fun W (hW : Below w.heap.size w W) (i : Nat) (hi : i ≤ 1000) => Field_all f0 f1 f5 d0 d1 PA FA RA VA OA QA LA pn pc fn fc rn rc vn vc on oc qn qc ln lc D (i : Int) W (hV.below hW) hs (by omega) (by omega)
  have HFL := hid (fieldT_len hV hs)
  have HPL := hid (pageL_len hV hs z)
  have HFl := hid (hV.flds)
  obtain ⟨hpl, _, hpn, _, _, hp⟩ := hV.pages.below nameAt_stays hb0
  have hpt : pageT D z = if 0 ≤ z ∧ z < (D.pages.length : Int) then pageL D z D.flds.length else [] := rfl
  rw [hpl, hV.flds.1] at hpt
  clear hV hs
  obtain ⟨k0, k1, k2, k3, k4, k5⟩ := HX.out.cells
  obtain ⟨j0, j1, j2, j3, j4, j5⟩ := HY.out.cells
  by_cases h0 : z < 0
  · have d0 : decide (z < 0) = true := decide_eq_true h0
    rw [if_neg (by omega)] at hpt
    have Hpt := hid hpt
    clear hpt hp hpl
    go_enter Tryz.func10, Tryz.ntmps10
    go_upto_region 1 with fail
    rw [← hW0]
    clear hW0
    go_wp2_with fail
    go_ret
    exact ⟨by rw [Hpt.out]; rfl, hb0⟩
  · have d0 : decide (z < 0) = false := decide_eq_false h0
    by_cases h1 : (pn : Int) ≤ z
    · have d1 : decide ((pn : Int) ≤ z) = true := decide_eq_true h1
      rw [if_neg (by omega)] at hpt
      have Hpt := hid hpt
      clear hpt hp hpl
      go_enter Tryz.func10, Tryz.ntmps10
      go_upto_region 1 with fail
      rw [← hW0]
      clear hW0
      go_wp2_with fail
      go_ret
      exact ⟨by rw [Hpt.out]; rfl, hb0⟩
    · have d1 : decide ((pn : Int) ≤ z) = false := decide_eq_false h1
      rw [if_pos (by omega)] at hpt
      have Hpt := hid hpt
      clear hpt
      obtain ⟨p, rfl⟩ : ∃ p : Nat, z = (p : Int) := ⟨z.toNat, by omega⟩
      obtain ⟨b, o, rfl, hb, hx⟩ := hp (by omega)
      have hlt : p < D.pages.length := by omega
      obtain ⟨hc0, hnl⟩ := hx p D.pages[p] (List.getElem?_eq_getElem hlt)
      have c0 : W0.cell? ⟨b, o + p * 2, none⟩ = some (.string (str D.pages[p])) := hc0.at_ 0 rfl
      have hL0 : pageL D (p : Int) 0 = [112, 97, 103, 101, 32] ++ D.pages[p] ++ [10] := by
        unfold pageL
        rw [Int.toNat_natCast, List.getD_eq_getElem?_getD, List.getElem?_eq_getElem hlt]
        rfl
      obtain ⟨nm, hnm⟩ : ∃ nm, D.pages[p] = nm := ⟨_, rfl⟩
      rw [hnm] at c0 hL0 hnl
      have HL0 := hid hL0
      have hpp : p < pn := by omega
      clear hx hc0 hnm hL0 hp hlt hpl
      obtain ⟨T0, hT0⟩ : ∃ T0, [112, 97, 103, 101, 32] ++ nm = T0 := ⟨_, rfl⟩
      have lT0 : T0.length ≤ 140737488355400 := by rw [← hT0, List.length_append, show [(112 : UInt8), 97, 103, 101, 32].length = 5 from rfl]; omega
      have q1 : ∀ W, (Op.stringOp .add ⟨#[112, 97, 103, 101, 32]⟩ (str nm)).run Tryz.prog W = .ok (.string (str T0)) W := fun W => by
        rw [← hT0]
        exact add_text [112, 97, 103, 101, 32] nm (by rw [show [(112 : UInt8), 97, 103, 101, 32].length = 5 from rfl]; omega) W
      have q2 : ∀ W, (Op.stringOp .add (str T0) ⟨#[10]⟩).run Tryz.prog W = .ok (.string (str (pageL D (p : Int) 0))) W := fun W => by
        rw [HL0.out, hT0]
        exact add_text T0 [10] (by simp; omega) W
      clear hT0
      go_enter Tryz.func10, Tryz.ntmps10
      go_upto_region 1 with fail
      rw [← hW0]
      clear hW0
      go_wp2_with fail
      clear q1 q2 c0 k0 k1 k2 k3 k4 k5 j0 j1 j2 j3 j4 j5
      go_loopw [7, 30] (fun s i wr => ∃ k : Nat, k ≤ fn ∧ i = .int .i64 k ∧ s = .string (str (pageL D (p : Int) k)) ∧ Below W0.heap.size W0 wr) (fun _ i _ => fn - (intOf i).toNat)
      case atStart => exact ⟨0, Nat.zero_le _, rfl, rfl, Below.refl _ _⟩
      case round =>
        obtain ⟨k, hk, rfl, rfl, hbr⟩ := hrel
        by_cases hlt : k < fn
        · have hbw := Below.then_ hb0 hbr
          obtain ⟨hfl, _, _, _, _, hf⟩ := HFl.out.below fldAt_stays hbw
          obtain ⟨b2, o2, rfl, hb2, hx⟩ := hf (by omega)
          have hkl : k < D.flds.length := by omega
          have e1 : D.flds[k]? = some D.flds[k] := List.getElem?_eq_getElem hkl
          obtain ⟨hca, hxn⟩ := hx k _ e1
          obtain ⟨x, hx'⟩ : ∃ x, D.flds[k] = x := ⟨_, rfl⟩
          rw [hx'] at hca e1
          have c0 : wr.cell? ⟨b2, o2 + k * 4, none⟩ = some (.string (str x.name)) := hca.at_ 0 rfl
          have c1 := hca.at_ 1 rfl
          have c2 := hca.at_ 2 rfl
          have c3 := hca.at_ 3 rfl
          have hst : pageL D (p : Int) (k + 1) = if x.page = (p : Int) then pageL D (p : Int) k ++ (fieldT D (k : Int) ++ [10]) else pageL D (p : Int) k := by
            rw [pageL, e1]
          have lP := HPL.out k (by omega)
          have lF := HFL.out (k : Int)
          have Hst := hid hst
          clear hx hca hx' e1 hf hst hxn hfl
          by_cases hpg : x.page = (p : Int)
          · have Hst2 := hid (show pageL D (p : Int) (k + 1) = pageL D (p : Int) k ++ (fieldT D (k : Int) ++ [10]) by rw [Hst.out, if_pos hpg])
            clear Hst
            obtain ⟨xn, xp, xm, xs⟩ := x
            simp only at hpg c0 c1 c2 c3
            subst hpg
            obtain ⟨k0, k1, k2, k3, k4, k5⟩ := ((HX.out.below hbr).alloc (.cells #[.string (str xn), .int .i64 (p : Int), .bool xm, .int .i64 xs] 61)).cells
            obtain ⟨j0, j1, j2, j3, j4, j5⟩ := ((HY.out.below hbr).alloc (.cells #[.string (str xn), .int .i64 (p : Int), .bool xm, .int .i64 xs] 61)).cells
            obtain ⟨P1, hP1⟩ : ∃ P1, pageL D (p : Int) k = P1 := ⟨_, rfl⟩
            obtain ⟨F1, hF1⟩ : ∃ F1, fieldT D (k : Int) = F1 := ⟨_, rfl⟩
            have HFc := hid fun W hW => HFi.out W hW k (by omega)
            rw [hP1] at lP Hst2
            rw [hF1] at lF Hst2 HFc
            rw [hP1]
            clear hP1 hF1 HFi HFL HPL
            have hbw2 := Below.new_ hbw (.cells #[.string (str xn), .int .i64 (p : Int), .bool xm, .int .i64 xs] 61)
            obtain ⟨F2, hF2⟩ : ∃ F2, F1 ++ [10] = F2 := ⟨_, rfl⟩
            have lF2 : F2.length ≤ 562949953421320 := by rw [← hF2]; simp; omega
            have q1 : ∀ W, (Op.stringOp .add (str F1) ⟨#[10]⟩).run Tryz.prog W = .ok (.string (str F2)) W := fun W => by
              rw [← hF2]
              exact add_text F1 [10] (by simp; omega) W
            rw [hF2] at Hst2
            clear hF2
            obtain ⟨P2, hP2⟩ : ∃ P2, P1 ++ F2 = P2 := ⟨_, rfl⟩
            have q2 : ∀ W, (Op.stringOp .add (str P1) (str F2)).run Tryz.prog W = .ok (.string (str P2)) W := fun W => by
              rw [← hP2]
              exact add_text P1 F2 (by omega) W
            rw [hP2] at Hst2
            clear hP2
            go_wp2_with (go_at_call 8; refine (HFc.out _ hbw2).mono ?_; rintro e w2 ⟨rfl, hb3⟩)
            refine ⟨⟨k + 1, hlt, by go_num, by rw [Hst2.out], Below.then_ (Below.new_ hbr _) hb3⟩, ?_⟩
            simp [intOf]; omega
          · have d3 : (x.page == (p : Int)) = false := by simp [hpg]
            have Hst2 := hid (show pageL D (p : Int) (k + 1) = pageL D (p : Int) k by rw [Hst.out, if_neg hpg])
            clear Hst HFi HFL HPL
            go_wp2_with fail
            refine ⟨⟨k + 1, hlt, by go_num, by rw [Hst2.out], (by repeat first | exact Below.refl _ _ | assumption | refine Pg.Below.then_ ?_ (by assumption) | refine Pg.Below.new_ ?_ _ | refine Pg.Below.drewN_ ?_ _)⟩, ?_⟩
            simp [intOf]; omega
        · obtain rfl : k = fn := by omega
          go_wp2_with fail
          go_ret
          exact ⟨by rw [Hpt.out]; rfl, Below.then_ hb0 hbr⟩
/-- A field's value as a number of 64 bits, or 0. -/
def floatF (D : VData) (z : Int) : Nat := if 0 ≤ z then (match D.flds[z.toNat]?, D.vals[z.toNat]? with | some _, some q => fw q | _, _ => 0) else 0
set_option maxRecDepth 100000 in
set_option maxHeartbeats 2000000 in
theorem Float_all (f0 f1 f2 f4 f5 d0 d1 d3 d4 d5 : Value) (FA VA : Option Addr) (fn fc vn vc : Nat) (D : VData) (z : Int) (w : World) (hFl : SlAt 4 FldAt w FA fn fc D.flds) (hVa : SlAt 3 (RatAt 3) w VA vn vc D.vals) (hz0 : -9223372036854775808 ≤ z) (hz1 : z ≤ 9223372036854775807) :
    Calls Tryz.prog 13 #[.agg #[f0, f1, f2, .slice FA fn fc, f4, f5], .agg #[d0, d1, .slice VA vn vc, d3, d4, d5], .int .i64 z] w fun e w' => e = .returned (.float .f64 (floatF D z)) ∧ Below w.heap.size w w' := by
  obtain ⟨W0, hW0⟩ : ∃ W0, W0 = (w.alloc (.cells #[f0, f1, f2, .slice FA fn fc, f4, f5] 29)).alloc (.cells #[d0, d1, .slice VA vn vc, d3, d4, d5] 35) := ⟨_, rfl⟩
  have HX := hid ((B6n.newg w 29 f0 f1 f2 (.slice FA fn fc) f4 f5 _ rfl).alloc (.cells #[d0, d1, .slice VA vn vc, d3, d4, d5] 35))
  have HY := hid (B6n.newg (w.alloc (.cells #[f0, f1, f2, .slice FA fn fc, f4, f5] 29)) 35 d0 d1 (.slice VA vn vc) d3 d4 d5 (w.heap.size + 1) (by simp))
  have hb0 : Below w.heap.size w W0 := by rw [hW0]; exact Below.new_ (Below.new_ (Below.refl _ _) _) _
  rw [← hW0] at HX HY
  have hth := hid (there_any f0 f1 f2 f4 f5 d0 d1 d3 d4 d5 FA VA fn fc vn vc z W0 hz0 hz1)
  have hfl := hFl.1
  have hvl := hVa.1
  have hfn := hFl.2.2.1
  have hvn := hVa.2.2.1
  obtain ⟨k0, k1, k2, k3, k4, k5⟩ := HX.out.cells
  obtain ⟨j0, j1, j2, j3, j4, j5⟩ := HY.out.cells
  by_cases h : 0 ≤ z ∧ z < (fn : Int) ∧ z < (vn : Int)
  · rw [decide_eq_true h] at hth
    obtain ⟨h0, h1, h2⟩ := h
    obtain ⟨i, rfl⟩ : ∃ i : Nat, z = (i : Int) := ⟨z.toNat, by omega⟩
    have HVa := hid hVa
    obtain ⟨q, hq⟩ : ∃ q, D.vals[i]? = some q := ⟨D.vals[i]'(by omega), List.getElem?_eq_getElem _⟩
    have Hq := hid hq
    have e3 := hid (show floatF D (i : Int) = fw q by
      unfold floatF
      rw [if_pos h0, Int.toNat_natCast, List.getElem?_eq_getElem (show i < D.flds.length by omega), hq])
    clear hq hVa hFl hfl hvl
    go_enter Tryz.func13, Tryz.ntmps13
    go_upto_region 1 with fail
    rw [← hW0]
    clear hW0
    go_upto_region 3 with (go_at_call 20; refine hth.out.mono ?_; rintro e w1 ⟨rfl, hb1⟩; clear k0 k1 k2 k3 k4 k5 j0 j1 j2 j3 j4 j5; obtain ⟨j0, j1, j2, j3, j4, j5⟩ := (HY.out.below hb1).cells)
    obtain ⟨_, _, _, _, _, hv⟩ := HVa.out.below (ratAt_stays 3) (Below.then_ hb0 hb1)
    obtain ⟨b', o', rfl, hbl', hx'⟩ := hv (by omega)
    obtain ⟨s, A, n, c, A', n', c', hc, hra⟩ := (hx' i q Hq.out).arg (Nat.le_refl 3)
    have c0 : w1.cell? ⟨b', o' + i * 3, none⟩ = some (.bool s) := hc.at_ 0 rfl
    have c1 := hc.at_ 1 rfl
    have c2 := hc.at_ 2 rfl
    have HT := hid (fltTo_R w1 hra (by omega) (by omega))
    clear hc hx' hv hra HVa Hq
    go_wp2_with (go_at_call 27; refine HT.out.mono ?_; rintro e w2 ⟨rfl, hb2⟩)
    go_ret
    exact ⟨by rw [e3.out]; rfl, Below.then_ (Below.then_ hb0 hb1) hb2⟩
  · have e3 := hid (show floatF D z = 0 by
      unfold floatF
      split
      · split
        · rename_i x q hx hq
          have i1 := (List.getElem?_eq_some_iff.1 hx).1
          have i2 := (List.getElem?_eq_some_iff.1 hq).1
          exact absurd ⟨by omega, by omega, by omega⟩ h
        · rfl
      · rfl)
    rw [decide_eq_false h] at hth
    clear h hFl hVa hfl hvl
    go_enter Tryz.func13, Tryz.ntmps13
    go_upto_region 1 with fail
    rw [← hW0]
    clear hW0
    go_wp2_with (go_at_call 20; refine hth.out.mono ?_; rintro e w1 ⟨rfl, hb1⟩)
    go_ret
    exact ⟨by rw [e3.out]; rfl, Below.then_ hb0 hb1⟩
end Go.Proofs.YtbhieajpodnfpaaGreat
namespace Go.Proofs.YtbhieajpodnfpaaGreat
open Go.RowKit Pg

set_option maxRecDepth 100000 in
set_option maxHeartbeats 4000000 in
/-- pantographref3.Round. -/
theorem rRound_any {v : Value} {q : Rat} (k : Nat) (w : World) (ha : RArg w v q 1000) (hk : k ≤ 9) :
    Calls Tryz.prog 26 #[v, .int .i64 (k : Int)] w (RatRet w (roundQ q k)) := by
  have HA := hid ha
  have hs := ha.short (by omega)
  obtain ⟨s, A, n, c, A', n', c', xs, ys, rfl, h, h', hn, hn', hp⟩ := ha
  have hO := fun W (hW : Below w.heap.size w W) => r2Norm_any s A A' n c n' c' xs ys W (h.below hW) (h'.below hW) (by omega) (by omega)
  rw [hp] at hO
  have HO := hid hO
  clear hO h h' hp hn hn'
  have HB := hid ((B3.new w 53 (.bool s) (.slice A n c) (.slice A' n' c')).alloc (.cells #[.bool false, .slice none 0 0, .slice none 0 0] 53))
  have HZ := hid (B3.newg (w.alloc (.cells #[.bool s, .slice A n c, .slice A' n' c'] 53)) 53 (.bool false) (.slice none 0 0) (.slice none 0 0) (w.heap.size + 1) (by simp))
  have lU := units_len hs (show k ≤ 60 by omega)
  have lT := limbs_ten k
  have hb0 : Below w.heap.size w ((w.alloc (.cells #[.bool s, .slice A n c, .slice A' n' c'] 53)).alloc (.cells #[.bool false, .slice none 0 0, .slice none 0 0] 53)) := Below.new_ (Below.new_ (Below.refl _ _) _) _
  have hkm : min (max (k : Int) 0) 9 = (k : Int) := by omega
  go_enter Tryz.func26, Tryz.ntmps26
  go_upto_region 2 with fail
  try rw [hkm]
  generalize (w.alloc (.cells #[.bool s, .slice A n c, .slice A' n' c'] 53)).alloc (.cells #[.bool false, .slice none 0 0, .slice none 0 0] 53) = w1 at *
  refine draw_last [8, 9, 10, 11, 12, 13, 14, 15, 16] [.is (.agg #[.bool s, .slice A n c, .slice A' n' c']), .rat q, .is (.bool (rneg q)), .is (.agg #[.bool s, .slice A n c, .slice A' n' c']), .is (.int .i64 (k : Int)), .row (unitsN q k), .is (.int .i64 (k : Int)), .row (10 ^ k), .rat (roundQ q k)]
    (by kernel_rfl) (by kernel_rfl) (by kernel_rfl) (by decide) (by kernel_rfl) (by kernel_rfl) (by kernel_rfl) rfl ?_ ?_
  · refine ⟨?_, ?_, ?_, ?_, ?_, ?_, ?_, ?_, ?_, trivial⟩
    · intro a w3 hA K hK
      have t2 := hA.old 2 _ rfl rfl
      obtain ⟨k0, k1, k2, _, _, _⟩ := (HB.out.below hA.below).cells
      go_simp
      exact hK _ _ (by first | rfl | exact congrArg _ (by first | rfl | omega | (rw [IntKind.wrap_i64]; omega))) (Below.refl _ _)
    · intro a w3 hA K hK
      have t8 := bt_is hA 0 8 rfl rfl (by kernel_rfl)
      have hC := HO.out w3 (Below.then_ hb0 hA.below)
      go_simp
      refine hC.mono ?_
      rintro e w4 ⟨A3, c3, A4, c4, rfl, hr, hr', hb⟩
      exact hK _ _ ⟨_, _, _, _, rfl, hr, hr'⟩ hb
    · intro a w3 hA K hK
      obtain ⟨A9, c9, B9, d9, t9, r9, s9⟩ := bt_rat hA 1 9 rfl rfl (by kernel_rfl)
      go_simp
      exact hK _ _ (by first | rfl | exact congrArg _ (by first | rfl | omega | (rw [IntKind.wrap_i64]; omega))) (Below.refl _ _)
    · intro a w3 hA K hK
      have t2 := hA.old 2 _ rfl rfl
      obtain ⟨k0, k1, k2, _, _, _⟩ := (HB.out.below hA.below).cells
      go_simp
      exact hK _ _ (by first | rfl | exact congrArg _ (by first | rfl | omega | (rw [IntKind.wrap_i64]; omega))) (Below.refl _ _)
    · intro a w3 hA K hK
      have t1 := hA.old 1 _ rfl rfl
      go_simp
      exact hK _ _ (by first | rfl | exact congrArg _ (by first | rfl | omega | (rw [IntKind.wrap_i64]; omega))) (Below.refl _ _)
    · intro a w3 hA K hK
      have t11 := bt_is hA 3 11 rfl rfl (by kernel_rfl)
      have t12 := bt_is hA 4 12 rfl rfl (by kernel_rfl)
      have hC := runits_any k w3 (HA.out.below (Below.then_ hb0 hA.below)) (by omega)
      go_simp
      refine hC.mono ?_
      rintro e w4 ⟨A3, c3, rfl, hr, hb⟩
      exact hK _ _ ⟨_, _, rfl, hr⟩ hb
    · intro a w3 hA K hK
      have t1 := hA.old 1 _ rfl rfl
      go_simp
      exact hK _ _ (by first | rfl | exact congrArg _ (by first | rfl | omega | (rw [IntKind.wrap_i64]; omega))) (Below.refl _ _)
    · intro a w3 hA K hK
      have t14 := bt_is hA 6 14 rfl rfl (by kernel_rfl)
      have hC := rten_any k w3 (by omega)
      go_simp
      refine hC.mono ?_
      rintro e w4 ⟨A3, c3, rfl, hr, hb⟩
      exact hK _ _ ⟨_, _, rfl, hr⟩ hb
    · intro a w3 hA K hK
      have t10 := bt_is hA 2 10 rfl rfl (by kernel_rfl)
      obtain ⟨A13, c13, t13, r13⟩ := bt_row hA 5 13 rfl rfl (by kernel_rfl)
      obtain ⟨A15, c15, t15, r15⟩ := bt_row hA 7 15 rfl rfl (by kernel_rfl)
      have hC := r2Of_E (rneg q) A13 A15 _ c13 _ c15 (unitsN q k) (10 ^ k) _ _ (roundQ q k) w3 r13 r15 (val_limbs _) (val_limbs _) (by omega) (by omega) rfl
      go_simp
      refine hC.mono ?_
      rintro e w4 ⟨A3, c3, A4, c4, rfl, hr, hr', hb⟩
      exact hK _ _ ⟨_, _, _, _, rfl, hr, hr'⟩ hb
  rintro vs w5 hV hb5 act hact hold hnew K hK
  have hV' := hV.is_
  clear hV
  obtain ⟨_, rfl, hV⟩ := hV'
  have hV' := hV.rat_
  clear hV
  obtain ⟨A9, c9, B9, d9, _, rfl, r9, s9, hV⟩ := hV'
  have hV' := hV.is_
  clear hV
  obtain ⟨_, rfl, hV⟩ := hV'
  have hV' := hV.is_
  clear hV
  obtain ⟨_, rfl, hV⟩ := hV'
  have hV' := hV.is_
  clear hV
  obtain ⟨_, rfl, hV⟩ := hV'
  have hV' := hV.row_
  clear hV
  obtain ⟨A13, c13, _, rfl, r13, hV⟩ := hV'
  have hV' := hV.is_
  clear hV
  obtain ⟨_, rfl, hV⟩ := hV'
  have hV' := hV.row_
  clear hV
  obtain ⟨A15, c15, _, rfl, r15, hV⟩ := hV'
  have hV' := hV.rat_
  clear hV
  obtain ⟨A16, c16, B16, d16, _, rfl, r16, s16, hV⟩ := hV'
  obtain rfl := hV.nil_
  clear hV
  simp only [puts] at hact
  have tq1 := hold 4 _ rfl rfl
  have tq2 := hnew 8 16 _ rfl rfl
  clear hold hnew
  have Hact := hid hact
  clear hact
  have hBz := HZ.out.below hb5
  obtain ⟨k0, k1, k2, f0, f1, f2⟩ := hBz.cells
  go_simp
  refine hK _ _ ?_
  have hact := Hact.out
  clear Hact tq1 tq2
  subst hact
  go_simp
  go_wp2_with fail
  have hBr := hBz
  refine bodyPost_ret (by have q0 := fun u0 u1 u2 => (hBr.set u0 u1 u2).cells.1; have q1 := fun u0 u1 u2 => (hBr.set u0 u1 u2).cells.2.1; have q2 := fun u0 u1 u2 => (hBr.set u0 u1 u2).cells.2.2.1; simp [results, Tryz.results26, go_sem, q0, q1, q2]) rfl (RatRet.put hBr (by omega) (Below.then_ hb0 hb5) rfl rfl rfl r16 s16 rfl rfl)

theorem idxFrom_none {l : List Int} {z : Int} : ∀ {i : Nat}, (∀ x ∈ l, x ≠ z) → Lib.idxFrom l z i = -1 := by
  induction l with
  | nil => intro i _; rfl
  | cons x l ih =>
    intro i h
    unfold Lib.idxFrom
    rw [if_neg (h x (by simp))]
    exact ih (fun y hy => h y (by simp [hy]))
theorem idxFrom_at {z : Int} : ∀ {l : List Int} {k i : Nat}, (∀ x ∈ l.take k, x ≠ z) → l[k]? = some z → Lib.idxFrom l z i = ((i + k : Nat) : Int)
  | [], k, i, _, hk => by simp at hk
  | x :: l, 0, i, _, hk => by
    simp only [List.getElem?_cons_zero, Option.some.injEq] at hk
    unfold Lib.idxFrom
    rw [if_pos hk, Nat.add_zero]
  | x :: l, k + 1, i, h, hk => by
    unfold Lib.idxFrom
    rw [if_neg (h x (by simp))]
    rw [idxFrom_at (k := k) (i := i + 1) (fun y hy => h y (by simp [hy])) (by simpa using hk)]
    congr 1; omega
theorem idxFrom_ge {z : Int} : ∀ {l : List Int} {k i : Nat}, (∀ x ∈ l.take k, x ≠ z) → Lib.idxFrom l z i = -1 ∨ ((i + k : Nat) : Int) ≤ Lib.idxFrom l z i
  | [], k, i, _ => .inl rfl
  | x :: l, 0, i, _ => by
    rcases Int.lt_or_le (Lib.idxFrom (x :: l) z i) (((i + 0 : Nat)) : Int) with h | h
    · left
      have key : ∀ (l : List Int) (i : Nat), Lib.idxFrom l z i = -1 ∨ (i : Int) ≤ Lib.idxFrom l z i := by
        intro l
        induction l with
        | nil => intro i; exact .inl rfl
        | cons y l ih =>
          intro i
          unfold Lib.idxFrom
          split
          · right; omega
          · rcases ih (i + 1) with h | h
            · exact .inl h
            · right; omega
      rcases key (x :: l) i with h2 | h2
      · exact h2
      · omega
    · exact .inr h
  | x :: l, k + 1, i, h => by
    unfold Lib.idxFrom
    rw [if_neg (h x (by simp))]
    rcases idxFrom_ge (l := l) (k := k) (i := i + 1) (fun y hy => h y (by simp [hy])) with h2 | h2
    · exact .inl h2
    · right; omega
theorem told_at (D : VData) (z : Int) (k : Nat) (h0 : 0 ≤ z) (h : ∀ x ∈ D.outs.take k, x ≠ z) (hk : D.outs[k]? = some z) {r : List UInt8} (hr : D.rules[k]? = some r) : told D z = r := by
  have e : Lib.idxOf D.outs z = (k : Int) := by
    have := idxFrom_at (i := 0) h hk
    rw [Nat.zero_add] at this
    exact this
  unfold told
  rw [e, if_pos ⟨h0, by omega⟩]
  simp [List.getD, hr]
theorem told_not (D : VData) (z : Int) (k : Nat) (h : 0 ≤ z → ∀ x ∈ D.outs.take k, x ≠ z) (hk : D.rules.length ≤ k ∨ D.outs.length ≤ k) : told D z = [] := by
  unfold told
  split
  · rename_i h0
    rcases hk with hk | hk
    · rcases idxFrom_ge (i := 0) (h h0.1) with e | e
      · have h1 := h0.2
        have : Lib.idxOf D.outs z = -1 := e
        omega
      · have e' : ((0 + k : Nat) : Int) ≤ Lib.idxOf D.outs z := e
        rw [List.getD_eq_getElem?_getD, List.getElem?_eq_none (by omega)]
        rfl
    · rw [List.take_of_length_le hk] at h
      have e : Lib.idxOf D.outs z = -1 := idxFrom_none (i := 0) (h h0.1)
      rw [e] at h0
      omega
  · rfl
set_option maxRecDepth 100000 in
set_option maxHeartbeats 2000000 in
/-- pantographref19.Told. -/
theorem rTold_any (f0 f1 f2 f3 f5 d0 d1 d2 d4 d5 : Value) (RA OA : Option Addr) (rn rc on oc : Nat) (D : VData) (z : Int) (w : World) (hR : SlAt 15 NameAt w RA rn rc D.rules) (hO : SlAt 1 IntAt w OA on oc D.outs) (_hz0 : -9223372036854775808 ≤ z) (_hz1 : z ≤ 9223372036854775807) :
    Calls Tryz.prog 16 #[.agg #[f0, f1, f2, f3, .slice RA rn rc, f5], .agg #[d0, d1, d2, .slice OA on oc, d4, d5], .int .i64 z] w fun e w' => e = .returned (.string (str (told D z))) ∧ Below w.heap.size w w' := by
  obtain ⟨W0, hW0⟩ : ∃ W0, W0 = (w.alloc (.cells #[f0, f1, f2, f3, .slice RA rn rc, f5] 29)).alloc (.cells #[d0, d1, d2, .slice OA on oc, d4, d5] 40) := ⟨_, rfl⟩
  have HX := (B6n.newg w 29 f0 f1 f2 f3 (.slice RA rn rc) f5 _ rfl).alloc (.cells #[d0, d1, d2, .slice OA on oc, d4, d5] 40)
  have HY := B6n.newg (w.alloc (.cells #[f0, f1, f2, f3, .slice RA rn rc, f5] 29)) 40 d0 d1 d2 (.slice OA on oc) d4 d5 (w.heap.size + 1) (by simp)
  have hb0 : Below w.heap.size w W0 := by rw [hW0]; exact Below.new_ (Below.new_ (Below.refl _ _) _) _
  rw [← hW0] at HX HY
  obtain ⟨k0, k1, k2, k3, k4, k5⟩ := HX.cells
  obtain ⟨j0, j1, j2, j3, j4, j5⟩ := HY.cells
  have hrn := hR.2.2.1
  have hon := hO.2.2.1
  have HR := hid (hR.below nameAt_stays hb0)
  have HO := hid (hO.below intAt_stays hb0)
  have HRl := hid hR.1
  have HOl := hid hO.1
  clear HX HY hR hO
  go_enter Tryz.func16, Tryz.ntmps16
  go_upto_region 1 with fail
  rw [← hW0]
  clear hW0
  go_wp2_with fail
  go_loopw [7] (fun i wr => ∃ k : Nat, k ≤ rn ∧ k ≤ on ∧ i = .int .i64 k ∧ wr = W0 ∧ Hid (0 ≤ z → ∀ x ∈ D.outs.take k, x ≠ z)) (fun i _ => rn - (intOf i).toNat)
  case atStart => exact ⟨0, Nat.zero_le _, Nat.zero_le _, rfl, rfl, hid (fun _ x hx => by simp at hx)⟩
  case round =>
    obtain ⟨k, hk, hk2, rfl, rfl, HN⟩ := hrel
    by_cases hlt : k < rn
    · have d1 : decide ((k : Int) < (rn : Int)) = true := decide_eq_true (by omega)
      by_cases hlt2 : k < on
      · have d2 : decide ((k : Int) < (on : Int)) = true := decide_eq_true (by omega)
        obtain ⟨_, _, _, _, _, h6⟩ := HR.out
        obtain ⟨b, o, rfl, hb, hx⟩ := h6 (by omega)
        obtain ⟨_, _, _, _, _, g6⟩ := HO.out
        obtain ⟨b', o', rfl, hb', hx'⟩ := g6 (by omega)
        obtain ⟨r, hr⟩ : ∃ r, D.rules[k]? = some r := ⟨D.rules[k]'(by rw [HRl.out]; exact hlt), List.getElem?_eq_getElem _⟩
        obtain ⟨y, hy⟩ : ∃ y, D.outs[k]? = some y := ⟨D.outs[k]'(by rw [HOl.out]; exact hlt2), List.getElem?_eq_getElem _⟩
        have c0 : wr.cell? ⟨b, o + k * 15, none⟩ = some (.string (str r)) := (hx k r hr).1.at_ 0 rfl
        have e0 : wr.cell? ⟨b', o' + k, none⟩ = some (.int .i64 y) := by
          have := (hx' k y hy).at_ 0 rfl
          rwa [Nat.mul_one, Nat.add_zero] at this
        have HT := hid (told_at D z k)
        have HNx := hid (take_all_p (p := fun x => x ≠ z) (k := k) · hy)
        have Hy := hid hy
        have Hr := hid hr
        clear hx hx' h6 g6 hr hy HR HO
        by_cases hyz : y = z
        · by_cases hz : 0 ≤ z
          · have dz : decide (0 ≤ z) = true := decide_eq_true hz
            have e := hid (HT.out hz (HN.out hz) (hyz ▸ Hy.out) Hr.out)
            subst hyz
            go_wp2_with fail
            go_ret
            exact ⟨by rw [e.out]; rfl, hb0⟩
          · have dz : decide (0 ≤ z) = false := decide_eq_false hz
            subst hyz
            go_wp2_with fail
            refine ⟨⟨k + 1, hlt, hlt2, by go_num, by first | rfl | trivial, hid (fun h => absurd h hz)⟩, ?_⟩
            simp [intOf]; omega
        · have dy : (y == z) = false := by simp [hyz]
          have HN2 := hid (fun h : 0 ≤ z => HNx.out (HN.out h) hyz)
          clear HNx
          go_wp2_with fail
          refine ⟨⟨k + 1, hlt, hlt2, by go_num, by first | rfl | trivial, HN2⟩, ?_⟩
          simp [intOf]; omega
      · have d2 : decide ((k : Int) < (on : Int)) = false := decide_eq_false (by omega)
        have e := hid (told_not D z k HN.out (.inr (by rw [HOl.out]; omega)))
        go_wp2_with fail
        go_ret
        exact ⟨by rw [e.out]; rfl, hb0⟩
    · have d1 : decide ((k : Int) < (rn : Int)) = false := decide_eq_false (by omega)
      have e := hid (told_not D z k HN.out (.inl (by rw [HRl.out]; omega)))
      go_wp2_with fail
      go_ret
      exact ⟨by rw [e.out]; rfl, hb0⟩

theorem r2Same_G {va vb : Value} {p q : Rat} {E : Bool} (w : World) (ha : RArg w va p 2002) (hb : RArg w vb q 2002) (hE : E = eqQ p q) :
    Calls Tryz.prog 25 #[va, vb] w fun e w' => e = .returned (.bool E) ∧ Below w.heap.size w w' := by
  subst hE
  obtain ⟨s1, A, n, c, A', n', c', xs, ys, rfl, h1, h2, h3, h4, rfl⟩ := ha
  obtain ⟨s2, C, m, d, C', m', d', us, vs, rfl, g1, g2, g3, g4, rfl⟩ := hb
  exact r2Same_any _ _ _ _ _ _ _ _ _ _ _ _ _ _ _ _ _ _ w h1 h2 g1 g2 (by omega) (by omega) (by omega) (by omega)
end Go.Proofs.YtbhieajpodnfpaaGreat
namespace Go.Proofs.YtbhieajpodnfpaaGreat
open Go.RowKit Pg
set_option maxRecDepth 100000 in
set_option maxHeartbeats 8000000 in
theorem rField_in (f0 f1 f2 f5 d0 d1 : Value) (b o b' o' : Nat) (_FA RA _VA OA QA LA : Option Addr) (fn fc rn rc vn vc on oc qn qc ln lc i : Nat) (x : Fld) (q : Rat) (D : VData) (w : World)
    (hF : FldAt w b (o + i * 4) x) (hV : RatAt 1000 w b' (o' + i * 3) q) (hbl : b < w.heap.size) (hbl' : b' < w.heap.size) (hi : i < fn) (hi' : i < vn) (hfn : fn ≤ 140737488355328) (_hvn : vn ≤ 140737488355328) (k : Nat) (hk : x.scale = (k : Int)) (hk9 : k ≤ 9) (hR : SlAt 15 NameAt w RA rn rc D.rules) (hO : SlAt 1 IntAt w OA on oc D.outs) (hP : SlAt 5 BoolAt w QA qn qc D.pins) (hL : SlAt 1 BoolAt w LA ln lc D.filled) :
    Calls Tryz.prog 9 #[.agg #[f0, f1, f2, .slice (some ⟨b, o, none⟩) fn fc, .slice RA rn rc, f5], .agg #[d0, d1, .slice (some ⟨b', o', none⟩) vn vc, .slice OA on oc, .slice QA qn qc, .slice LA ln lc], .int .i64 (i : Int)] w fun e w' => e = .returned (.string (str (lineT x q D i))) ∧ Below w.heap.size w w' := by
  obtain ⟨W0, hW0⟩ : ∃ W0, W0 = (w.alloc (.cells #[f0, f1, f2, .slice (some ⟨b, o, none⟩) fn fc, .slice RA rn rc, f5] 29)).alloc (.cells #[d0, d1, .slice (some ⟨b', o', none⟩) vn vc, .slice OA on oc, .slice QA qn qc, .slice LA ln lc] 40) := ⟨_, rfl⟩
  have HX := hid ((B6n.newg w 29 f0 f1 f2 (.slice (some ⟨b, o, none⟩) fn fc) (.slice RA rn rc) f5 _ rfl).alloc (.cells #[d0, d1, .slice (some ⟨b', o', none⟩) vn vc, .slice OA on oc, .slice QA qn qc, .slice LA ln lc] 40))
  have HY := hid (B6n.newg (w.alloc (.cells #[f0, f1, f2, .slice (some ⟨b, o, none⟩) fn fc, .slice RA rn rc, f5] 29)) 40 d0 d1 (.slice (some ⟨b', o', none⟩) vn vc) (.slice OA on oc) (.slice QA qn qc) (.slice LA ln lc) (w.heap.size + 1) (by simp))
  have hb0 : Below w.heap.size w W0 := by rw [hW0]; exact Below.new_ (Below.new_ (Below.refl _ _) _) _
  rw [← hW0] at HX HY
  have g0 : decide ((i : Int) < 0) = false := decide_eq_false (by omega)
  have g1 : decide ((fn : Int) ≤ (i : Int)) = false := decide_eq_false (by omega)
  have g2 : decide ((vn : Int) ≤ (i : Int)) = false := decide_eq_false (by omega)
  obtain ⟨k0, k1, k2, k3, k4, k5⟩ := HX.out.cells
  obtain ⟨j0, j1, j2, j3, j4, j5⟩ := HY.out.cells
  go_enter Tryz.func9, Tryz.ntmps9
  go_upto_region 1 with fail
  rw [← hW0]
  clear hW0
  go_upto_region 3 with fail
  obtain ⟨w1, hw1⟩ : ∃ w1, W0 = w1 := ⟨_, rfl⟩
  have hb1 : Below W0.heap.size W0 w1 := by rw [← hw1]; exact Below.refl _ _
  rw [hw1]
  rw [hw1] at k0 k1 k2 k3 k4 k5 j0 j1 j2 j3 j4 j5
  clear hw1 g0 g1 g2
  have hbw := Below.then_ hb0 hb1
  have hF1 := fldAt_stays _ _ _ _ _ hbl hF hbw
  obtain ⟨s, A, n, c, A', n', c', xs, ys, hc, hr1, hr2, hn, hn', hp⟩ := ratAt_stays 1000 _ _ _ _ _ hbl' hV hbw
  have m0 := hF1.1.at_ 0 rfl
  have m1 := hF1.1.at_ 1 rfl
  have m2 := hF1.1.at_ 2 rfl
  have m3 := hF1.1.at_ 3 rfl
  have l0 := hc.at_ 0 rfl
  have l1 := hc.at_ 1 rfl
  have l2 := hc.at_ 2 rfl
  rw [Nat.add_zero] at m0 l0
  have HF1 := hid hF1
  have HP := hid hp
  clear hF1 hp hc
  go_cut [7, 8] (fun s7 s8 wd => ∃ g7 g8, s7 = .pointer (some ⟨g7, 0, none⟩) ∧ s8 = .pointer (some ⟨g8, 0, none⟩) ∧ B4n wd g7 61 (.string (str x.name)) (.int .i64 x.page) (.bool x.must) (.int .i64 (k : Int)) ∧ B3 wd g8 53 (.bool s) (.slice A n c) (.slice A' n' c') ∧ w.heap.size ≤ g7 ∧ w.heap.size ≤ g8 ∧ Below w1.heap.size w1 wd)
  case first =>
    have k3a := fun o => keep_alloc k3 o
    have k3b := fun o o' => keep_alloc (keep_alloc k3 o) o'
    have j2a := fun o => keep_alloc j2 o
    have j2b := fun o o' => keep_alloc (keep_alloc j2 o) o'
    have m0a := fun o => keep_alloc m0 o
    have m0b := fun o o' => keep_alloc (keep_alloc m0 o) o'
    have m1a := fun o => keep_alloc m1 o
    have m1b := fun o o' => keep_alloc (keep_alloc m1 o) o'
    have m2a := fun o => keep_alloc m2 o
    have m2b := fun o o' => keep_alloc (keep_alloc m2 o) o'
    have m3a := fun o => keep_alloc m3 o
    have m3b := fun o o' => keep_alloc (keep_alloc m3 o) o'
    have l0a := fun o => keep_alloc l0 o
    have l0b := fun o o' => keep_alloc (keep_alloc l0 o) o'
    have l1a := fun o => keep_alloc l1 o
    have l1b := fun o o' => keep_alloc (keep_alloc l1 o) o'
    have l2a := fun o => keep_alloc l2 o
    have l2b := fun o o' => keep_alloc (keep_alloc l2 o) o'
    go_region
    · go_wp2_with fail
      go_meet
      exact ⟨_, _, rfl, rfl, (B4n.newg w1 _ _ _ _ _ _ rfl).alloc _, B3.newg (w1.alloc _) _ _ _ _ _ (by simp), by have := hbw.size; omega, by have := hbw.size; omega, Go.RowKit.Below.drew (Below.new_ (Below.new_ (Below.refl _ _) _) _)⟩
    · go_wp2_with fail
      go_meet
      exact ⟨_, _, rfl, rfl, B4n.newg (w1.alloc _) _ _ _ _ _ _ (by simp), (B3.new w1 _ _ _ _).alloc _, by have := hbw.size; omega, by have := hbw.size; omega, Go.RowKit.Below.drew (Below.new_ (Below.new_ (Below.refl _ _) _) _)⟩
  case rest =>
    obtain ⟨g7, g8, rfl, rfl, hB7, hB8, hg7, hg8, hbc⟩ := hcut
    clear hF hV hbl hbl' m0 m1 m2 m3 l0 l1 l2 k0 k1 k2 k3 k4 k5 j0 j1 j2 j3 j4 j5
    have hnm := HF1.out.2
    have HA := hid (show RArg wc (.agg #[.bool s, .slice A n c, .slice A' n' c']) q 1000 from ⟨_, _, _, _, _, _, _, _, _, rfl, hr1.below hbc, hr2.below hbc, hn, hn', HP.out⟩)
    have hsq := HA.out.short (by omega)
    have hrs := round_short hsq (show k ≤ 60 by omega)
    have hfx := fixedT_len hsq hk9
    obtain ⟨T1, hT1'⟩ : ∃ T1, x.name ++ [32, 61, 32] ++ fixedT q k = T1 := ⟨_, rfl⟩
    have hT1 := hid hT1'
    have lT1 : T1.length ≤ 140737488400000 := by rw [← hT1', List.length_append, List.length_append, show [(32 : UInt8), 61, 32].length = 3 from rfl]; omega
    obtain ⟨E, hE'⟩ : ∃ E, E = eqQ (roundQ q k) q := ⟨_, rfl⟩
    have hE := hid hE'
    have hbw1 := Below.then_ hbw hbc
    clear hT1' hE' hr1 hr2 HF1 HP hsq
    go_upto_region 4 with fail
    refine draw_hd [37, 38, 39, 40, 41, 42, 43, 44, 9] [.is (.pointer (some ⟨g7, 0, none⟩)), .is (.string (str x.name)), .is (.string (str (x.name ++ [32, 61, 32]))), .is (.agg #[.bool s, .slice A n c, .slice A' n' c']), .is (.pointer (some ⟨g7, 3, none⟩)), .is (.int .i64 (k : Int)), .is (.string (str (fixedT q k))), .is (.string (str T1)), .is (.string (str T1))]
      (by kernel_rfl) (by kernel_rfl) (by kernel_rfl) (by decide) (by kernel_rfl) (by kernel_rfl) ?_ ?_
    · refine ⟨?_, ?_, ?_, ?_, ?_, ?_, ?_, ?_, ?_, trivial⟩
      · intro a w3 hA K hK
        have t7 := hA.old 7 _ rfl rfl
        go_simp
        exact hK _ _ (by first | rfl | exact congrArg _ (by first | rfl | omega | (rw [IntKind.wrap_i64]; omega))) (Below.refl _ _)
      · intro a w3 hA K hK
        have t37 := bt_is hA 0 37 rfl rfl (by kernel_rfl)
        obtain ⟨k0', k1', k2', k3'⟩ := (hB7.below hA.below).cells
        go_simp
        exact hK _ _ (by first | rfl | exact congrArg _ (by first | rfl | omega | (rw [IntKind.wrap_i64]; omega))) (Below.refl _ _)
      · intro a w3 hA K hK
        have t38 := bt_is hA 1 38 rfl rfl (by kernel_rfl)
        have q1 : (Op.stringOp .add (str x.name) ⟨#[32, 61, 32]⟩).run Tryz.prog w3 = .ok (.string (str (x.name ++ [32, 61, 32]))) w3 := add_text x.name [32, 61, 32] (by rw [show [(32 : UInt8), 61, 32].length = 3 from rfl]; omega) w3
        go_simp
        exact hK _ _ rfl (Below.refl _ _)
      · intro a w3 hA K hK
        have t8 := hA.old 8 _ rfl rfl
        obtain ⟨k0, k1, k2, _, _, _⟩ := (hB8.below hA.below).cells
        go_simp
        exact hK _ _ (by first | rfl | exact congrArg _ (by first | rfl | omega | (rw [IntKind.wrap_i64]; omega))) (Below.refl _ _)
      · intro a w3 hA K hK
        have t7 := hA.old 7 _ rfl rfl
        go_simp
        exact hK _ _ (by first | rfl | exact congrArg _ (by first | rfl | omega | (rw [IntKind.wrap_i64]; omega))) (Below.refl _ _)
      · intro a w3 hA K hK
        have t41 := bt_is hA 4 41 rfl rfl (by kernel_rfl)
        obtain ⟨k0', k1', k2', k3'⟩ := (hB7.below hA.below).cells
        go_simp
        exact hK _ _ (by first | rfl | exact congrArg _ (by first | rfl | omega | (rw [IntKind.wrap_i64]; omega))) (Below.refl _ _)
      · intro a w3 hA K hK
        have t40 := bt_is hA 3 40 rfl rfl (by kernel_rfl)
        have t42 := bt_is hA 5 42 rfl rfl (by kernel_rfl)
        have hC := rFixed_any k w3 (HA.out.below hA.below) hk9
        go_simp
        refine hC.mono ?_
        rintro e w4 ⟨rfl, hb⟩
        exact hK _ _ rfl hb
      · intro a w3 hA K hK
        have t39 := bt_is hA 2 39 rfl rfl (by kernel_rfl)
        have t43 := bt_is hA 6 43 rfl rfl (by kernel_rfl)
        have q1 := add_text (x.name ++ [32, 61, 32]) (fixedT q k) (by rw [List.length_append, show [(32 : UInt8), 61, 32].length = 3 from rfl]; omega) w3
        rw [hT1.out] at q1
        go_simp
        exact hK _ _ rfl (Below.refl _ _)
      · intro a w3 hA K hK
        have t44 := bt_is hA 7 44 rfl rfl (by kernel_rfl)
        go_simp
        exact hK _ _ (by first | rfl | exact congrArg _ (by first | rfl | omega | (rw [IntKind.wrap_i64]; omega))) (Below.refl _ _)
    rintro vs w5 hV hb5 act hact
    have hV' := hV.is_
    clear hV
    obtain ⟨_, rfl, hV⟩ := hV'
    have hV' := hV.is_
    clear hV
    obtain ⟨_, rfl, hV⟩ := hV'
    have hV' := hV.is_
    clear hV
    obtain ⟨_, rfl, hV⟩ := hV'
    have hV' := hV.is_
    clear hV
    obtain ⟨_, rfl, hV⟩ := hV'
    have hV' := hV.is_
    clear hV
    obtain ⟨_, rfl, hV⟩ := hV'
    have hV' := hV.is_
    clear hV
    obtain ⟨_, rfl, hV⟩ := hV'
    have hV' := hV.is_
    clear hV
    obtain ⟨_, rfl, hV⟩ := hV'
    have hV' := hV.is_
    clear hV
    obtain ⟨_, rfl, hV⟩ := hV'
    have hV' := hV.is_
    clear hV
    obtain ⟨_, rfl, hV⟩ := hV'
    obtain rfl := hV.nil_
    clear hV
    simp only [puts] at hact
    subst hact
    go_simp
    have HA5 := hid (HA.out.below hb5)
    have hB7b := hB7.below hb5
    have hB8b := hB8.below hb5
    clear HA hB8
    go_upto_region 5 with fail
    refine draw_hd [45, 46, 47, 48, 49, 50] [.is (.agg #[.bool s, .slice A n c, .slice A' n' c']), .is (.pointer (some ⟨g7, 3, none⟩)), .is (.int .i64 (k : Int)), .rat (roundQ q k), .is (.agg #[.bool s, .slice A n c, .slice A' n' c']), .is (.bool E)]
      (by kernel_rfl) (by kernel_rfl) (by kernel_rfl) (by decide) (by kernel_rfl) (by kernel_rfl) ?_ ?_
    · refine ⟨?_, ?_, ?_, ?_, ?_, ?_, trivial⟩
      · intro a w3 hA K hK
        have t8 := hA.old 8 _ rfl rfl
        obtain ⟨k0, k1, k2, _, _, _⟩ := (hB8b.below hA.below).cells
        go_simp
        exact hK _ _ (by first | rfl | exact congrArg _ (by first | rfl | omega | (rw [IntKind.wrap_i64]; omega))) (Below.refl _ _)
      · intro a w3 hA K hK
        have t7 := hA.old 7 _ rfl rfl
        go_simp
        exact hK _ _ (by first | rfl | exact congrArg _ (by first | rfl | omega | (rw [IntKind.wrap_i64]; omega))) (Below.refl _ _)
      · intro a w3 hA K hK
        have t46 := bt_is hA 1 46 rfl rfl (by kernel_rfl)
        obtain ⟨k0', k1', k2', k3'⟩ := (hB7b.below hA.below).cells
        go_simp
        exact hK _ _ (by first | rfl | exact congrArg _ (by first | rfl | omega | (rw [IntKind.wrap_i64]; omega))) (Below.refl _ _)
      · intro a w3 hA K hK
        have t45 := bt_is hA 0 45 rfl rfl (by kernel_rfl)
        have t47 := bt_is hA 2 47 rfl rfl (by kernel_rfl)
        have hC := rRound_any k w3 (HA5.out.below hA.below) hk9
        go_simp
        refine hC.mono ?_
        rintro e w4 ⟨A3, c3, A4, c4, rfl, hr, hr', hb⟩
        exact hK _ _ ⟨_, _, _, _, rfl, hr, hr'⟩ hb
      · intro a w3 hA K hK
        have t8 := hA.old 8 _ rfl rfl
        obtain ⟨k0, k1, k2, _, _, _⟩ := (hB8b.below hA.below).cells
        go_simp
        exact hK _ _ (by first | rfl | exact congrArg _ (by first | rfl | omega | (rw [IntKind.wrap_i64]; omega))) (Below.refl _ _)
      · intro a w3 hA K hK
        obtain ⟨A48, c48, B48, d48, t48, r48, s48⟩ := bt_rat hA 3 48 rfl rfl (by kernel_rfl)
        have t49 := bt_is hA 4 49 rfl rfl (by kernel_rfl)
        have hC := r2Same_G (E := E) w3 (RArg.norm r48 s48 hrs.1 hrs.2) ((HA5.out.below hA.below).mono (by omega : 1000 ≤ 2002)) hE.out
        go_simp
        refine hC.mono ?_
        rintro e w4 ⟨rfl, hb⟩
        exact hK _ _ rfl hb
    rintro vs w7 hV hb7 act hact
    have hV' := hV.is_
    clear hV
    obtain ⟨_, rfl, hV⟩ := hV'
    have hV' := hV.is_
    clear hV
    obtain ⟨_, rfl, hV⟩ := hV'
    have hV' := hV.is_
    clear hV
    obtain ⟨_, rfl, hV⟩ := hV'
    have hV' := hV.rat_
    clear hV
    obtain ⟨A48, c48, B48, d48, _, rfl, r48, s48, hV⟩ := hV'
    have hV' := hV.is_
    clear hV
    obtain ⟨_, rfl, hV⟩ := hV'
    have hV' := hV.is_
    clear hV
    obtain ⟨_, rfl, hV⟩ := hV'
    obtain rfl := hV.nil_
    clear hV
    simp only [puts] at hact
    subst hact
    go_simp
    have hbw7 := Below.then_ (Below.then_ hbw1 hb5) hb7
    have hB7c := hB7b.below hb7
    clear hB7 hB7b hB8b HA5 r48 s48 hrs
    have hX7 := HX.out.below (Below.then_ (Below.then_ (Below.then_ hb1 hbc) hb5) hb7)
    have hY7 := HY.out.below (Below.then_ (Below.then_ (Below.then_ hb1 hbc) hb5) hb7)
    have hR7 := hR.below nameAt_stays hbw7
    have hO7 := hO.below intAt_stays hbw7
    have hP7 := hP.below boolAt_stays hbw7
    have hL7 := hL.below boolAt_stays hbw7
    clear hbw1 hbw hbc hb5 hb7 hb1 hb0 HX HY hR hO hP hL
    have hT := hid (rTold_any f0 f1 f2 (.slice (some ⟨b, o, none⟩) fn fc) f5 d0 d1 (.slice (some ⟨b', o', none⟩) vn vc) (.slice QA qn qc) (.slice LA ln lc) RA OA rn rc on oc D (i : Int) w7 hR7 hO7 (by omega) (by omega))
    have ltd := told_len D (i : Int) hR7
    clear hR7 hO7
    obtain ⟨td, htd'⟩ : ∃ td, told D (i : Int) = td := ⟨_, rfl⟩
    rw [htd'] at hT ltd
    have htd := hid htd'
    clear htd'
    go_upto_if 50 with fail
    obtain ⟨T2, hT2'⟩ : ∃ T2, T1 ++ (if E then [32, 101, 120, 97, 99, 116] else [32, 97, 98, 111, 117, 116]) = T2 := ⟨_, rfl⟩
    have hT2 := hid hT2'
    have lT2 : T2.length ≤ 140737488400010 := by
      rw [← hT2', List.length_append]
      have : (if E then [(32 : UInt8), 101, 120, 97, 99, 116] else [32, 97, 98, 111, 117, 116]).length = 6 := by cases E <;> rfl
      omega
    go_cut [9] (fun s9 wd => s9 = .string (str T2) ∧ w7 = wd)
    case first =>
      have q1 : ∀ W, (Op.stringOp .add (str T1) ⟨#[32, 101, 120, 97, 99, 116]⟩).run Tryz.prog W = .ok (.string (str (T1 ++ [32, 101, 120, 97, 99, 116]))) W := fun W => add_text T1 [32, 101, 120, 97, 99, 116] (by rw [show [(32 : UInt8), 101, 120, 97, 99, 116].length = 6 from rfl]; omega) W
      have q2 : ∀ W, (Op.stringOp .add (str T1) ⟨#[32, 97, 98, 111, 117, 116]⟩).run Tryz.prog W = .ok (.string (str (T1 ++ [32, 97, 98, 111, 117, 116]))) W := fun W => add_text T1 [32, 97, 98, 111, 117, 116] (by rw [show [(32 : UInt8), 97, 98, 111, 117, 116].length = 6 from rfl]; omega) W
      rcases E with _ | _
      · have hT2e : T2 = T1 ++ [32, 97, 98, 111, 117, 116] := by rw [← hT2']; rfl
        have HT2e := hid hT2e
        clear hT2' hT2 hT2e
        go_wp2_with fail
        go_meet
        exact ⟨by rw [HT2e.out], rfl⟩
      · have hT2e : T2 = T1 ++ [32, 101, 120, 97, 99, 116] := by rw [← hT2']; rfl
        have HT2e := hid hT2e
        clear hT2' hT2 hT2e
        go_wp2_with fail
        go_meet
        exact ⟨by rw [HT2e.out], rfl⟩
    case rest =>
    obtain ⟨rfl, rfl⟩ := hcut
    clear hT2'
    obtain ⟨k0, k1, k2, k3, k4, k5⟩ := hX7.cells
    obtain ⟨j0, j1, j2, j3, j4, j5⟩ := hY7.cells
    obtain ⟨hPl, hPc, hPn, hPm, _, hPx⟩ := hP7
    have HL7 := hid hL7
    clear hL7
    obtain ⟨pb, hpb⟩ : ∃ pb, pb = D.pins.getD i false := ⟨_, rfl⟩
    obtain ⟨T3, hT3'⟩ : ∃ T3, T2 ++ (if pb then [32, 112, 105, 110, 110, 101, 100] else []) = T3 := ⟨_, rfl⟩
    have hT3 := hid hT3'
    have lT3 : T3.length ≤ 140737488400020 := by
      rw [← hT3', List.length_append]
      have : (if pb then [(32 : UInt8), 112, 105, 110, 110, 101, 100] else []).length ≤ 7 := by cases pb <;> decide
      omega
    go_upto_region 8 with fail
    go_cut [67] (fun s67 wd => s67 = .bool pb ∧ w7 = wd)
    case first =>
      by_cases hip : i < qn
      · obtain ⟨bp, op, rfl, _, hpx⟩ := hPx (by omega)
        have hlt : i < D.pins.length := by omega
        have hc := (hpx i D.pins[i] (List.getElem?_eq_getElem hlt)).at_ 0 rfl
        have he : D.pins[i] = pb := by rw [hpb]; simp [List.getD, hlt]
        rw [he, Nat.add_zero] at hc
        have hip' : (i : Int) < (qn : Int) := by omega
        clear hpx he hPx hlt hpb hT3' hT3 hT2
        go_wp2_with fail
        go_meet
        exact ⟨by first | rfl | (cases pb <;> rfl), rfl⟩
      · have he : pb = false := by rw [hpb]; simp [List.getD, List.getElem?_eq_none (show D.pins.length ≤ i by omega)]
        have hip' : decide ((i : Int) < (qn : Int)) = false := decide_eq_false (by omega)
        subst he
        clear hPx hpb hT3' hT3 hT2
        go_wp2_with fail
        go_meet
        exact ⟨rfl, rfl⟩
    case rest =>
    obtain ⟨rfl, rfl⟩ := hcut
    go_upto_if 67 with fail
    go_cut [9] (fun s9 wd => s9 = .string (str T3) ∧ w7 = wd)
    case first =>
      have q1 : ∀ W, (Op.stringOp .add (str T2) ⟨#[32, 112, 105, 110, 110, 101, 100]⟩).run Tryz.prog W = .ok (.string (str (T2 ++ [32, 112, 105, 110, 110, 101, 100]))) W := fun W => add_text T2 [32, 112, 105, 110, 110, 101, 100] (by rw [show [(32 : UInt8), 112, 105, 110, 110, 101, 100].length = 7 from rfl]; omega) W
      rcases pb with _ | _
      · have HT3e := hid (show T3 = T2 by rw [← hT3']; simp)
        clear hT3' hT3 hPx hpb hT2
        go_wp2_with fail
        go_meet
        exact ⟨by rw [HT3e.out], rfl⟩
      · have HT3e := hid (show T3 = T2 ++ [32, 112, 105, 110, 110, 101, 100] by rw [← hT3']; rfl)
        clear hT3' hT3 hPx hpb hT2
        go_wp2_with fail
        go_meet
        exact ⟨by rw [HT3e.out], rfl⟩
    case rest =>
    obtain ⟨rfl, rfl⟩ := hcut
    clear hT3'
    go_upto_if 75 with (go_at_call 16; refine hT.out.mono ?_; rintro e w8 ⟨rfl, hb8⟩)
    clear k0 k1 k2 k3 k4 k5 j0 j1 j2 j3 j4 j5 hPx
    have HPB := hid hpb
    clear hpb
    obtain ⟨U, hU'⟩ : ∃ U, [32, 116, 111, 108, 100, 32, 98, 121, 32] ++ td = U := ⟨_, rfl⟩
    have lU : U.length ≤ 140737488355400 := by rw [← hU', List.length_append, show [(32 : UInt8), 116, 111, 108, 100, 32, 98, 121, 32].length = 9 from rfl]; omega
    obtain ⟨T4, hT4'⟩ : ∃ T4, T3 ++ (if td = [] then [] else U) = T4 := ⟨_, rfl⟩
    have hT4 := hid hT4'
    have hU := hid hU'
    have lT4 : T4.length ≤ 281474976800000 := by
      rw [← hT4', List.length_append]
      split
      · simp; omega
      · omega
    go_cut [9] (fun s9 wd => s9 = .string (str T4) ∧ w8 = wd)
    case first =>
      obtain ⟨S1, hS1⟩ : ∃ S1, T3 ++ [32, 116, 111, 108, 100, 32, 98, 121, 32] = S1 := ⟨_, rfl⟩
      have lS1 : S1.length ≤ 281474976800000 := by rw [← hS1, List.length_append, show [(32 : UInt8), 116, 111, 108, 100, 32, 98, 121, 32].length = 9 from rfl]; omega
      have q1 : ∀ W, (Op.stringOp .add (str T3) ⟨#[32, 116, 111, 108, 100, 32, 98, 121, 32]⟩).run Tryz.prog W = .ok (.string (str S1)) W := fun W => by
        rw [← hS1]
        exact add_text T3 [32, 116, 111, 108, 100, 32, 98, 121, 32] (by rw [show [(32 : UInt8), 116, 111, 108, 100, 32, 98, 121, 32].length = 9 from rfl]; omega) W
      have q2 : ∀ W, (Op.stringOp .add (str S1) (str td)).run Tryz.prog W = .ok (.string (str (T3 ++ U))) W := fun W => by
        have h := add_text S1 td (by omega) W
        rw [← hS1, List.append_assoc, hU', hS1] at h
        exact h
      clear hS1
      by_cases h0 : td = []
      · have h1 : (str td).toList.isEmpty = true := by rw [h0, Lib.toList_data]; rfl
        have HT4e := hid (show T4 = T3 by rw [← hT4', if_pos h0]; simp)
        clear hT4' hT4 hU hU' h0 htd q1 q2
        rw [h1]
        go_wp2_with fail
        go_meet
        exact ⟨by rw [HT4e.out], rfl⟩
      · have h1 : (str td).toList.isEmpty = false := isEmpty_of _ (by rw [str_size]; exact List.length_pos_iff.2 h0)
        have HT4e := hid (show T4 = T3 ++ U by rw [← hT4', if_neg h0])
        clear hT4' hT4 hU hU' h0 htd
        rw [h1]
        go_wp2_with fail
        go_meet
        exact ⟨by rw [HT4e.out], rfl⟩
    case rest =>
    obtain ⟨rfl, rfl⟩ := hcut
    clear hT4' hU'
    obtain ⟨m0, m1, m2, m3⟩ := (hB7c.below hb8).cells
    obtain ⟨k0, k1, k2, k3, k4, k5⟩ := (hX7.below hb8).cells
    obtain ⟨j0, j1, j2, j3, j4, j5⟩ := (hY7.below hb8).cells
    obtain ⟨hLl, hLc, hLn, hLm, _, hLx⟩ := HL7.out.below boolAt_stays hb8
    obtain ⟨mu, hmu⟩ : ∃ mu, mu = x.must := ⟨_, rfl⟩
    rw [← hmu] at m2
    obtain ⟨fb, hfb⟩ : ∃ fb, fb = (mu && !D.filled.getD i false) := ⟨_, rfl⟩
    obtain ⟨T5, hT5'⟩ : ∃ T5, T4 ++ (if fb then [32, 109, 105, 115, 115, 105, 110, 103] else []) = T5 := ⟨_, rfl⟩
    have hT5 := hid hT5'
    have HFB := hid hfb
    have HMU := hid hmu
    clear hmu
    go_upto_region 13 with fail
    go_cut [96] (fun s96 wd => s96 = .bool fb ∧ w8 = wd)
    case first =>
      rcases mu with _ | _
      · have he : fb = false := hfb
        subst he
        clear hfb hLx hT5' hT5 HFB HMU
        go_wp2_with fail
        go_meet
        exact ⟨rfl, rfl⟩
      · by_cases hil : i < ln
        · obtain ⟨bp, op, rfl, _, hpx⟩ := hLx (by omega)
          have hlt : i < D.filled.length := by omega
          have hc := (hpx i D.filled[i] (List.getElem?_eq_getElem hlt)).at_ 0 rfl
          obtain ⟨fl, hfl⟩ : ∃ fl, fl = D.filled[i] := ⟨_, rfl⟩
          have he : fb = !fl := by rw [hfb, hfl]; simp [List.getD, hlt]
          rw [← hfl, Nat.mul_one, Nat.add_zero] at hc
          have hil' : decide ((ln : Int) ≤ (i : Int)) = false := decide_eq_false (by omega)
          have hil2 : decide (ln ≤ i) = false := decide_eq_false (by omega)
          subst he
          clear hpx hfl hLx hlt hfb hT5' hT5 HFB HMU
          go_wp2_with fail
          go_meet
          exact ⟨by first | rfl | (cases fl <;> rfl), rfl⟩
        · have he : fb = true := by rw [hfb]; simp [List.getD, List.getElem?_eq_none (show D.filled.length ≤ i by omega)]
          have hil' : decide ((ln : Int) ≤ (i : Int)) = true := decide_eq_true (by omega)
          have hil2 : decide (ln ≤ i) = true := decide_eq_true (by omega)
          subst he
          clear hLx hfb hT5' hT5 HFB HMU
          go_wp2_with fail
          go_meet
          exact ⟨rfl, rfl⟩
    case rest =>
    obtain ⟨rfl, rfl⟩ := hcut
    clear hfb hLx
    go_upto_if 96 with fail
    go_cut [9] (fun s9 wd => s9 = .string (str T5) ∧ w8 = wd)
    case first =>
      have q1 : ∀ W, (Op.stringOp .add (str T4) ⟨#[32, 109, 105, 115, 115, 105, 110, 103]⟩).run Tryz.prog W = .ok (.string (str (T4 ++ [32, 109, 105, 115, 115, 105, 110, 103]))) W := fun W => add_text T4 [32, 109, 105, 115, 115, 105, 110, 103] (by rw [show [(32 : UInt8), 109, 105, 115, 115, 105, 110, 103].length = 8 from rfl]; omega) W
      rcases fb with _ | _
      · have HT5e := hid (show T5 = T4 by rw [← hT5']; simp)
        clear hT5' hT5 HFB
        go_wp2_with fail
        go_meet
        exact ⟨by rw [HT5e.out], rfl⟩
      · have HT5e := hid (show T5 = T4 ++ [32, 109, 105, 115, 115, 105, 110, 103] by rw [← hT5']; rfl)
        clear hT5' hT5 HFB
        go_wp2_with fail
        go_meet
        exact ⟨by rw [HT5e.out], rfl⟩
    case rest =>
    obtain ⟨rfl, rfl⟩ := hcut
    clear hT5'
    go_wp2_with fail
    go_ret
    refine ⟨?_, Below.then_ hbw7 hb8⟩
    have e : lineT x q D i = T5 := by
      unfold lineT
      rw [hk, Int.toNat_natCast, htd.out, ← hE.out, hT1.out, hT2.out, ← HPB.out, hT3.out]
      have h4 := hT4.out
      have h5 := hT5.out
      rw [← hU.out] at h4
      rw [h4, ← HMU.out, ← HFB.out, h5]
    rw [e]; rfl
end Go.Proofs.YtbhieajpodnfpaaGreat
namespace Go.Proofs.YtbhieajpodnfpaaGreat
open Go.RowKit Pg
set_option maxRecDepth 100000 in
set_option maxHeartbeats 1000000 in
theorem rField_out (f0 f1 f2 f4 f5 d0 d1 d3 d4 d5 : Value) (FA VA : Option Addr) (fn fc vn vc : Nat) (z : Int) (w : World) (hz : ¬ (0 ≤ z ∧ z < (fn : Int) ∧ z < (vn : Int))) :
    Calls Tryz.prog 9 #[.agg #[f0, f1, f2, .slice FA fn fc, f4, f5], .agg #[d0, d1, .slice VA vn vc, d3, d4, d5], .int .i64 z] w fun e w' => e = .returned (.string (str [])) ∧ Below w.heap.size w w' := by
  obtain ⟨W0, hW0⟩ : ∃ W0, W0 = (w.alloc (.cells #[f0, f1, f2, .slice FA fn fc, f4, f5] 29)).alloc (.cells #[d0, d1, .slice VA vn vc, d3, d4, d5] 40) := ⟨_, rfl⟩
  have HX := hid ((B6n.newg w 29 f0 f1 f2 (.slice FA fn fc) f4 f5 _ rfl).alloc (.cells #[d0, d1, .slice VA vn vc, d3, d4, d5] 40))
  have HY := hid (B6n.newg (w.alloc (.cells #[f0, f1, f2, .slice FA fn fc, f4, f5] 29)) 40 d0 d1 (.slice VA vn vc) d3 d4 d5 (w.heap.size + 1) (by simp))
  have hb0 : Below w.heap.size w W0 := by rw [hW0]; exact Below.new_ (Below.new_ (Below.refl _ _) _) _
  rw [← hW0] at HX HY
  obtain ⟨k0, k1, k2, k3, k4, k5⟩ := HX.out.cells
  obtain ⟨j0, j1, j2, j3, j4, j5⟩ := HY.out.cells
  by_cases h0 : z < 0
  · have g0 : decide (z < 0) = true := decide_eq_true h0
    go_enter Tryz.func9, Tryz.ntmps9
    go_upto_region 1 with fail
    rw [← hW0]
    clear hW0 hz
    go_wp2_with fail
    go_ret
    exact ⟨rfl, hb0⟩
  · have g0 : decide (z < 0) = false := decide_eq_false h0
    by_cases h1 : (fn : Int) ≤ z
    · have g1 : decide ((fn : Int) ≤ z) = true := decide_eq_true h1
      go_enter Tryz.func9, Tryz.ntmps9
      go_upto_region 1 with fail
      rw [← hW0]
      clear hW0 hz
      go_wp2_with fail
      go_ret
      exact ⟨rfl, hb0⟩
    · have g1 : decide ((fn : Int) ≤ z) = false := decide_eq_false h1
      have g2 : decide ((vn : Int) ≤ z) = true := decide_eq_true (by omega)
      go_enter Tryz.func9, Tryz.ntmps9
      go_upto_region 1 with fail
      rw [← hW0]
      clear hW0 hz
      go_wp2_with fail
      go_ret
      exact ⟨rfl, hb0⟩
theorem rField_all (f0 f1 f5 d0 d1 : Value) (PA FA RA VA OA QA LA : Option Addr) (pn pc fn fc rn rc vn vc on oc qn qc ln lc : Nat) (D : VData) (z : Int) (w : World) (hV : VRead w PA FA RA VA OA QA LA pn pc fn fc rn rc vn vc on oc qn qc ln lc 3 D) (hs : Scaled D) (_hz0 : -9223372036854775808 ≤ z) (_hz1 : z ≤ 9223372036854775807) :
    Calls Tryz.prog 9 #[.agg #[f0, f1, .slice PA pn pc, .slice FA fn fc, .slice RA rn rc, f5], .agg #[d0, d1, .slice VA vn vc, .slice OA on oc, .slice QA qn qc, .slice LA ln lc], .int .i64 z] w fun e w' => e = .returned (.string (str (fieldT D z))) ∧ Below w.heap.size w w' := by
  obtain ⟨hfl, _, hfn, _, _, hf⟩ := hV.flds
  obtain ⟨hvl, _, hvn, _, _, hv⟩ := hV.vals
  by_cases h : 0 ≤ z ∧ z < (fn : Int) ∧ z < (vn : Int)
  · obtain ⟨h0, h1, h2⟩ := h
    obtain ⟨i, rfl⟩ : ∃ i : Nat, z = (i : Int) := ⟨z.toNat, by omega⟩
    obtain ⟨b, o, rfl, hb, hx⟩ := hf (by omega)
    obtain ⟨b', o', rfl, hb', hx'⟩ := hv (by omega)
    have e1 : D.flds[i]? = some (D.flds[i]'(by omega)) := List.getElem?_eq_getElem _
    have e2 : D.vals[i]? = some (D.vals[i]'(by omega)) := List.getElem?_eq_getElem _
    have hsc := hs _ (List.mem_of_getElem? e1)
    have := rField_in f0 f1 (.slice PA pn pc) f5 d0 d1 b o b' o' none RA none OA QA LA fn fc rn rc vn vc on oc qn qc ln lc i _ _ D w (hx i _ e1) ((hx' i _ e2).mono (by omega)) hb hb' (by omega) (by omega) hfn hvn _ (show _ = ((D.flds[i]'(by omega)).scale.toNat : Int) by omega) (by omega) hV.rules hV.outs hV.pins hV.filled
    have e3 : fieldT D (i : Int) = lineT (D.flds[i]'(by omega)) (D.vals[i]'(by omega)) D i := by
      unfold fieldT
      rw [if_pos h0, Int.toNat_natCast, e1, e2]
    rw [e3]
    exact this
  · have e3 : fieldT D z = [] := by
      unfold fieldT
      split
      · split
        · rename_i x q hx hq
          have i1 := (List.getElem?_eq_some_iff.1 hx).1
          have i2 := (List.getElem?_eq_some_iff.1 hq).1
          exact absurd ⟨by omega, by omega, by omega⟩ h
        · rfl
      · rfl
    rw [e3]
    exact rField_out _ _ _ _ _ _ _ _ _ _ _ _ _ _ _ _ _ w h
set_option maxRecDepth 100000 in
set_option maxHeartbeats 4000000 in
theorem rPage_all (f0 f1 f5 d0 d1 : Value) (PA FA RA VA OA QA LA : Option Addr) (pn pc fn fc rn rc vn vc on oc qn qc ln lc : Nat) (D : VData) (z : Int) (w : World) (hV : VRead w PA FA RA VA OA QA LA pn pc fn fc rn rc vn vc on oc qn qc ln lc 3 D) (hs : Scaled D) (hfew : fn ≤ 1000) (hz0 : -9223372036854775808 ≤ z) (hz1 : z ≤ 9223372036854775807) :
    Calls Tryz.prog 11 #[.agg #[f0, f1, .slice PA pn pc, .slice FA fn fc, .slice RA rn rc, f5], .agg #[d0, d1, .slice VA vn vc, .slice OA on oc, .slice QA qn qc, .slice LA ln lc], .int .i64 z] w fun e w' => e = .returned (.string (str (pageT D z))) ∧ Below w.heap.size w w' := by
  obtain ⟨W0, hW0⟩ : ∃ W0, W0 = (w.alloc (.cells #[f0, f1, .slice PA pn pc, .slice FA fn fc, .slice RA rn rc, f5] 29)).alloc (.cells #[d0, d1, .slice VA vn vc, .slice OA on oc, .slice QA qn qc, .slice LA ln lc] 40) := ⟨_, rfl⟩
  have HX := hid ((B6n.newg w 29 f0 f1 (.slice PA pn pc) (.slice FA fn fc) (.slice RA rn rc) f5 _ rfl).alloc (.cells #[d0, d1, .slice VA vn vc, .slice OA on oc, .slice QA qn qc, .slice LA ln lc] 40))
  have HY := hid (B6n.newg (w.alloc (.cells #[f0, f1, .slice PA pn pc, .slice FA fn fc, .slice RA rn rc, f5] 29)) 40 d0 d1 (.slice VA vn vc) (.slice OA on oc) (.slice QA qn qc) (.slice LA ln lc) (w.heap.size + 1) (by simp))
  have hb0 : Below w.heap.size w W0 := by rw [hW0]; exact Below.new_ (Below.new_ (Below.refl _ _) _) _
  rw [← hW0] at HX HY
  have HFi := hid fun W (hW : Below w.heap.size w W) (i : Nat) (hi : i ≤ 1000) => rField_all f0 f1 f5 d0 d1 PA FA RA VA OA QA LA pn pc fn fc rn rc vn vc on oc qn qc ln lc D (i : Int) W (hV.below hW) hs (by omega) (by omega)
  have HFL := hid (fieldT_len hV hs)
  have HPL := hid (pageL_len hV hs z)
  have HFl := hid (hV.flds)
  obtain ⟨hpl, _, hpn, _, _, hp⟩ := hV.pages.below nameAt_stays hb0
  have hpt : pageT D z = if 0 ≤ z ∧ z < (D.pages.length : Int) then pageL D z D.flds.length else [] := rfl
  rw [hpl, hV.flds.1] at hpt
  clear hV hs
  obtain ⟨k0, k1, k2, k3, k4, k5⟩ := HX.out.cells
  obtain ⟨j0, j1, j2, j3, j4, j5⟩ := HY.out.cells
  by_cases h0 : z < 0
  · have d0 : decide (z < 0) = true := decide_eq_true h0
    rw [if_neg (by omega)] at hpt
    have Hpt := hid hpt
    clear hpt hp hpl
    go_enter Tryz.func11, Tryz.ntmps11
    go_upto_region 1 with fail
    rw [← hW0]
    clear hW0
    go_wp2_with fail
    go_ret
    exact ⟨by rw [Hpt.out]; rfl, hb0⟩
  · have d0 : decide (z < 0) = false := decide_eq_false h0
    by_cases h1 : (pn : Int) ≤ z
    · have d1 : decide ((pn : Int) ≤ z) = true := decide_eq_true h1
      rw [if_neg (by omega)] at hpt
      have Hpt := hid hpt
      clear hpt hp hpl
      go_enter Tryz.func11, Tryz.ntmps11
      go_upto_region 1 with fail
      rw [← hW0]
      clear hW0
      go_wp2_with fail
      go_ret
      exact ⟨by rw [Hpt.out]; rfl, hb0⟩
    · have d1 : decide ((pn : Int) ≤ z) = false := decide_eq_false h1
      rw [if_pos (by omega)] at hpt
      have Hpt := hid hpt
      clear hpt
      obtain ⟨p, rfl⟩ : ∃ p : Nat, z = (p : Int) := ⟨z.toNat, by omega⟩
      obtain ⟨b, o, rfl, hb, hx⟩ := hp (by omega)
      have hlt : p < D.pages.length := by omega
      obtain ⟨hc0, hnl⟩ := hx p D.pages[p] (List.getElem?_eq_getElem hlt)
      have c0 : W0.cell? ⟨b, o + p * 2, none⟩ = some (.string (str D.pages[p])) := hc0.at_ 0 rfl
      have hL0 : pageL D (p : Int) 0 = [112, 97, 103, 101, 32] ++ D.pages[p] ++ [10] := by
        unfold pageL
        rw [Int.toNat_natCast, List.getD_eq_getElem?_getD, List.getElem?_eq_getElem hlt]
        rfl
      obtain ⟨nm, hnm⟩ : ∃ nm, D.pages[p] = nm := ⟨_, rfl⟩
      rw [hnm] at c0 hL0 hnl
      have HL0 := hid hL0
      have hpp : p < pn := by omega
      clear hx hc0 hnm hL0 hp hlt hpl
      obtain ⟨T0, hT0⟩ : ∃ T0, [112, 97, 103, 101, 32] ++ nm = T0 := ⟨_, rfl⟩
      have lT0 : T0.length ≤ 140737488355400 := by rw [← hT0, List.length_append, show [(112 : UInt8), 97, 103, 101, 32].length = 5 from rfl]; omega
      have q1 : ∀ W, (Op.stringOp .add ⟨#[112, 97, 103, 101, 32]⟩ (str nm)).run Tryz.prog W = .ok (.string (str T0)) W := fun W => by
        rw [← hT0]
        exact add_text [112, 97, 103, 101, 32] nm (by rw [show [(112 : UInt8), 97, 103, 101, 32].length = 5 from rfl]; omega) W
      have q2 : ∀ W, (Op.stringOp .add (str T0) ⟨#[10]⟩).run Tryz.prog W = .ok (.string (str (pageL D (p : Int) 0))) W := fun W => by
        rw [HL0.out, hT0]
        exact add_text T0 [10] (by simp; omega) W
      clear hT0
      go_enter Tryz.func11, Tryz.ntmps11
      go_upto_region 1 with fail
      rw [← hW0]
      clear hW0
      go_wp2_with fail
      clear q1 q2 c0 k0 k1 k2 k3 k4 k5 j0 j1 j2 j3 j4 j5
      go_loopw [7, 8] (fun s i wr => ∃ k : Nat, k ≤ fn ∧ i = .int .i64 k ∧ s = .string (str (pageL D (p : Int) k)) ∧ Below W0.heap.size W0 wr) (fun _ i _ => fn - (intOf i).toNat)
      case atStart => exact ⟨0, Nat.zero_le _, rfl, rfl, Below.refl _ _⟩
      case round =>
        obtain ⟨k, hk, rfl, rfl, hbr⟩ := hrel
        obtain ⟨k0, k1, k2, k3, k4, k5⟩ := (HX.out.below hbr).cells
        obtain ⟨j0, j1, j2, j3, j4, j5⟩ := (HY.out.below hbr).cells
        by_cases hlt : k < fn
        · have hbw := Below.then_ hb0 hbr
          obtain ⟨hfl, _, _, _, _, hf⟩ := HFl.out.below fldAt_stays hbw
          obtain ⟨b2, o2, rfl, hb2, hx⟩ := hf (by omega)
          have hkl : k < D.flds.length := by omega
          have e1 : D.flds[k]? = some D.flds[k] := List.getElem?_eq_getElem hkl
          obtain ⟨hca, hxn⟩ := hx k _ e1
          obtain ⟨x, hx'⟩ : ∃ x, D.flds[k] = x := ⟨_, rfl⟩
          rw [hx'] at hca e1
          have c1 := hca.at_ 1 rfl
          have hst : pageL D (p : Int) (k + 1) = if x.page = (p : Int) then pageL D (p : Int) k ++ (fieldT D (k : Int) ++ [10]) else pageL D (p : Int) k := by
            rw [pageL, e1]
          have lP := HPL.out k (by omega)
          have lF := HFL.out (k : Int)
          obtain ⟨zp, hzp⟩ : ∃ zp, x.page = zp := ⟨_, rfl⟩
          rw [hzp] at hst c1
          clear hx hca hx' e1 hf hxn hfl hzp
          by_cases hpg : zp = (p : Int)
          · rw [if_pos hpg] at hst
            subst hpg
            have Hst := hid hst
            clear hst
            obtain ⟨P1, hP1⟩ : ∃ P1, pageL D (p : Int) k = P1 := ⟨_, rfl⟩
            obtain ⟨F1, hF1⟩ : ∃ F1, fieldT D (k : Int) = F1 := ⟨_, rfl⟩
            have HFc := hid fun W hW => HFi.out W hW k (by omega)
            rw [hP1] at lP Hst
            rw [hF1] at lF Hst HFc
            rw [hP1]
            clear hP1 hF1 HFi HFL HPL
            rw [← List.append_assoc] at Hst
            obtain ⟨F2, hF2⟩ : ∃ F2, P1 ++ F1 = F2 := ⟨_, rfl⟩
            have lF2 : F2.length ≤ 1155173304420532224 := by rw [← hF2]; simp; omega
            have q1 : ∀ W, (Op.stringOp .add (str P1) (str F1)).run Tryz.prog W = .ok (.string (str F2)) W := fun W => by
              rw [← hF2]
              exact add_text P1 F1 (by omega) W
            rw [hF2] at Hst
            clear hF2
            obtain ⟨P2, hP2⟩ : ∃ P2, F2 ++ [10] = P2 := ⟨_, rfl⟩
            have q2 : ∀ W, (Op.stringOp .add (str F2) ⟨#[10]⟩).run Tryz.prog W = .ok (.string (str P2)) W := fun W => by
              rw [← hP2]
              exact add_text F2 [10] (by simp; omega) W
            rw [hP2] at Hst
            clear hP2
            go_wp2_with (go_at_call 9; refine (HFc.out _ hbw).mono ?_; rintro e w2 ⟨rfl, hb3⟩)
            refine ⟨⟨k + 1, hlt, by go_num, by rw [Hst.out], Below.then_ hbr hb3⟩, ?_⟩
            simp [intOf]; omega
          · have d3 : (zp == (p : Int)) = false := by simp [hpg]
            rw [if_neg hpg] at hst
            have Hst := hid hst
            clear hst HFi HFL HPL
            go_wp2_with fail
            refine ⟨⟨k + 1, hlt, by go_num, by rw [Hst.out], hbr⟩, ?_⟩
            simp [intOf]; omega
        · obtain rfl : k = fn := by omega
          go_wp2_with fail
          go_ret
          exact ⟨by rw [Hpt.out]; rfl, Below.then_ hb0 hbr⟩
set_option maxRecDepth 100000 in
set_option maxHeartbeats 2000000 in
theorem rFloat_all (f0 f1 f2 f4 f5 d0 d1 d3 d4 d5 : Value) (FA VA : Option Addr) (fn fc vn vc : Nat) (D : VData) (z : Int) (w : World) (hFl : SlAt 4 FldAt w FA fn fc D.flds) (hVa : SlAt 3 (RatAt 3) w VA vn vc D.vals) (_hz0 : -9223372036854775808 ≤ z) (_hz1 : z ≤ 9223372036854775807) :
    Calls Tryz.prog 14 #[.agg #[f0, f1, f2, .slice FA fn fc, f4, f5], .agg #[d0, d1, .slice VA vn vc, d3, d4, d5], .int .i64 z] w fun e w' => e = .returned (.float .f64 (floatF D z)) ∧ Below w.heap.size w w' := by
  obtain ⟨W0, hW0⟩ : ∃ W0, W0 = (w.alloc (.cells #[f0, f1, f2, .slice FA fn fc, f4, f5] 29)).alloc (.cells #[d0, d1, .slice VA vn vc, d3, d4, d5] 40) := ⟨_, rfl⟩
  have HX := hid ((B6n.newg w 29 f0 f1 f2 (.slice FA fn fc) f4 f5 _ rfl).alloc (.cells #[d0, d1, .slice VA vn vc, d3, d4, d5] 40))
  have HY := hid (B6n.newg (w.alloc (.cells #[f0, f1, f2, .slice FA fn fc, f4, f5] 29)) 40 d0 d1 (.slice VA vn vc) d3 d4 d5 (w.heap.size + 1) (by simp))
  have hb0 : Below w.heap.size w W0 := by rw [hW0]; exact Below.new_ (Below.new_ (Below.refl _ _) _) _
  rw [← hW0] at HX HY
  have hfl := hFl.1
  have hvl := hVa.1
  have hfn := hFl.2.2.1
  have hvn := hVa.2.2.1
  obtain ⟨k0, k1, k2, k3, k4, k5⟩ := HX.out.cells
  obtain ⟨j0, j1, j2, j3, j4, j5⟩ := HY.out.cells
  by_cases h : 0 ≤ z ∧ z < (fn : Int) ∧ z < (vn : Int)
  · obtain ⟨h0, h1, h2⟩ := h
    obtain ⟨i, rfl⟩ : ∃ i : Nat, z = (i : Int) := ⟨z.toNat, by omega⟩
    have g0 : decide ((i : Int) < 0) = false := decide_eq_false (by omega)
    have g1 : decide ((fn : Int) ≤ (i : Int)) = false := decide_eq_false (by omega)
    have g2 : decide ((vn : Int) ≤ (i : Int)) = false := decide_eq_false (by omega)
    obtain ⟨q, hq⟩ : ∃ q, D.vals[i]? = some q := ⟨D.vals[i]'(by omega), List.getElem?_eq_getElem _⟩
    have e3 := hid (show floatF D (i : Int) = fw q by
      unfold floatF
      rw [if_pos h0, Int.toNat_natCast, List.getElem?_eq_getElem (show i < D.flds.length by omega), hq])
    obtain ⟨_, _, _, _, _, hv⟩ := hVa.below (ratAt_stays 3) hb0
    obtain ⟨b', o', rfl, hbl', hx'⟩ := hv (by omega)
    obtain ⟨s, A, n, c, A', n', c', hc, hra⟩ := (hx' i q hq).arg (Nat.le_refl 3)
    have c0 : W0.cell? ⟨b', o' + i * 3, none⟩ = some (.bool s) := hc.at_ 0 rfl
    have c1 := hc.at_ 1 rfl
    have c2 := hc.at_ 2 rfl
    have HT := hid (r4To_R W0 hra (by omega) (by omega))
    clear hc hx' hv hra hq hVa hFl hfl hvl
    go_enter Tryz.func14, Tryz.ntmps14
    go_upto_region 1 with fail
    rw [← hW0]
    clear hW0
    go_wp2_with (go_at_call 28; refine HT.out.mono ?_; rintro e w2 ⟨rfl, hb2⟩)
    go_ret
    exact ⟨by rw [e3.out]; rfl, Below.then_ hb0 hb2⟩
  · have e3 := hid (show floatF D z = 0 by
      unfold floatF
      split
      · split
        · rename_i x q hx hq
          have i1 := (List.getElem?_eq_some_iff.1 hx).1
          have i2 := (List.getElem?_eq_some_iff.1 hq).1
          exact absurd ⟨by omega, by omega, by omega⟩ h
        · rfl
      · rfl)
    clear hFl hVa hfl hvl
    by_cases h0 : z < 0
    · have g0 : decide (z < 0) = true := decide_eq_true h0
      go_enter Tryz.func14, Tryz.ntmps14
      go_upto_region 1 with fail
      rw [← hW0]
      clear hW0 h
      go_wp2_with fail
      go_ret
      exact ⟨by rw [e3.out]; rfl, hb0⟩
    · have g0 : decide (z < 0) = false := decide_eq_false h0
      by_cases h1 : (fn : Int) ≤ z
      · have g1 : decide ((fn : Int) ≤ z) = true := decide_eq_true h1
        go_enter Tryz.func14, Tryz.ntmps14
        go_upto_region 1 with fail
        rw [← hW0]
        clear hW0 h
        go_wp2_with fail
        go_ret
        exact ⟨by rw [e3.out]; rfl, hb0⟩
      · have g1 : decide ((fn : Int) ≤ z) = false := decide_eq_false h1
        have g2 : decide ((vn : Int) ≤ z) = true := decide_eq_true (by omega)
        go_enter Tryz.func14, Tryz.ntmps14
        go_upto_region 1 with fail
        rw [← hW0]
        clear hW0 h
        go_wp2_with fail
        go_ret
        exact ⟨by rw [e3.out]; rfl, hb0⟩
end Go.Proofs.YtbhieajpodnfpaaGreat
