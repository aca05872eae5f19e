/- Walk · Walk. Conditions: those that each theorem names. -/
import Derived.Test.YtahdlpkncemmaaaGreatZ38
import Derived.Test.YtahdlpkncemmaaaGreatZ36
import Derived.Test.YtahdlpkncemmaaaGreatZ31
namespace Pg
open Go Go.RowKit
theorem drop_cons {α : Type} {l : List α} {j : Nat} {x : α} (h : l[j]? = some x) : l.drop j = x :: l.drop (j + 1) := by
 obtain ⟨hlt, e⟩ := List.getElem?_eq_some_iff.1 h
 rw [List.drop_eq_getElem_cons hlt, e]
theorem keep_split {q : Rat} {v : Int} {l : List TQ} : (if q = 0 then [] else [(⟨v, rwOf q⟩ : TW)]) ++ l.map twOf = (keepT ⟨v, q⟩ l).map twOf := by
 unfold keepT
 by_cases h : q = 0
 ·rw [if_pos h, if_pos (show (⟨v, q⟩ : TQ).c = 0 from h)]; rfl
 ·rw [if_neg h, if_neg (show ¬ (⟨v, q⟩ : TQ).c = 0 from h)]; rfl
end Pg
namespace Go.Proofs.YtahdlpkncemmaaaGreat
open Go.RowKit Pg
set_option maxRecDepth 100000 in
set_option maxHeartbeats 8000000 in
theorem rAdd_C {va vb : Value} {a b : CW} {k : Nat} (w : World) (ha : ConVal w va a) (hb : ConVal w vb b) (hle : a.Le k) (hle' : b.Le k) (hk : k ≤ 100000) (hk1 : 1 ≤ k) (hl : a.t.length ≤ 100000) (hl' : b.t.length ≤ 100000) :
  Calls Tryz.prog 21 #[va, vb] w (ConRet w (cwOf (addC a.q b.q))) := by
 obtain ⟨T, n, m, v0, v1, v2, rfl, hT, hx0⟩ := ha
 obtain ⟨x, rfl, rfl, rfl, hx⟩ := rows_rv hx0
 obtain ⟨T', n', m', v0', v1', v2', rfl, hT', hx0'⟩ := hb
 obtain ⟨x', rfl, rfl, rfl, hx'⟩ := rows_rv hx0'
 obtain ⟨p, hp⟩ : ∃ p, a.r.q + b.r.q = p := ⟨_, rfl⟩
 have HM := hid fun W (hW : Below w.heap.size w W) => r2Add_Q W (hx.below hW) (hx'.below hW) hle.2 hle'.2 (by omega) hk1 hp
 obtain ⟨R, hR⟩ : ∃ R, (addT (a.t.map TW.q) (b.t.map TW.q)).map twOf = R := ⟨_, rfl⟩
 have hn1 : n ≤ 100000 := hT.1 ▸ hl
 have hn2 : n' ≤ 100000 := hT'.1 ▸ hl'
 have HP := hid hp
 have HTa := hid hT
 have HTb := hid hT'
 have HLa := hid hle.1
 have HLb := hid hle'.1
 have HR := hid hR
 clear hx hx0 hx' hx0' hT hT' hp hR hle hle'
 go_enter Tryz.func21, Tryz.ntmps21
 go_upto_region 1 with fail
 refine wp_world (F := fun W => (Bs W w.heap.size 36 [.int .i64 a.s, .slice T n m, .bool x.s, .slice x.A x.n x.c, .slice x.A' x.n' x.c'] ∧ Bs W (w.heap.size + 1) 36 [.int .i64 b.s, .slice T' n' m', .bool x'.s, .slice x'.A x'.n x'.c, .slice x'.A' x'.n' x'.c'] ∧ Bs W (w.heap.size + 2) 36 [.int .i64 0, .slice none 0 0, .bool false, .slice none 0 0, .slice none 0 0]) ∧ Below w.heap.size w W)
  ⟨⟨((Bs.new w _ _ _ rfl).alloc _).alloc _, (Bs.new _ _ _ _ (by simp)).alloc _, Bs.new _ _ _ _ (by simp)⟩, (by repeat first | exact Below.refl _ _ | assumption | refine Pg.Below.then_ ?_ (by assumption) | refine Pg.Below.new_ ?_ _ | refine Pg.Below.drewN_ ?_ _)⟩ ?_
 rintro w1 ⟨⟨HA, HB, HZ⟩, hb1⟩
 refine draw_last [8, 9, 10, 11, 12, 13, 14, 15, 5] [.is (.pointer (some ⟨w.heap.size, 0, none⟩)), .is (.int .i64 a.s), .is (.pointer (some ⟨w.heap.size, 2, none⟩)), .is (.agg #[.bool x.s, .slice x.A x.n x.c, .slice x.A' x.n' x.c']), .is (.pointer (some ⟨w.heap.size + 1, 2, none⟩)), .is (.agg #[.bool x'.s, .slice x'.A x'.n x'.c, .slice x'.A' x'.n' x'.c']), .such (fun W v => ∃ (yX : RV), v = .agg #[.bool yX.s, .slice yX.A yX.n yX.c, .slice yX.A' yX.n' yX.c'] ∧ yX.at W (rwOf (p))), .such (fun W v => ∃ (y14_15 : RV), v = .agg #[.int .i64 a.s, .slice none 0 0, .bool y14_15.s, .slice y14_15.A y14_15.n y14_15.c, .slice y14_15.A' y14_15.n' y14_15.c'] ∧ y14_15.at W (rwOf (p))), .such (fun W v => ∃ (gX : Nat), v = .pointer (some ⟨gX, 0, none⟩) ∧ w1.heap.size ≤ gX ∧ Bs W gX 36 [.int .i64 0, .slice none 0 0, .bool false, .slice none 0 0, .slice none 0 0])]
  (by kernel_rfl) (by kernel_rfl) (by kernel_rfl) (by decide) (by kernel_rfl) (by kernel_rfl) (by kernel_rfl) rfl ?_ ?_
 ·refine ⟨?_, ?_, ?_, ?_, ?_, ?_, ?_, ?_, ?_, trivial⟩
  ·intro a w3 hA K hK
   have t2 := hA.old 2 _ rfl rfl
   go_simp
   exact hK _ _ (by first | rfl | exact congrArg _ (by first | rfl | omega | (rw [IntKind.wrap_i64]; omega))) (Below.refl _ _)
  ·intro a w3 hA K hK
   have t8 := bt_is hA 0 8 rfl rfl (by kernel_rfl)
   have k0 := (HA.below hA.below).cell 0 rfl
   go_simp
   exact hK _ _ (by first | rfl | exact congrArg _ (by first | rfl | omega | (rw [IntKind.wrap_i64]; omega))) (Below.refl _ _)
  ·intro a w3 hA K hK
   have t2 := hA.old 2 _ rfl rfl
   go_simp
   exact hK _ _ (by first | rfl | exact congrArg _ (by first | rfl | omega | (rw [IntKind.wrap_i64]; omega))) (Below.refl _ _)
  ·intro a w3 hA K hK
   have t10 := bt_is hA 2 10 rfl rfl (by kernel_rfl)
   have k0 := (HA.below hA.below).cell 2 rfl
   have k1 := (HA.below hA.below).cell 3 rfl
   have k2 := (HA.below hA.below).cell 4 rfl
   go_simp
   exact hK _ _ (by first | rfl | exact congrArg _ (by first | rfl | omega | (rw [IntKind.wrap_i64]; omega))) (Below.refl _ _)
  ·intro a w3 hA K hK
   have t3 := hA.old 3 _ rfl rfl
   go_simp
   exact hK _ _ (by first | rfl | exact congrArg _ (by first | rfl | omega | (rw [IntKind.wrap_i64]; omega))) (Below.refl _ _)
  ·intro a w3 hA K hK
   have t12 := bt_is hA 4 12 rfl rfl (by kernel_rfl)
   have k0 := (HB.below hA.below).cell 2 rfl
   have k1 := (HB.below hA.below).cell 3 rfl
   have k2 := (HB.below hA.below).cell 4 rfl
   go_simp
   exact hK _ _ (by first | rfl | exact congrArg _ (by first | rfl | omega | (rw [IntKind.wrap_i64]; omega))) (Below.refl _ _)
  ·intro a w3 hA K hK
   have t11 := bt_is hA 3 11 rfl rfl (by kernel_rfl)
   have t13 := bt_is hA 5 13 rfl rfl (by kernel_rfl)
   have hC := HM.out _ (Below.then_ hb1 hA.below)
   go_simp
   refine hC.mono ?_
   rintro e w4 ⟨y, rfl, hy, hb⟩
   exact hK _ _ (fun W hW => ⟨_, rfl, hy.below hW⟩) hb
  ·intro a w3 hA K hK
   have t9 := bt_is hA 1 9 rfl rfl (by kernel_rfl)
   obtain ⟨v14, t14, p14⟩ := bt_such hA 6 14 rfl rfl (by kernel_rfl)
   obtain ⟨y14_15, rfl, hy14_15⟩ := p14 w3 (Below.refl _ _)
   have u9 := t9; rw [Array.getD_eq_getD_getElem?] at u9
   have u14 := t14; rw [Array.getD_eq_getD_getElem?] at u14
   go_simp
   exact hK _ _ (fun W hW => ⟨_, rfl, hy14_15.below hW⟩) (Below.refl _ _)
  ·intro a w3 hA K hK
   go_simp
   exact hK _ _ (fun W hW => ⟨_, rfl, hA.below.size, (Bs.new w3 _ _ _ rfl).below hW⟩) (Below.new_ (Below.refl _ _) _)
 rintro vs wv hV hbv act hact hold hnew K hK
 replace hV := hV.is_; obtain ⟨_, rfl, hV⟩ := hV
 replace hV := hV.is_; obtain ⟨_, rfl, hV⟩ := hV
 replace hV := hV.is_; obtain ⟨_, rfl, hV⟩ := hV
 replace hV := hV.is_; obtain ⟨_, rfl, hV⟩ := hV
 replace hV := hV.is_; obtain ⟨_, rfl, hV⟩ := hV
 replace hV := hV.is_; obtain ⟨_, rfl, hV⟩ := hV
 replace hV := hV.such_; obtain ⟨v14, _, rfl, p14, hV⟩ := hV
 replace hV := hV.such_; obtain ⟨v15, _, rfl, p15, hV⟩ := hV
 replace hV := hV.such_; obtain ⟨v5, _, rfl, p5, hV⟩ := hV
 obtain rfl := hV.nil_
 clear hV
 obtain ⟨y14, rfl, hy14⟩ := p14 wv (Below.refl _ _)
 clear p14
 obtain ⟨y14_15, rfl, hy14_15⟩ := p15 wv (Below.refl _ _)
 clear p15
 obtain ⟨g5, rfl, lg5, hg5⟩ := p5 wv (Below.refl _ _)
 clear p5
 simp only [puts] at hact
 have tq1 := hnew 8 5 _ rfl rfl
 have tq2 := hnew 7 15 _ rfl rfl
 clear hold hnew
 have Hact := hid hact
 clear hact
 clear hy14
 have f0 := hg5.frozen 0
 have f1 := hg5.frozen 1
 have f2 := hg5.frozen 2
 have f3 := hg5.frozen 3
 have f4 := hg5.frozen 4
 have c0 := hg5.cell 0 rfl
 have c1 := hg5.cell 1 rfl
 have c2 := hg5.cell 2 rfl
 have c3 := hg5.cell 3 rfl
 have c4 := hg5.cell 4 rfl
 go_simp
 refine hK _ _ ?_
 have hact := Hact.out
 clear Hact tq1 tq2
 subst hact
 go_simp
 go_upto_region 2 with fail
 refine wp_world (F := Stored wv g5 36 [.int .i64 a.s, .slice none 0 0, .bool y14_15.s, .slice y14_15.A y14_15.n y14_15.c, .slice y14_15.A' y14_15.n' y14_15.c']) (stored5 hg5) ?_
 rintro w2 ⟨HC, hk2, hs2⟩
 have HA2 := (HA.below hbv).grown hk2 (by have := HZ.lt; intro e; injection e with e; omega)
 have HB2 := (HB.below hbv).grown hk2 (by have := HZ.lt; intro e; injection e with e; omega)
 have HZ2 := (HZ.below hbv).grown hk2 (by have := HZ.lt; intro e; injection e with e; omega)
 have hy2 := RowsAt.kept hy14_15 hg5 conU0 hk2
 have hb2 : Below w.heap.size w w2 := Below.trans (Below.then_ hb1 hbv) (Below.kept hk2 (by have := hb1.size; omega) (by have := hb1.size; have := hbv.size; omega))
 have hgw : w.heap.size + 2 < g5 := by have := HZ.lt; omega
 clear hk2 hs2 hg5 lg5 hbv HA HB HZ hb1 c0 c1 c2 c3 c4 f0 f1 f2 f3 f4 hy14_15 HM
 go_wp2_with fail
 go_loopw [6, 7] (fun s6 s7 wr => ∃ (us : List TV) (S : Option Addr) (sc : Nat) (j1 j2 : Nat) (ts : List TW), s6 = .int .i64 (j1 : Int) ∧ s7 = .int .i64 (j2 : Int) ∧ j1 ≤ n ∧ j2 ≤ n' ∧ Hid (ts ++ (addT ((a.t.drop j1).map TW.q) ((b.t.drop j2).map TW.q)).map twOf = R) ∧ us.length ≤ j1 + j2 ∧ Hid (Bs wr w.heap.size 36 [.int .i64 a.s, .slice T n m, .bool x.s, .slice x.A x.n x.c, .slice x.A' x.n' x.c']) ∧ Hid (Bs wr (w.heap.size + 1) 36 [.int .i64 b.s, .slice T' n' m', .bool x'.s, .slice x'.A x'.n x'.c, .slice x'.A' x'.n' x'.c']) ∧ Hid (Bs wr (w.heap.size + 2) 36 [.int .i64 0, .slice none 0 0, .bool false, .slice none 0 0, .slice none 0 0]) ∧ Hid (Bs wr g5 36 [.int .i64 a.s, .slice S us.length sc, .bool y14_15.s, .slice y14_15.A y14_15.n y14_15.c, .slice y14_15.A' y14_15.n' y14_15.c']) ∧ Hid (OwnZ wr (g5 + 1) 65 4 (.slice S us.length sc) us.length (us.flatMap TV.cells)) ∧ Hid (TRead wr us ts) ∧ Hid (y14_15.at wr (rwOf p)) ∧ Below w.heap.size w wr) (fun s6 s7 _ => n + n' - ((intOf s6).toNat + (intOf s7).toNat))
 case atStart => exact ⟨[], none, 0, 0, 0, [], rfl, rfl, Nat.zero_le _, Nat.zero_le _, hid HR.out, Nat.zero_le _, hid HA2, hid HB2, hid HZ2, hid HC, hid (OwnZ.nil _ _ _ _), hid trivial, hid hy2, hb2⟩
 case round =>
  obtain ⟨us, S, sc, j1, j2, ts, rfl, rfl, hj1, hj2, HE, hul, HA, HB, HZ, HC, HO, HRd, HY, hb⟩ := hrel
  clear HA2 HB2 HZ2 hy2 hb2
  have a1 := HA.out.cell 1 rfl
  have b1 := HB.out.cell 1 rfl
  have hne : ∀ k, k ≤ g5 → some k ≠ Value.ownBlock (.slice S us.length sc) := fun k hk e => by have := (HO.out.own.lt _ e.symm).1; omega
  by_cases hL : j1 < n
  ·have dL0 : ((j1 : Int) == (n : Int)) = false := beq_eq_false_iff_ne.2 (by omega)
   have dLi : decide ((j1 : Int) < (n : Int)) = true := decide_eq_true (by omega)
   by_cases hM : j2 < n'
   ·have dM0 : ((j2 : Int) == (n' : Int)) = false := beq_eq_false_iff_ne.2 (by omega)
    obtain ⟨e1L, _, _, _, _, e6L⟩ := HTa.out
    obtain ⟨bL, oL, rfl, hbL, hxL⟩ := e6L (by omega)
    obtain ⟨tL, htL⟩ : ∃ t, a.t[j1]? = some t := ⟨a.t[j1]'(by omega), List.getElem?_eq_getElem _⟩
    obtain ⟨x0L, x1L, x2L, hcL, hu0L⟩ := termAt_stays _ _ _ _ _ hbL (hxL j1 tL htL) hb
    obtain ⟨uL, rfl, rfl, rfl, huL⟩ := rows_rv hu0L
    have HCL := hid hcL
    have HUL := hid huL
    have HleL := HLa.out tL (List.mem_of_getElem? htL)
    have hdL := hid (drop_cons htL)
    have ltL : bL < wr.heap.size := Nat.lt_of_lt_of_le hbL hb.size
    have kL0 : wr.cell? ⟨bL, oL + j1 * 4, none⟩ = some (.int .i64 tL.v) := hcL.at_ 0 rfl
    have iL0 : (0 : Int) ≤ (j1 : Int) := Int.natCast_nonneg _
    have iL1 : (j1 : Int) < (n : Int) := by omega
    clear e1L e6L hxL htL hcL hu0L huL
    obtain ⟨e1M, _, _, _, _, e6M⟩ := HTb.out
    obtain ⟨bM, oM, rfl, hbM, hxM⟩ := e6M (by omega)
    obtain ⟨tM, htM⟩ : ∃ t, b.t[j2]? = some t := ⟨b.t[j2]'(by omega), List.getElem?_eq_getElem _⟩
    obtain ⟨x0M, x1M, x2M, hcM, hu0M⟩ := termAt_stays _ _ _ _ _ hbM (hxM j2 tM htM) hb
    obtain ⟨uM, rfl, rfl, rfl, huM⟩ := rows_rv hu0M
    have HCM := hid hcM
    have HUM := hid huM
    have HleM := HLb.out tM (List.mem_of_getElem? htM)
    have hdM := hid (drop_cons htM)
    have ltM : bM < wr.heap.size := Nat.lt_of_lt_of_le hbM hb.size
    have kM0 : wr.cell? ⟨bM, oM + j2 * 4, none⟩ = some (.int .i64 tM.v) := hcM.at_ 0 rfl
    have iM0 : (0 : Int) ≤ (j2 : Int) := Int.natCast_nonneg _
    have iM1 : (j2 : Int) < (n' : Int) := by omega
    clear e1M e6M hxM htM hcM hu0M huM
    by_cases h1 : tL.v < tM.v
    ·have hd1 := decide_eq_true h1
     go_upto_region 7 with fail
     go_quiet (fail)
     go_upto_region 8 with fail
     refine wp_world (F := fun W => Below wr.heap.size wr W) ⟨rfl, rfl, rfl, Nat.le_refl _, fun _ _ => rfl⟩ ?_
     rintro w4 hb4
     replace HA := hid (HA.out.below hb4)
     replace HB := hid (HB.out.below hb4)
     replace HZ := hid (HZ.out.below hb4)
     replace HC := hid (HC.out.below hb4)
     replace HO := hid (HO.out.below hb4)
     replace HRd := hid (HRd.out.below hb4)
     replace HY := hid (HY.out.below hb4)
     replace HCL := hid (HCL.out.below ltL hb4)
     replace HUL := hid (HUL.out.below hb4)
     replace ltL := Nat.lt_of_lt_of_le ltL hb4.size
     replace HCM := hid (HCM.out.below ltM hb4)
     replace HUM := hid (HUM.out.below hb4)
     replace ltM := Nat.lt_of_lt_of_le ltM hb4.size
     replace hb := Below.then_ hb hb4
     have hgr : g5 < w4.heap.size := HC.out.lt
     clear hb4 a1 b1 kL0 kM0
     refine draw_app2 (Value.ownBlock (.slice S us.length sc)) 14 [83, 84, 85, 86, 87, 88, 89, 90, 91, 92, 93, 94, 95, 96, 97, 98] [.is (.pointer (some ⟨g5, 1, none⟩)), .is (.slice S us.length sc), .is (.pointer (some ⟨w.heap.size, 1, none⟩)), .is (.slice (some ⟨bL, oL, none⟩) n m), .is (.int .i64 (j1 : Int)), .is (.pointer (some ⟨bL, oL + j1 * 4, none⟩)), .is (.pointer (some ⟨bL, oL + j1 * 4, none⟩)), .is (.int .i64 tL.v), .is (.pointer (some ⟨w.heap.size, 1, none⟩)), .is (.slice (some ⟨bL, oL, none⟩) n m), .is (.int .i64 (j1 : Int)), .is (.pointer (some ⟨bL, oL + j1 * 4, none⟩)), .is (.pointer (some ⟨bL, oL + j1 * 4 + 1, none⟩)), .is (.agg #[.bool uL.s, .slice uL.A uL.n uL.c, .slice uL.A' uL.n' uL.c']), .own (fun W v => ∃ (usX : List TV) (SX : Option Addr) (scX : Nat), v = .slice SX usX.length scX ∧ OwnZ W (g5 + 1) 65 4 (.slice SX usX.length scX) usX.length (usX.flatMap TV.cells) ∧ TRead W usX (ts ++ if tL.r.q = 0 then [] else [⟨tL.v, rwOf tL.r.q⟩])), .is (.pointer (some ⟨g5, 1, none⟩))]
      (by kernel_rfl) (by kernel_rfl) (by kernel_rfl) (by decide) (by decide) (by kernel_rfl) (by kernel_rfl) (by kernel_rfl) rfl (by rfl) (fun g hg => (HO.out.own.lt g hg).2) (fun q W1 W2 v hm => by simp at hm) ?_ ?_
     ·refine ⟨?_, ?_, ?_, ?_, ?_, ?_, ?_, ?_, ?_, ?_, ?_, ?_, ?_, ?_, ?_, ?_, trivial⟩
      ·intro a w3 hA hbl K hK
       have t5 := hA.old 5 _ rfl rfl
       go_simp
       exact hK _ _ (by first | rfl | exact congrArg _ (by first | rfl | omega | (rw [IntKind.wrap_i64]; omega))) (Below.refl _ _)
      ·intro a w3 hA hbl K hK
       have t83 := bw_is hA 0 83 rfl rfl (by kernel_rfl)
       have k0 := (HC.out.grown hA.grown (hne _ (by omega))).cell 1 rfl
       go_simp
       exact hK _ _ (by first | rfl | exact congrArg _ (by first | rfl | omega | (rw [IntKind.wrap_i64]; omega))) (Below.refl _ _)
      ·intro a w3 hA hbl K hK
       have t2 := hA.old 2 _ rfl rfl
       go_simp
       exact hK _ _ (by first | rfl | exact congrArg _ (by first | rfl | omega | (rw [IntKind.wrap_i64]; omega))) (Below.refl _ _)
      ·intro a w3 hA hbl K hK
       have t85 := bw_is hA 2 85 rfl rfl (by kernel_rfl)
       have k0 := (HA.out.grown hA.grown (hne _ (by omega))).cell 1 rfl
       go_simp
       exact hK _ _ (by first | rfl | exact congrArg _ (by first | rfl | omega | (rw [IntKind.wrap_i64]; omega))) (Below.refl _ _)
      ·intro a w3 hA hbl K hK
       have t6 := hA.old 6 _ rfl rfl
       go_simp
       exact hK _ _ (by first | rfl | exact congrArg _ (by first | rfl | omega | (rw [IntKind.wrap_i64]; omega))) (Below.refl _ _)
      ·intro a w3 hA hbl K hK
       have t86 := bw_is hA 3 86 rfl rfl (by kernel_rfl)
       have t87 := bw_is hA 4 87 rfl rfl (by kernel_rfl)
       go_simp
       exact hK _ _ (by first | rfl | exact congrArg _ (by first | rfl | omega | (rw [IntKind.wrap_i64]; omega))) (Below.refl _ _)
      ·intro a w3 hA hbl K hK
       have t88 := bw_is hA 5 88 rfl rfl (by kernel_rfl)
       go_simp
       exact hK _ _ (by first | rfl | exact congrArg _ (by first | rfl | omega | (rw [IntKind.wrap_i64]; omega))) (Below.refl _ _)
      ·intro a w3 hA hbl K hK
       have t89 := bw_is hA 6 89 rfl rfl (by kernel_rfl)
       have k0 : w3.cell? ⟨bL, oL + j1 * 4, none⟩ = some (.int .i64 tL.v) := (HCL.out.gr ltL hA.grown (hne _ (by omega))).at_ 0 rfl
       go_simp
       exact hK _ _ (by first | rfl | exact congrArg _ (by first | rfl | omega | (rw [IntKind.wrap_i64]; omega))) (Below.refl _ _)
      ·intro a w3 hA hbl K hK
       have t2 := hA.old 2 _ rfl rfl
       go_simp
       exact hK _ _ (by first | rfl | exact congrArg _ (by first | rfl | omega | (rw [IntKind.wrap_i64]; omega))) (Below.refl _ _)
      ·intro a w3 hA hbl K hK
       have t91 := bw_is hA 8 91 rfl rfl (by kernel_rfl)
       have k0 := (HA.out.grown hA.grown (hne _ (by omega))).cell 1 rfl
       go_simp
       exact hK _ _ (by first | rfl | exact congrArg _ (by first | rfl | omega | (rw [IntKind.wrap_i64]; omega))) (Below.refl _ _)
      ·intro a w3 hA hbl K hK
       have t6 := hA.old 6 _ rfl rfl
       go_simp
       exact hK _ _ (by first | rfl | exact congrArg _ (by first | rfl | omega | (rw [IntKind.wrap_i64]; omega))) (Below.refl _ _)
      ·intro a w3 hA hbl K hK
       have t92 := bw_is hA 9 92 rfl rfl (by kernel_rfl)
       have t93 := bw_is hA 10 93 rfl rfl (by kernel_rfl)
       go_simp
       exact hK _ _ (by first | rfl | exact congrArg _ (by first | rfl | omega | (rw [IntKind.wrap_i64]; omega))) (Below.refl _ _)
      ·intro a w3 hA hbl K hK
       have t94 := bw_is hA 11 94 rfl rfl (by kernel_rfl)
       go_simp
       exact hK _ _ (by first | rfl | exact congrArg _ (by first | rfl | omega | (rw [IntKind.wrap_i64]; omega))) (Below.refl _ _)
      ·intro a w3 hA hbl K hK
       have t95 := bw_is hA 12 95 rfl rfl (by kernel_rfl)
       have k0 := (HCL.out.gr ltL hA.grown (hne _ (by omega))).at_ 1 rfl
       have k1 := (HCL.out.gr ltL hA.grown (hne _ (by omega))).at_ 2 rfl
       have k2 := (HCL.out.gr ltL hA.grown (hne _ (by omega))).at_ 3 rfl
       go_simp
       exact hK _ _ (by first | rfl | exact congrArg _ (by first | rfl | omega | (rw [IntKind.wrap_i64]; omega))) (Below.refl _ _)
      ·intro a w3 hA hbl K hK
       have t84 := bw_is hA 1 84 rfl rfl (by kernel_rfl)
       have t90 := bw_is hA 7 90 rfl rfl (by kernel_rfl)
       have t96 := bw_is hA 13 96 rfl rfl (by kernel_rfl)
       have hC := lay_C (v := tL.v) w3 (HO.out.below hbl) (HRd.out.below hbl) (HUL.out.below hbl) HleL (by omega) hk1 (by have := hbl.size; omega) (by omega)
       go_simp
       refine hC.mono ?_
       rintro e w4 ⟨us', S7, sc7, rfl, hO7, hR7, hk7⟩
       exact hK _ _ (fun W hW => ⟨_, _, _, rfl, hO7.below hW, hR7.below hW⟩) hk7
      ·intro a w3 hA hbl K hK
       have t5 := hA.old 5 _ rfl rfl
       go_simp
       exact hK _ _ (by first | rfl | exact congrArg _ (by first | rfl | omega | (rw [IntKind.wrap_i64]; omega))) (Below.refl _ _)
     rintro vs wv hV hgv act hact hold hnew K hK
     replace hV := hV.is_; obtain ⟨_, rfl, hV⟩ := hV
     replace hV := hV.is_; obtain ⟨_, rfl, hV⟩ := hV
     replace hV := hV.is_; obtain ⟨_, rfl, hV⟩ := hV
     replace hV := hV.is_; obtain ⟨_, rfl, hV⟩ := hV
     replace hV := hV.is_; obtain ⟨_, rfl, hV⟩ := hV
     replace hV := hV.is_; obtain ⟨_, rfl, hV⟩ := hV
     replace hV := hV.is_; obtain ⟨_, rfl, hV⟩ := hV
     replace hV := hV.is_; obtain ⟨_, rfl, hV⟩ := hV
     replace hV := hV.is_; obtain ⟨_, rfl, hV⟩ := hV
     replace hV := hV.is_; obtain ⟨_, rfl, hV⟩ := hV
     replace hV := hV.is_; obtain ⟨_, rfl, hV⟩ := hV
     replace hV := hV.is_; obtain ⟨_, rfl, hV⟩ := hV
     replace hV := hV.is_; obtain ⟨_, rfl, hV⟩ := hV
     replace hV := hV.is_; obtain ⟨_, rfl, hV⟩ := hV
     replace hV := hV.own_; obtain ⟨v97, _, rfl, p97, hV⟩ := hV
     replace hV := hV.is_; obtain ⟨_, rfl, hV⟩ := hV
     obtain rfl := hV.nil_
     clear hV
     obtain ⟨us97, S97, sc97, rfl, hO97, hR97⟩ := p97 wv (Below.refl _ _)
     clear p97
     simp only [puts] at hact
     have tq1 := hnew 15 98 _ rfl rfl
     have tq2 := hnew 14 97 _ rfl rfl
     clear hold hnew
     have Hact := hid hact
     clear hact
     have HC7 := HC.out.grown hgv (hne _ (Nat.le_refl _))
     have f1 := HC7.frozen 1
     have c1 := HC7.cell 1 rfl
     go_simp
     refine hK _ _ ?_
     have hact := Hact.out
     clear Hact tq1 tq2
     subst hact
     go_simp
     go_upto_region 9 with fail
     refine wp_at1 (ds := [.int .i64 a.s, .slice S97 us97.length sc97, .bool y14_15.s, .slice y14_15.A y14_15.n y14_15.c, .slice y14_15.A' y14_15.n' y14_15.c']) HC7 rfl ?_
     rintro w8 ⟨HC8, hk8, hs8⟩
     have kp : Kp g5 w4 w8 := (Kp.ownZ HO.out hgv (by omega) (by omega)).trans (Kp.stored HC7 conU hk8 (Nat.le_refl _))
     have k8 := Kp.stored (B := 0) HC7 conU hk8 (Nat.zero_le _)
     have hul8 : us97.length ≤ us.length + 1 := by rw [hR97.len, HRd.out.len, List.length_append]; split <;> simp
     clear hgv HC7 f1 c1
     go_wp2_with fail
     refine ⟨⟨us97, S97, sc97, j1 + 1, j2, _, by go_num, by go_num, by omega, by omega, hid (by rw [List.append_assoc, ← HE.out, hdL.out, hdM.out, keep_split]; exact congrArg (ts ++ ·) (congrArg (List.map twOf) (addT_keepC (a := tL.q) (b := tM.q) h1))), by omega, hid (HA.out.kp kp (by omega)), hid (HB.out.kp kp (by omega)), hid (HZ.out.kp kp (by omega)), hid HC8, hid (hO97.grown hk8 (hO97.apart (by omega))), hid (hR97.kp k8), hid (HY.out.kp kp), hb.trans (kp.below.mono (by omega))⟩, ?_⟩
     simp [intOf]; omega
    ·have hd1 := decide_eq_false h1
     by_cases h2 : tM.v < tL.v
     ·have hd2 := decide_eq_true h2
      go_upto_region 7 with fail
      go_quiet (fail)
      go_upto_region 10 with fail
      go_quiet (fail)
      go_upto_region 11 with fail
      refine wp_world (F := fun W => Below wr.heap.size wr W) ⟨rfl, rfl, rfl, Nat.le_refl _, fun _ _ => rfl⟩ ?_
      rintro w4 hb4
      replace HA := hid (HA.out.below hb4)
      replace HB := hid (HB.out.below hb4)
      replace HZ := hid (HZ.out.below hb4)
      replace HC := hid (HC.out.below hb4)
      replace HO := hid (HO.out.below hb4)
      replace HRd := hid (HRd.out.below hb4)
      replace HY := hid (HY.out.below hb4)
      replace HCL := hid (HCL.out.below ltL hb4)
      replace HUL := hid (HUL.out.below hb4)
      replace ltL := Nat.lt_of_lt_of_le ltL hb4.size
      replace HCM := hid (HCM.out.below ltM hb4)
      replace HUM := hid (HUM.out.below hb4)
      replace ltM := Nat.lt_of_lt_of_le ltM hb4.size
      replace hb := Below.then_ hb hb4
      have hgr : g5 < w4.heap.size := HC.out.lt
      clear hb4 a1 b1 kL0 kM0
      refine draw_app2 (Value.ownBlock (.slice S us.length sc)) 14 [122, 123, 124, 125, 126, 127, 128, 129, 130, 131, 132, 133, 134, 135, 136, 137] [.is (.pointer (some ⟨g5, 1, none⟩)), .is (.slice S us.length sc), .is (.pointer (some ⟨w.heap.size + 1, 1, none⟩)), .is (.slice (some ⟨bM, oM, none⟩) n' m'), .is (.int .i64 (j2 : Int)), .is (.pointer (some ⟨bM, oM + j2 * 4, none⟩)), .is (.pointer (some ⟨bM, oM + j2 * 4, none⟩)), .is (.int .i64 tM.v), .is (.pointer (some ⟨w.heap.size + 1, 1, none⟩)), .is (.slice (some ⟨bM, oM, none⟩) n' m'), .is (.int .i64 (j2 : Int)), .is (.pointer (some ⟨bM, oM + j2 * 4, none⟩)), .is (.pointer (some ⟨bM, oM + j2 * 4 + 1, none⟩)), .is (.agg #[.bool uM.s, .slice uM.A uM.n uM.c, .slice uM.A' uM.n' uM.c']), .own (fun W v => ∃ (usX : List TV) (SX : Option Addr) (scX : Nat), v = .slice SX usX.length scX ∧ OwnZ W (g5 + 1) 65 4 (.slice SX usX.length scX) usX.length (usX.flatMap TV.cells) ∧ TRead W usX (ts ++ if tM.r.q = 0 then [] else [⟨tM.v, rwOf tM.r.q⟩])), .is (.pointer (some ⟨g5, 1, none⟩))]
       (by kernel_rfl) (by kernel_rfl) (by kernel_rfl) (by decide) (by decide) (by kernel_rfl) (by kernel_rfl) (by kernel_rfl) rfl (by rfl) (fun g hg => (HO.out.own.lt g hg).2) (fun q W1 W2 v hm => by simp at hm) ?_ ?_
      ·refine ⟨?_, ?_, ?_, ?_, ?_, ?_, ?_, ?_, ?_, ?_, ?_, ?_, ?_, ?_, ?_, ?_, trivial⟩
       ·intro a w3 hA hbl K hK
        have t5 := hA.old 5 _ rfl rfl
        go_simp
        exact hK _ _ (by first | rfl | exact congrArg _ (by first | rfl | omega | (rw [IntKind.wrap_i64]; omega))) (Below.refl _ _)
       ·intro a w3 hA hbl K hK
        have t122 := bw_is hA 0 122 rfl rfl (by kernel_rfl)
        have k0 := (HC.out.grown hA.grown (hne _ (by omega))).cell 1 rfl
        go_simp
        exact hK _ _ (by first | rfl | exact congrArg _ (by first | rfl | omega | (rw [IntKind.wrap_i64]; omega))) (Below.refl _ _)
       ·intro a w3 hA hbl K hK
        have t3 := hA.old 3 _ rfl rfl
        go_simp
        exact hK _ _ (by first | rfl | exact congrArg _ (by first | rfl | omega | (rw [IntKind.wrap_i64]; omega))) (Below.refl _ _)
       ·intro a w3 hA hbl K hK
        have t124 := bw_is hA 2 124 rfl rfl (by kernel_rfl)
        have k0 := (HB.out.grown hA.grown (hne _ (by omega))).cell 1 rfl
        go_simp
        exact hK _ _ (by first | rfl | exact congrArg _ (by first | rfl | omega | (rw [IntKind.wrap_i64]; omega))) (Below.refl _ _)
       ·intro a w3 hA hbl K hK
        have t7 := hA.old 7 _ rfl rfl
        go_simp
        exact hK _ _ (by first | rfl | exact congrArg _ (by first | rfl | omega | (rw [IntKind.wrap_i64]; omega))) (Below.refl _ _)
       ·intro a w3 hA hbl K hK
        have t125 := bw_is hA 3 125 rfl rfl (by kernel_rfl)
        have t126 := bw_is hA 4 126 rfl rfl (by kernel_rfl)
        go_simp
        exact hK _ _ (by first | rfl | exact congrArg _ (by first | rfl | omega | (rw [IntKind.wrap_i64]; omega))) (Below.refl _ _)
       ·intro a w3 hA hbl K hK
        have t127 := bw_is hA 5 127 rfl rfl (by kernel_rfl)
        go_simp
        exact hK _ _ (by first | rfl | exact congrArg _ (by first | rfl | omega | (rw [IntKind.wrap_i64]; omega))) (Below.refl _ _)
       ·intro a w3 hA hbl K hK
        have t128 := bw_is hA 6 128 rfl rfl (by kernel_rfl)
        have k0 : w3.cell? ⟨bM, oM + j2 * 4, none⟩ = some (.int .i64 tM.v) := (HCM.out.gr ltM hA.grown (hne _ (by omega))).at_ 0 rfl
        go_simp
        exact hK _ _ (by first | rfl | exact congrArg _ (by first | rfl | omega | (rw [IntKind.wrap_i64]; omega))) (Below.refl _ _)
       ·intro a w3 hA hbl K hK
        have t3 := hA.old 3 _ rfl rfl
        go_simp
        exact hK _ _ (by first | rfl | exact congrArg _ (by first | rfl | omega | (rw [IntKind.wrap_i64]; omega))) (Below.refl _ _)
       ·intro a w3 hA hbl K hK
        have t130 := bw_is hA 8 130 rfl rfl (by kernel_rfl)
        have k0 := (HB.out.grown hA.grown (hne _ (by omega))).cell 1 rfl
        go_simp
        exact hK _ _ (by first | rfl | exact congrArg _ (by first | rfl | omega | (rw [IntKind.wrap_i64]; omega))) (Below.refl _ _)
       ·intro a w3 hA hbl K hK
        have t7 := hA.old 7 _ rfl rfl
        go_simp
        exact hK _ _ (by first | rfl | exact congrArg _ (by first | rfl | omega | (rw [IntKind.wrap_i64]; omega))) (Below.refl _ _)
       ·intro a w3 hA hbl K hK
        have t131 := bw_is hA 9 131 rfl rfl (by kernel_rfl)
        have t132 := bw_is hA 10 132 rfl rfl (by kernel_rfl)
        go_simp
        exact hK _ _ (by first | rfl | exact congrArg _ (by first | rfl | omega | (rw [IntKind.wrap_i64]; omega))) (Below.refl _ _)
       ·intro a w3 hA hbl K hK
        have t133 := bw_is hA 11 133 rfl rfl (by kernel_rfl)
        go_simp
        exact hK _ _ (by first | rfl | exact congrArg _ (by first | rfl | omega | (rw [IntKind.wrap_i64]; omega))) (Below.refl _ _)
       ·intro a w3 hA hbl K hK
        have t134 := bw_is hA 12 134 rfl rfl (by kernel_rfl)
        have k0 := (HCM.out.gr ltM hA.grown (hne _ (by omega))).at_ 1 rfl
        have k1 := (HCM.out.gr ltM hA.grown (hne _ (by omega))).at_ 2 rfl
        have k2 := (HCM.out.gr ltM hA.grown (hne _ (by omega))).at_ 3 rfl
        go_simp
        exact hK _ _ (by first | rfl | exact congrArg _ (by first | rfl | omega | (rw [IntKind.wrap_i64]; omega))) (Below.refl _ _)
       ·intro a w3 hA hbl K hK
        have t123 := bw_is hA 1 123 rfl rfl (by kernel_rfl)
        have t129 := bw_is hA 7 129 rfl rfl (by kernel_rfl)
        have t135 := bw_is hA 13 135 rfl rfl (by kernel_rfl)
        have hC := lay_C (v := tM.v) w3 (HO.out.below hbl) (HRd.out.below hbl) (HUM.out.below hbl) HleM (by omega) hk1 (by have := hbl.size; omega) (by omega)
        go_simp
        refine hC.mono ?_
        rintro e w4 ⟨us', S7, sc7, rfl, hO7, hR7, hk7⟩
        exact hK _ _ (fun W hW => ⟨_, _, _, rfl, hO7.below hW, hR7.below hW⟩) hk7
       ·intro a w3 hA hbl K hK
        have t5 := hA.old 5 _ rfl rfl
        go_simp
        exact hK _ _ (by first | rfl | exact congrArg _ (by first | rfl | omega | (rw [IntKind.wrap_i64]; omega))) (Below.refl _ _)
      rintro vs wv hV hgv act hact hold hnew K hK
      replace hV := hV.is_; obtain ⟨_, rfl, hV⟩ := hV
      replace hV := hV.is_; obtain ⟨_, rfl, hV⟩ := hV
      replace hV := hV.is_; obtain ⟨_, rfl, hV⟩ := hV
      replace hV := hV.is_; obtain ⟨_, rfl, hV⟩ := hV
      replace hV := hV.is_; obtain ⟨_, rfl, hV⟩ := hV
      replace hV := hV.is_; obtain ⟨_, rfl, hV⟩ := hV
      replace hV := hV.is_; obtain ⟨_, rfl, hV⟩ := hV
      replace hV := hV.is_; obtain ⟨_, rfl, hV⟩ := hV
      replace hV := hV.is_; obtain ⟨_, rfl, hV⟩ := hV
      replace hV := hV.is_; obtain ⟨_, rfl, hV⟩ := hV
      replace hV := hV.is_; obtain ⟨_, rfl, hV⟩ := hV
      replace hV := hV.is_; obtain ⟨_, rfl, hV⟩ := hV
      replace hV := hV.is_; obtain ⟨_, rfl, hV⟩ := hV
      replace hV := hV.is_; obtain ⟨_, rfl, hV⟩ := hV
      replace hV := hV.own_; obtain ⟨v136, _, rfl, p136, hV⟩ := hV
      replace hV := hV.is_; obtain ⟨_, rfl, hV⟩ := hV
      obtain rfl := hV.nil_
      clear hV
      obtain ⟨us136, S136, sc136, rfl, hO136, hR136⟩ := p136 wv (Below.refl _ _)
      clear p136
      simp only [puts] at hact
      have tq1 := hnew 15 137 _ rfl rfl
      have tq2 := hnew 14 136 _ rfl rfl
      clear hold hnew
      have Hact := hid hact
      clear hact
      have HC7 := HC.out.grown hgv (hne _ (Nat.le_refl _))
      have f1 := HC7.frozen 1
      have c1 := HC7.cell 1 rfl
      go_simp
      refine hK _ _ ?_
      have hact := Hact.out
      clear Hact tq1 tq2
      subst hact
      go_simp
      go_upto_region 12 with fail
      refine wp_at1 (ds := [.int .i64 a.s, .slice S136 us136.length sc136, .bool y14_15.s, .slice y14_15.A y14_15.n y14_15.c, .slice y14_15.A' y14_15.n' y14_15.c']) HC7 rfl ?_
      rintro w8 ⟨HC8, hk8, hs8⟩
      have kp : Kp g5 w4 w8 := (Kp.ownZ HO.out hgv (by omega) (by omega)).trans (Kp.stored HC7 conU hk8 (Nat.le_refl _))
      have k8 := Kp.stored (B := 0) HC7 conU hk8 (Nat.zero_le _)
      have hul8 : us136.length ≤ us.length + 1 := by rw [hR136.len, HRd.out.len, List.length_append]; split <;> simp
      clear hgv HC7 f1 c1
      go_wp2_with fail
      refine ⟨⟨us136, S136, sc136, j1, j2 + 1, _, by go_num, by go_num, by omega, by omega, hid (by rw [List.append_assoc, ← HE.out, hdL.out, hdM.out, keep_split]; exact congrArg (ts ++ ·) (congrArg (List.map twOf) (addT_keepD (a := tL.q) (b := tM.q) h2))), by omega, hid (HA.out.kp kp (by omega)), hid (HB.out.kp kp (by omega)), hid (HZ.out.kp kp (by omega)), hid HC8, hid (hO136.grown hk8 (hO136.apart (by omega))), hid (hR136.kp k8), hid (HY.out.kp kp), hb.trans (kp.below.mono (by omega))⟩, ?_⟩
      simp [intOf]; omega
     ·have hd2 := decide_eq_false h2
      go_upto_region 7 with fail
      go_quiet (fail)
      go_upto_region 10 with fail
      go_quiet (fail)
      go_upto_region 4 with fail
      refine wp_world (F := fun W => Below wr.heap.size wr W) ⟨rfl, rfl, rfl, Nat.le_refl _, fun _ _ => rfl⟩ ?_
      rintro w4 hb4
      replace HA := hid (HA.out.below hb4)
      replace HB := hid (HB.out.below hb4)
      replace HZ := hid (HZ.out.below hb4)
      replace HC := hid (HC.out.below hb4)
      replace HO := hid (HO.out.below hb4)
      replace HRd := hid (HRd.out.below hb4)
      replace HY := hid (HY.out.below hb4)
      replace HCL := hid (HCL.out.below ltL hb4)
      replace HUL := hid (HUL.out.below hb4)
      replace ltL := Nat.lt_of_lt_of_le ltL hb4.size
      replace HCM := hid (HCM.out.below ltM hb4)
      replace HUM := hid (HUM.out.below hb4)
      replace ltM := Nat.lt_of_lt_of_le ltM hb4.size
      replace hb := Below.then_ hb hb4
      have hgr : g5 < w4.heap.size := HC.out.lt
      clear hb4 a1 b1 kL0 kM0
      refine draw_app2 (Value.ownBlock (.slice S us.length sc)) 21 [28, 29, 30, 31, 32, 33, 34, 35, 36, 37, 38, 39, 40, 41, 42, 43, 44, 45, 46, 47, 48, 49, 50] [.is (.pointer (some ⟨g5, 1, none⟩)), .is (.slice S us.length sc), .is (.pointer (some ⟨w.heap.size, 1, none⟩)), .is (.slice (some ⟨bL, oL, none⟩) n m), .is (.int .i64 (j1 : Int)), .is (.pointer (some ⟨bL, oL + j1 * 4, none⟩)), .is (.pointer (some ⟨bL, oL + j1 * 4, none⟩)), .is (.int .i64 tL.v), .is (.pointer (some ⟨w.heap.size, 1, none⟩)), .is (.slice (some ⟨bL, oL, none⟩) n m), .is (.int .i64 (j1 : Int)), .is (.pointer (some ⟨bL, oL + j1 * 4, none⟩)), .is (.pointer (some ⟨bL, oL + j1 * 4 + 1, none⟩)), .is (.agg #[.bool uL.s, .slice uL.A uL.n uL.c, .slice uL.A' uL.n' uL.c']), .is (.pointer (some ⟨w.heap.size + 1, 1, none⟩)), .is (.slice (some ⟨bM, oM, none⟩) n' m'), .is (.int .i64 (j2 : Int)), .is (.pointer (some ⟨bM, oM + j2 * 4, none⟩)), .is (.pointer (some ⟨bM, oM + j2 * 4 + 1, none⟩)), .is (.agg #[.bool uM.s, .slice uM.A uM.n uM.c, .slice uM.A' uM.n' uM.c']), .such (fun W v => ∃ (yX : RV), v = .agg #[.bool yX.s, .slice yX.A yX.n yX.c, .slice yX.A' yX.n' yX.c'] ∧ yX.at W (rwOf ((tL.r.q + tM.r.q)))), .own (fun W v => ∃ (usX : List TV) (SX : Option Addr) (scX : Nat), v = .slice SX usX.length scX ∧ OwnZ W (g5 + 1) 65 4 (.slice SX usX.length scX) usX.length (usX.flatMap TV.cells) ∧ TRead W usX (ts ++ if (tL.r.q + tM.r.q) = 0 then [] else [⟨tL.v, rwOf (tL.r.q + tM.r.q)⟩])), .is (.pointer (some ⟨g5, 1, none⟩))]
       (by kernel_rfl) (by kernel_rfl) (by kernel_rfl) (by decide) (by decide) (by kernel_rfl) (by kernel_rfl) (by kernel_rfl) rfl (by rfl) (fun g hg => (HO.out.own.lt g hg).2) (fun q W1 W2 v hm hbw hk hq W hW => by simp at hm; subst hm; obtain ⟨y, rfl, hy⟩ := hq W1 (Below.refl _ _); exact ⟨y, rfl, (RV.at.ownZ hy (HO.out.below hbw) hk).below hW⟩) ?_ ?_
      ·refine ⟨?_, ?_, ?_, ?_, ?_, ?_, ?_, ?_, ?_, ?_, ?_, ?_, ?_, ?_, ?_, ?_, ?_, ?_, ?_, ?_, ?_, ?_, ?_, trivial⟩
       ·intro a w3 hA hbl K hK
        have t5 := hA.old 5 _ rfl rfl
        go_simp
        exact hK _ _ (by first | rfl | exact congrArg _ (by first | rfl | omega | (rw [IntKind.wrap_i64]; omega))) (Below.refl _ _)
       ·intro a w3 hA hbl K hK
        have t28 := bw_is hA 0 28 rfl rfl (by kernel_rfl)
        have k0 := (HC.out.grown hA.grown (hne _ (by omega))).cell 1 rfl
        go_simp
        exact hK _ _ (by first | rfl | exact congrArg _ (by first | rfl | omega | (rw [IntKind.wrap_i64]; omega))) (Below.refl _ _)
       ·intro a w3 hA hbl K hK
        have t2 := hA.old 2 _ rfl rfl
        go_simp
        exact hK _ _ (by first | rfl | exact congrArg _ (by first | rfl | omega | (rw [IntKind.wrap_i64]; omega))) (Below.refl _ _)
       ·intro a w3 hA hbl K hK
        have t30 := bw_is hA 2 30 rfl rfl (by kernel_rfl)
        have k0 := (HA.out.grown hA.grown (hne _ (by omega))).cell 1 rfl
        go_simp
        exact hK _ _ (by first | rfl | exact congrArg _ (by first | rfl | omega | (rw [IntKind.wrap_i64]; omega))) (Below.refl _ _)
       ·intro a w3 hA hbl K hK
        have t6 := hA.old 6 _ rfl rfl
        go_simp
        exact hK _ _ (by first | rfl | exact congrArg _ (by first | rfl | omega | (rw [IntKind.wrap_i64]; omega))) (Below.refl _ _)
       ·intro a w3 hA hbl K hK
        have t31 := bw_is hA 3 31 rfl rfl (by kernel_rfl)
        have t32 := bw_is hA 4 32 rfl rfl (by kernel_rfl)
        go_simp
        exact hK _ _ (by first | rfl | exact congrArg _ (by first | rfl | omega | (rw [IntKind.wrap_i64]; omega))) (Below.refl _ _)
       ·intro a w3 hA hbl K hK
        have t33 := bw_is hA 5 33 rfl rfl (by kernel_rfl)
        go_simp
        exact hK _ _ (by first | rfl | exact congrArg _ (by first | rfl | omega | (rw [IntKind.wrap_i64]; omega))) (Below.refl _ _)
       ·intro a w3 hA hbl K hK
        have t34 := bw_is hA 6 34 rfl rfl (by kernel_rfl)
        have k0 : w3.cell? ⟨bL, oL + j1 * 4, none⟩ = some (.int .i64 tL.v) := (HCL.out.gr ltL hA.grown (hne _ (by omega))).at_ 0 rfl
        go_simp
        exact hK _ _ (by first | rfl | exact congrArg _ (by first | rfl | omega | (rw [IntKind.wrap_i64]; omega))) (Below.refl _ _)
       ·intro a w3 hA hbl K hK
        have t2 := hA.old 2 _ rfl rfl
        go_simp
        exact hK _ _ (by first | rfl | exact congrArg _ (by first | rfl | omega | (rw [IntKind.wrap_i64]; omega))) (Below.refl _ _)
       ·intro a w3 hA hbl K hK
        have t36 := bw_is hA 8 36 rfl rfl (by kernel_rfl)
        have k0 := (HA.out.grown hA.grown (hne _ (by omega))).cell 1 rfl
        go_simp
        exact hK _ _ (by first | rfl | exact congrArg _ (by first | rfl | omega | (rw [IntKind.wrap_i64]; omega))) (Below.refl _ _)
       ·intro a w3 hA hbl K hK
        have t6 := hA.old 6 _ rfl rfl
        go_simp
        exact hK _ _ (by first | rfl | exact congrArg _ (by first | rfl | omega | (rw [IntKind.wrap_i64]; omega))) (Below.refl _ _)
       ·intro a w3 hA hbl K hK
        have t37 := bw_is hA 9 37 rfl rfl (by kernel_rfl)
        have t38 := bw_is hA 10 38 rfl rfl (by kernel_rfl)
        go_simp
        exact hK _ _ (by first | rfl | exact congrArg _ (by first | rfl | omega | (rw [IntKind.wrap_i64]; omega))) (Below.refl _ _)
       ·intro a w3 hA hbl K hK
        have t39 := bw_is hA 11 39 rfl rfl (by kernel_rfl)
        go_simp
        exact hK _ _ (by first | rfl | exact congrArg _ (by first | rfl | omega | (rw [IntKind.wrap_i64]; omega))) (Below.refl _ _)
       ·intro a w3 hA hbl K hK
        have t40 := bw_is hA 12 40 rfl rfl (by kernel_rfl)
        have k0 := (HCL.out.gr ltL hA.grown (hne _ (by omega))).at_ 1 rfl
        have k1 := (HCL.out.gr ltL hA.grown (hne _ (by omega))).at_ 2 rfl
        have k2 := (HCL.out.gr ltL hA.grown (hne _ (by omega))).at_ 3 rfl
        go_simp
        exact hK _ _ (by first | rfl | exact congrArg _ (by first | rfl | omega | (rw [IntKind.wrap_i64]; omega))) (Below.refl _ _)
       ·intro a w3 hA hbl K hK
        have t3 := hA.old 3 _ rfl rfl
        go_simp
        exact hK _ _ (by first | rfl | exact congrArg _ (by first | rfl | omega | (rw [IntKind.wrap_i64]; omega))) (Below.refl _ _)
       ·intro a w3 hA hbl K hK
        have t42 := bw_is hA 14 42 rfl rfl (by kernel_rfl)
        have k0 := (HB.out.grown hA.grown (hne _ (by omega))).cell 1 rfl
        go_simp
        exact hK _ _ (by first | rfl | exact congrArg _ (by first | rfl | omega | (rw [IntKind.wrap_i64]; omega))) (Below.refl _ _)
       ·intro a w3 hA hbl K hK
        have t7 := hA.old 7 _ rfl rfl
        go_simp
        exact hK _ _ (by first | rfl | exact congrArg _ (by first | rfl | omega | (rw [IntKind.wrap_i64]; omega))) (Below.refl _ _)
       ·intro a w3 hA hbl K hK
        have t43 := bw_is hA 15 43 rfl rfl (by kernel_rfl)
        have t44 := bw_is hA 16 44 rfl rfl (by kernel_rfl)
        go_simp
        exact hK _ _ (by first | rfl | exact congrArg _ (by first | rfl | omega | (rw [IntKind.wrap_i64]; omega))) (Below.refl _ _)
       ·intro a w3 hA hbl K hK
        have t45 := bw_is hA 17 45 rfl rfl (by kernel_rfl)
        go_simp
        exact hK _ _ (by first | rfl | exact congrArg _ (by first | rfl | omega | (rw [IntKind.wrap_i64]; omega))) (Below.refl _ _)
       ·intro a w3 hA hbl K hK
        have t46 := bw_is hA 18 46 rfl rfl (by kernel_rfl)
        have k0 := (HCM.out.gr ltM hA.grown (hne _ (by omega))).at_ 1 rfl
        have k1 := (HCM.out.gr ltM hA.grown (hne _ (by omega))).at_ 2 rfl
        have k2 := (HCM.out.gr ltM hA.grown (hne _ (by omega))).at_ 3 rfl
        go_simp
        exact hK _ _ (by first | rfl | exact congrArg _ (by first | rfl | omega | (rw [IntKind.wrap_i64]; omega))) (Below.refl _ _)
       ·intro a w3 hA hbl K hK
        have t41 := bw_is hA 13 41 rfl rfl (by kernel_rfl)
        have t47 := bw_is hA 19 47 rfl rfl (by kernel_rfl)
        have hC := r2Add_Q (q := (tL.r.q + tM.r.q)) _ (RV.at.ownZ HUL.out HO.out hA.grown) (RV.at.ownZ HUM.out HO.out hA.grown) HleL HleM (by omega) hk1 rfl
        go_simp
        refine hC.mono ?_
        rintro e w4 ⟨y, rfl, hy, hb⟩
        exact hK _ _ (fun W hW => ⟨_, rfl, hy.below hW⟩) hb
       ·intro a w3 hA hbl K hK
        have t29 := bw_is hA 1 29 rfl rfl (by kernel_rfl)
        have t35 := bw_is hA 7 35 rfl rfl (by kernel_rfl)
        obtain ⟨v48, t48, p48⟩ := bw_such hA 20 48 rfl rfl (by kernel_rfl)
        obtain ⟨y48, rfl, hy48⟩ := p48 w3 (Below.refl _ _)
        have hC := lay_C (v := tL.v) w3 (HO.out.below hbl) (HRd.out.below hbl) hy48 (short_le (((RV.at.short HUL.out HleL hk1).add (RV.at.short HUM.out HleM hk1)))) (by omega) (by omega) (by have := hbl.size; omega) (by omega)
        go_simp
        refine hC.mono ?_
        rintro e w4 ⟨us', S7, sc7, rfl, hO7, hR7, hk7⟩
        exact hK _ _ (fun W hW => ⟨_, _, _, rfl, hO7.below hW, by rw [rwOf_q] at hR7; exact hR7.below hW⟩) hk7
       ·intro a w3 hA hbl K hK
        have t5 := hA.old 5 _ rfl rfl
        go_simp
        exact hK _ _ (by first | rfl | exact congrArg _ (by first | rfl | omega | (rw [IntKind.wrap_i64]; omega))) (Below.refl _ _)
      rintro vs wv hV hgv act hact hold hnew K hK
      replace hV := hV.is_; obtain ⟨_, rfl, hV⟩ := hV
      replace hV := hV.is_; obtain ⟨_, rfl, hV⟩ := hV
      replace hV := hV.is_; obtain ⟨_, rfl, hV⟩ := hV
      replace hV := hV.is_; obtain ⟨_, rfl, hV⟩ := hV
      replace hV := hV.is_; obtain ⟨_, rfl, hV⟩ := hV
      replace hV := hV.is_; obtain ⟨_, rfl, hV⟩ := hV
      replace hV := hV.is_; obtain ⟨_, rfl, hV⟩ := hV
      replace hV := hV.is_; obtain ⟨_, rfl, hV⟩ := hV
      replace hV := hV.is_; obtain ⟨_, rfl, hV⟩ := hV
      replace hV := hV.is_; obtain ⟨_, rfl, hV⟩ := hV
      replace hV := hV.is_; obtain ⟨_, rfl, hV⟩ := hV
      replace hV := hV.is_; obtain ⟨_, rfl, hV⟩ := hV
      replace hV := hV.is_; obtain ⟨_, rfl, hV⟩ := hV
      replace hV := hV.is_; obtain ⟨_, rfl, hV⟩ := hV
      replace hV := hV.is_; obtain ⟨_, rfl, hV⟩ := hV
      replace hV := hV.is_; obtain ⟨_, rfl, hV⟩ := hV
      replace hV := hV.is_; obtain ⟨_, rfl, hV⟩ := hV
      replace hV := hV.is_; obtain ⟨_, rfl, hV⟩ := hV
      replace hV := hV.is_; obtain ⟨_, rfl, hV⟩ := hV
      replace hV := hV.is_; obtain ⟨_, rfl, hV⟩ := hV
      replace hV := hV.such_; obtain ⟨v48, _, rfl, p48, hV⟩ := hV
      replace hV := hV.own_; obtain ⟨v49, _, rfl, p49, hV⟩ := hV
      replace hV := hV.is_; obtain ⟨_, rfl, hV⟩ := hV
      obtain rfl := hV.nil_
      clear hV
      obtain ⟨y48, rfl, hy48⟩ := p48 wv (Below.refl _ _)
      clear p48
      obtain ⟨us49, S49, sc49, rfl, hO49, hR49⟩ := p49 wv (Below.refl _ _)
      clear p49
      simp only [puts] at hact
      have tq1 := hnew 22 50 _ rfl rfl
      have tq2 := hnew 21 49 _ rfl rfl
      clear hold hnew
      have Hact := hid hact
      clear hact
      have HC7 := HC.out.grown hgv (hne _ (Nat.le_refl _))
      have f1 := HC7.frozen 1
      have c1 := HC7.cell 1 rfl
      go_simp
      refine hK _ _ ?_
      have hact := Hact.out
      clear Hact tq1 tq2
      subst hact
      go_simp
      go_upto_region 5 with fail
      refine wp_at1 (ds := [.int .i64 a.s, .slice S49 us49.length sc49, .bool y14_15.s, .slice y14_15.A y14_15.n y14_15.c, .slice y14_15.A' y14_15.n' y14_15.c']) HC7 rfl ?_
      rintro w8 ⟨HC8, hk8, hs8⟩
      have kp : Kp g5 w4 w8 := (Kp.ownZ HO.out hgv (by omega) (by omega)).trans (Kp.stored HC7 conU hk8 (Nat.le_refl _))
      have k8 := Kp.stored (B := 0) HC7 conU hk8 (Nat.zero_le _)
      have hul8 : us49.length ≤ us.length + 1 := by rw [hR49.len, HRd.out.len, List.length_append]; split <;> simp
      clear hgv HC7 f1 c1
      go_wp2_with fail
      refine ⟨⟨us49, S49, sc49, j1 + 1, j2 + 1, _, by go_num, by go_num, by omega, by omega, hid (by rw [List.append_assoc, ← HE.out, hdL.out, hdM.out, keep_split]; exact congrArg (ts ++ ·) (congrArg (List.map twOf) (addT_keepE (a := tL.q) (b := tM.q) (by show tL.v = tM.v; omega)))), by omega, hid (HA.out.kp kp (by omega)), hid (HB.out.kp kp (by omega)), hid (HZ.out.kp kp (by omega)), hid HC8, hid (hO49.grown hk8 (hO49.apart (by omega))), hid (hR49.kp k8), hid (HY.out.kp kp), hb.trans (kp.below.mono (by omega))⟩, ?_⟩
      simp [intOf]; omega
   ·have dM0 : ((j2 : Int) == (n' : Int)) = true := beq_iff_eq.2 (by omega)
    have hdM : Hid (b.t.drop j2 = []) := hid (List.drop_of_length_le (by have := HTb.out.1; omega))
    obtain ⟨e1L, _, _, _, _, e6L⟩ := HTa.out
    obtain ⟨bL, oL, rfl, hbL, hxL⟩ := e6L (by omega)
    obtain ⟨tL, htL⟩ : ∃ t, a.t[j1]? = some t := ⟨a.t[j1]'(by omega), List.getElem?_eq_getElem _⟩
    obtain ⟨x0L, x1L, x2L, hcL, hu0L⟩ := termAt_stays _ _ _ _ _ hbL (hxL j1 tL htL) hb
    obtain ⟨uL, rfl, rfl, rfl, huL⟩ := rows_rv hu0L
    have HCL := hid hcL
    have HUL := hid huL
    have HleL := HLa.out tL (List.mem_of_getElem? htL)
    have hdL := hid (drop_cons htL)
    have ltL : bL < wr.heap.size := Nat.lt_of_lt_of_le hbL hb.size
    have kL0 : wr.cell? ⟨bL, oL + j1 * 4, none⟩ = some (.int .i64 tL.v) := hcL.at_ 0 rfl
    have iL0 : (0 : Int) ≤ (j1 : Int) := Int.natCast_nonneg _
    have iL1 : (j1 : Int) < (n : Int) := by omega
    clear e1L e6L hxL htL hcL hu0L huL
    go_upto_region 7 with fail
    go_quiet (fail)
    go_upto_region 8 with fail
    refine wp_world (F := fun W => Below wr.heap.size wr W) ⟨rfl, rfl, rfl, Nat.le_refl _, fun _ _ => rfl⟩ ?_
    rintro w4 hb4
    replace HA := hid (HA.out.below hb4)
    replace HB := hid (HB.out.below hb4)
    replace HZ := hid (HZ.out.below hb4)
    replace HC := hid (HC.out.below hb4)
    replace HO := hid (HO.out.below hb4)
    replace HRd := hid (HRd.out.below hb4)
    replace HY := hid (HY.out.below hb4)
    replace HCL := hid (HCL.out.below ltL hb4)
    replace HUL := hid (HUL.out.below hb4)
    replace ltL := Nat.lt_of_lt_of_le ltL hb4.size
    replace hb := Below.then_ hb hb4
    have hgr : g5 < w4.heap.size := HC.out.lt
    clear hb4 a1 b1 kL0
    refine draw_app2 (Value.ownBlock (.slice S us.length sc)) 14 [83, 84, 85, 86, 87, 88, 89, 90, 91, 92, 93, 94, 95, 96, 97, 98] [.is (.pointer (some ⟨g5, 1, none⟩)), .is (.slice S us.length sc), .is (.pointer (some ⟨w.heap.size, 1, none⟩)), .is (.slice (some ⟨bL, oL, none⟩) n m), .is (.int .i64 (j1 : Int)), .is (.pointer (some ⟨bL, oL + j1 * 4, none⟩)), .is (.pointer (some ⟨bL, oL + j1 * 4, none⟩)), .is (.int .i64 tL.v), .is (.pointer (some ⟨w.heap.size, 1, none⟩)), .is (.slice (some ⟨bL, oL, none⟩) n m), .is (.int .i64 (j1 : Int)), .is (.pointer (some ⟨bL, oL + j1 * 4, none⟩)), .is (.pointer (some ⟨bL, oL + j1 * 4 + 1, none⟩)), .is (.agg #[.bool uL.s, .slice uL.A uL.n uL.c, .slice uL.A' uL.n' uL.c']), .own (fun W v => ∃ (usX : List TV) (SX : Option Addr) (scX : Nat), v = .slice SX usX.length scX ∧ OwnZ W (g5 + 1) 65 4 (.slice SX usX.length scX) usX.length (usX.flatMap TV.cells) ∧ TRead W usX (ts ++ if tL.r.q = 0 then [] else [⟨tL.v, rwOf tL.r.q⟩])), .is (.pointer (some ⟨g5, 1, none⟩))]
     (by kernel_rfl) (by kernel_rfl) (by kernel_rfl) (by decide) (by decide) (by kernel_rfl) (by kernel_rfl) (by kernel_rfl) rfl (by rfl) (fun g hg => (HO.out.own.lt g hg).2) (fun q W1 W2 v hm => by simp at hm) ?_ ?_
    ·refine ⟨?_, ?_, ?_, ?_, ?_, ?_, ?_, ?_, ?_, ?_, ?_, ?_, ?_, ?_, ?_, ?_, trivial⟩
     ·intro a w3 hA hbl K hK
      have t5 := hA.old 5 _ rfl rfl
      go_simp
      exact hK _ _ (by first | rfl | exact congrArg _ (by first | rfl | omega | (rw [IntKind.wrap_i64]; omega))) (Below.refl _ _)
     ·intro a w3 hA hbl K hK
      have t83 := bw_is hA 0 83 rfl rfl (by kernel_rfl)
      have k0 := (HC.out.grown hA.grown (hne _ (by omega))).cell 1 rfl
      go_simp
      exact hK _ _ (by first | rfl | exact congrArg _ (by first | rfl | omega | (rw [IntKind.wrap_i64]; omega))) (Below.refl _ _)
     ·intro a w3 hA hbl K hK
      have t2 := hA.old 2 _ rfl rfl
      go_simp
      exact hK _ _ (by first | rfl | exact congrArg _ (by first | rfl | omega | (rw [IntKind.wrap_i64]; omega))) (Below.refl _ _)
     ·intro a w3 hA hbl K hK
      have t85 := bw_is hA 2 85 rfl rfl (by kernel_rfl)
      have k0 := (HA.out.grown hA.grown (hne _ (by omega))).cell 1 rfl
      go_simp
      exact hK _ _ (by first | rfl | exact congrArg _ (by first | rfl | omega | (rw [IntKind.wrap_i64]; omega))) (Below.refl _ _)
     ·intro a w3 hA hbl K hK
      have t6 := hA.old 6 _ rfl rfl
      go_simp
      exact hK _ _ (by first | rfl | exact congrArg _ (by first | rfl | omega | (rw [IntKind.wrap_i64]; omega))) (Below.refl _ _)
     ·intro a w3 hA hbl K hK
      have t86 := bw_is hA 3 86 rfl rfl (by kernel_rfl)
      have t87 := bw_is hA 4 87 rfl rfl (by kernel_rfl)
      go_simp
      exact hK _ _ (by first | rfl | exact congrArg _ (by first | rfl | omega | (rw [IntKind.wrap_i64]; omega))) (Below.refl _ _)
     ·intro a w3 hA hbl K hK
      have t88 := bw_is hA 5 88 rfl rfl (by kernel_rfl)
      go_simp
      exact hK _ _ (by first | rfl | exact congrArg _ (by first | rfl | omega | (rw [IntKind.wrap_i64]; omega))) (Below.refl _ _)
     ·intro a w3 hA hbl K hK
      have t89 := bw_is hA 6 89 rfl rfl (by kernel_rfl)
      have k0 : w3.cell? ⟨bL, oL + j1 * 4, none⟩ = some (.int .i64 tL.v) := (HCL.out.gr ltL hA.grown (hne _ (by omega))).at_ 0 rfl
      go_simp
      exact hK _ _ (by first | rfl | exact congrArg _ (by first | rfl | omega | (rw [IntKind.wrap_i64]; omega))) (Below.refl _ _)
     ·intro a w3 hA hbl K hK
      have t2 := hA.old 2 _ rfl rfl
      go_simp
      exact hK _ _ (by first | rfl | exact congrArg _ (by first | rfl | omega | (rw [IntKind.wrap_i64]; omega))) (Below.refl _ _)
     ·intro a w3 hA hbl K hK
      have t91 := bw_is hA 8 91 rfl rfl (by kernel_rfl)
      have k0 := (HA.out.grown hA.grown (hne _ (by omega))).cell 1 rfl
      go_simp
      exact hK _ _ (by first | rfl | exact congrArg _ (by first | rfl | omega | (rw [IntKind.wrap_i64]; omega))) (Below.refl _ _)
     ·intro a w3 hA hbl K hK
      have t6 := hA.old 6 _ rfl rfl
      go_simp
      exact hK _ _ (by first | rfl | exact congrArg _ (by first | rfl | omega | (rw [IntKind.wrap_i64]; omega))) (Below.refl _ _)
     ·intro a w3 hA hbl K hK
      have t92 := bw_is hA 9 92 rfl rfl (by kernel_rfl)
      have t93 := bw_is hA 10 93 rfl rfl (by kernel_rfl)
      go_simp
      exact hK _ _ (by first | rfl | exact congrArg _ (by first | rfl | omega | (rw [IntKind.wrap_i64]; omega))) (Below.refl _ _)
     ·intro a w3 hA hbl K hK
      have t94 := bw_is hA 11 94 rfl rfl (by kernel_rfl)
      go_simp
      exact hK _ _ (by first | rfl | exact congrArg _ (by first | rfl | omega | (rw [IntKind.wrap_i64]; omega))) (Below.refl _ _)
     ·intro a w3 hA hbl K hK
      have t95 := bw_is hA 12 95 rfl rfl (by kernel_rfl)
      have k0 := (HCL.out.gr ltL hA.grown (hne _ (by omega))).at_ 1 rfl
      have k1 := (HCL.out.gr ltL hA.grown (hne _ (by omega))).at_ 2 rfl
      have k2 := (HCL.out.gr ltL hA.grown (hne _ (by omega))).at_ 3 rfl
      go_simp
      exact hK _ _ (by first | rfl | exact congrArg _ (by first | rfl | omega | (rw [IntKind.wrap_i64]; omega))) (Below.refl _ _)
     ·intro a w3 hA hbl K hK
      have t84 := bw_is hA 1 84 rfl rfl (by kernel_rfl)
      have t90 := bw_is hA 7 90 rfl rfl (by kernel_rfl)
      have t96 := bw_is hA 13 96 rfl rfl (by kernel_rfl)
      have hC := lay_C (v := tL.v) w3 (HO.out.below hbl) (HRd.out.below hbl) (HUL.out.below hbl) HleL (by omega) hk1 (by have := hbl.size; omega) (by omega)
      go_simp
      refine hC.mono ?_
      rintro e w4 ⟨us', S7, sc7, rfl, hO7, hR7, hk7⟩
      exact hK _ _ (fun W hW => ⟨_, _, _, rfl, hO7.below hW, hR7.below hW⟩) hk7
     ·intro a w3 hA hbl K hK
      have t5 := hA.old 5 _ rfl rfl
      go_simp
      exact hK _ _ (by first | rfl | exact congrArg _ (by first | rfl | omega | (rw [IntKind.wrap_i64]; omega))) (Below.refl _ _)
    rintro vs wv hV hgv act hact hold hnew K hK
    replace hV := hV.is_; obtain ⟨_, rfl, hV⟩ := hV
    replace hV := hV.is_; obtain ⟨_, rfl, hV⟩ := hV
    replace hV := hV.is_; obtain ⟨_, rfl, hV⟩ := hV
    replace hV := hV.is_; obtain ⟨_, rfl, hV⟩ := hV
    replace hV := hV.is_; obtain ⟨_, rfl, hV⟩ := hV
    replace hV := hV.is_; obtain ⟨_, rfl, hV⟩ := hV
    replace hV := hV.is_; obtain ⟨_, rfl, hV⟩ := hV
    replace hV := hV.is_; obtain ⟨_, rfl, hV⟩ := hV
    replace hV := hV.is_; obtain ⟨_, rfl, hV⟩ := hV
    replace hV := hV.is_; obtain ⟨_, rfl, hV⟩ := hV
    replace hV := hV.is_; obtain ⟨_, rfl, hV⟩ := hV
    replace hV := hV.is_; obtain ⟨_, rfl, hV⟩ := hV
    replace hV := hV.is_; obtain ⟨_, rfl, hV⟩ := hV
    replace hV := hV.is_; obtain ⟨_, rfl, hV⟩ := hV
    replace hV := hV.own_; obtain ⟨v97, _, rfl, p97, hV⟩ := hV
    replace hV := hV.is_; obtain ⟨_, rfl, hV⟩ := hV
    obtain rfl := hV.nil_
    clear hV
    obtain ⟨us97, S97, sc97, rfl, hO97, hR97⟩ := p97 wv (Below.refl _ _)
    clear p97
    simp only [puts] at hact
    have tq1 := hnew 15 98 _ rfl rfl
    have tq2 := hnew 14 97 _ rfl rfl
    clear hold hnew
    have Hact := hid hact
    clear hact
    have HC7 := HC.out.grown hgv (hne _ (Nat.le_refl _))
    have f1 := HC7.frozen 1
    have c1 := HC7.cell 1 rfl
    go_simp
    refine hK _ _ ?_
    have hact := Hact.out
    clear Hact tq1 tq2
    subst hact
    go_simp
    go_upto_region 9 with fail
    refine wp_at1 (ds := [.int .i64 a.s, .slice S97 us97.length sc97, .bool y14_15.s, .slice y14_15.A y14_15.n y14_15.c, .slice y14_15.A' y14_15.n' y14_15.c']) HC7 rfl ?_
    rintro w8 ⟨HC8, hk8, hs8⟩
    have kp : Kp g5 w4 w8 := (Kp.ownZ HO.out hgv (by omega) (by omega)).trans (Kp.stored HC7 conU hk8 (Nat.le_refl _))
    have k8 := Kp.stored (B := 0) HC7 conU hk8 (Nat.zero_le _)
    have hul8 : us97.length ≤ us.length + 1 := by rw [hR97.len, HRd.out.len, List.length_append]; split <;> simp
    clear hgv HC7 f1 c1
    go_wp2_with fail
    refine ⟨⟨us97, S97, sc97, j1 + 1, j2, _, by go_num, by go_num, by omega, by omega, hid (by rw [List.append_assoc, ← HE.out, hdL.out, hdM.out, keep_split]; exact congrArg (ts ++ ·) (congrArg (List.map twOf) (addT_keepL (a := tL.q)))), by omega, hid (HA.out.kp kp (by omega)), hid (HB.out.kp kp (by omega)), hid (HZ.out.kp kp (by omega)), hid HC8, hid (hO97.grown hk8 (hO97.apart (by omega))), hid (hR97.kp k8), hid (HY.out.kp kp), hb.trans (kp.below.mono (by omega))⟩, ?_⟩
    simp [intOf]; omega
  ·by_cases hM : j2 < n'
   ·have dM0 : ((j2 : Int) == (n' : Int)) = false := beq_eq_false_iff_ne.2 (by omega)
    have dL0 : ((j1 : Int) == (n : Int)) = true := beq_iff_eq.2 (by omega)
    have dLi : decide ((j1 : Int) < (n : Int)) = false := decide_eq_false (by omega)
    have dLn : decide (j1 < n) = false := decide_eq_false hL
    have hdL : Hid (a.t.drop j1 = []) := hid (List.drop_of_length_le (by have := HTa.out.1; omega))
    obtain ⟨e1M, _, _, _, _, e6M⟩ := HTb.out
    obtain ⟨bM, oM, rfl, hbM, hxM⟩ := e6M (by omega)
    obtain ⟨tM, htM⟩ : ∃ t, b.t[j2]? = some t := ⟨b.t[j2]'(by omega), List.getElem?_eq_getElem _⟩
    obtain ⟨x0M, x1M, x2M, hcM, hu0M⟩ := termAt_stays _ _ _ _ _ hbM (hxM j2 tM htM) hb
    obtain ⟨uM, rfl, rfl, rfl, huM⟩ := rows_rv hu0M
    have HCM := hid hcM
    have HUM := hid huM
    have HleM := HLb.out tM (List.mem_of_getElem? htM)
    have hdM := hid (drop_cons htM)
    have ltM : bM < wr.heap.size := Nat.lt_of_lt_of_le hbM hb.size
    have kM0 : wr.cell? ⟨bM, oM + j2 * 4, none⟩ = some (.int .i64 tM.v) := hcM.at_ 0 rfl
    have iM0 : (0 : Int) ≤ (j2 : Int) := Int.natCast_nonneg _
    have iM1 : (j2 : Int) < (n' : Int) := by omega
    clear e1M e6M hxM htM hcM hu0M huM
    go_upto_region 7 with fail
    go_quiet (fail)
    go_upto_region 10 with fail
    go_quiet (fail)
    go_upto_region 11 with fail
    refine wp_world (F := fun W => Below wr.heap.size wr W) ⟨rfl, rfl, rfl, Nat.le_refl _, fun _ _ => rfl⟩ ?_
    rintro w4 hb4
    replace HA := hid (HA.out.below hb4)
    replace HB := hid (HB.out.below hb4)
    replace HZ := hid (HZ.out.below hb4)
    replace HC := hid (HC.out.below hb4)
    replace HO := hid (HO.out.below hb4)
    replace HRd := hid (HRd.out.below hb4)
    replace HY := hid (HY.out.below hb4)
    replace HCM := hid (HCM.out.below ltM hb4)
    replace HUM := hid (HUM.out.below hb4)
    replace ltM := Nat.lt_of_lt_of_le ltM hb4.size
    replace hb := Below.then_ hb hb4
    have hgr : g5 < w4.heap.size := HC.out.lt
    clear hb4 a1 b1 kM0
    refine draw_app2 (Value.ownBlock (.slice S us.length sc)) 14 [122, 123, 124, 125, 126, 127, 128, 129, 130, 131, 132, 133, 134, 135, 136, 137] [.is (.pointer (some ⟨g5, 1, none⟩)), .is (.slice S us.length sc), .is (.pointer (some ⟨w.heap.size + 1, 1, none⟩)), .is (.slice (some ⟨bM, oM, none⟩) n' m'), .is (.int .i64 (j2 : Int)), .is (.pointer (some ⟨bM, oM + j2 * 4, none⟩)), .is (.pointer (some ⟨bM, oM + j2 * 4, none⟩)), .is (.int .i64 tM.v), .is (.pointer (some ⟨w.heap.size + 1, 1, none⟩)), .is (.slice (some ⟨bM, oM, none⟩) n' m'), .is (.int .i64 (j2 : Int)), .is (.pointer (some ⟨bM, oM + j2 * 4, none⟩)), .is (.pointer (some ⟨bM, oM + j2 * 4 + 1, none⟩)), .is (.agg #[.bool uM.s, .slice uM.A uM.n uM.c, .slice uM.A' uM.n' uM.c']), .own (fun W v => ∃ (usX : List TV) (SX : Option Addr) (scX : Nat), v = .slice SX usX.length scX ∧ OwnZ W (g5 + 1) 65 4 (.slice SX usX.length scX) usX.length (usX.flatMap TV.cells) ∧ TRead W usX (ts ++ if tM.r.q = 0 then [] else [⟨tM.v, rwOf tM.r.q⟩])), .is (.pointer (some ⟨g5, 1, none⟩))]
     (by kernel_rfl) (by kernel_rfl) (by kernel_rfl) (by decide) (by decide) (by kernel_rfl) (by kernel_rfl) (by kernel_rfl) rfl (by rfl) (fun g hg => (HO.out.own.lt g hg).2) (fun q W1 W2 v hm => by simp at hm) ?_ ?_
    ·refine ⟨?_, ?_, ?_, ?_, ?_, ?_, ?_, ?_, ?_, ?_, ?_, ?_, ?_, ?_, ?_, ?_, trivial⟩
     ·intro a w3 hA hbl K hK
      have t5 := hA.old 5 _ rfl rfl
      go_simp
      exact hK _ _ (by first | rfl | exact congrArg _ (by first | rfl | omega | (rw [IntKind.wrap_i64]; omega))) (Below.refl _ _)
     ·intro a w3 hA hbl K hK
      have t122 := bw_is hA 0 122 rfl rfl (by kernel_rfl)
      have k0 := (HC.out.grown hA.grown (hne _ (by omega))).cell 1 rfl
      go_simp
      exact hK _ _ (by first | rfl | exact congrArg _ (by first | rfl | omega | (rw [IntKind.wrap_i64]; omega))) (Below.refl _ _)
     ·intro a w3 hA hbl K hK
      have t3 := hA.old 3 _ rfl rfl
      go_simp
      exact hK _ _ (by first | rfl | exact congrArg _ (by first | rfl | omega | (rw [IntKind.wrap_i64]; omega))) (Below.refl _ _)
     ·intro a w3 hA hbl K hK
      have t124 := bw_is hA 2 124 rfl rfl (by kernel_rfl)
      have k0 := (HB.out.grown hA.grown (hne _ (by omega))).cell 1 rfl
      go_simp
      exact hK _ _ (by first | rfl | exact congrArg _ (by first | rfl | omega | (rw [IntKind.wrap_i64]; omega))) (Below.refl _ _)
     ·intro a w3 hA hbl K hK
      have t7 := hA.old 7 _ rfl rfl
      go_simp
      exact hK _ _ (by first | rfl | exact congrArg _ (by first | rfl | omega | (rw [IntKind.wrap_i64]; omega))) (Below.refl _ _)
     ·intro a w3 hA hbl K hK
      have t125 := bw_is hA 3 125 rfl rfl (by kernel_rfl)
      have t126 := bw_is hA 4 126 rfl rfl (by kernel_rfl)
      go_simp
      exact hK _ _ (by first | rfl | exact congrArg _ (by first | rfl | omega | (rw [IntKind.wrap_i64]; omega))) (Below.refl _ _)
     ·intro a w3 hA hbl K hK
      have t127 := bw_is hA 5 127 rfl rfl (by kernel_rfl)
      go_simp
      exact hK _ _ (by first | rfl | exact congrArg _ (by first | rfl | omega | (rw [IntKind.wrap_i64]; omega))) (Below.refl _ _)
     ·intro a w3 hA hbl K hK
      have t128 := bw_is hA 6 128 rfl rfl (by kernel_rfl)
      have k0 : w3.cell? ⟨bM, oM + j2 * 4, none⟩ = some (.int .i64 tM.v) := (HCM.out.gr ltM hA.grown (hne _ (by omega))).at_ 0 rfl
      go_simp
      exact hK _ _ (by first | rfl | exact congrArg _ (by first | rfl | omega | (rw [IntKind.wrap_i64]; omega))) (Below.refl _ _)
     ·intro a w3 hA hbl K hK
      have t3 := hA.old 3 _ rfl rfl
      go_simp
      exact hK _ _ (by first | rfl | exact congrArg _ (by first | rfl | omega | (rw [IntKind.wrap_i64]; omega))) (Below.refl _ _)
     ·intro a w3 hA hbl K hK
      have t130 := bw_is hA 8 130 rfl rfl (by kernel_rfl)
      have k0 := (HB.out.grown hA.grown (hne _ (by omega))).cell 1 rfl
      go_simp
      exact hK _ _ (by first | rfl | exact congrArg _ (by first | rfl | omega | (rw [IntKind.wrap_i64]; omega))) (Below.refl _ _)
     ·intro a w3 hA hbl K hK
      have t7 := hA.old 7 _ rfl rfl
      go_simp
      exact hK _ _ (by first | rfl | exact congrArg _ (by first | rfl | omega | (rw [IntKind.wrap_i64]; omega))) (Below.refl _ _)
     ·intro a w3 hA hbl K hK
      have t131 := bw_is hA 9 131 rfl rfl (by kernel_rfl)
      have t132 := bw_is hA 10 132 rfl rfl (by kernel_rfl)
      go_simp
      exact hK _ _ (by first | rfl | exact congrArg _ (by first | rfl | omega | (rw [IntKind.wrap_i64]; omega))) (Below.refl _ _)
     ·intro a w3 hA hbl K hK
      have t133 := bw_is hA 11 133 rfl rfl (by kernel_rfl)
      go_simp
      exact hK _ _ (by first | rfl | exact congrArg _ (by first | rfl | omega | (rw [IntKind.wrap_i64]; omega))) (Below.refl _ _)
     ·intro a w3 hA hbl K hK
      have t134 := bw_is hA 12 134 rfl rfl (by kernel_rfl)
      have k0 := (HCM.out.gr ltM hA.grown (hne _ (by omega))).at_ 1 rfl
      have k1 := (HCM.out.gr ltM hA.grown (hne _ (by omega))).at_ 2 rfl
      have k2 := (HCM.out.gr ltM hA.grown (hne _ (by omega))).at_ 3 rfl
      go_simp
      exact hK _ _ (by first | rfl | exact congrArg _ (by first | rfl | omega | (rw [IntKind.wrap_i64]; omega))) (Below.refl _ _)
     ·intro a w3 hA hbl K hK
      have t123 := bw_is hA 1 123 rfl rfl (by kernel_rfl)
      have t129 := bw_is hA 7 129 rfl rfl (by kernel_rfl)
      have t135 := bw_is hA 13 135 rfl rfl (by kernel_rfl)
      have hC := lay_C (v := tM.v) w3 (HO.out.below hbl) (HRd.out.below hbl) (HUM.out.below hbl) HleM (by omega) hk1 (by have := hbl.size; omega) (by omega)
      go_simp
      refine hC.mono ?_
      rintro e w4 ⟨us', S7, sc7, rfl, hO7, hR7, hk7⟩
      exact hK _ _ (fun W hW => ⟨_, _, _, rfl, hO7.below hW, hR7.below hW⟩) hk7
     ·intro a w3 hA hbl K hK
      have t5 := hA.old 5 _ rfl rfl
      go_simp
      exact hK _ _ (by first | rfl | exact congrArg _ (by first | rfl | omega | (rw [IntKind.wrap_i64]; omega))) (Below.refl _ _)
    rintro vs wv hV hgv act hact hold hnew K hK
    replace hV := hV.is_; obtain ⟨_, rfl, hV⟩ := hV
    replace hV := hV.is_; obtain ⟨_, rfl, hV⟩ := hV
    replace hV := hV.is_; obtain ⟨_, rfl, hV⟩ := hV
    replace hV := hV.is_; obtain ⟨_, rfl, hV⟩ := hV
    replace hV := hV.is_; obtain ⟨_, rfl, hV⟩ := hV
    replace hV := hV.is_; obtain ⟨_, rfl, hV⟩ := hV
    replace hV := hV.is_; obtain ⟨_, rfl, hV⟩ := hV
    replace hV := hV.is_; obtain ⟨_, rfl, hV⟩ := hV
    replace hV := hV.is_; obtain ⟨_, rfl, hV⟩ := hV
    replace hV := hV.is_; obtain ⟨_, rfl, hV⟩ := hV
    replace hV := hV.is_; obtain ⟨_, rfl, hV⟩ := hV
    replace hV := hV.is_; obtain ⟨_, rfl, hV⟩ := hV
    replace hV := hV.is_; obtain ⟨_, rfl, hV⟩ := hV
    replace hV := hV.is_; obtain ⟨_, rfl, hV⟩ := hV
    replace hV := hV.own_; obtain ⟨v136, _, rfl, p136, hV⟩ := hV
    replace hV := hV.is_; obtain ⟨_, rfl, hV⟩ := hV
    obtain rfl := hV.nil_
    clear hV
    obtain ⟨us136, S136, sc136, rfl, hO136, hR136⟩ := p136 wv (Below.refl _ _)
    clear p136
    simp only [puts] at hact
    have tq1 := hnew 15 137 _ rfl rfl
    have tq2 := hnew 14 136 _ rfl rfl
    clear hold hnew
    have Hact := hid hact
    clear hact
    have HC7 := HC.out.grown hgv (hne _ (Nat.le_refl _))
    have f1 := HC7.frozen 1
    have c1 := HC7.cell 1 rfl
    go_simp
    refine hK _ _ ?_
    have hact := Hact.out
    clear Hact tq1 tq2
    subst hact
    go_simp
    go_upto_region 12 with fail
    refine wp_at1 (ds := [.int .i64 a.s, .slice S136 us136.length sc136, .bool y14_15.s, .slice y14_15.A y14_15.n y14_15.c, .slice y14_15.A' y14_15.n' y14_15.c']) HC7 rfl ?_
    rintro w8 ⟨HC8, hk8, hs8⟩
    have kp : Kp g5 w4 w8 := (Kp.ownZ HO.out hgv (by omega) (by omega)).trans (Kp.stored HC7 conU hk8 (Nat.le_refl _))
    have k8 := Kp.stored (B := 0) HC7 conU hk8 (Nat.zero_le _)
    have hul8 : us136.length ≤ us.length + 1 := by rw [hR136.len, HRd.out.len, List.length_append]; split <;> simp
    clear hgv HC7 f1 c1
    go_wp2_with fail
    refine ⟨⟨us136, S136, sc136, j1, j2 + 1, _, by go_num, by go_num, by omega, by omega, hid (by rw [List.append_assoc, ← HE.out, hdL.out, hdM.out, keep_split]; exact congrArg (ts ++ ·) (congrArg (List.map twOf) (addT_keepM (b := tM.q)))), by omega, hid (HA.out.kp kp (by omega)), hid (HB.out.kp kp (by omega)), hid (HZ.out.kp kp (by omega)), hid HC8, hid (hO136.grown hk8 (hO136.apart (by omega))), hid (hR136.kp k8), hid (HY.out.kp kp), hb.trans (kp.below.mono (by omega))⟩, ?_⟩
    simp [intOf]; omega
   ·have hts : ts = R := by
     have := HE.out
     rw [List.drop_of_length_le (by have := HTa.out.1; omega), List.drop_of_length_le (by have := HTb.out.1; omega)] at this
     simpa [addT] using this
    subst hts
    have c0 := HC.out.cell 0 rfl
    have c1 := HC.out.cell 1 rfl
    have c2 := HC.out.cell 2 rfl
    have c3 := HC.out.cell 3 rfl
    have c4 := HC.out.cell 4 rfl
    have z0 := HZ.out.cell 0 rfl
    have z1 := HZ.out.cell 1 rfl
    have z2 := HZ.out.cell 2 rfl
    have z3 := HZ.out.cell 3 rfl
    have z4 := HZ.out.cell 4 rfl
    have f0 := HZ.out.frozen 0
    have f1 := HZ.out.frozen 1
    have f2 := HZ.out.frozen 2
    have f3 := HZ.out.frozen 3
    have f4 := HZ.out.frozen 4
    go_wp2_with fail
    refine bp_world (F := Stored wr (w.heap.size + 1 + 1) 36 [.int .i64 a.s, .slice S us.length sc, .bool y14_15.s, .slice y14_15.A y14_15.n y14_15.c, .slice y14_15.A' y14_15.n' y14_15.c']) (stored5 HZ.out) ?_
    rintro wz ⟨HS, ks, ss⟩
    have q0 := HS.cell 0 rfl
    have q1 := HS.cell 1 rfl
    have q2 := HS.cell 2 rfl
    have q3 := HS.cell 3 rfl
    have q4 := HS.cell 4 rfl
    refine bodyPost_ret (v := .agg #[.int .i64 a.s, .slice S us.length sc, .bool y14_15.s, .slice y14_15.A y14_15.n y14_15.c, .slice y14_15.A' y14_15.n' y14_15.c']) (by simp [results, Tryz.results21, go_sem, q0, q1, q2, q3, q4]) rfl ?_
    have kz : Kp w.heap.size wr wz := Kp.stored HZ.out conU0 ks (by omega)
    obtain ⟨A', c', e', hS⟩ := slTerm_of_own rfl (by omega) (HO.out.grown ks (HO.out.apart (by omega))) (HRd.out.kp kz)
    injection e' with e1 e2 e3
    subst e1 e3
    exact ⟨_, rfl, ⟨_, _, _, _, _, _, rfl, by rw [← HR.out] at hS; exact hS, by show RowsAt _ (rwOf (a.r.q + b.r.q)) _ _ _; rw [HP.out]; exact HY.out.kp kz⟩, hb.trans kz.below⟩
end Go.Proofs.YtahdlpkncemmaaaGreat
namespace Go.Proofs.YtahdlpkncemmaaaGreat
open Go.RowKit Pg
def sameT : List TW → List TW → Bool
 | t :: l, u :: m => decide (t.v = u.v) && eqQ t.r.q u.r.q && sameT l m
 | _, _ => true
def sameW (a b : CW) : Bool := decide (a.s = b.s) && decide (a.t.length = b.t.length) && eqQ a.r.q b.r.q && sameT a.t b.t
theorem sameT_refl : ∀ l : List TW, sameT l l = true
 | [] => rfl
 | t :: l => by simp [sameT, eqQ, sameT_refl l]
theorem sameW_refl (a : CW) : sameW a a = true := by simp [sameW, eqQ, sameT_refl]
set_option maxRecDepth 100000 in
set_option maxHeartbeats 4000000 in
theorem rSame_C {va vb : Value} {a b : CW} {k : Nat} (w : World) (ha : ConVal w va a) (hb : ConVal w vb b) (hla : a.Le k) (hlb : b.Le k) (hk : k ≤ 262144) {Q : Bool} (hQ : sameW a b = Q) :
  Calls Tryz.prog 13 #[va, vb] w fun e w' => e = .returned (.bool Q) ∧ Below w.heap.size w w' := by
 obtain ⟨T, n, m, x, rfl, hca⟩ := ha.cv
 obtain ⟨T', n', m', x', rfl, hcb⟩ := hb.cv
 obtain ⟨E, hE⟩ : ∃ E, eqQ a.r.q b.r.q = E := ⟨_, rfl⟩
 have HS := hid fun W (hW : Below w.heap.size w W) => r2Same_Q W (hca.2.below hW) (hcb.2.below hW) hla.2 hlb.2 hk hE
 have HTa := hid hca.1
 have HTb := hid hcb.1
 have HLa := hid hla.1
 have HLb := hid hlb.1
 have hna : a.t.length = n := hca.1.1
 have hnb : b.t.length = n' := hcb.1.1
 have hQ' : Q = (decide (a.s = b.s) && decide (n = n') && E && sameT a.t b.t) := by rw [← hQ, sameW, hna, hnb, hE]
 clear ha hb hla hlb hQ hca hcb
 go_enter Tryz.func13, Tryz.ntmps13
 go_upto_region 1 with fail
 refine wp_world (F := fun W => (Bs W w.heap.size 36 [.int .i64 a.s, .slice T n m, .bool x.s, .slice x.A x.n x.c, .slice x.A' x.n' x.c'] ∧ Bs W (w.heap.size + 1) 36 [.int .i64 b.s, .slice T' n' m', .bool x'.s, .slice x'.A x'.n x'.c, .slice x'.A' x'.n' x'.c']) ∧ Below w.heap.size w W)
  ⟨⟨(Bs.new w _ _ _ rfl).alloc _, Bs.new _ _ _ _ (by simp)⟩, (by repeat first | exact Below.refl _ _ | assumption | refine Pg.Below.then_ ?_ (by assumption) | refine Pg.Below.new_ ?_ _ | refine Pg.Below.drewN_ ?_ _)⟩ ?_
 rintro w1 ⟨⟨HA1, HB1⟩, hb1⟩
 have a0 := HA1.cell 0 rfl
 have a1 := HA1.cell 1 rfl
 have a2 := HA1.cell 2 rfl
 have a3 := HA1.cell 3 rfl
 have a4 := HA1.cell 4 rfl
 have b0 := HB1.cell 0 rfl
 have b1 := HB1.cell 1 rfl
 have b2 := HB1.cell 2 rfl
 have b3 := HB1.cell 3 rfl
 have b4 := HB1.cell 4 rfl
 by_cases hs : a.s = b.s
 ·have s1 : (a.s != b.s) = false := by rw [hs]; simp
  by_cases hn : n = n'
  ·have s2 : ((n : Int) != (n' : Int)) = false := by rw [hn]; simp
   rcases E with _ | _
   ·obtain rfl : Q = false := by rw [hQ']; simp
    clear hQ' hs hn
    go_wp2_with (go_at_call 24; (with_reducible refine (HS.out _ hb1).mono ?_); rintro e w5 ⟨rfl, hb5⟩)
    go_ret
    exact ⟨rfl, Below.then_ hb1 hb5⟩
   ·have HQ := hid (show sameT a.t b.t = Q by rw [hQ', hs, hn]; simp)
    have hz0 : ((0 : Int) ≤ 0) := by omega
    have hn1 : n ≤ n' := by omega
    have hn2 : n' ≤ n := by omega
    clear hQ' hs hn
    have HA := hid HA1
    have HB := hid HB1
    go_wp2_with (go_at_call 24; (with_reducible refine (HS.out _ hb1).mono ?_); rintro e w5 ⟨rfl, hb5⟩; have HA5 := hid (HA.out.below hb5); have HB5 := hid (HB.out.below hb5); have hbw := Below.then_ hb1 hb5; clear a0 a1 a2 a3 a4 b0 b1 b2 b3 b4 hb5 HA1 HB1)
    go_loopw [5] (fun i wr => ∃ j : Nat, j ≤ n ∧ i = .int .i64 (j : Int) ∧ Hid (sameT (a.t.drop j) (b.t.drop j) = Q) ∧ Hid (Bs wr w.heap.size 36 [.int .i64 a.s, .slice T n m, .bool x.s, .slice x.A x.n x.c, .slice x.A' x.n' x.c']) ∧ Hid (Bs wr (w.heap.size + 1) 36 [.int .i64 b.s, .slice T' n' m', .bool x'.s, .slice x'.A x'.n x'.c, .slice x'.A' x'.n' x'.c']) ∧ Below w.heap.size w wr) (fun i _ => n - (intOf i).toNat)
    case atStart => exact ⟨0, Nat.zero_le _, rfl, hid HQ.out, HA5, HB5, hbw⟩
    case round =>
     obtain ⟨j, hj, rfl, HQ, HA, HB, hb⟩ := hrel
     clear HA5 HB5 hbw hb1
     have a0 := HA.out.cell 0 rfl
     have a1 := HA.out.cell 1 rfl
     have a2 := HA.out.cell 2 rfl
     have a3 := HA.out.cell 3 rfl
     have a4 := HA.out.cell 4 rfl
     have b0 := HB.out.cell 0 rfl
     have b1 := HB.out.cell 1 rfl
     have b2 := HB.out.cell 2 rfl
     have b3 := HB.out.cell 3 rfl
     have b4 := HB.out.cell 4 rfl
     by_cases hlt : j < n
     ·have hlt' : j < n' := by omega
      obtain ⟨e1L, _, _, _, _, e6L⟩ := HTa.out
      obtain ⟨bL, oL, rfl, hbL, hxL⟩ := e6L (by omega)
      obtain ⟨tL, htL⟩ : ∃ t, a.t[j]? = some t := ⟨a.t[j]'(by omega), List.getElem?_eq_getElem _⟩
      obtain ⟨x0L, x1L, x2L, hcL, hu0L⟩ := termAt_stays _ _ _ _ _ hbL (hxL j tL htL) hb
      obtain ⟨uL, rfl, rfl, rfl, huL⟩ := rows_rv hu0L
      have HCL := hid hcL
      have HUL := hid huL
      have HleL := HLa.out tL (List.mem_of_getElem? htL)
      have hdL := hid (drop_cons htL)
      have ltL : bL < wr.heap.size := Nat.lt_of_lt_of_le hbL hb.size
      have iL1 : (j : Int) < (n : Int) := by omega
      clear e1L e6L hxL htL hcL hu0L huL
      obtain ⟨e1M, _, _, _, _, e6M⟩ := HTb.out
      obtain ⟨bM, oM, rfl, hbM, hxM⟩ := e6M (by omega)
      obtain ⟨tM, htM⟩ : ∃ t, b.t[j]? = some t := ⟨b.t[j]'(by omega), List.getElem?_eq_getElem _⟩
      obtain ⟨x0M, x1M, x2M, hcM, hu0M⟩ := termAt_stays _ _ _ _ _ hbM (hxM j tM htM) hb
      obtain ⟨uM, rfl, rfl, rfl, huM⟩ := rows_rv hu0M
      have HCM := hid hcM
      have HUM := hid huM
      have HleM := HLb.out tM (List.mem_of_getElem? htM)
      have hdM := hid (drop_cons htM)
      have ltM : bM < wr.heap.size := Nat.lt_of_lt_of_le hbM hb.size
      have iM1 : (j : Int) < (n' : Int) := by omega
      clear e1M e6M hxM htM hcM hu0M huM
      replace HQ := HQ.out
      rw [hdL.out, hdM.out] at HQ
      simp only [sameT] at HQ
      replace HQ := hid HQ
      by_cases hv : tL.v = tM.v
      ·have v1 : (tL.v != tM.v) = false := by rw [hv]; simp
       obtain ⟨E, hE⟩ : ∃ E, eqQ tL.r.q tM.r.q = E := ⟨_, rfl⟩
       replace HQ := HQ.out
       rw [hE, decide_eq_true hv] at HQ
       replace HQ := hid HQ
       clear hv
       rcases E with _ | _
       ·obtain rfl : false = Q := HQ.out
        go_upto_region 6 with fail
        refine draw_G (fun _ _ => False) (fun W => Below wr.heap.size wr W) 29 none [some 35, some 36, some 37, some 38, some 39, some 40, some 41, some 42, some 43, some 44, some 45, some 46, some 47, some 48, some 49, some 50, some 51, some 52, some 53, some 54, some 55, some 56, some 57, some 58, some 59, some 60, some 61, some 62, some 63] [.is (.pointer (some ⟨w.heap.size, 1, none⟩)), .is (.slice (some ⟨bL, oL, none⟩) n m), .is (.int .i64 (j : Int)), .is (.pointer (some ⟨bL, oL + j * 4, none⟩)), .is (.pointer (some ⟨bL, oL + j * 4, none⟩)), .is (.int .i64 tL.v), .is (.pointer (some ⟨w.heap.size + 1, 1, none⟩)), .is (.slice (some ⟨bM, oM, none⟩) n' m'), .is (.int .i64 (j : Int)), .is (.pointer (some ⟨bM, oM + j * 4, none⟩)), .is (.pointer (some ⟨bM, oM + j * 4, none⟩)), .is (.int .i64 tM.v), .is (.bool false), .is (.bool false), .is (.pointer (some ⟨w.heap.size, 1, none⟩)), .is (.slice (some ⟨bL, oL, none⟩) n m), .is (.int .i64 (j : Int)), .is (.pointer (some ⟨bL, oL + j * 4, none⟩)), .is (.pointer (some ⟨bL, oL + j * 4 + 1, none⟩)), .is (.agg #[.bool uL.s, .slice uL.A uL.n uL.c, .slice uL.A' uL.n' uL.c']), .is (.pointer (some ⟨w.heap.size + 1, 1, none⟩)), .is (.slice (some ⟨bM, oM, none⟩) n' m'), .is (.int .i64 (j : Int)), .is (.pointer (some ⟨bM, oM + j * 4, none⟩)), .is (.pointer (some ⟨bM, oM + j * 4 + 1, none⟩)), .is (.agg #[.bool uM.s, .slice uM.A uM.n uM.c, .slice uM.A' uM.n' uM.c']), .is (.bool false), .is (.bool true), .is (.bool true)]
         (by kernel_rfl) (by kernel_rfl) (by kernel_rfl) (by kernel_rfl) rfl (by kernel_rfl) (fun _ h => h) (fun _ _ h hb => Below.then_ h hb) (fun _ _ _ h => h.elim) (fun _ _ _ _ _ _ h => h.elim) ?_ ?_
        ·refine ⟨?_, ?_, ?_, ?_, ?_, ?_, ?_, ?_, ?_, ?_, ?_, ?_, ?_, ?_, ?_, ?_, ?_, ?_, ?_, ?_, ?_, ?_, ?_, ?_, ?_, ?_, ?_, ?_, ?_, trivial⟩
         ·intro a w3 hA K hK
          have t2 := hA.old 2 _ rfl rfl
          go_simp
          exact hK _ _ rfl (Below.refl _ _)
         ·intro a w3 hA K hK
          have t35 := bg_is hA 0 35 rfl rfl (by kernel_rfl)
          have k0 := (HA.out.below hA.grown).cell 1 rfl
          go_simp
          exact hK _ _ rfl (Below.refl _ _)
         ·intro a w3 hA K hK
          have t5 := hA.old 5 _ rfl rfl
          go_simp
          exact hK _ _ rfl (Below.refl _ _)
         ·intro a w3 hA K hK
          have t36 := bg_is hA 1 36 rfl rfl (by kernel_rfl)
          have t37 := bg_is hA 2 37 rfl rfl (by kernel_rfl)
          go_simp
          exact hK _ _ (by first | rfl | exact congrArg _ (by first | rfl | omega | (rw [IntKind.wrap_i64]; omega))) (Below.refl _ _)
         ·intro a w3 hA K hK
          have t38 := bg_is hA 3 38 rfl rfl (by kernel_rfl)
          go_simp
          exact hK _ _ rfl (Below.refl _ _)
         ·intro a w3 hA K hK
          have t39 := bg_is hA 4 39 rfl rfl (by kernel_rfl)
          have k0 : w3.cell? ⟨bL, oL + j * 4, none⟩ = some (.int .i64 tL.v) := (HCL.out.below ltL hA.grown).at_ 0 rfl
          go_simp
          exact hK _ _ rfl (Below.refl _ _)
         ·intro a w3 hA K hK
          have t3 := hA.old 3 _ rfl rfl
          go_simp
          exact hK _ _ rfl (Below.refl _ _)
         ·intro a w3 hA K hK
          have t41 := bg_is hA 6 41 rfl rfl (by kernel_rfl)
          have k0 := (HB.out.below hA.grown).cell 1 rfl
          go_simp
          exact hK _ _ rfl (Below.refl _ _)
         ·intro a w3 hA K hK
          have t5 := hA.old 5 _ rfl rfl
          go_simp
          exact hK _ _ rfl (Below.refl _ _)
         ·intro a w3 hA K hK
          have t42 := bg_is hA 7 42 rfl rfl (by kernel_rfl)
          have t43 := bg_is hA 8 43 rfl rfl (by kernel_rfl)
          go_simp
          exact hK _ _ (by first | rfl | exact congrArg _ (by first | rfl | omega | (rw [IntKind.wrap_i64]; omega))) (Below.refl _ _)
         ·intro a w3 hA K hK
          have t44 := bg_is hA 9 44 rfl rfl (by kernel_rfl)
          go_simp
          exact hK _ _ rfl (Below.refl _ _)
         ·intro a w3 hA K hK
          have t45 := bg_is hA 10 45 rfl rfl (by kernel_rfl)
          have k0 : w3.cell? ⟨bM, oM + j * 4, none⟩ = some (.int .i64 tM.v) := (HCM.out.below ltM hA.grown).at_ 0 rfl
          go_simp
          exact hK _ _ rfl (Below.refl _ _)
         ·intro a w3 hA K hK
          have t40 := bg_is hA 5 40 rfl rfl (by kernel_rfl)
          have t46 := bg_is hA 11 46 rfl rfl (by kernel_rfl)
          go_simp
          exact hK _ _ (by first | rfl | exact congrArg _ (by first | rfl | omega | (rw [IntKind.wrap_i64]; omega))) (Below.refl _ _)
         ·intro a w3 hA K hK
          have t47 := bg_is hA 12 47 rfl rfl (by kernel_rfl)
          go_simp
          exact hK _ _ rfl (Below.refl _ _)
         ·intro a w3 hA K hK
          have t2 := hA.old 2 _ rfl rfl
          go_simp
          exact hK _ _ rfl (Below.refl _ _)
         ·intro a w3 hA K hK
          have t49 := bg_is hA 14 49 rfl rfl (by kernel_rfl)
          have k0 := (HA.out.below hA.grown).cell 1 rfl
          go_simp
          exact hK _ _ rfl (Below.refl _ _)
         ·intro a w3 hA K hK
          have t5 := hA.old 5 _ rfl rfl
          go_simp
          exact hK _ _ rfl (Below.refl _ _)
         ·intro a w3 hA K hK
          have t50 := bg_is hA 15 50 rfl rfl (by kernel_rfl)
          have t51 := bg_is hA 16 51 rfl rfl (by kernel_rfl)
          go_simp
          exact hK _ _ (by first | rfl | exact congrArg _ (by first | rfl | omega | (rw [IntKind.wrap_i64]; omega))) (Below.refl _ _)
         ·intro a w3 hA K hK
          have t52 := bg_is hA 17 52 rfl rfl (by kernel_rfl)
          go_simp
          exact hK _ _ rfl (Below.refl _ _)
         ·intro a w3 hA K hK
          have t53 := bg_is hA 18 53 rfl rfl (by kernel_rfl)
          have k0 := (HCL.out.below ltL hA.grown).at_ 1 rfl
          have k1 := (HCL.out.below ltL hA.grown).at_ 2 rfl
          have k2 := (HCL.out.below ltL hA.grown).at_ 3 rfl
          go_simp
          exact hK _ _ rfl (Below.refl _ _)
         ·intro a w3 hA K hK
          have t3 := hA.old 3 _ rfl rfl
          go_simp
          exact hK _ _ rfl (Below.refl _ _)
         ·intro a w3 hA K hK
          have t55 := bg_is hA 20 55 rfl rfl (by kernel_rfl)
          have k0 := (HB.out.below hA.grown).cell 1 rfl
          go_simp
          exact hK _ _ rfl (Below.refl _ _)
         ·intro a w3 hA K hK
          have t5 := hA.old 5 _ rfl rfl
          go_simp
          exact hK _ _ rfl (Below.refl _ _)
         ·intro a w3 hA K hK
          have t56 := bg_is hA 21 56 rfl rfl (by kernel_rfl)
          have t57 := bg_is hA 22 57 rfl rfl (by kernel_rfl)
          go_simp
          exact hK _ _ (by first | rfl | exact congrArg _ (by first | rfl | omega | (rw [IntKind.wrap_i64]; omega))) (Below.refl _ _)
         ·intro a w3 hA K hK
          have t58 := bg_is hA 23 58 rfl rfl (by kernel_rfl)
          go_simp
          exact hK _ _ rfl (Below.refl _ _)
         ·intro a w3 hA K hK
          have t59 := bg_is hA 24 59 rfl rfl (by kernel_rfl)
          have k0 := (HCM.out.below ltM hA.grown).at_ 1 rfl
          have k1 := (HCM.out.below ltM hA.grown).at_ 2 rfl
          have k2 := (HCM.out.below ltM hA.grown).at_ 3 rfl
          go_simp
          exact hK _ _ rfl (Below.refl _ _)
         ·intro a w3 hA K hK
          have t54 := bg_is hA 19 54 rfl rfl (by kernel_rfl)
          have t60 := bg_is hA 25 60 rfl rfl (by kernel_rfl)
          have hC := r2Same_Q w3 (HUL.out.below hA.grown) (HUM.out.below hA.grown) HleL HleM hk hE
          go_simp
          refine hC.mono ?_
          rintro e w4 ⟨rfl, hb⟩
          exact hK _ _ rfl hb
         ·intro a w3 hA K hK
          have t61 := bg_is hA 26 61 rfl rfl (by kernel_rfl)
          go_simp
          exact hK _ _ (by first | rfl | exact congrArg _ (by first | rfl | omega | (rw [IntKind.wrap_i64]; omega))) (Below.refl _ _)
         ·intro a w3 hA K hK
          have t48 := bg_is hA 13 48 rfl rfl (by kernel_rfl)
          have t62 := bg_is hA 27 62 rfl rfl (by kernel_rfl)
          go_simp
          exact hK _ _ (by first | rfl | exact congrArg _ (by first | rfl | omega | (rw [IntKind.wrap_i64]; omega))) (Below.refl _ _)
        rintro vs w4 hV hb4 hlk act hact
        replace hV := hV.is_; obtain ⟨_, rfl, hV⟩ := hV
        replace hV := hV.is_; obtain ⟨_, rfl, hV⟩ := hV
        replace hV := hV.is_; obtain ⟨_, rfl, hV⟩ := hV
        replace hV := hV.is_; obtain ⟨_, rfl, hV⟩ := hV
        replace hV := hV.is_; obtain ⟨_, rfl, hV⟩ := hV
        replace hV := hV.is_; obtain ⟨_, rfl, hV⟩ := hV
        replace hV := hV.is_; obtain ⟨_, rfl, hV⟩ := hV
        replace hV := hV.is_; obtain ⟨_, rfl, hV⟩ := hV
        replace hV := hV.is_; obtain ⟨_, rfl, hV⟩ := hV
        replace hV := hV.is_; obtain ⟨_, rfl, hV⟩ := hV
        replace hV := hV.is_; obtain ⟨_, rfl, hV⟩ := hV
        replace hV := hV.is_; obtain ⟨_, rfl, hV⟩ := hV
        replace hV := hV.is_; obtain ⟨_, rfl, hV⟩ := hV
        replace hV := hV.is_; obtain ⟨_, rfl, hV⟩ := hV
        replace hV := hV.is_; obtain ⟨_, rfl, hV⟩ := hV
        replace hV := hV.is_; obtain ⟨_, rfl, hV⟩ := hV
        replace hV := hV.is_; obtain ⟨_, rfl, hV⟩ := hV
        replace hV := hV.is_; obtain ⟨_, rfl, hV⟩ := hV
        replace hV := hV.is_; obtain ⟨_, rfl, hV⟩ := hV
        replace hV := hV.is_; obtain ⟨_, rfl, hV⟩ := hV
        replace hV := hV.is_; obtain ⟨_, rfl, hV⟩ := hV
        replace hV := hV.is_; obtain ⟨_, rfl, hV⟩ := hV
        replace hV := hV.is_; obtain ⟨_, rfl, hV⟩ := hV
        replace hV := hV.is_; obtain ⟨_, rfl, hV⟩ := hV
        replace hV := hV.is_; obtain ⟨_, rfl, hV⟩ := hV
        replace hV := hV.is_; obtain ⟨_, rfl, hV⟩ := hV
        replace hV := hV.is_; obtain ⟨_, rfl, hV⟩ := hV
        replace hV := hV.is_; obtain ⟨_, rfl, hV⟩ := hV
        replace hV := hV.is_; obtain ⟨_, rfl, hV⟩ := hV
        obtain rfl := hV.nil_
        clear hV
        clear hlk
        simp only [putsO] at hact
        subst hact
        go_simp
        have hbz := Below.then_ hb hb4
        go_wp2_with fail
        go_ret
        exact ⟨rfl, hbz⟩
       ·have HQ' := hid (show sameT (a.t.drop (j + 1)) (b.t.drop (j + 1)) = Q by rw [← HQ.out]; simp)
        go_upto_region 6 with fail
        refine draw_G (fun _ _ => False) (fun W => Below wr.heap.size wr W) 29 none [some 35, some 36, some 37, some 38, some 39, some 40, some 41, some 42, some 43, some 44, some 45, some 46, some 47, some 48, some 49, some 50, some 51, some 52, some 53, some 54, some 55, some 56, some 57, some 58, some 59, some 60, some 61, some 62, some 63] [.is (.pointer (some ⟨w.heap.size, 1, none⟩)), .is (.slice (some ⟨bL, oL, none⟩) n m), .is (.int .i64 (j : Int)), .is (.pointer (some ⟨bL, oL + j * 4, none⟩)), .is (.pointer (some ⟨bL, oL + j * 4, none⟩)), .is (.int .i64 tL.v), .is (.pointer (some ⟨w.heap.size + 1, 1, none⟩)), .is (.slice (some ⟨bM, oM, none⟩) n' m'), .is (.int .i64 (j : Int)), .is (.pointer (some ⟨bM, oM + j * 4, none⟩)), .is (.pointer (some ⟨bM, oM + j * 4, none⟩)), .is (.int .i64 tM.v), .is (.bool false), .is (.bool false), .is (.pointer (some ⟨w.heap.size, 1, none⟩)), .is (.slice (some ⟨bL, oL, none⟩) n m), .is (.int .i64 (j : Int)), .is (.pointer (some ⟨bL, oL + j * 4, none⟩)), .is (.pointer (some ⟨bL, oL + j * 4 + 1, none⟩)), .is (.agg #[.bool uL.s, .slice uL.A uL.n uL.c, .slice uL.A' uL.n' uL.c']), .is (.pointer (some ⟨w.heap.size + 1, 1, none⟩)), .is (.slice (some ⟨bM, oM, none⟩) n' m'), .is (.int .i64 (j : Int)), .is (.pointer (some ⟨bM, oM + j * 4, none⟩)), .is (.pointer (some ⟨bM, oM + j * 4 + 1, none⟩)), .is (.agg #[.bool uM.s, .slice uM.A uM.n uM.c, .slice uM.A' uM.n' uM.c']), .is (.bool true), .is (.bool false), .is (.bool false)]
         (by kernel_rfl) (by kernel_rfl) (by kernel_rfl) (by kernel_rfl) rfl (by kernel_rfl) (fun _ h => h) (fun _ _ h hb => Below.then_ h hb) (fun _ _ _ h => h.elim) (fun _ _ _ _ _ _ h => h.elim) ?_ ?_
        ·refine ⟨?_, ?_, ?_, ?_, ?_, ?_, ?_, ?_, ?_, ?_, ?_, ?_, ?_, ?_, ?_, ?_, ?_, ?_, ?_, ?_, ?_, ?_, ?_, ?_, ?_, ?_, ?_, ?_, ?_, trivial⟩
         ·intro a w3 hA K hK
          have t2 := hA.old 2 _ rfl rfl
          go_simp
          exact hK _ _ rfl (Below.refl _ _)
         ·intro a w3 hA K hK
          have t35 := bg_is hA 0 35 rfl rfl (by kernel_rfl)
          have k0 := (HA.out.below hA.grown).cell 1 rfl
          go_simp
          exact hK _ _ rfl (Below.refl _ _)
         ·intro a w3 hA K hK
          have t5 := hA.old 5 _ rfl rfl
          go_simp
          exact hK _ _ rfl (Below.refl _ _)
         ·intro a w3 hA K hK
          have t36 := bg_is hA 1 36 rfl rfl (by kernel_rfl)
          have t37 := bg_is hA 2 37 rfl rfl (by kernel_rfl)
          go_simp
          exact hK _ _ (by first | rfl | exact congrArg _ (by first | rfl | omega | (rw [IntKind.wrap_i64]; omega))) (Below.refl _ _)
         ·intro a w3 hA K hK
          have t38 := bg_is hA 3 38 rfl rfl (by kernel_rfl)
          go_simp
          exact hK _ _ rfl (Below.refl _ _)
         ·intro a w3 hA K hK
          have t39 := bg_is hA 4 39 rfl rfl (by kernel_rfl)
          have k0 : w3.cell? ⟨bL, oL + j * 4, none⟩ = some (.int .i64 tL.v) := (HCL.out.below ltL hA.grown).at_ 0 rfl
          go_simp
          exact hK _ _ rfl (Below.refl _ _)
         ·intro a w3 hA K hK
          have t3 := hA.old 3 _ rfl rfl
          go_simp
          exact hK _ _ rfl (Below.refl _ _)
         ·intro a w3 hA K hK
          have t41 := bg_is hA 6 41 rfl rfl (by kernel_rfl)
          have k0 := (HB.out.below hA.grown).cell 1 rfl
          go_simp
          exact hK _ _ rfl (Below.refl _ _)
         ·intro a w3 hA K hK
          have t5 := hA.old 5 _ rfl rfl
          go_simp
          exact hK _ _ rfl (Below.refl _ _)
         ·intro a w3 hA K hK
          have t42 := bg_is hA 7 42 rfl rfl (by kernel_rfl)
          have t43 := bg_is hA 8 43 rfl rfl (by kernel_rfl)
          go_simp
          exact hK _ _ (by first | rfl | exact congrArg _ (by first | rfl | omega | (rw [IntKind.wrap_i64]; omega))) (Below.refl _ _)
         ·intro a w3 hA K hK
          have t44 := bg_is hA 9 44 rfl rfl (by kernel_rfl)
          go_simp
          exact hK _ _ rfl (Below.refl _ _)
         ·intro a w3 hA K hK
          have t45 := bg_is hA 10 45 rfl rfl (by kernel_rfl)
          have k0 : w3.cell? ⟨bM, oM + j * 4, none⟩ = some (.int .i64 tM.v) := (HCM.out.below ltM hA.grown).at_ 0 rfl
          go_simp
          exact hK _ _ rfl (Below.refl _ _)
         ·intro a w3 hA K hK
          have t40 := bg_is hA 5 40 rfl rfl (by kernel_rfl)
          have t46 := bg_is hA 11 46 rfl rfl (by kernel_rfl)
          go_simp
          exact hK _ _ (by first | rfl | exact congrArg _ (by first | rfl | omega | (rw [IntKind.wrap_i64]; omega))) (Below.refl _ _)
         ·intro a w3 hA K hK
          have t47 := bg_is hA 12 47 rfl rfl (by kernel_rfl)
          go_simp
          exact hK _ _ rfl (Below.refl _ _)
         ·intro a w3 hA K hK
          have t2 := hA.old 2 _ rfl rfl
          go_simp
          exact hK _ _ rfl (Below.refl _ _)
         ·intro a w3 hA K hK
          have t49 := bg_is hA 14 49 rfl rfl (by kernel_rfl)
          have k0 := (HA.out.below hA.grown).cell 1 rfl
          go_simp
          exact hK _ _ rfl (Below.refl _ _)
         ·intro a w3 hA K hK
          have t5 := hA.old 5 _ rfl rfl
          go_simp
          exact hK _ _ rfl (Below.refl _ _)
         ·intro a w3 hA K hK
          have t50 := bg_is hA 15 50 rfl rfl (by kernel_rfl)
          have t51 := bg_is hA 16 51 rfl rfl (by kernel_rfl)
          go_simp
          exact hK _ _ (by first | rfl | exact congrArg _ (by first | rfl | omega | (rw [IntKind.wrap_i64]; omega))) (Below.refl _ _)
         ·intro a w3 hA K hK
          have t52 := bg_is hA 17 52 rfl rfl (by kernel_rfl)
          go_simp
          exact hK _ _ rfl (Below.refl _ _)
         ·intro a w3 hA K hK
          have t53 := bg_is hA 18 53 rfl rfl (by kernel_rfl)
          have k0 := (HCL.out.below ltL hA.grown).at_ 1 rfl
          have k1 := (HCL.out.below ltL hA.grown).at_ 2 rfl
          have k2 := (HCL.out.below ltL hA.grown).at_ 3 rfl
          go_simp
          exact hK _ _ rfl (Below.refl _ _)
         ·intro a w3 hA K hK
          have t3 := hA.old 3 _ rfl rfl
          go_simp
          exact hK _ _ rfl (Below.refl _ _)
         ·intro a w3 hA K hK
          have t55 := bg_is hA 20 55 rfl rfl (by kernel_rfl)
          have k0 := (HB.out.below hA.grown).cell 1 rfl
          go_simp
          exact hK _ _ rfl (Below.refl _ _)
         ·intro a w3 hA K hK
          have t5 := hA.old 5 _ rfl rfl
          go_simp
          exact hK _ _ rfl (Below.refl _ _)
         ·intro a w3 hA K hK
          have t56 := bg_is hA 21 56 rfl rfl (by kernel_rfl)
          have t57 := bg_is hA 22 57 rfl rfl (by kernel_rfl)
          go_simp
          exact hK _ _ (by first | rfl | exact congrArg _ (by first | rfl | omega | (rw [IntKind.wrap_i64]; omega))) (Below.refl _ _)
         ·intro a w3 hA K hK
          have t58 := bg_is hA 23 58 rfl rfl (by kernel_rfl)
          go_simp
          exact hK _ _ rfl (Below.refl _ _)
         ·intro a w3 hA K hK
          have t59 := bg_is hA 24 59 rfl rfl (by kernel_rfl)
          have k0 := (HCM.out.below ltM hA.grown).at_ 1 rfl
          have k1 := (HCM.out.below ltM hA.grown).at_ 2 rfl
          have k2 := (HCM.out.below ltM hA.grown).at_ 3 rfl
          go_simp
          exact hK _ _ rfl (Below.refl _ _)
         ·intro a w3 hA K hK
          have t54 := bg_is hA 19 54 rfl rfl (by kernel_rfl)
          have t60 := bg_is hA 25 60 rfl rfl (by kernel_rfl)
          have hC := r2Same_Q w3 (HUL.out.below hA.grown) (HUM.out.below hA.grown) HleL HleM hk hE
          go_simp
          refine hC.mono ?_
          rintro e w4 ⟨rfl, hb⟩
          exact hK _ _ rfl hb
         ·intro a w3 hA K hK
          have t61 := bg_is hA 26 61 rfl rfl (by kernel_rfl)
          go_simp
          exact hK _ _ (by first | rfl | exact congrArg _ (by first | rfl | omega | (rw [IntKind.wrap_i64]; omega))) (Below.refl _ _)
         ·intro a w3 hA K hK
          have t48 := bg_is hA 13 48 rfl rfl (by kernel_rfl)
          have t62 := bg_is hA 27 62 rfl rfl (by kernel_rfl)
          go_simp
          exact hK _ _ (by first | rfl | exact congrArg _ (by first | rfl | omega | (rw [IntKind.wrap_i64]; omega))) (Below.refl _ _)
        rintro vs w4 hV hb4 hlk act hact
        replace hV := hV.is_; obtain ⟨_, rfl, hV⟩ := hV
        replace hV := hV.is_; obtain ⟨_, rfl, hV⟩ := hV
        replace hV := hV.is_; obtain ⟨_, rfl, hV⟩ := hV
        replace hV := hV.is_; obtain ⟨_, rfl, hV⟩ := hV
        replace hV := hV.is_; obtain ⟨_, rfl, hV⟩ := hV
        replace hV := hV.is_; obtain ⟨_, rfl, hV⟩ := hV
        replace hV := hV.is_; obtain ⟨_, rfl, hV⟩ := hV
        replace hV := hV.is_; obtain ⟨_, rfl, hV⟩ := hV
        replace hV := hV.is_; obtain ⟨_, rfl, hV⟩ := hV
        replace hV := hV.is_; obtain ⟨_, rfl, hV⟩ := hV
        replace hV := hV.is_; obtain ⟨_, rfl, hV⟩ := hV
        replace hV := hV.is_; obtain ⟨_, rfl, hV⟩ := hV
        replace hV := hV.is_; obtain ⟨_, rfl, hV⟩ := hV
        replace hV := hV.is_; obtain ⟨_, rfl, hV⟩ := hV
        replace hV := hV.is_; obtain ⟨_, rfl, hV⟩ := hV
        replace hV := hV.is_; obtain ⟨_, rfl, hV⟩ := hV
        replace hV := hV.is_; obtain ⟨_, rfl, hV⟩ := hV
        replace hV := hV.is_; obtain ⟨_, rfl, hV⟩ := hV
        replace hV := hV.is_; obtain ⟨_, rfl, hV⟩ := hV
        replace hV := hV.is_; obtain ⟨_, rfl, hV⟩ := hV
        replace hV := hV.is_; obtain ⟨_, rfl, hV⟩ := hV
        replace hV := hV.is_; obtain ⟨_, rfl, hV⟩ := hV
        replace hV := hV.is_; obtain ⟨_, rfl, hV⟩ := hV
        replace hV := hV.is_; obtain ⟨_, rfl, hV⟩ := hV
        replace hV := hV.is_; obtain ⟨_, rfl, hV⟩ := hV
        replace hV := hV.is_; obtain ⟨_, rfl, hV⟩ := hV
        replace hV := hV.is_; obtain ⟨_, rfl, hV⟩ := hV
        replace hV := hV.is_; obtain ⟨_, rfl, hV⟩ := hV
        replace hV := hV.is_; obtain ⟨_, rfl, hV⟩ := hV
        obtain rfl := hV.nil_
        clear hV
        clear hlk
        simp only [putsO] at hact
        subst hact
        go_simp
        have hbz := Below.then_ hb hb4
        have HA4 := hid (HA.out.below hb4)
        have HB4 := hid (HB.out.below hb4)
        clear a0 a1 a2 a3 a4 b0 b1 b2 b3 b4
        go_wp2_with fail
        refine ⟨⟨j + 1, hlt, by go_num, HQ', HA4, HB4, hbz⟩, ?_⟩
        simp [intOf]; omega
      ·have v1 : (tL.v != tM.v) = true := bne_iff_ne.2 hv
       obtain rfl : false = Q := by rw [← HQ.out, decide_eq_false hv]; rfl
       go_upto_region 6 with fail
       refine draw_G (fun _ _ => False) (fun W => Below wr.heap.size wr W) 29 none [some 35, some 36, some 37, some 38, some 39, some 40, some 41, some 42, some 43, some 44, some 45, some 46, some 47, some 48, some 49, some 50, some 51, some 52, some 53, some 54, some 55, some 56, some 57, some 58, some 59, some 60, some 61, some 62, some 63] [.is (.pointer (some ⟨w.heap.size, 1, none⟩)), .is (.slice (some ⟨bL, oL, none⟩) n m), .is (.int .i64 (j : Int)), .is (.pointer (some ⟨bL, oL + j * 4, none⟩)), .is (.pointer (some ⟨bL, oL + j * 4, none⟩)), .is (.int .i64 tL.v), .is (.pointer (some ⟨w.heap.size + 1, 1, none⟩)), .is (.slice (some ⟨bM, oM, none⟩) n' m'), .is (.int .i64 (j : Int)), .is (.pointer (some ⟨bM, oM + j * 4, none⟩)), .is (.pointer (some ⟨bM, oM + j * 4, none⟩)), .is (.int .i64 tM.v), .is (.bool true), .is (.bool true), .is (undef), .is (undef), .is (undef), .is (undef), .is (undef), .is (undef), .is (undef), .is (undef), .is (undef), .is (undef), .is (undef), .is (undef), .is (undef), .is (undef), .is (.bool true)]
        (by kernel_rfl) (by kernel_rfl) (by kernel_rfl) (by kernel_rfl) rfl (by kernel_rfl) (fun _ h => h) (fun _ _ h hb => Below.then_ h hb) (fun _ _ _ h => h.elim) (fun _ _ _ _ _ _ h => h.elim) ?_ ?_
       ·refine ⟨?_, ?_, ?_, ?_, ?_, ?_, ?_, ?_, ?_, ?_, ?_, ?_, ?_, ?_, ?_, ?_, ?_, ?_, ?_, ?_, ?_, ?_, ?_, ?_, ?_, ?_, ?_, ?_, ?_, trivial⟩
        ·intro a w3 hA K hK
         have t2 := hA.old 2 _ rfl rfl
         go_simp
         exact hK _ _ rfl (Below.refl _ _)
        ·intro a w3 hA K hK
         have t35 := bg_is hA 0 35 rfl rfl (by kernel_rfl)
         have k0 := (HA.out.below hA.grown).cell 1 rfl
         go_simp
         exact hK _ _ rfl (Below.refl _ _)
        ·intro a w3 hA K hK
         have t5 := hA.old 5 _ rfl rfl
         go_simp
         exact hK _ _ rfl (Below.refl _ _)
        ·intro a w3 hA K hK
         have t36 := bg_is hA 1 36 rfl rfl (by kernel_rfl)
         have t37 := bg_is hA 2 37 rfl rfl (by kernel_rfl)
         go_simp
         exact hK _ _ (by first | rfl | exact congrArg _ (by first | rfl | omega | (rw [IntKind.wrap_i64]; omega))) (Below.refl _ _)
        ·intro a w3 hA K hK
         have t38 := bg_is hA 3 38 rfl rfl (by kernel_rfl)
         go_simp
         exact hK _ _ rfl (Below.refl _ _)
        ·intro a w3 hA K hK
         have t39 := bg_is hA 4 39 rfl rfl (by kernel_rfl)
         have k0 : w3.cell? ⟨bL, oL + j * 4, none⟩ = some (.int .i64 tL.v) := (HCL.out.below ltL hA.grown).at_ 0 rfl
         go_simp
         exact hK _ _ rfl (Below.refl _ _)
        ·intro a w3 hA K hK
         have t3 := hA.old 3 _ rfl rfl
         go_simp
         exact hK _ _ rfl (Below.refl _ _)
        ·intro a w3 hA K hK
         have t41 := bg_is hA 6 41 rfl rfl (by kernel_rfl)
         have k0 := (HB.out.below hA.grown).cell 1 rfl
         go_simp
         exact hK _ _ rfl (Below.refl _ _)
        ·intro a w3 hA K hK
         have t5 := hA.old 5 _ rfl rfl
         go_simp
         exact hK _ _ rfl (Below.refl _ _)
        ·intro a w3 hA K hK
         have t42 := bg_is hA 7 42 rfl rfl (by kernel_rfl)
         have t43 := bg_is hA 8 43 rfl rfl (by kernel_rfl)
         go_simp
         exact hK _ _ (by first | rfl | exact congrArg _ (by first | rfl | omega | (rw [IntKind.wrap_i64]; omega))) (Below.refl _ _)
        ·intro a w3 hA K hK
         have t44 := bg_is hA 9 44 rfl rfl (by kernel_rfl)
         go_simp
         exact hK _ _ rfl (Below.refl _ _)
        ·intro a w3 hA K hK
         have t45 := bg_is hA 10 45 rfl rfl (by kernel_rfl)
         have k0 : w3.cell? ⟨bM, oM + j * 4, none⟩ = some (.int .i64 tM.v) := (HCM.out.below ltM hA.grown).at_ 0 rfl
         go_simp
         exact hK _ _ rfl (Below.refl _ _)
        ·intro a w3 hA K hK
         have t40 := bg_is hA 5 40 rfl rfl (by kernel_rfl)
         have t46 := bg_is hA 11 46 rfl rfl (by kernel_rfl)
         go_simp
         exact hK _ _ (by first | rfl | exact congrArg _ (by first | rfl | omega | (rw [IntKind.wrap_i64]; omega))) (Below.refl _ _)
        ·intro a w3 hA K hK
         have t47 := bg_is hA 12 47 rfl rfl (by kernel_rfl)
         go_simp
         exact hK _ _ rfl (Below.refl _ _)
        ·exact rfl
        ·exact rfl
        ·exact rfl
        ·exact rfl
        ·exact rfl
        ·exact rfl
        ·exact rfl
        ·exact rfl
        ·exact rfl
        ·exact rfl
        ·exact rfl
        ·exact rfl
        ·exact rfl
        ·exact rfl
        ·intro a w3 hA K hK
         have t48 := bg_is hA 13 48 rfl rfl (by kernel_rfl)
         have t62 := bg_is hA 27 62 rfl rfl (by kernel_rfl)
         go_simp
         exact hK _ _ (by first | rfl | exact congrArg _ (by first | rfl | omega | (rw [IntKind.wrap_i64]; omega))) (Below.refl _ _)
       rintro vs w4 hV hb4 hlk act hact
       replace hV := hV.is_; obtain ⟨_, rfl, hV⟩ := hV
       replace hV := hV.is_; obtain ⟨_, rfl, hV⟩ := hV
       replace hV := hV.is_; obtain ⟨_, rfl, hV⟩ := hV
       replace hV := hV.is_; obtain ⟨_, rfl, hV⟩ := hV
       replace hV := hV.is_; obtain ⟨_, rfl, hV⟩ := hV
       replace hV := hV.is_; obtain ⟨_, rfl, hV⟩ := hV
       replace hV := hV.is_; obtain ⟨_, rfl, hV⟩ := hV
       replace hV := hV.is_; obtain ⟨_, rfl, hV⟩ := hV
       replace hV := hV.is_; obtain ⟨_, rfl, hV⟩ := hV
       replace hV := hV.is_; obtain ⟨_, rfl, hV⟩ := hV
       replace hV := hV.is_; obtain ⟨_, rfl, hV⟩ := hV
       replace hV := hV.is_; obtain ⟨_, rfl, hV⟩ := hV
       replace hV := hV.is_; obtain ⟨_, rfl, hV⟩ := hV
       replace hV := hV.is_; obtain ⟨_, rfl, hV⟩ := hV
       replace hV := hV.is_; obtain ⟨_, rfl, hV⟩ := hV
       replace hV := hV.is_; obtain ⟨_, rfl, hV⟩ := hV
       replace hV := hV.is_; obtain ⟨_, rfl, hV⟩ := hV
       replace hV := hV.is_; obtain ⟨_, rfl, hV⟩ := hV
       replace hV := hV.is_; obtain ⟨_, rfl, hV⟩ := hV
       replace hV := hV.is_; obtain ⟨_, rfl, hV⟩ := hV
       replace hV := hV.is_; obtain ⟨_, rfl, hV⟩ := hV
       replace hV := hV.is_; obtain ⟨_, rfl, hV⟩ := hV
       replace hV := hV.is_; obtain ⟨_, rfl, hV⟩ := hV
       replace hV := hV.is_; obtain ⟨_, rfl, hV⟩ := hV
       replace hV := hV.is_; obtain ⟨_, rfl, hV⟩ := hV
       replace hV := hV.is_; obtain ⟨_, rfl, hV⟩ := hV
       replace hV := hV.is_; obtain ⟨_, rfl, hV⟩ := hV
       replace hV := hV.is_; obtain ⟨_, rfl, hV⟩ := hV
       replace hV := hV.is_; obtain ⟨_, rfl, hV⟩ := hV
       obtain rfl := hV.nil_
       clear hV
       clear hlk
       simp only [putsO] at hact
       subst hact
       go_simp
       have hbz := Below.then_ hb hb4
       go_wp2_with fail
       go_ret
       exact ⟨rfl, hbz⟩
     ·go_wp2_with fail
      go_ret
      refine ⟨?_, hb⟩
      have h := HQ.out
      rw [List.drop_of_length_le (by omega)] at h
      rw [← h]; cases b.t.drop j <;> rfl
  ·have s2 : ((n : Int) != (n' : Int)) = true := bne_iff_ne.2 (by omega)
   obtain rfl : Q = false := by rw [hQ', decide_eq_false hn]; simp
   clear hQ' hs
   go_wp2_with fail
   go_ret
   exact ⟨rfl, hb1⟩
 ·have s1 : (a.s != b.s) = true := bne_iff_ne.2 hs
  obtain rfl : Q = false := by rw [hQ', decide_eq_false hs]; simp
  clear hQ'
  go_wp2_with fail
  go_ret
  exact ⟨rfl, hb1⟩
end Go.Proofs.YtahdlpkncemmaaaGreat
