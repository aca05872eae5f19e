/- Walks · Walk. Conditions: those that each theorem names. -/
import Derived.Test.YtahdlpkncemmaaaW31
import Derived.Deep.CutRange
set_option maxRecDepth 100000
set_option maxHeartbeats 8000000
set_option linter.unusedSimpArgs false
set_option linter.unusedVariables false
namespace Pg
theorem scaleT_snoc (l : List TQ) (t : TQ) (q : Rat) : scaleT (l ++ [t]) q = scaleT l q ++ (if t.c * q = 0 then [] else [⟨t.v, t.c * q⟩]) := by
 induction l with
 | nil => unfold scaleT; simp only [List.nil_append, List.foldr_cons, List.foldr_nil, keepT]
 | cons x l ih =>
  unfold scaleT at ih ⊢
  rw [List.cons_append, List.foldr_cons, List.foldr_cons, ih]
  unfold keepT
  split <;> rfl
def scW (ts : List TW) (q : Rat) (j : Nat) : List TW := (scaleT ((ts.take j).map TW.q) q).map twOf
theorem scW_succ {ts : List TW} {q : Rat} {j : Nat} {t : TW} (h : ts[j]? = some t) : scW ts q (j + 1) = scW ts q j ++ (if t.r.q * q = 0 then [] else [⟨t.v, rwOf (t.r.q * q)⟩]) := by
 unfold scW
 rw [List.take_add_one, h]
 show (scaleT ((ts.take j ++ [t]).map TW.q) q).map twOf = _
 rw [List.map_append, List.map_singleton, scaleT_snoc, List.map_append]
 congr 1
 show (if t.r.q * q = 0 then [] else [(⟨t.v, t.r.q * q⟩ : TQ)]).map twOf = _
 split <;> rfl
theorem scW_all {ts : List TW} {q : Rat} {j : Nat} (h : ts.length ≤ j) : scW ts q j = (scaleT (ts.map TW.q) q).map twOf := by unfold scW; rw [List.take_of_length_le h]
theorem scW_len {ts : List TW} {q : Rat} {j : Nat} : (scW ts q j).length ≤ j := by
 unfold scW
 rw [List.length_map]
 have h1 : ∀ l : List TQ, (scaleT l q).length ≤ l.length := by
  intro l
  induction l with
  | nil => exact Nat.le_refl _
  | cons t l ih =>
   unfold scaleT at ih ⊢
   rw [List.foldr_cons]
   unfold keepT
   split
   ·exact Nat.le_succ_of_le ih
   ·exact Nat.succ_le_succ ih
 exact Nat.le_trans (h1 _) (by simp; omega)
end Pg
namespace Go.Proofs.Ytahdlpkncemmaaa
open Go.RowKit Pg
theorem infoTerm : (Try.prog.info? 38).map (fun i => (i.zero, i.size, i.bytes)) = some (some (.agg #[.int .i64 0, .bool false, .slice none 0 0, .slice none 0 0]), 4, 64) := by kernel_rfl
theorem termZ : noU (Value.agg #[.int .i64 0, .bool false, .slice none 0 0, .slice none 0 0]).cells.toList := noU_i64 (noU_bool (noU_slice (noU_slice noU_nil)))
theorem conU {s : Int} {S : Option Addr} {n c : Nat} {y : RV} : noU [.int .i64 s, .slice S n c, .bool y.s, .slice y.A y.n y.c, .slice y.A' y.n' y.c'] := noU_i64 (noU_slice (noU_bool (noU_slice (noU_slice noU_nil))))
theorem conU0 : noU [.int .i64 0, .slice none 0 0, .bool false, .slice none 0 0, .slice none 0 0] := noU_i64 (noU_slice (noU_bool (noU_slice (noU_slice noU_nil))))
theorem Scale_C {va : Value} {a : CW} {z : RV} {r : RW} {k : Nat} (w : World) (ha : ConVal w va a) (hb : z.at w r) (hle : a.Le k) (hr : r.Le k) (hk : k ≤ 100000) (hk1 : 1 ≤ k) (hl : a.t.length ≤ 100000) :
  Calls Try.prog 7 #[va, .agg #[.bool z.s, .slice z.A z.n z.c, .slice z.A' z.n' z.c']] w (ConRet w (cwOf (scaleC a.q r.q))) := by
 obtain ⟨T, n, m, v0, v1, v2, rfl, hT, hx⟩ := ha
 obtain ⟨x, rfl, rfl, rfl, hx⟩ := rows_rv hx
 obtain ⟨p, hp⟩ : ∃ p, a.r.q * r.q = p := ⟨_, rfl⟩
 have HM := hid fun W (hW : Below w.heap.size w W) => Mul_Q W (hx.below hW) (hb.below hW) hle.2 hr (by omega) hk1 hp
 have hnl : n ≤ 100000 := hT.1 ▸ hl
 have HP := hid hp
 have HT := hid hT
 have HQ := hid hb
 have HL := hid hle
 clear hx hT hb hp
 go_enter Try.func7, Try.ntmps7
 go_upto_region 1 with fail
 refine wp_world (F := fun W => (Bs W w.heap.size 27 [.int .i64 a.s, .slice T n m, .bool x.s, .slice x.A x.n x.c, .slice x.A' x.n' x.c'] ∧ Bs W (w.heap.size + 1) 25 [.bool z.s, .slice z.A z.n z.c, .slice z.A' z.n' z.c'] ∧ Bs W (w.heap.size + 2) 27 [.int .i64 0, .slice none 0 0, .bool false, .slice none 0 0, .slice none 0 0]) ∧ Below w.heap.size w W)
  ⟨⟨((Bs.new w _ _ _ rfl).alloc _).alloc _, (Bs.new _ _ _ _ (by simp)).alloc _, Bs.new _ _ _ _ (by simp)⟩, Pg.bel⟩ ?_
 rintro w1 ⟨⟨HA, HB, HZ⟩, hb1⟩
 refine draw_last [9, 10, 11, 12, 13, 14, 15, 5] [.is (.pointer (some ⟨w.heap.size, 0, none⟩)), .is (.int .i64 a.s), .is (.pointer (some ⟨w.heap.size, 2, none⟩)), .is (.agg #[.bool x.s, .slice x.A x.n x.c, .slice x.A' x.n' x.c']), .is (.agg #[.bool z.s, .slice z.A z.n z.c, .slice z.A' z.n' z.c']), .such (fun W v => ∃ (yX : RV), v = .agg #[.bool yX.s, .slice yX.A yX.n yX.c, .slice yX.A' yX.n' yX.c'] ∧ yX.at W (rwOf (p))), .such (fun W v => ∃ (y14_15 : RV), v = .agg #[.int .i64 a.s, .slice none 0 0, .bool y14_15.s, .slice y14_15.A y14_15.n y14_15.c, .slice y14_15.A' y14_15.n' y14_15.c'] ∧ y14_15.at W (rwOf (p))), .such (fun W v => ∃ (gX : Nat), v = .pointer (some ⟨gX, 0, none⟩) ∧ w1.heap.size ≤ gX ∧ Bs W gX 27 [.int .i64 0, .slice none 0 0, .bool false, .slice none 0 0, .slice none 0 0])]
  (by kernel_rfl) (by kernel_rfl) (by kernel_rfl) (by decide) (by kernel_rfl) (by kernel_rfl) (by kernel_rfl) rfl ?_ ?_
 ·refine ⟨?_, ?_, ?_, ?_, ?_, ?_, ?_, ?_, trivial⟩
  ·intro a w3 hA K hK
   have t2 := hA.old 2 _ rfl rfl
   go_simp
   exact hK _ _ Pg.fi_ (Below.refl _ _)
  ·intro a w3 hA K hK
   have t9 := bt_is hA 0 9
   have k0 := (HA.below hA.below).cell 0 rfl
   go_simp
   exact hK _ _ Pg.fi_ (Below.refl _ _)
  ·intro a w3 hA K hK
   have t2 := hA.old 2 _ rfl rfl
   go_simp
   exact hK _ _ Pg.fi_ (Below.refl _ _)
  ·intro a w3 hA K hK
   have t11 := bt_is hA 2 11
   have k0 := (HA.below hA.below).cell 2 rfl
   have k1 := (HA.below hA.below).cell 3 rfl
   have k2 := (HA.below hA.below).cell 4 rfl
   go_simp
   exact hK _ _ Pg.fi_ (Below.refl _ _)
  ·intro a w3 hA K hK
   have t3 := hA.old 3 _ rfl rfl
   have k0 := (HB.below hA.below).cell 0 rfl
   have k1 := (HB.below hA.below).cell 1 rfl
   have k2 := (HB.below hA.below).cell 2 rfl
   go_simp
   exact hK _ _ Pg.fi_ (Below.refl _ _)
  ·intro a w3 hA K hK
   have t12 := bt_is hA 3 12
   have t13 := bt_is hA 4 13
   have hC := HM.out _ (Below.then_ hb1 hA.below)
   go_simp
   refine hC.mono ?_
   rintro e w4 ⟨y, rfl, hy, hb⟩
   exact hK _ _ (fun W hW => ⟨_, rfl, hy.below hW⟩) hb
  ·intro a w3 hA K hK
   have t10 := bt_is hA 1 10
   obtain ⟨v14, t14, p14⟩ := bt_such hA 5 14
   obtain ⟨y14_15, rfl, hy14_15⟩ := p14 w3 (Below.refl _ _)
   have u10 := t10; rw [Array.getD_eq_getD_getElem?] at u10
   have u14 := t14; rw [Array.getD_eq_getD_getElem?] at u14
   go_simp
   exact hK _ _ (fun W hW => ⟨_, rfl, hy14_15.below hW⟩) (Below.refl _ _)
  ·intro a w3 hA K hK
   go_simp
   exact hK _ _ (fun W hW => ⟨_, rfl, hA.below.size, (Bs.new w3 _ _ _ rfl).below hW⟩) (Below.new_ (Below.refl _ _) _)
 rintro vs wv hV hbv act hact hold hnew K hK
 repeat (replace hV := hV.is_; obtain ⟨_, rfl, hV⟩ := hV)
 replace hV := hV.such_; obtain ⟨v14, _, rfl, p14, hV⟩ := hV
 replace hV := hV.such_; obtain ⟨v15, _, rfl, p15, hV⟩ := hV
 replace hV := hV.such_; obtain ⟨v5, _, rfl, p5, hV⟩ := hV
 obtain rfl := hV.nil_
 clear hV
 obtain ⟨y14, rfl, hy14⟩ := p14 wv (Below.refl _ _)
 clear p14
 obtain ⟨y14_15, rfl, hy14_15⟩ := p15 wv (Below.refl _ _)
 clear p15
 obtain ⟨g5, rfl, lg5, hg5⟩ := p5 wv (Below.refl _ _)
 clear p5
 simp only [puts] at hact
 have tq1 := hnew 7 5 _ rfl rfl
 have tq2 := hnew 6 15 _ rfl rfl
 clear hold hnew
 have Hact := hid hact
 clear hact
 clear hy14
 have f0 := hg5.frozen 0
 have f1 := hg5.frozen 1
 have f2 := hg5.frozen 2
 have f3 := hg5.frozen 3
 have f4 := hg5.frozen 4
 have c0 := hg5.cell 0 rfl
 have c1 := hg5.cell 1 rfl
 have c2 := hg5.cell 2 rfl
 have c3 := hg5.cell 3 rfl
 have c4 := hg5.cell 4 rfl
 go_simp
 refine hK _ _ ?_
 have hact := Hact.out
 clear Hact tq1 tq2
 subst hact
 go_simp
 go_upto_region 2 with fail
 refine wp_world (F := Stored wv g5 27 [.int .i64 a.s, .slice none 0 0, .bool y14_15.s, .slice y14_15.A y14_15.n y14_15.c, .slice y14_15.A' y14_15.n' y14_15.c']) (stored5 hg5) ?_
 rintro w2 ⟨HC, hk2, hs2⟩
 have HA2 := (HA.below hbv).grown hk2 (by have := HZ.lt; intro e; injection e with e; omega)
 have HB2 := (HB.below hbv).grown hk2 (by have := HZ.lt; intro e; injection e with e; omega)
 have HZ2 := (HZ.below hbv).grown hk2 (by have := HZ.lt; intro e; injection e with e; omega)
 have hy2 := RowsAt.kept hy14_15 hg5 (noU_i64 (noU_slice (noU_bool (noU_slice (noU_slice noU_nil))))) hk2
 have hb2 : Below w.heap.size w w2 := Below.trans (Below.then_ hb1 hbv) (Below.kept hk2 (by have := hb1.size; omega) (by have := hb1.size; have := hbv.size; omega))
 have hg2 : g5 < w2.heap.size := HC.lt
 have hgw : w.heap.size + 2 < g5 := by have := HZ.lt; omega
 clear hk2 hs2 hg5 lg5 hbv HA HB HZ hb1 c0 c1 c2 c3 c4 f0 f1 f2 f3 f4 hy14_15
 have a1 := HA2.cell 1 rfl
 go_wp2_with fail
 go_loopw [19] (fun i wr => ∃ (j : Nat) (us : List TV) (S : Option Addr) (sc : Nat), j ≤ n ∧ i = .int .i64 (j : Int) ∧ Hid (Bs wr w.heap.size 27 [.int .i64 a.s, .slice T n m, .bool x.s, .slice x.A x.n x.c, .slice x.A' x.n' x.c']) ∧ Hid (Bs wr (w.heap.size + 1) 25 [.bool z.s, .slice z.A z.n z.c, .slice z.A' z.n' z.c']) ∧ Hid (Bs wr (w.heap.size + 2) 27 [.int .i64 0, .slice none 0 0, .bool false, .slice none 0 0, .slice none 0 0]) ∧ Hid (Bs wr g5 27 [.int .i64 a.s, .slice S us.length sc, .bool y14_15.s, .slice y14_15.A y14_15.n y14_15.c, .slice y14_15.A' y14_15.n' y14_15.c']) ∧ Hid (OwnZ wr (g5 + 1) 38 4 (.slice S us.length sc) us.length (us.flatMap TV.cells)) ∧ Hid (TRead wr us (scW a.t r.q j)) ∧ Hid (y14_15.at wr (rwOf p)) ∧ Below w.heap.size w wr) (fun i _ => n - (intOf i).toNat)
 case atStart => exact ⟨0, [], none, 0, Nat.zero_le _, rfl, hid HA2, hid HB2, hid HZ2, hid HC, hid (OwnZ.nil _ _ _ _), hid trivial, hid hy2, hb2⟩
 case round =>
  obtain ⟨j, us, S, sc, hj, rfl, HA, HB, HZ, HC, HO, HR, HY, hb⟩ := hrel
  clear a1 HA2 HB2 HZ2 hb2 hg2 hy2
  by_cases hlt : j < n
  ·obtain ⟨e1, _, _, _, _, e6⟩ := HT.out
   obtain ⟨b', o', rfl, hbl, hx'⟩ := e6 (by omega)
   obtain ⟨t, ht⟩ : ∃ t, a.t[j]? = some t := ⟨a.t[j]'(by omega), List.getElem?_eq_getElem _⟩
   obtain ⟨u0, u1, u2, hca, hru⟩ := termAt_stays _ _ _ _ _ hbl (hx' j t ht) hb
   obtain ⟨u, rfl, rfl, rfl, hru⟩ := rows_rv hru
   have c0 : wr.cell? ⟨b', o' + j * 4, none⟩ = some (.int .i64 t.v) := hca.at_ 0 rfl
   have c1 := hca.at_ 1 rfl
   have c2 := hca.at_ 2 rfl
   have c3 := hca.at_ 3 rfl
   have htm : t.r.Le k := HL.out.1 t (List.mem_of_getElem? ht)
   have Hsc := hid (scW_succ (q := r.q) ht)
   obtain ⟨q, hq⟩ : ∃ q, t.r.q * r.q = q := ⟨_, rfl⟩
   rw [hq] at Hsc
   have HM2 := hid fun W (hW : Below wr.heap.size wr W) => Mul_Q W (hru.below hW) (HQ.out.below (Below.then_ hb hW)) htm hr (by omega) hk1 hq
   have Hsh : Hid (Short q (k + k)) := hid (by rw [← hq]; exact (RV.at.short hru htm hk1).mul (RV.at.short HQ.out hr hk1))
   clear e1 e6 hx' ht hca hru hq HM
   go_upto_region 5 with fail
   refine wp_world (F := NewBs wr 38 [.int .i64 t.v, .bool u.s, .slice u.A u.n u.c, .slice u.A' u.n' u.c']) (made_new _ _ _) ?_
   rintro w3 ⟨H7, hb3, hs3⟩
   have c1 := H7.cell 1 rfl
   have c2 := H7.cell 2 rfl
   have c3 := H7.cell 3 rfl
   have b0 := (HB.out.below hb3).cell 0 rfl
   have b1 := (HB.out.below hb3).cell 1 rfl
   have b2 := (HB.out.below hb3).cell 2 rfl
   go_upto_region 6 with (go_at_call 16; (with_reducible refine (HM2.out _ hb3).mono ?_); rintro e w4 ⟨y4, rfl, hy4, hb4⟩)
   refine wp_world (F := NewBs w4 25 [.bool y4.s, .slice y4.A y4.n y4.c, .slice y4.A' y4.n' y4.c']) (made_new _ _ _) ?_
   rintro w5 ⟨H8, hb5, hs5⟩
   have h75 := (H7.below hb4).below hb5
   have hy5 := RowsAt.below hy4 hb5
   have hw5 := Below.then_ (Below.then_ hb3 hb4) hb5
   clear c0 c1 c2 c3 b0 b1 b2 H7 hb3 hb4 hb5 hs3 hs5 HM2 hy4
   have c0 := H8.cell 0 rfl
   have c1 := H8.cell 1 rfl
   have c2 := H8.cell 2 rfl
   have HZr := hid fun W (hW : Below w5.heap.size w5 W) => Zero_Q W (RV.at.below hy5 hW) (short_le Hsh.out) (by omega) rfl
   obtain ⟨B, hB⟩ : ∃ B, decide (q = 0) = B := ⟨_, rfl⟩
   rw [rwOf_q, hB] at HZr
   rcases B with _ | _
   ·have hq0 := of_decide_eq_false hB
    rw [if_neg hq0] at Hsc
    go_upto_region 7 with (go_at_call 15; (with_reducible refine (HZr.out _ (Below.refl _ _)).mono ?_); rintro e w6 ⟨rfl, hb6⟩)
    have hw6 := Below.then_ hw5 hb6
    have HC6 := HC.out.below hw6
    have H86 := H8.below hb6
    have d1 := HC6.cell 1 rfl
    have f1 := HC6.frozen 1
    have d0 := (h75.below hb6).cell 0 rfl
    clear c0 c1 c2
    have c0 := H86.cell 0 rfl
    have c1 := H86.cell 1 rfl
    have c2 := H86.cell 2 rfl
    have hul : us.length ≤ j := by rw [HR.out.len]; exact scW_len
    have hg6 : g5 < w6.heap.size := HC6.lt
    have hgr : g5 < wr.heap.size := HC.out.lt
    have HO6 := HO.out.below hw6
    go_upto_region 8 with (at_builtin; refine wpList_append_z _ rfl _ _ 22 rfl (g5 + 1) 38 4 64 _ Try.underlying22 infoTerm rfl (by decide) termZ (.slice S us.length sc) us.length _ rfl (HO6.below (Below.new_ (Below.refl _ _) _)) _ 1 (TV.cells ⟨t.v, y4⟩) 38 rfl rfl (Bs.new _ _ _ _ rfl) (TV.one _) (TV.noU _) (by simp only [maxLen]; omega) (by omega) (by simp; omega) ?_; intro S7 sc7 w7 hO7 hk7; have HC7 := (HC6.alloc _).grown hk7 (fun e => by have := (HO6.own.lt _ e.symm).1; omega); have d1 := HC7.cell 1 rfl; have f1 := HC7.frozen 1)
    refine wp_at1 (ds := [.int .i64 a.s, .slice S7 (us.length + 1) sc7, .bool y14_15.s, .slice y14_15.A y14_15.n y14_15.c, .slice y14_15.A' y14_15.n' y14_15.c']) HC7 rfl ?_
    rintro w8 ⟨HC8, hk8, hs8⟩
    have kp : Kp g5 wr w8 := (((Kp.of hw6 (by omega)).then_ (by omega) (Below.new_ (Below.refl _ _) _)).trans (Kp.ownZ (HO6.below (Below.new_ (Below.refl _ _) _)) hk7 (by omega) (by simp; omega))).trans (Kp.stored HC7 conU hk8 (Nat.le_refl _))
    have kp6 : Kp g5 w6 w8 := ((Kp.of (Below.new_ (Below.refl _ _) _) (by omega)).trans (Kp.ownZ (HO6.below (Below.new_ (Below.refl _ _) _)) hk7 (by omega) (by simp; omega))).trans (Kp.stored HC7 conU hk8 (Nat.le_refl _))
    clear d0 d1 f1 c0 c1 c2 hk7 HC6 HC7
    go_wp2_with fail
    refine ⟨⟨j + 1, us ++ [⟨t.v, y4⟩], S7, sc7, hlt, by go_num, hid (HA.out.kp kp (by omega)), hid (HB.out.kp kp (by omega)), hid (HZ.out.kp kp (by omega)), hid (by rw [List.length_append]; exact HC8), hid (by rw [List.length_append, List.flatMap_append, List.flatMap_singleton]; exact hO7.grown hk8 (hO7.apart (by omega))), hid (by rw [Hsc.out]; exact TRead.snoc (u := ⟨t.v, y4⟩) (t := ⟨t.v, rwOf q⟩) rfl (RowsAt.kp (RowsAt.below hy5 hb6) kp6) (HR.out.kp kp)), hid (HY.out.kp kp), hb.trans (kp.below.mono (by omega))⟩, ?_⟩
    simp [intOf]; omega
   ·have hq0 := of_decide_eq_true hB
    rw [if_pos hq0, List.append_nil] at Hsc
    go_wp2_with (go_at_call 15; (with_reducible refine (HZr.out _ (Below.refl _ _)).mono ?_); rintro e w6 ⟨rfl, hb6⟩)
    have hw6 := Below.then_ hw5 hb6
    refine ⟨⟨j + 1, us, S, sc, hlt, by go_num, hid (HA.out.below hw6), hid (HB.out.below hw6), hid (HZ.out.below hw6), hid (HC.out.below hw6), hid (HO.out.below hw6), hid (by rw [Hsc.out]; exact HR.out.below hw6), hid (RV.at.below HY.out hw6), Below.then_ hb hw6⟩, ?_⟩
    simp [intOf]; omega
  ·obtain rfl : j = n := by omega
   clear HM
   have c0 := HC.out.cell 0 rfl
   have c1 := HC.out.cell 1 rfl
   have c2 := HC.out.cell 2 rfl
   have c3 := HC.out.cell 3 rfl
   have c4 := HC.out.cell 4 rfl
   have z0 := HZ.out.cell 0 rfl
   have z1 := HZ.out.cell 1 rfl
   have z2 := HZ.out.cell 2 rfl
   have z3 := HZ.out.cell 3 rfl
   have z4 := HZ.out.cell 4 rfl
   have f0 := HZ.out.frozen 0
   have f1 := HZ.out.frozen 1
   have f2 := HZ.out.frozen 2
   have f3 := HZ.out.frozen 3
   have f4 := HZ.out.frozen 4
   have htl : a.t.length ≤ j := Nat.le_of_eq HT.out.1
   rw [scW_all htl] at HR
   have hul : us.length ≤ 100000 := by rw [HR.out.len, ← scW_all htl]; exact Nat.le_trans scW_len (by omega)
   go_wp2_with fail
   refine bp_world (F := Stored wr (w.heap.size + 1 + 1) 27 [.int .i64 a.s, .slice S us.length sc, .bool y14_15.s, .slice y14_15.A y14_15.n y14_15.c, .slice y14_15.A' y14_15.n' y14_15.c']) (stored5 HZ.out) ?_
   rintro wz ⟨HS, ks, ss⟩
   have q0 := HS.cell 0 rfl
   have q1 := HS.cell 1 rfl
   have q2 := HS.cell 2 rfl
   have q3 := HS.cell 3 rfl
   have q4 := HS.cell 4 rfl
   refine bodyPost_ret (v := .agg #[.int .i64 a.s, .slice S us.length sc, .bool y14_15.s, .slice y14_15.A y14_15.n y14_15.c, .slice y14_15.A' y14_15.n' y14_15.c']) (by simp [results, Try.results7, go_sem, q0, q1, q2, q3, q4]) rfl ?_
   have kz : Kp w.heap.size wr wz := Kp.stored HZ.out conU0 ks (by omega)
   obtain ⟨A', c', e', hS⟩ := slTerm_of_own rfl (by omega) (HO.out.grown ks (HO.out.apart (by omega))) (HR.out.kp kz)
   injection e' with e1 e2 e3
   subst e1 e3
   exact ⟨_, rfl, ⟨_, _, _, _, _, _, rfl, hS, by show RowsAt _ (rwOf (a.r.q * r.q)) _ _ _; rw [HP.out]; exact HY.out.kp kz⟩, hb.trans kz.below⟩
end Go.Proofs.Ytahdlpkncemmaaa
namespace Go.Proofs.Ytahdlpkncemmaaa
open Go.RowKit Pg
end Go.Proofs.Ytahdlpkncemmaaa
