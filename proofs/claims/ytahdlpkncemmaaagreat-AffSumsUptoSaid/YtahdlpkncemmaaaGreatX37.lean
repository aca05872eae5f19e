/- Walk · Walks · Walk. Conditions: those that each theorem names. -/
import Derived.Test.YtahdlpkncemmaaaGreatX35
import Derived.Test.YtahdlpkncemmaaaGreatX36
set_option maxRecDepth 100000
set_option maxHeartbeats 8000000
set_option linter.unusedSimpArgs false
set_option linter.unusedVariables false
namespace Go.Proofs.YtahdlpkncemmaaaGreat
open Go.RowKit Pg
theorem rScale_C {va : Value} {a : CW} {z : RV} {r : RW} {k : Nat} (w : World) (ha : ConVal w va a) (hb : z.at w r) (hle : a.Le k) (hr : r.Le k) (hk : k ≤ 100000) (hk1 : 1 ≤ k) (hl : a.t.length ≤ 100000) :
  Calls Tryz.prog 23 #[va, .agg #[.bool z.s, .slice z.A z.n z.c, .slice z.A' z.n' z.c']] w (ConRet w (cwOf (scaleC a.q r.q))) := by
 obtain ⟨T, n, m, v0, v1, v2, rfl, hT, hx⟩ := ha
 obtain ⟨x, rfl, rfl, rfl, hx⟩ := rows_rv hx
 obtain ⟨p, hp⟩ : ∃ p, a.r.q * r.q = p := ⟨_, rfl⟩
 have HM := hid fun W (hW : Below w.heap.size w W) => r2Mul_Q W (hx.below hW) (hb.below hW) hle.2 hr (by omega) hk1 hp
 have hnl : n ≤ 100000 := hT.1 ▸ hl
 have HP := hid hp
 have HT := hid hT
 have HQ := hid hb
 have HL := hid hle
 clear hx hT hb hp
 go_enter Tryz.func23, Tryz.ntmps23
 go_upto_region 1 with fail
 refine wp_world (F := fun W => (Bs W w.heap.size 36 [.int .i64 a.s, .slice T n m, .bool x.s, .slice x.A x.n x.c, .slice x.A' x.n' x.c'] ∧ Bs W (w.heap.size + 1) 24 [.bool z.s, .slice z.A z.n z.c, .slice z.A' z.n' z.c'] ∧ Bs W (w.heap.size + 2) 36 [.int .i64 0, .slice none 0 0, .bool false, .slice none 0 0, .slice none 0 0]) ∧ Below w.heap.size w W)
  ⟨⟨((Bs.new w _ _ _ rfl).alloc _).alloc _, (Bs.new _ _ _ _ (by simp)).alloc _, Bs.new _ _ _ _ (by simp)⟩, Pg.bel⟩ ?_
 rintro w1 ⟨⟨HA, HB, HZ⟩, hb1⟩
 refine draw_last [7, 8, 9, 10, 11, 12, 13, 5] [.is (.pointer (some ⟨w.heap.size, 0, none⟩)), .is (.int .i64 a.s), .is (.pointer (some ⟨w.heap.size, 2, none⟩)), .is (.agg #[.bool x.s, .slice x.A x.n x.c, .slice x.A' x.n' x.c']), .is (.agg #[.bool z.s, .slice z.A z.n z.c, .slice z.A' z.n' z.c']), .such (fun W v => ∃ (yX : RV), v = .agg #[.bool yX.s, .slice yX.A yX.n yX.c, .slice yX.A' yX.n' yX.c'] ∧ yX.at W (rwOf (p))), .such (fun W v => ∃ (y12_13 : RV), v = .agg #[.int .i64 a.s, .slice none 0 0, .bool y12_13.s, .slice y12_13.A y12_13.n y12_13.c, .slice y12_13.A' y12_13.n' y12_13.c'] ∧ y12_13.at W (rwOf (p))), .such (fun W v => ∃ (gX : Nat), v = .pointer (some ⟨gX, 0, none⟩) ∧ w1.heap.size ≤ gX ∧ Bs W gX 36 [.int .i64 0, .slice none 0 0, .bool false, .slice none 0 0, .slice none 0 0])]
  (by kernel_rfl) (by kernel_rfl) (by kernel_rfl) (by decide) (by kernel_rfl) (by kernel_rfl) (by kernel_rfl) rfl ?_ ?_
 ·refine ⟨?_, ?_, ?_, ?_, ?_, ?_, ?_, ?_, trivial⟩
  ·intro a w3 hA K hK
   have t2 := hA.old 2 _ rfl rfl
   go_simp
   exact hK _ _ Pg.fi_ (Below.refl _ _)
  ·intro a w3 hA K hK
   have t7 := bt_is hA 0 7
   have k0 := (HA.below hA.below).cell 0 rfl
   go_simp
   exact hK _ _ Pg.fi_ (Below.refl _ _)
  ·intro a w3 hA K hK
   have t2 := hA.old 2 _ rfl rfl
   go_simp
   exact hK _ _ Pg.fi_ (Below.refl _ _)
  ·intro a w3 hA K hK
   have t9 := bt_is hA 2 9
   have k0 := (HA.below hA.below).cell 2 rfl
   have k1 := (HA.below hA.below).cell 3 rfl
   have k2 := (HA.below hA.below).cell 4 rfl
   go_simp
   exact hK _ _ Pg.fi_ (Below.refl _ _)
  ·intro a w3 hA K hK
   have t3 := hA.old 3 _ rfl rfl
   have k0 := (HB.below hA.below).cell 0 rfl
   have k1 := (HB.below hA.below).cell 1 rfl
   have k2 := (HB.below hA.below).cell 2 rfl
   go_simp
   exact hK _ _ Pg.fi_ (Below.refl _ _)
  ·intro a w3 hA K hK
   have t10 := bt_is hA 3 10
   have t11 := bt_is hA 4 11
   have hC := HM.out _ (Below.then_ hb1 hA.below)
   go_simp
   refine hC.mono ?_
   rintro e w4 ⟨y, rfl, hy, hb⟩
   exact hK _ _ (fun W hW => ⟨_, rfl, hy.below hW⟩) hb
  ·intro a w3 hA K hK
   have t8 := bt_is hA 1 8
   obtain ⟨v12, t12, p12⟩ := bt_such hA 5 12
   obtain ⟨y12_13, rfl, hy12_13⟩ := p12 w3 (Below.refl _ _)
   have u8 := t8; rw [Array.getD_eq_getD_getElem?] at u8
   have u12 := t12; rw [Array.getD_eq_getD_getElem?] at u12
   go_simp
   exact hK _ _ (fun W hW => ⟨_, rfl, hy12_13.below hW⟩) (Below.refl _ _)
  ·intro a w3 hA K hK
   go_simp
   exact hK _ _ (fun W hW => ⟨_, rfl, hA.below.size, (Bs.new w3 _ _ _ rfl).below hW⟩) (Below.new_ (Below.refl _ _) _)
 rintro vs wv hV hbv act hact hold hnew K hK
 repeat (replace hV := hV.is_; obtain ⟨_, rfl, hV⟩ := hV)
 replace hV := hV.such_; obtain ⟨v12, _, rfl, p12, hV⟩ := hV
 replace hV := hV.such_; obtain ⟨v13, _, rfl, p13, hV⟩ := hV
 replace hV := hV.such_; obtain ⟨v5, _, rfl, p5, hV⟩ := hV
 obtain rfl := hV.nil_
 clear hV
 obtain ⟨y12, rfl, hy12⟩ := p12 wv (Below.refl _ _)
 clear p12
 obtain ⟨y12_13, rfl, hy12_13⟩ := p13 wv (Below.refl _ _)
 clear p13
 obtain ⟨g5, rfl, lg5, hg5⟩ := p5 wv (Below.refl _ _)
 clear p5
 simp only [puts] at hact
 have tq1 := hnew 7 5 _ rfl rfl
 have tq2 := hnew 6 13 _ rfl rfl
 clear hold hnew
 have Hact := hid hact
 clear hact
 clear hy12
 have f0 := hg5.frozen 0
 have f1 := hg5.frozen 1
 have f2 := hg5.frozen 2
 have f3 := hg5.frozen 3
 have f4 := hg5.frozen 4
 have c0 := hg5.cell 0 rfl
 have c1 := hg5.cell 1 rfl
 have c2 := hg5.cell 2 rfl
 have c3 := hg5.cell 3 rfl
 have c4 := hg5.cell 4 rfl
 go_simp
 refine hK _ _ ?_
 have hact := Hact.out
 clear Hact tq1 tq2
 subst hact
 go_simp
 go_upto_region 2 with fail
 refine wp_world (F := Stored wv g5 36 [.int .i64 a.s, .slice none 0 0, .bool y12_13.s, .slice y12_13.A y12_13.n y12_13.c, .slice y12_13.A' y12_13.n' y12_13.c']) (stored5 hg5) ?_
 rintro w2 ⟨HC, hk2, hs2⟩
 have HA2 := (HA.below hbv).grown hk2 (by have := HZ.lt; intro e; injection e with e; omega)
 have HB2 := (HB.below hbv).grown hk2 (by have := HZ.lt; intro e; injection e with e; omega)
 have HZ2 := (HZ.below hbv).grown hk2 (by have := HZ.lt; intro e; injection e with e; omega)
 have hy2 := RowsAt.kept hy12_13 hg5 conU0 hk2
 have hb2 : Below w.heap.size w w2 := Below.trans (Below.then_ hb1 hbv) (Below.kept hk2 (by have := hb1.size; omega) (by have := hb1.size; have := hbv.size; omega))
 have hg2 : g5 < w2.heap.size := HC.lt
 have hgw : w.heap.size + 2 < g5 := by have := HZ.lt; omega
 clear hk2 hs2 hg5 lg5 hbv HA HB HZ hb1 c0 c1 c2 c3 c4 f0 f1 f2 f3 f4 hy12_13
 go_wp2_with fail
 go_loopw [6] (fun i wr => ∃ (j : Nat) (us : List TV) (S : Option Addr) (sc : Nat), j ≤ n ∧ i = .int .i64 (j : Int) ∧ Hid (Bs wr w.heap.size 36 [.int .i64 a.s, .slice T n m, .bool x.s, .slice x.A x.n x.c, .slice x.A' x.n' x.c']) ∧ Hid (Bs wr (w.heap.size + 1) 24 [.bool z.s, .slice z.A z.n z.c, .slice z.A' z.n' z.c']) ∧ Hid (Bs wr (w.heap.size + 2) 36 [.int .i64 0, .slice none 0 0, .bool false, .slice none 0 0, .slice none 0 0]) ∧ Hid (Bs wr g5 36 [.int .i64 a.s, .slice S us.length sc, .bool y12_13.s, .slice y12_13.A y12_13.n y12_13.c, .slice y12_13.A' y12_13.n' y12_13.c']) ∧ Hid (OwnZ wr (g5 + 1) 65 4 (.slice S us.length sc) us.length (us.flatMap TV.cells)) ∧ Hid (TRead wr us (scW a.t r.q j)) ∧ Hid (y12_13.at wr (rwOf p)) ∧ Below w.heap.size w wr) (fun i _ => n - (intOf i).toNat)
 case atStart => exact ⟨0, [], none, 0, Nat.zero_le _, rfl, hid HA2, hid HB2, hid HZ2, hid HC, hid (OwnZ.nil _ _ _ _), hid trivial, hid hy2, hb2⟩
 case round =>
  obtain ⟨j, us, S, sc, hj, rfl, HA, HB, HZ, HC, HO, HR, HY, hb⟩ := hrel
  clear HA2 HB2 HZ2 hb2 hg2 hy2 HM
  have a1 := HA.out.cell 1 rfl
  by_cases hlt : j < n
  ·obtain ⟨e1, _, _, _, _, e6⟩ := HT.out
   obtain ⟨b', o', rfl, hbl, hx'⟩ := e6 (by omega)
   obtain ⟨t, ht⟩ : ∃ t, a.t[j]? = some t := ⟨a.t[j]'(by omega), List.getElem?_eq_getElem _⟩
   obtain ⟨u0, u1, u2, hca, hru⟩ := termAt_stays _ _ _ _ _ hbl (hx' j t ht) hb
   obtain ⟨u, rfl, rfl, rfl, hru⟩ := rows_rv hru
   have hbr : b' < wr.heap.size := Nat.lt_of_lt_of_le hbl hb.size
   have HCA := hid hca
   have htm : t.r.Le k := HL.out.1 t (List.mem_of_getElem? ht)
   have Hsc := hid (scW_succ (q := r.q) ht)
   obtain ⟨q, hq⟩ : ∃ q, t.r.q * r.q = q := ⟨_, rfl⟩
   rw [hq] at Hsc
   have HM2 := hid fun W (hW : wr.grownBy W (Value.ownBlock (.slice S us.length sc))) => r2Mul_Q W (hru.ownZ HO.out hW) (RV.at.ownZ (HQ.out.below hb) HO.out hW) htm hr (by omega) hk1 hq
   have Hsh : Hid (Short q (k + k)) := hid (by rw [← hq]; exact (RV.at.short hru htm hk1).mul (RV.at.short HQ.out hr hk1))
   have hul : us.length ≤ j := by rw [HR.out.len]; exact scW_len
   have hgr : g5 < wr.heap.size := HC.out.lt
   have hne : ∀ k, k ≤ g5 → some k ≠ Value.ownBlock (.slice S us.length sc) := fun k hk e => by have := (HO.out.own.lt _ e.symm).1; omega
   clear e1 e6 hx' ht hca hru hq
   have hj0 : (0 : Int) ≤ (j : Int) := Int.natCast_nonneg _
   have hj1 : (j : Int) < (n : Int) := by omega
   go_upto_region 5 with fail
   refine draw_app2 (Value.ownBlock (.slice S us.length sc)) 16 [21, 22, 23, 24, 25, 26, 27, 28, 29, 30, 31, 32, 33, 34, 35, 36, 37, 38] [.is (.pointer (some ⟨g5, 1, none⟩)), .is (.slice S us.length sc), .is (.pointer (some ⟨w.heap.size, 1, none⟩)), .is (.slice (some ⟨b', o', none⟩) n m), .is (.int .i64 (j : Int)), .is (.pointer (some ⟨b', o' + j * 4, none⟩)), .is (.pointer (some ⟨b', o' + j * 4, none⟩)), .is (.int .i64 t.v), .is (.pointer (some ⟨w.heap.size, 1, none⟩)), .is (.slice (some ⟨b', o', none⟩) n m), .is (.int .i64 (j : Int)), .is (.pointer (some ⟨b', o' + j * 4, none⟩)), .is (.pointer (some ⟨b', o' + j * 4 + 1, none⟩)), .is (.agg #[.bool u.s, .slice u.A u.n u.c, .slice u.A' u.n' u.c']), .is (.agg #[.bool z.s, .slice z.A z.n z.c, .slice z.A' z.n' z.c']), .such (fun W v => ∃ (yX : RV), v = .agg #[.bool yX.s, .slice yX.A yX.n yX.c, .slice yX.A' yX.n' yX.c'] ∧ yX.at W (rwOf (q))), .own (fun W v => ∃ (usX : List TV) (SX : Option Addr) (scX : Nat), v = .slice SX usX.length scX ∧ OwnZ W (g5 + 1) 65 4 (.slice SX usX.length scX) usX.length (usX.flatMap TV.cells) ∧ TRead W usX (scW a.t r.q j ++ if q = 0 then [] else [⟨t.v, rwOf q⟩])), .is (.pointer (some ⟨g5, 1, none⟩))]
    (by kernel_rfl) (by kernel_rfl) (by kernel_rfl) (by decide) (by decide) (by kernel_rfl) (by kernel_rfl) (by kernel_rfl) rfl (by rfl) (fun g hg => (HO.out.own.lt g hg).2) (fun q W1 W2 v hm hbw hk hq W hW => by simp at hm; subst hm; obtain ⟨y, rfl, hy⟩ := hq W1 (Below.refl _ _); exact ⟨y, rfl, (RV.at.ownZ hy (HO.out.below hbw) hk).below hW⟩) ?_ ?_
   ·refine ⟨?_, ?_, ?_, ?_, ?_, ?_, ?_, ?_, ?_, ?_, ?_, ?_, ?_, ?_, ?_, ?_, ?_, ?_, trivial⟩
    ·intro a w3 hA hbl K hK
     have t5 := hA.old 5 _ rfl rfl
     go_simp
     exact hK _ _ Pg.fi_ (Below.refl _ _)
    ·intro a w3 hA hbl K hK
     have t21 := bw_is hA 0 21
     have k0 := (HC.out.grown hA.grown (hne _ (by omega))).cell 1 rfl
     go_simp
     exact hK _ _ Pg.fi_ (Below.refl _ _)
    ·intro a w3 hA hbl K hK
     have t2 := hA.old 2 _ rfl rfl
     go_simp
     exact hK _ _ Pg.fi_ (Below.refl _ _)
    ·intro a w3 hA hbl K hK
     have t23 := bw_is hA 2 23
     have k0 := (HA.out.grown hA.grown (hne _ (by omega))).cell 1 rfl
     go_simp
     exact hK _ _ Pg.fi_ (Below.refl _ _)
    ·intro a w3 hA hbl K hK
     have t6 := hA.old 6 _ rfl rfl
     go_simp
     exact hK _ _ Pg.fi_ (Below.refl _ _)
    ·intro a w3 hA hbl K hK
     have t24 := bw_is hA 3 24
     have t25 := bw_is hA 4 25
     go_simp
     exact hK _ _ Pg.fi_ (Below.refl _ _)
    ·intro a w3 hA hbl K hK
     have t26 := bw_is hA 5 26
     go_simp
     exact hK _ _ Pg.fi_ (Below.refl _ _)
    ·intro a w3 hA hbl K hK
     have t27 := bw_is hA 6 27
     have k0 : w3.cell? ⟨b', o' + j * 4, none⟩ = some (.int .i64 t.v) := (HCA.out.gr hbr hA.grown (hne _ (by omega))).at_ 0 rfl
     go_simp
     exact hK _ _ Pg.fi_ (Below.refl _ _)
    ·intro a w3 hA hbl K hK
     have t2 := hA.old 2 _ rfl rfl
     go_simp
     exact hK _ _ Pg.fi_ (Below.refl _ _)
    ·intro a w3 hA hbl K hK
     have t29 := bw_is hA 8 29
     have k0 := (HA.out.grown hA.grown (hne _ (by omega))).cell 1 rfl
     go_simp
     exact hK _ _ Pg.fi_ (Below.refl _ _)
    ·intro a w3 hA hbl K hK
     have t6 := hA.old 6 _ rfl rfl
     go_simp
     exact hK _ _ Pg.fi_ (Below.refl _ _)
    ·intro a w3 hA hbl K hK
     have t30 := bw_is hA 9 30
     have t31 := bw_is hA 10 31
     go_simp
     exact hK _ _ Pg.fi_ (Below.refl _ _)
    ·intro a w3 hA hbl K hK
     have t32 := bw_is hA 11 32
     go_simp
     exact hK _ _ Pg.fi_ (Below.refl _ _)
    ·intro a w3 hA hbl K hK
     have t33 := bw_is hA 12 33
     have k0 := (HCA.out.gr hbr hA.grown (hne _ (by omega))).at_ 1 rfl
     have k1 := (HCA.out.gr hbr hA.grown (hne _ (by omega))).at_ 2 rfl
     have k2 := (HCA.out.gr hbr hA.grown (hne _ (by omega))).at_ 3 rfl
     go_simp
     exact hK _ _ Pg.fi_ (Below.refl _ _)
    ·intro a w3 hA hbl K hK
     have t3 := hA.old 3 _ rfl rfl
     have k0 := (HB.out.grown hA.grown (hne _ (by omega))).cell 0 rfl
     have k1 := (HB.out.grown hA.grown (hne _ (by omega))).cell 1 rfl
     have k2 := (HB.out.grown hA.grown (hne _ (by omega))).cell 2 rfl
     go_simp
     exact hK _ _ Pg.fi_ (Below.refl _ _)
    ·intro a w3 hA hbl K hK
     have t34 := bw_is hA 13 34
     have t35 := bw_is hA 14 35
     have hC := HM2.out _ hA.grown
     go_simp
     refine hC.mono ?_
     rintro e w4 ⟨y, rfl, hy, hb⟩
     exact hK _ _ (fun W hW => ⟨_, rfl, hy.below hW⟩) hb
    ·intro a w3 hA hbl K hK
     have t22 := bw_is hA 1 22
     have t28 := bw_is hA 7 28
     obtain ⟨v36, t36, p36⟩ := bw_such hA 15 36
     obtain ⟨y36, rfl, hy36⟩ := p36 w3 (Below.refl _ _)
     have hC := lay_C (v := t.v) w3 (HO.out.below hbl) (HR.out.below hbl) hy36 (short_le Hsh.out) (by omega) (by omega) (by have := hbl.size; omega) (by omega)
     go_simp
     refine hC.mono ?_
     rintro e w4 ⟨us', S7, sc7, rfl, hO7, hR7, hk7⟩
     exact hK _ _ (fun W hW => ⟨_, _, _, rfl, hO7.below hW, by rw [rwOf_q] at hR7; exact hR7.below hW⟩) hk7
    ·intro a w3 hA hbl K hK
     have t5 := hA.old 5 _ rfl rfl
     go_simp
     exact hK _ _ Pg.fi_ (Below.refl _ _)
   rintro vs wv hV hgv act hact hold hnew K hK
   repeat (replace hV := hV.is_; obtain ⟨_, rfl, hV⟩ := hV)
   replace hV := hV.such_; obtain ⟨v36, _, rfl, p36, hV⟩ := hV
   replace hV := hV.own_; obtain ⟨v37, _, rfl, p37, hV⟩ := hV
   replace hV := hV.is_; obtain ⟨_, rfl, hV⟩ := hV
   obtain rfl := hV.nil_
   clear hV
   obtain ⟨y36, rfl, hy36⟩ := p36 wv (Below.refl _ _)
   clear p36
   obtain ⟨us37, S37, sc37, rfl, hO37, hR37⟩ := p37 wv (Below.refl _ _)
   clear p37
   simp only [puts] at hact
   have tq1 := hnew 17 38 _ rfl rfl
   have tq2 := hnew 16 37 _ rfl rfl
   clear hold hnew
   have Hact := hid hact
   clear hact
   have HC7 := HC.out.grown hgv (hne _ (Nat.le_refl _))
   have f1 := HC7.frozen 1
   have c1 := HC7.cell 1 rfl
   go_simp
   refine hK _ _ ?_
   have hact := Hact.out
   clear Hact tq1 tq2
   subst hact
   go_simp
   go_upto_region 4 with fail
   refine wp_at1 (ds := [.int .i64 a.s, .slice S37 us37.length sc37, .bool y12_13.s, .slice y12_13.A y12_13.n y12_13.c, .slice y12_13.A' y12_13.n' y12_13.c']) HC7 rfl ?_
   rintro w8 ⟨HC8, hk8, hs8⟩
   have kp : Kp g5 wr w8 := (Kp.ownZ HO.out hgv (by omega) (by omega)).trans (Kp.stored HC7 conU hk8 (Nat.le_refl _))
   have k8 := Kp.stored (B := 0) HC7 conU hk8 (Nat.zero_le _)
   clear hgv HC7 f1 c1
   go_wp2_with fail
   refine ⟨⟨j + 1, us37, S37, sc37, hlt, by go_num, hid (HA.out.kp kp (by omega)), hid (HB.out.kp kp (by omega)), hid (HZ.out.kp kp (by omega)), hid HC8, hid (hO37.grown hk8 (hO37.apart (by omega))), hid (by rw [Hsc.out]; exact hR37.kp k8), hid (HY.out.kp kp), hb.trans (kp.below.mono (by omega))⟩, ?_⟩
   simp [intOf]; omega
  ·obtain rfl : j = n := by omega
   have c0 := HC.out.cell 0 rfl
   have c1 := HC.out.cell 1 rfl
   have c2 := HC.out.cell 2 rfl
   have c3 := HC.out.cell 3 rfl
   have c4 := HC.out.cell 4 rfl
   have z0 := HZ.out.cell 0 rfl
   have z1 := HZ.out.cell 1 rfl
   have z2 := HZ.out.cell 2 rfl
   have z3 := HZ.out.cell 3 rfl
   have z4 := HZ.out.cell 4 rfl
   have f0 := HZ.out.frozen 0
   have f1 := HZ.out.frozen 1
   have f2 := HZ.out.frozen 2
   have f3 := HZ.out.frozen 3
   have f4 := HZ.out.frozen 4
   have htl : a.t.length ≤ j := Nat.le_of_eq HT.out.1
   rw [scW_all htl] at HR
   have hul : us.length ≤ 100000 := by rw [HR.out.len, ← scW_all htl]; exact Nat.le_trans scW_len (by omega)
   go_wp2_with fail
   refine bp_world (F := Stored wr (w.heap.size + 1 + 1) 36 [.int .i64 a.s, .slice S us.length sc, .bool y12_13.s, .slice y12_13.A y12_13.n y12_13.c, .slice y12_13.A' y12_13.n' y12_13.c']) (stored5 HZ.out) ?_
   rintro wz ⟨HS, ks, ss⟩
   have q0 := HS.cell 0 rfl
   have q1 := HS.cell 1 rfl
   have q2 := HS.cell 2 rfl
   have q3 := HS.cell 3 rfl
   have q4 := HS.cell 4 rfl
   refine bodyPost_ret (v := .agg #[.int .i64 a.s, .slice S us.length sc, .bool y12_13.s, .slice y12_13.A y12_13.n y12_13.c, .slice y12_13.A' y12_13.n' y12_13.c']) (by simp [results, Tryz.results23, go_sem, q0, q1, q2, q3, q4]) rfl ?_
   have kz : Kp w.heap.size wr wz := Kp.stored HZ.out conU0 ks (by omega)
   obtain ⟨A', c', e', hS⟩ := slTerm_of_own rfl (by omega) (HO.out.grown ks (HO.out.apart (by omega))) (HR.out.kp kz)
   injection e' with e1 e2 e3
   subst e1 e3
   exact ⟨_, rfl, ⟨_, _, _, _, _, _, rfl, hS, by show RowsAt _ (rwOf (a.r.q * r.q)) _ _ _; rw [HP.out]; exact HY.out.kp kz⟩, hb.trans kz.below⟩
end Go.Proofs.YtahdlpkncemmaaaGreat
namespace Pg
open Go Go.RowKit
theorem valAt_out {l : List Rat} {i : Int} (h : i < 0 ∨ (l.length : Int) ≤ i) : valAt l i = 0 := by
 unfold valAt
 split
 ·rw [List.getD_eq_getElem?_getD, List.getElem?_eq_none (by omega)]; rfl
 ·rfl
theorem valAt_in {l : List Rat} {i : Nat} {q : Rat} (h : l[i]? = some q) : valAt l (i : Int) = q := by
 unfold valAt
 rw [if_pos (by omega), List.getD_eq_getElem?_getD, Int.toNat_natCast, h]; rfl
theorem ratU0 : noU [.bool false, .slice none 0 0, .slice none 0 0] := noU_bool (noU_slice (noU_slice noU_nil))
theorem rvU {y : RV} : noU [.bool y.s, .slice y.A y.n y.c, .slice y.A' y.n' y.c'] := noU_bool (noU_slice (noU_slice noU_nil))
theorem atT_snoc (f : Int → Rat) (l : List TQ) (t : TQ) : atT f (l ++ [t]) = atT f l + t.c * f t.v := by
 induction l with
 | nil => simp only [List.nil_append, atT]; rw [Rat.add_zero, Rat.zero_add]
 | cons x l ih => rw [List.cons_append]; simp only [atT]; rw [ih, Rat.add_assoc]
def atW (f : Int → Rat) (a : CW) (j : Nat) : Rat := a.r.q + atT f ((a.t.take j).map TW.q)
theorem atW_zero (f : Int → Rat) (a : CW) : atW f a 0 = a.r.q := Rat.add_zero _
theorem atW_succ {f : Int → Rat} {a : CW} {j : Nat} {t : TW} (h : a.t[j]? = some t) : atW f a (j + 1) = atW f a j + t.r.q * f t.v := by
 unfold atW
 rw [List.take_add_one, h]
 show a.r.q + atT f ((a.t.take j ++ [t]).map TW.q) = _
 rw [List.map_append, List.map_singleton, atT_snoc, ← Rat.add_assoc]; rfl
theorem atW_all {f : Int → Rat} {a : CW} {j : Nat} (h : a.t.length ≤ j) : atW f a j = atC f a.q := by unfold atW atC; rw [List.take_of_length_le h]; rfl
end Pg
namespace Go.Proofs.YtahdlpkncemmaaaGreat
open Go.RowKit Pg
theorem value_Q {A : Option Addr} {n c k : Nat} {l : List RW} (w : World) (hS : SlAt 3 RawAt w A n c l) (hl : ∀ r ∈ l, r.Le k) (hk : k ≤ 262144) (hk1 : 1 ≤ k) (i : Int) {q : Rat} (hq : valAt (l.map RW.q) i = q) :
  Calls Tryz.prog 48 #[.slice A n c, .int .i64 i] w (RetQ w q) := by
 have HZ := hid (Bs.new w 24 [.bool false, .slice none 0 0, .slice none 0 0] _ rfl)
 obtain ⟨e1, e2, e3, e4, _, e6⟩ := hS
 by_cases h0 : i < 0
 ·have hz : q = 0 := hq.symm.trans (valAt_out (.inl h0))
  subst hz
  have hd : decide (i < 0) = true := decide_eq_true h0
  clear hq e1 e6
  go_enter Tryz.func48, Tryz.ntmps48
  go_wp2_with (go_at_call 58; (with_reducible refine (Int_Q 0 _ (by omega) (by omega) rfl).mono ?_); rintro e w2 ⟨y, rfl, hy, hb2⟩; have HB := HZ.out.below hb2; have f0 := HB.frozen 0; have f1 := HB.frozen 1; have f2 := HB.frozen 2; have z0 := HB.cell 0 rfl; have z1 := HB.cell 1 rfl; have z2 := HB.cell 2 rfl)
  refine bp_world (F := Stored w2 w.heap.size 24 [.bool y.s, .slice y.A y.n y.c, .slice y.A' y.n' y.c']) (stored3 HB) ?_
  rintro wz ⟨HS, ks, ss⟩
  have q0 := HS.cell 0 rfl
  have q1 := HS.cell 1 rfl
  have q2 := HS.cell 2 rfl
  refine bodyPost_ret (v := .agg #[.bool y.s, .slice y.A y.n y.c, .slice y.A' y.n' y.c']) (by simp [results, Tryz.results48, go_sem, q0, q1, q2]) rfl ?_
  exact ⟨y, rfl, hy.kp (Kp.stored (B := 0) HB ratU0 ks (Nat.zero_le _)), (Below.then_ (Below.new_ (Below.refl _ _) _) hb2).trans (Below.kept ks (Nat.le_refl _) (by have := HB.lt; omega))⟩
 ·obtain ⟨j, rfl⟩ : ∃ j : Nat, i = (j : Int) := ⟨i.toNat, by omega⟩
  by_cases h1 : j < n
  ·obtain ⟨b', o', rfl, hbl, hx⟩ := e6 (by omega)
   obtain ⟨r, hr⟩ : ∃ r, l[j]? = some r := ⟨l[j]'(by omega), List.getElem?_eq_getElem _⟩
   have hz : q = r.q := hq.symm.trans (valAt_in (by rw [List.getElem?_map, hr]; rfl))
   subst hz
   obtain ⟨v0, v1, v2, hca, hrr⟩ := hx j r hr
   obtain ⟨u, rfl, rfl, rfl, hru⟩ := rows_rv hrr
   have hrm := hl r (List.mem_of_getElem? hr)
   have HN := hid fun W (hW : Below w.heap.size w W) => Norm_Q W (hru.below hW) hrm hk hk1
   have hcb := hca.below hbl (Below.new_ (Below.refl _ _) (.cells #[.bool false, .slice none 0 0, .slice none 0 0] 24))
   have c0 : (w.alloc (.cells #[.bool false, .slice none 0 0, .slice none 0 0] 24)).cell? ⟨b', o' + j * 3, none⟩ = some (.bool u.s) := hcb.at_ 0 rfl
   have c1 := hcb.at_ 1 rfl
   have c2 := hcb.at_ 2 rfl
   clear hq e1 e6 hx hr hca hcb hrr hru h0
   have hd : decide ((j : Int) < 0) = false := decide_eq_false (by omega)
   go_enter Tryz.func48, Tryz.ntmps48
   go_wp2_with (go_at_call 40; (with_reducible refine (HN.out _ Pg.bel).mono ?_); rintro e w2 ⟨y, rfl, hy, hb2⟩; clear c0 c1 c2; have HB := HZ.out.below hb2; have f0 := HB.frozen 0; have f1 := HB.frozen 1; have f2 := HB.frozen 2; have z0 := HB.cell 0 rfl; have z1 := HB.cell 1 rfl; have z2 := HB.cell 2 rfl)
   refine bp_world (F := Stored w2 w.heap.size 24 [.bool y.s, .slice y.A y.n y.c, .slice y.A' y.n' y.c']) (stored3 HB) ?_
   rintro wz ⟨HS, ks, ss⟩
   have q0 := HS.cell 0 rfl
   have q1 := HS.cell 1 rfl
   have q2 := HS.cell 2 rfl
   refine bodyPost_ret (v := .agg #[.bool y.s, .slice y.A y.n y.c, .slice y.A' y.n' y.c']) (by simp [results, Tryz.results48, go_sem, q0, q1, q2]) rfl ?_
   exact ⟨y, rfl, hy.kp (Kp.stored (B := 0) HB ratU0 ks (Nat.zero_le _)), (Below.then_ (Below.new_ (Below.refl _ _) _) hb2).trans (Below.kept ks (Nat.le_refl _) (by have := HB.lt; omega))⟩
  ·have hz : q = 0 := hq.symm.trans (valAt_out (.inr (by rw [List.length_map]; omega)))
   subst hz
   clear hq e1 e6
   have hd : decide ((j : Int) < 0) = false := decide_eq_false (by omega)
   go_enter Tryz.func48, Tryz.ntmps48
   go_wp2_with (go_at_call 58; (with_reducible refine (Int_Q 0 _ (by omega) (by omega) rfl).mono ?_); rintro e w2 ⟨y, rfl, hy, hb2⟩; have HB := HZ.out.below hb2; have f0 := HB.frozen 0; have f1 := HB.frozen 1; have f2 := HB.frozen 2; have z0 := HB.cell 0 rfl; have z1 := HB.cell 1 rfl; have z2 := HB.cell 2 rfl)
   refine bp_world (F := Stored w2 w.heap.size 24 [.bool y.s, .slice y.A y.n y.c, .slice y.A' y.n' y.c']) (stored3 HB) ?_
   rintro wz ⟨HS, ks, ss⟩
   have q0 := HS.cell 0 rfl
   have q1 := HS.cell 1 rfl
   have q2 := HS.cell 2 rfl
   refine bodyPost_ret (v := .agg #[.bool y.s, .slice y.A y.n y.c, .slice y.A' y.n' y.c']) (by simp [results, Tryz.results48, go_sem, q0, q1, q2]) rfl ?_
   exact ⟨y, rfl, hy.kp (Kp.stored (B := 0) HB ratU0 ks (Nat.zero_le _)), (Below.then_ (Below.new_ (Below.refl _ _) _) hb2).trans (Below.kept ks (Nat.le_refl _) (by have := HB.lt; omega))⟩
theorem short_of_at {w : World} {A : Option Addr} {n c k : Nat} {l : List RW} (hS : SlAt 3 RawAt w A n c l) (hl : ∀ r ∈ l, r.Le k) (hk : 1 ≤ k) : ∀ q ∈ l.map RW.q, Short q k := by
 intro q hq
 obtain ⟨r, hr, rfl⟩ := List.mem_map.1 hq
 obtain ⟨j, hj⟩ := List.getElem?_of_mem hr
 obtain ⟨e1, _, _, _, _, e6⟩ := hS
 obtain ⟨b', o', rfl, hbl, hx⟩ := e6 (by have := (List.getElem?_eq_some_iff.1 hj).1; omega)
 obtain ⟨v0, v1, v2, _, hrr⟩ := hx j r hj
 exact (rows_arg hrr (hl r hr)).short hk
theorem valAt_short {l : List Rat} {k : Nat} (h : ∀ q ∈ l, Short q k) (hk : 1 ≤ k) (i : Int) : Short (valAt l i) k := by
 unfold valAt
 split
 ·exact getD_short h hk _
 ·exact short_zero.mono hk
theorem At_C {va : Value} {a : CW} {A : Option Addr} {n1 c1 k : Nat} {l : List RW} (w : World) (ha : ConVal w va a) (hS : SlAt 3 RawAt w A n1 c1 l) (hl : ∀ r ∈ l, r.Le k) (hle : a.Le k) (hk : k ≤ 500) (hk1 : 1 ≤ k) (hla : a.t.length ≤ 200) :
  Calls Tryz.prog 25 #[va, .slice A n1 c1] w (RetQ w (atC (valAt (l.map RW.q)) a.q)) := by
 obtain ⟨T, n, m, v0, v1, v2, rfl, hT, hx0⟩ := ha
 obtain ⟨x, rfl, rfl, rfl, hx⟩ := rows_rv hx0
 have HN := hid fun W (hW : Below w.heap.size w W) => Norm_Q W (hx.below hW) hle.2 (by omega) hk1
 have hnl : n ≤ 200 := hT.1 ▸ hla
 have HK := hid (hx.short hle.2 hk1)
 have HS := hid hS
 have HT := hid hT
 have HL := hid hle
 obtain ⟨f, hf⟩ : ∃ f, valAt (l.map RW.q) = f := ⟨_, rfl⟩
 rw [hf]
 have HF := hid hf
 clear hx hx0 hT hS hf
 go_enter Tryz.func25, Tryz.ntmps25
 go_upto_region 1 with fail
 refine wp_world (F := fun W => (Bs W w.heap.size 36 [.int .i64 a.s, .slice T n m, .bool x.s, .slice x.A x.n x.c, .slice x.A' x.n' x.c'] ∧ Bs W (w.heap.size + 1) 24 [.bool false, .slice none 0 0, .slice none 0 0]) ∧ Below w.heap.size w W)
  ⟨⟨(Bs.new w _ _ _ rfl).alloc _, Bs.new _ _ _ _ (by simp)⟩, Pg.bel⟩ ?_
 rintro w1 ⟨⟨HA, HZ⟩, hb1⟩
 have c2 := HA.cell 2 rfl
 have c3 := HA.cell 3 rfl
 have c4 := HA.cell 4 rfl
 go_upto_region 2 with (go_at_call 40; (with_reducible refine (HN.out _ hb1).mono ?_); rintro e w2 ⟨y, rfl, hy, hb2⟩)
 refine wp_world (F := NewBs w2 24 [.bool y.s, .slice y.A y.n y.c, .slice y.A' y.n' y.c']) (made_new _ _ _) ?_
 rintro w5 ⟨H5, hb5, hs5⟩
 have HA5 := (HA.below hb2).below hb5
 have HZ5 := (HZ.below hb2).below hb5
 have hw5 := Below.then_ (Below.then_ hb1 hb2) hb5
 have hy5 := hy.below hb5
 have hgw : w.heap.size + 1 < w2.heap.size := by have := HZ.lt; have := hb2.size; omega
 clear c2 c3 c4 HA HZ hb1 hb2 hb5 hs5 hy HN
 obtain ⟨g5, hg5⟩ : ∃ g5, w2.heap.size = g5 := ⟨_, rfl⟩
 rw [hg5] at H5 hgw ⊢
 clear hg5
 have a1 := HA5.cell 1 rfl
 go_wp2_with fail
 go_loopw [14] (fun i wr => ∃ (j : Nat) (y : RV), j ≤ n ∧ i = .int .i64 (j : Int) ∧ Hid (Bs wr w.heap.size 36 [.int .i64 a.s, .slice T n m, .bool x.s, .slice x.A x.n x.c, .slice x.A' x.n' x.c']) ∧ Hid (Bs wr (w.heap.size + 1) 24 [.bool false, .slice none 0 0, .slice none 0 0]) ∧ Hid (Bs wr g5 24 [.bool y.s, .slice y.A y.n y.c, .slice y.A' y.n' y.c']) ∧ Hid (y.at wr (rwOf (atW f a j))) ∧ Hid (Short (atW f a j) (k + j * (2 * k + 1))) ∧ Below w.heap.size w wr) (fun i _ => n - (intOf i).toNat)
 case atStart => exact ⟨0, y, Nat.zero_le _, rfl, hid HA5, hid HZ5, hid H5, hid (by rw [atW_zero]; exact hy5), hid (by rw [atW_zero]; exact HK.out.mono (by omega)), hw5⟩
 case round =>
  obtain ⟨j, y, hj, rfl, HA, HZ, HC, HY, HSh, hb⟩ := hrel
  clear a1 HA5 HZ5 H5 hw5 hy5
  by_cases hlt : j < n
  ·obtain ⟨e1, _, _, _, _, e6⟩ := HT.out
   obtain ⟨b', o', rfl, hbl, hx'⟩ := e6 (by omega)
   obtain ⟨t, ht⟩ : ∃ t, a.t[j]? = some t := ⟨a.t[j]'(by omega), List.getElem?_eq_getElem _⟩
   obtain ⟨u0, u1, u2, hca, hru0⟩ := termAt_stays _ _ _ _ _ hbl (hx' j t ht) hb
   obtain ⟨u, rfl, rfl, rfl, hru⟩ := rows_rv hru0
   have c0 : wr.cell? ⟨b', o' + j * 4, none⟩ = some (.int .i64 t.v) := hca.at_ 0 rfl
   have c1 := hca.at_ 1 rfl
   have c2 := hca.at_ 2 rfl
   have c3 := hca.at_ 3 rfl
   have htm : t.r.Le k := HL.out.1 t (List.mem_of_getElem? ht)
   have Hs := hid (atW_succ (f := f) ht)
   obtain ⟨p1, hp1⟩ : ∃ p1, f t.v = p1 := ⟨_, rfl⟩
   obtain ⟨p2, hp2⟩ : ∃ p2, t.r.q * p1 = p2 := ⟨_, rfl⟩
   rw [hp1, hp2] at Hs
   have HP1 : Hid (valAt (l.map RW.q) t.v = p1) := hid (by rw [HF.out]; exact hp1)
   have hsv : Short p1 k := by rw [← HP1.out]; exact valAt_short (short_of_at HS.out hl hk1) hk1 _
   have HS1 := hid hsv
   have HS2 : Hid (Short p2 (k + k)) := hid (by rw [← hp2]; exact (RV.at.short hru htm hk1).mul hsv)
   have hmul : (j + 1) * (2 * k + 1) = j * (2 * k + 1) + (2 * k + 1) := Nat.succ_mul _ _
   have hmle : (j + 1) * (2 * k + 1) ≤ 200 * 1001 := Nat.mul_le_mul (by omega) (by omega)
   obtain ⟨s1, hs1⟩ : ∃ s, k + j * (2 * k + 1) = s := ⟨_, rfl⟩
   obtain ⟨p3, hp3⟩ : ∃ p3, atW f a j + p2 = p3 := ⟨_, rfl⟩
   rw [hs1] at HSh
   rw [hp3] at Hs
   have HS3 : Hid (Short p3 (k + (j + 1) * (2 * k + 1))) := hid (by rw [← hp3]; exact (HSh.out.add HS2.out).mono (by omega))
   have hs2 : 1 ≤ s1 + 2 * k := by omega
   have hsb : s1 + 2 * k ≤ 262144 := by omega
   have HP2 : Hid (t.r.q * p1 = p2) := hid hp2
   have HP3 : Hid (atW f a j + p2 = p3) := hid hp3
   clear e1 e6 hx' ht hca hru0 hp1 hp2 hp3 hsv hmul hmle hs1
   go_upto_region 5 with fail
   refine wp_world (F := NewBs wr 65 [.int .i64 t.v, .bool u.s, .slice u.A u.n u.c, .slice u.A' u.n' u.c']) (made_new _ _ _) ?_
   rintro w3 ⟨H7, hb3, hs3⟩
   have hw3 := Below.then_ hb hb3
   have hu3 := hru.below hb3
   have hy3 := HY.out.below hb3
   have H53 := HC.out.below hb3
   clear c0 c1 c2 c3 hru
   refine draw_last [18, 19, 20, 21, 22, 23, 24, 25, 26] [.is (.agg #[.bool y.s, .slice y.A y.n y.c, .slice y.A' y.n' y.c']), .is (.pointer (some ⟨wr.heap.size, 1, none⟩)), .is (.agg #[.bool u.s, .slice u.A u.n u.c, .slice u.A' u.n' u.c']), .is (.slice A n1 c1), .is (.pointer (some ⟨wr.heap.size, 0, none⟩)), .is (.int .i64 t.v), .such (fun W v => ∃ (yX : RV), v = .agg #[.bool yX.s, .slice yX.A yX.n yX.c, .slice yX.A' yX.n' yX.c'] ∧ yX.at W (rwOf (p1))), .such (fun W v => ∃ (yX : RV), v = .agg #[.bool yX.s, .slice yX.A yX.n yX.c, .slice yX.A' yX.n' yX.c'] ∧ yX.at W (rwOf (p2))), .such (fun W v => ∃ (yX : RV), v = .agg #[.bool yX.s, .slice yX.A yX.n yX.c, .slice yX.A' yX.n' yX.c'] ∧ yX.at W (rwOf (p3)))]
    (by kernel_rfl) (by kernel_rfl) (by kernel_rfl) (by decide) (by kernel_rfl) (by kernel_rfl) (by kernel_rfl) rfl ?_ ?_
   ·refine ⟨?_, ?_, ?_, ?_, ?_, ?_, ?_, ?_, ?_, trivial⟩
    ·intro a w3 hA K hK
     have t5 := hA.old 5 _ rfl rfl
     have k0 := (H53.below hA.below).cell 0 rfl
     have k1 := (H53.below hA.below).cell 1 rfl
     have k2 := (H53.below hA.below).cell 2 rfl
     go_simp
     exact hK _ _ Pg.fi_ (Below.refl _ _)
    ·intro a w3 hA K hK
     have t7 := hA.old 7 _ rfl rfl
     go_simp
     exact hK _ _ Pg.fi_ (Below.refl _ _)
    ·intro a w3 hA K hK
     have t19 := bt_is hA 1 19
     have k0 := (H7.below hA.below).cell 1 rfl
     have k1 := (H7.below hA.below).cell 2 rfl
     have k2 := (H7.below hA.below).cell 3 rfl
     go_simp
     exact hK _ _ Pg.fi_ (Below.refl _ _)
    ·intro a w3 hA K hK
     have t1 := hA.old 1 _ rfl rfl
     go_simp
     exact hK _ _ Pg.fi_ (Below.refl _ _)
    ·intro a w3 hA K hK
     have t7 := hA.old 7 _ rfl rfl
     go_simp
     exact hK _ _ Pg.fi_ (Below.refl _ _)
    ·intro a w3 hA K hK
     have t22 := bt_is hA 4 22
     have k0 := (H7.below hA.below).cell 0 rfl
     go_simp
     exact hK _ _ Pg.fi_ (Below.refl _ _)
    ·intro a w3 hA K hK
     have t21 := bt_is hA 3 21
     have t23 := bt_is hA 5 23
     have hC := value_Q _ (HS.out.below rawAt_stays (Below.then_ hw3 hA.below)) hl (by omega) hk1 t.v HP1.out
     go_simp
     refine hC.mono ?_
     rintro e w4 ⟨y, rfl, hy, hb⟩
     exact hK _ _ (fun W hW => ⟨_, rfl, hy.below hW⟩) hb
    ·intro a w3 hA K hK
     have t20 := bt_is hA 2 20
     obtain ⟨v24, t24, p24⟩ := bt_such hA 6 24
     obtain ⟨y24, rfl, hy24⟩ := p24 w3 (Below.refl _ _)
     have hC := Mul_Q (q := p2) _ (hu3.below hA.below) hy24 htm (short_le HS1.out) (by omega) hk1 (by rw [rwOf_q]; exact HP2.out)
     go_simp
     refine hC.mono ?_
     rintro e w4 ⟨y, rfl, hy, hb⟩
     exact hK _ _ (fun W hW => ⟨_, rfl, hy.below hW⟩) hb
    ·intro a w3 hA K hK
     have t18 := bt_is hA 0 18
     obtain ⟨v25, t25, p25⟩ := bt_such hA 7 25
     obtain ⟨y25, rfl, hy25⟩ := p25 w3 (Below.refl _ _)
     have hC := Add_Q (q := p3) _ (hy3.below hA.below) hy25 ((short_le HSh.out).mono (by omega)) ((short_le HS2.out).mono (by omega)) hsb hs2 (by rw [rwOf_q, rwOf_q]; exact HP3.out)
     go_simp
     refine hC.mono ?_
     rintro e w4 ⟨y, rfl, hy, hb⟩
     exact hK _ _ (fun W hW => ⟨_, rfl, hy.below hW⟩) hb
   rintro vs wv hV hbv act hact hold hnew K hK
   repeat (replace hV := hV.is_; obtain ⟨_, rfl, hV⟩ := hV)
   replace hV := hV.such_; obtain ⟨v24, _, rfl, p24, hV⟩ := hV
   replace hV := hV.such_; obtain ⟨v25, _, rfl, p25, hV⟩ := hV
   replace hV := hV.such_; obtain ⟨v26, _, rfl, p26, hV⟩ := hV
   obtain rfl := hV.nil_
   clear hV
   obtain ⟨y24, rfl, hy24⟩ := p24 wv (Below.refl _ _)
   clear p24
   obtain ⟨y25, rfl, hy25⟩ := p25 wv (Below.refl _ _)
   clear p25
   obtain ⟨y26, rfl, hy26⟩ := p26 wv (Below.refl _ _)
   clear p26
   simp only [puts] at hact
   have tq1 := hold 5 _ rfl rfl
   have tq2 := hnew 8 26 _ rfl rfl
   clear hold hnew
   have Hact := hid hact
   clear hact
   have f0 := (H53.below hbv).frozen 0
   have f1 := (H53.below hbv).frozen 1
   have f2 := (H53.below hbv).frozen 2
   have c0 := (H53.below hbv).cell 0 rfl
   have c1 := (H53.below hbv).cell 1 rfl
   have c2 := (H53.below hbv).cell 2 rfl
   go_simp
   refine hK _ _ ?_
   have hact := Hact.out
   clear Hact tq1 tq2
   subst hact
   go_simp
   go_upto_region 6 with fail
   refine wp_world (F := Stored wv g5 24 [.bool y26.s, .slice y26.A y26.n y26.c, .slice y26.A' y26.n' y26.c']) (stored3 (H53.below hbv)) ?_
   rintro w6 ⟨H6, hk6, hs6⟩
   have kp : Kp g5 wr w6 := (Kp.of (Below.then_ hb3 hbv) (by have := HC.out.lt; omega)).trans (Kp.stored (H53.below hbv) rvU hk6 (Nat.le_refl _))
   have k6 := Kp.stored (B := 0) (H53.below hbv) rvU hk6 (Nat.zero_le _)
   clear hk6 hs6 c0 c1 c2 f0 f1 f2 H53 hb3 hbv
   go_wp2_with fail
   refine ⟨⟨j + 1, y26, hlt, by go_num, hid (HA.out.kp kp (by omega)), hid (HZ.out.kp kp (by omega)), hid H6, hid (by rw [Hs.out]; exact hy26.kp k6), hid (by rw [Hs.out]; exact HS3.out), hb.trans (kp.below.mono (by omega))⟩, ?_⟩
   simp [intOf]; omega
  ·obtain rfl : j = n := by omega
   have hal : a.t.length ≤ j := Nat.le_of_eq HT.out.1
   have c0 := HC.out.cell 0 rfl
   have c1 := HC.out.cell 1 rfl
   have c2 := HC.out.cell 2 rfl
   have z0 := HZ.out.cell 0 rfl
   have z1 := HZ.out.cell 1 rfl
   have z2 := HZ.out.cell 2 rfl
   have f0 := HZ.out.frozen 0
   have f1 := HZ.out.frozen 1
   have f2 := HZ.out.frozen 2
   go_wp2_with fail
   refine bp_world (F := Stored wr (w.heap.size + 1) 24 [.bool y.s, .slice y.A y.n y.c, .slice y.A' y.n' y.c']) (stored3 HZ.out) ?_
   rintro wz ⟨HS, ks, ss⟩
   have q0 := HS.cell 0 rfl
   have q1 := HS.cell 1 rfl
   have q2 := HS.cell 2 rfl
   refine bodyPost_ret (v := .agg #[.bool y.s, .slice y.A y.n y.c, .slice y.A' y.n' y.c']) (by simp [results, Tryz.results25, go_sem, q0, q1, q2]) rfl ?_
   exact ⟨y, rfl, by rw [← atW_all hal]; exact HY.out.kp (Kp.stored (B := 0) HZ.out ratU0 ks (Nat.zero_le _)), hb.trans (Below.kept ks (by omega) hb.size)⟩
end Go.Proofs.YtahdlpkncemmaaaGreat
namespace Go.Proofs.YtahdlpkncemmaaaGreat
open Go.RowKit Pg
theorem rAt_C {va : Value} {a : CW} {A : Option Addr} {n1 c1 k : Nat} {l : List RW} (w : World) (ha : ConVal w va a) (hS : SlAt 3 RawAt w A n1 c1 l) (hl : ∀ r ∈ l, r.Le k) (hle : a.Le k) (hk : k ≤ 500) (hk1 : 1 ≤ k) (hla : a.t.length ≤ 200) :
  Calls Tryz.prog 26 #[va, .slice A n1 c1] w (RetQ w (atC (valAt (l.map RW.q)) a.q)) := by
 obtain ⟨T, n, m, v0, v1, v2, rfl, hT, hx0⟩ := ha
 obtain ⟨x, rfl, rfl, rfl, hx⟩ := rows_rv hx0
 have HN := hid fun W (hW : Below w.heap.size w W) => r2Norm_Q W (hx.below hW) hle.2 (by omega) hk1
 have hnl : n ≤ 200 := hT.1 ▸ hla
 have HK := hid (hx.short hle.2 hk1)
 have HS := hid hS
 have HT := hid hT
 have HL := hid hle
 have hn1 : (n1 : Int) ≤ 140737488355328 := by have := hS.2.2.1; omega
 obtain ⟨f, hf⟩ : ∃ f, valAt (l.map RW.q) = f := ⟨_, rfl⟩
 rw [hf]
 have HF := hid hf
 clear hx hx0 hT hS hf
 go_enter Tryz.func26, Tryz.ntmps26
 go_upto_region 1 with fail
 refine wp_world (F := fun W => (Bs W w.heap.size 36 [.int .i64 a.s, .slice T n m, .bool x.s, .slice x.A x.n x.c, .slice x.A' x.n' x.c'] ∧ Bs W (w.heap.size + 1) 24 [.bool false, .slice none 0 0, .slice none 0 0]) ∧ Below w.heap.size w W)
  ⟨⟨(Bs.new w _ _ _ rfl).alloc _, Bs.new _ _ _ _ (by simp)⟩, Pg.bel⟩ ?_
 rintro w1 ⟨⟨HA, HZ⟩, hb1⟩
 have c2 := HA.cell 2 rfl
 have c3 := HA.cell 3 rfl
 have c4 := HA.cell 4 rfl
 go_upto_region 2 with (go_at_call 46; (with_reducible refine (HN.out _ hb1).mono ?_); rintro e w2 ⟨y, rfl, hy, hb2⟩)
 refine wp_world (F := NewBs w2 24 [.bool y.s, .slice y.A y.n y.c, .slice y.A' y.n' y.c']) (made_new _ _ _) ?_
 rintro w5 ⟨H5, hb5, hs5⟩
 have HA5 := (HA.below hb2).below hb5
 have HZ5 := (HZ.below hb2).below hb5
 have hw5 := Below.then_ (Below.then_ hb1 hb2) hb5
 have hy5 := hy.below hb5
 have hgw : w.heap.size + 1 < w2.heap.size := by have := HZ.lt; have := hb2.size; omega
 clear c2 c3 c4 HA HZ hb1 hb2 hb5 hs5 hy HN
 obtain ⟨g5, hg5⟩ : ∃ g5, w2.heap.size = g5 := ⟨_, rfl⟩
 rw [hg5] at H5 hgw ⊢
 clear hg5
 go_wp2_with fail
 go_loopw [6] (fun i wr => ∃ (j : Nat) (y : RV), j ≤ n ∧ i = .int .i64 (j : Int) ∧ Hid (Bs wr w.heap.size 36 [.int .i64 a.s, .slice T n m, .bool x.s, .slice x.A x.n x.c, .slice x.A' x.n' x.c']) ∧ Hid (Bs wr (w.heap.size + 1) 24 [.bool false, .slice none 0 0, .slice none 0 0]) ∧ Hid (Bs wr g5 24 [.bool y.s, .slice y.A y.n y.c, .slice y.A' y.n' y.c']) ∧ Hid (y.at wr (rwOf (atW f a j))) ∧ Hid (Short (atW f a j) (k + j * (2 * k + 1))) ∧ Below w.heap.size w wr) (fun i _ => n - (intOf i).toNat)
 case atStart => exact ⟨0, y, Nat.zero_le _, rfl, hid HA5, hid HZ5, hid H5, hid (by rw [atW_zero]; exact hy5), hid (by rw [atW_zero]; exact HK.out.mono (by omega)), hw5⟩
 case round =>
  obtain ⟨j, y, hj, rfl, HA, HZ, HC, HY, HSh, hb⟩ := hrel
  clear HA5 HZ5 H5 hw5 hy5
  have a1 := HA.out.cell 1 rfl
  by_cases hlt : j < n
  ·obtain ⟨e1, _, _, _, _, e6⟩ := HT.out
   obtain ⟨b', o', rfl, hbl, hx'⟩ := e6 (by omega)
   obtain ⟨⟨tv, tr⟩, ht⟩ : ∃ t, a.t[j]? = some t := ⟨a.t[j]'(by omega), List.getElem?_eq_getElem _⟩
   obtain ⟨u0, u1, u2, hca, hru0⟩ := termAt_stays _ _ _ _ _ hbl (hx' j _ ht) hb
   obtain ⟨u, rfl, rfl, rfl, hru⟩ := rows_rv hru0
   have c0 : wr.cell? ⟨b', o' + j * 4, none⟩ = some (.int .i64 tv) := hca.at_ 0 rfl
   have htm : tr.Le k := HL.out.1 _ (List.mem_of_getElem? ht)
   have Hs := hid (atW_succ (f := f) ht)
   have HU := hid hru
   have HCA := hid hca
   have hbr : b' < wr.heap.size := Nat.lt_of_lt_of_le hbl hb.size
   have hmul : (j + 1) * (2 * k + 1) = j * (2 * k + 1) + (2 * k + 1) := Nat.succ_mul _ _
   clear e1 e6 hx' ht hca hru0 hru
   by_cases h0 : tv < 0
   ·have hz : f tv = 0 := by rw [← HF.out]; exact valAt_out (.inl h0)
    rw [hz, Rat.mul_zero, Rat.add_zero] at Hs
    clear hz
    go_wp2_with fail
    refine ⟨⟨j + 1, y, hlt, by go_num, HA, HZ, HC, hid (by rw [Hs.out]; exact HY.out), hid (by rw [Hs.out]; exact HSh.out.mono (by omega)), hb⟩, ?_⟩
    simp [intOf]; omega
   ·obtain ⟨iv, rfl⟩ : ∃ iv : Nat, tv = (iv : Int) := ⟨tv.toNat, by omega⟩
    by_cases h1 : iv < n1
    ·obtain ⟨f1, _, _, _, _, f6⟩ := HS.out
     obtain ⟨b2, o2, rfl, hb2l, hx2⟩ := f6 (by omega)
     obtain ⟨r, hr⟩ : ∃ r, l[iv]? = some r := ⟨l[iv]'(by omega), List.getElem?_eq_getElem _⟩
     obtain ⟨w0, w1', w2', hcv, hrv0⟩ := rawAt_stays _ _ _ _ _ hb2l (hx2 iv r hr) hb
     obtain ⟨z, rfl, rfl, rfl, hrv⟩ := rows_rv hrv0
     have HrL := hid (hl r (List.mem_of_getElem? hr))
     have HV := hid hrv
     have HCV := hid hcv
     have hb2r : b2 < wr.heap.size := Nat.lt_of_lt_of_le hb2l hb.size
     have hfz : f (iv : Int) = r.q := by rw [← HF.out]; exact valAt_in (by rw [List.getElem?_map, hr]; rfl)
     obtain ⟨p2, hp2⟩ : ∃ p2, tr.q * r.q = p2 := ⟨_, rfl⟩
     rw [hfz] at Hs
     simp only at Hs
     rw [hp2] at Hs
     have HS2 : Hid (Short p2 (k + k)) := hid (by rw [← hp2]; exact (RV.at.short HU.out htm hk1).mul (RV.at.short hrv HrL.out hk1))
     have hmle : (j + 1) * (2 * k + 1) ≤ 200 * 1001 := Nat.mul_le_mul (by omega) (by omega)
     obtain ⟨s1, hs1⟩ : ∃ s, k + j * (2 * k + 1) = s := ⟨_, rfl⟩
     obtain ⟨p3, hp3⟩ : ∃ p3, atW f a j + p2 = p3 := ⟨_, rfl⟩
     rw [hs1] at HSh
     rw [hp3] at Hs
     have HS3 : Hid (Short p3 (k + (j + 1) * (2 * k + 1))) := hid (by rw [← hp3]; exact (HSh.out.add HS2.out).mono (by omega))
     have hs2 : 1 ≤ s1 + 2 * k := by omega
     have hsb : s1 + 2 * k ≤ 262144 := by omega
     have HP2 : Hid (tr.q * r.q = p2) := hid hp2
     have HP3 : Hid (atW f a j + p2 = p3) := hid hp3
     have hj0 : (0 : Int) ≤ (j : Int) := Int.natCast_nonneg _
     have hj1 : (j : Int) < (n : Int) := by omega
     have hi0 : (0 : Int) ≤ (iv : Int) := Int.natCast_nonneg _
     have hi1 : (iv : Int) < (n1 : Int) := by omega
     clear f1 f6 hx2 hr hcv hrv0 hrv hfz hp2 hp3 hmul hmle hs1
     go_upto_region 7 with fail
     refine draw_last [32, 33, 34, 35, 36, 37, 38, 39, 40, 41, 42, 43, 44] [.is (.agg #[.bool y.s, .slice y.A y.n y.c, .slice y.A' y.n' y.c']), .is (.pointer (some ⟨w.heap.size, 1, none⟩)), .is (.slice (some ⟨b', o', none⟩) n m), .is (.int .i64 (j : Int)), .is (.pointer (some ⟨b', o' + j * 4, none⟩)), .is (.pointer (some ⟨b', o' + j * 4 + 1, none⟩)), .is (.agg #[.bool u.s, .slice u.A u.n u.c, .slice u.A' u.n' u.c']), .is (.slice (some ⟨b2, o2, none⟩) n1 c1), .is (.int .i64 (iv : Int)), .is (.pointer (some ⟨b2, o2 + iv * 3, none⟩)), .is (.agg #[.bool z.s, .slice z.A z.n z.c, .slice z.A' z.n' z.c']), .such (fun W v => ∃ (yX : RV), v = .agg #[.bool yX.s, .slice yX.A yX.n yX.c, .slice yX.A' yX.n' yX.c'] ∧ yX.at W (rwOf (p2))), .such (fun W v => ∃ (yX : RV), v = .agg #[.bool yX.s, .slice yX.A yX.n yX.c, .slice yX.A' yX.n' yX.c'] ∧ yX.at W (rwOf (p3)))]
      (by kernel_rfl) (by kernel_rfl) (by kernel_rfl) (by decide) (by kernel_rfl) (by kernel_rfl) (by kernel_rfl) rfl ?_ ?_
     ·refine ⟨?_, ?_, ?_, ?_, ?_, ?_, ?_, ?_, ?_, ?_, ?_, ?_, ?_, trivial⟩
      ·intro a w3 hA K hK
       have t5 := hA.old 5 _ rfl rfl
       have k0 := (HC.out.below hA.below).cell 0 rfl
       have k1 := (HC.out.below hA.below).cell 1 rfl
       have k2 := (HC.out.below hA.below).cell 2 rfl
       go_simp
       exact hK _ _ Pg.fi_ (Below.refl _ _)
      ·intro a w3 hA K hK
       have t2 := hA.old 2 _ rfl rfl
       go_simp
       exact hK _ _ Pg.fi_ (Below.refl _ _)
      ·intro a w3 hA K hK
       have t33 := bt_is hA 1 33
       have k0 := (HA.out.below hA.below).cell 1 rfl
       go_simp
       exact hK _ _ Pg.fi_ (Below.refl _ _)
      ·intro a w3 hA K hK
       have t6 := hA.old 6 _ rfl rfl
       go_simp
       exact hK _ _ Pg.fi_ (Below.refl _ _)
      ·intro a w3 hA K hK
       have t34 := bt_is hA 2 34
       have t35 := bt_is hA 3 35
       go_simp
       exact hK _ _ Pg.fi_ (Below.refl _ _)
      ·intro a w3 hA K hK
       have t36 := bt_is hA 4 36
       go_simp
       exact hK _ _ Pg.fi_ (Below.refl _ _)
      ·intro a w3 hA K hK
       have t37 := bt_is hA 5 37
       have k0 := (HCA.out.below hbr hA.below).at_ 1 rfl
       have k1 := (HCA.out.below hbr hA.below).at_ 2 rfl
       have k2 := (HCA.out.below hbr hA.below).at_ 3 rfl
       go_simp
       exact hK _ _ Pg.fi_ (Below.refl _ _)
      ·intro a w3 hA K hK
       have t1 := hA.old 1 _ rfl rfl
       go_simp
       exact hK _ _ Pg.fi_ (Below.refl _ _)
      ·intro a w3 hA K hK
       have t7 := hA.old 7 _ rfl rfl
       go_simp
       exact hK _ _ Pg.fi_ (Below.refl _ _)
      ·intro a w3 hA K hK
       have t39 := bt_is hA 7 39
       have t40 := bt_is hA 8 40
       go_simp
       exact hK _ _ Pg.fi_ (Below.refl _ _)
      ·intro a w3 hA K hK
       have t41 := bt_is hA 9 41
       have k0 : w3.cell? ⟨b2, o2 + iv * 3, none⟩ = some (.bool z.s) := (HCV.out.below hb2r hA.below).at_ 0 rfl
       have k1 := (HCV.out.below hb2r hA.below).at_ 1 rfl
       have k2 := (HCV.out.below hb2r hA.below).at_ 2 rfl
       go_simp
       exact hK _ _ Pg.fi_ (Below.refl _ _)
      ·intro a w3 hA K hK
       have t38 := bt_is hA 6 38
       have t42 := bt_is hA 10 42
       have hC := r2Mul_Q (q := p2) _ (HU.out.below hA.below) (HV.out.below hA.below) htm HrL.out (by omega) hk1 HP2.out
       go_simp
       refine hC.mono ?_
       rintro e w4 ⟨y, rfl, hy, hb⟩
       exact hK _ _ (fun W hW => ⟨_, rfl, hy.below hW⟩) hb
      ·intro a w3 hA K hK
       have t32 := bt_is hA 0 32
       obtain ⟨v43, t43, p43⟩ := bt_such hA 11 43
       obtain ⟨y43, rfl, hy43⟩ := p43 w3 (Below.refl _ _)
       have hC := r2Add_Q (q := p3) _ (HY.out.below hA.below) hy43 ((short_le HSh.out).mono (by omega)) ((short_le HS2.out).mono (by omega)) hsb hs2 (by rw [rwOf_q, rwOf_q]; exact HP3.out)
       go_simp
       refine hC.mono ?_
       rintro e w4 ⟨y, rfl, hy, hb⟩
       exact hK _ _ (fun W hW => ⟨_, rfl, hy.below hW⟩) hb
     rintro vs wv hV hbv act hact hold hnew K hK
     repeat (replace hV := hV.is_; obtain ⟨_, rfl, hV⟩ := hV)
     replace hV := hV.such_; obtain ⟨v43, _, rfl, p43, hV⟩ := hV
     replace hV := hV.such_; obtain ⟨v44, _, rfl, p44, hV⟩ := hV
     obtain rfl := hV.nil_
     clear hV
     obtain ⟨y43, rfl, hy43⟩ := p43 wv (Below.refl _ _)
     clear p43
     obtain ⟨y44, rfl, hy44⟩ := p44 wv (Below.refl _ _)
     clear p44
     simp only [puts] at hact
     have tq1 := hold 5 _ rfl rfl
     have tq2 := hnew 12 44 _ rfl rfl
     clear hold hnew
     have Hact := hid hact
     clear hact
     have HC7 := HC.out.below hbv
     have f0 := HC7.frozen 0
     have f1 := HC7.frozen 1
     have f2 := HC7.frozen 2
     have c0 := HC7.cell 0 rfl
     have c1 := HC7.cell 1 rfl
     have c2 := HC7.cell 2 rfl
     go_simp
     refine hK _ _ ?_
     have hact := Hact.out
     clear Hact tq1 tq2
     subst hact
     go_simp
     go_upto_region 4 with fail
     refine wp_world (F := Stored wv g5 24 [.bool y44.s, .slice y44.A y44.n y44.c, .slice y44.A' y44.n' y44.c']) (stored3 HC7) ?_
     rintro w6 ⟨H6, hk6, hs6⟩
     have kp : Kp g5 wr w6 := (Kp.of hbv (by have := HC.out.lt; omega)).trans (Kp.stored HC7 rvU hk6 (Nat.le_refl _))
     have k6 := Kp.stored (B := 0) HC7 rvU hk6 (Nat.zero_le _)
     clear hk6 hs6 c0 c1 c2 f0 f1 f2 HC7 hbv
     go_wp2_with fail
     refine ⟨⟨j + 1, y44, hlt, by go_num, hid (HA.out.kp kp (by omega)), hid (HZ.out.kp kp (by omega)), hid H6, hid (by rw [Hs.out]; exact hy44.kp k6), hid (by rw [Hs.out]; exact HS3.out), hb.trans (kp.below.mono (by omega))⟩, ?_⟩
     simp [intOf]; omega
    ·have hz : f (iv : Int) = 0 := by rw [← HF.out]; exact valAt_out (.inr (by rw [List.length_map, HS.out.1]; omega))
     rw [hz, Rat.mul_zero, Rat.add_zero] at Hs
     clear hz
     go_wp2_with fail
     refine ⟨⟨j + 1, y, hlt, by go_num, HA, HZ, HC, hid (by rw [Hs.out]; exact HY.out), hid (by rw [Hs.out]; exact HSh.out.mono (by omega)), hb⟩, ?_⟩
     simp [intOf]; omega
  ·obtain rfl : j = n := by omega
   have hal : a.t.length ≤ j := Nat.le_of_eq HT.out.1
   have c0 := HC.out.cell 0 rfl
   have c1 := HC.out.cell 1 rfl
   have c2 := HC.out.cell 2 rfl
   have z0 := HZ.out.cell 0 rfl
   have z1 := HZ.out.cell 1 rfl
   have z2 := HZ.out.cell 2 rfl
   have f0 := HZ.out.frozen 0
   have f1 := HZ.out.frozen 1
   have f2 := HZ.out.frozen 2
   go_wp2_with fail
   refine bp_world (F := Stored wr (w.heap.size + 1) 24 [.bool y.s, .slice y.A y.n y.c, .slice y.A' y.n' y.c']) (stored3 HZ.out) ?_
   rintro wz ⟨HS, ks, ss⟩
   have q0 := HS.cell 0 rfl
   have q1 := HS.cell 1 rfl
   have q2 := HS.cell 2 rfl
   refine bodyPost_ret (v := .agg #[.bool y.s, .slice y.A y.n y.c, .slice y.A' y.n' y.c']) (by simp [results, Tryz.results26, go_sem, q0, q1, q2]) rfl ?_
   exact ⟨y, rfl, by rw [← atW_all hal]; exact HY.out.kp (Kp.stored (B := 0) HZ.out ratU0 ks (Nat.zero_le _)), hb.trans (Below.kept ks (by omega) hb.size)⟩
end Go.Proofs.YtahdlpkncemmaaaGreat
