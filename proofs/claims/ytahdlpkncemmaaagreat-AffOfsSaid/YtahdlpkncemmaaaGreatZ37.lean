/- Walk · Walks. Conditions: those that each theorem names. -/
import Derived.Test.YtahdlpkncemmaaaGreatZ35
import Derived.Test.YtahdlpkncemmaaaGreatZ36
namespace Go.Proofs.YtahdlpkncemmaaaGreat
open Go.RowKit Pg
set_option maxRecDepth 100000 in
set_option maxHeartbeats 4000000 in
theorem rScale_C {va : Value} {a : CW} {z : RV} {r : RW} {k : Nat} (w : World) (ha : ConVal w va a) (hb : z.at w r) (hle : a.Le k) (hr : r.Le k) (hk : k ≤ 100000) (hk1 : 1 ≤ k) (hl : a.t.length ≤ 100000) :
  Calls Tryz.prog 23 #[va, .agg #[.bool z.s, .slice z.A z.n z.c, .slice z.A' z.n' z.c']] w (ConRet w (cwOf (scaleC a.q r.q))) := by
 obtain ⟨T, n, m, v0, v1, v2, rfl, hT, hx⟩ := ha
 obtain ⟨x, rfl, rfl, rfl, hx⟩ := rows_rv hx
 obtain ⟨p, hp⟩ : ∃ p, a.r.q * r.q = p := ⟨_, rfl⟩
 have HM := hid fun W (hW : Below w.heap.size w W) => r2Mul_Q W (hx.below hW) (hb.below hW) hle.2 hr (by omega) hk1 hp
 have hnl : n ≤ 100000 := hT.1 ▸ hl
 have HP := hid hp
 have HT := hid hT
 have HQ := hid hb
 have HL := hid hle
 clear hx hT hb hp
 go_enter Tryz.func23, Tryz.ntmps23
 go_upto_region 1 with fail
 refine wp_world (F := fun W => (Bs W w.heap.size 36 [.int .i64 a.s, .slice T n m, .bool x.s, .slice x.A x.n x.c, .slice x.A' x.n' x.c'] ∧ Bs W (w.heap.size + 1) 24 [.bool z.s, .slice z.A z.n z.c, .slice z.A' z.n' z.c'] ∧ Bs W (w.heap.size + 2) 36 [.int .i64 0, .slice none 0 0, .bool false, .slice none 0 0, .slice none 0 0]) ∧ Below w.heap.size w W)
  ⟨⟨((Bs.new w _ _ _ rfl).alloc _).alloc _, (Bs.new _ _ _ _ (by simp)).alloc _, Bs.new _ _ _ _ (by simp)⟩, (by repeat first | exact Below.refl _ _ | assumption | refine Pg.Below.then_ ?_ (by assumption) | refine Pg.Below.new_ ?_ _ | refine Pg.Below.drewN_ ?_ _)⟩ ?_
 rintro w1 ⟨⟨HA, HB, HZ⟩, hb1⟩
 refine draw_last [7, 8, 9, 10, 11, 12, 13, 5] [.is (.pointer (some ⟨w.heap.size, 0, none⟩)), .is (.int .i64 a.s), .is (.pointer (some ⟨w.heap.size, 2, none⟩)), .is (.agg #[.bool x.s, .slice x.A x.n x.c, .slice x.A' x.n' x.c']), .is (.agg #[.bool z.s, .slice z.A z.n z.c, .slice z.A' z.n' z.c']), .such (fun W v => ∃ (yX : RV), v = .agg #[.bool yX.s, .slice yX.A yX.n yX.c, .slice yX.A' yX.n' yX.c'] ∧ yX.at W (rwOf (p))), .such (fun W v => ∃ (y12_13 : RV), v = .agg #[.int .i64 a.s, .slice none 0 0, .bool y12_13.s, .slice y12_13.A y12_13.n y12_13.c, .slice y12_13.A' y12_13.n' y12_13.c'] ∧ y12_13.at W (rwOf (p))), .such (fun W v => ∃ (gX : Nat), v = .pointer (some ⟨gX, 0, none⟩) ∧ w1.heap.size ≤ gX ∧ Bs W gX 36 [.int .i64 0, .slice none 0 0, .bool false, .slice none 0 0, .slice none 0 0])]
  (by kernel_rfl) (by kernel_rfl) (by kernel_rfl) (by decide) (by kernel_rfl) (by kernel_rfl) (by kernel_rfl) rfl ?_ ?_
 ·refine ⟨?_, ?_, ?_, ?_, ?_, ?_, ?_, ?_, trivial⟩
  ·intro a w3 hA K hK
   have t2 := hA.old 2 _ rfl rfl
   go_simp
   exact hK _ _ (by first | rfl | exact congrArg _ (by first | rfl | omega | (rw [IntKind.wrap_i64]; omega))) (Below.refl _ _)
  ·intro a w3 hA K hK
   have t7 := bt_is hA 0 7 rfl rfl (by kernel_rfl)
   have k0 := (HA.below hA.below).cell 0 rfl
   go_simp
   exact hK _ _ (by first | rfl | exact congrArg _ (by first | rfl | omega | (rw [IntKind.wrap_i64]; omega))) (Below.refl _ _)
  ·intro a w3 hA K hK
   have t2 := hA.old 2 _ rfl rfl
   go_simp
   exact hK _ _ (by first | rfl | exact congrArg _ (by first | rfl | omega | (rw [IntKind.wrap_i64]; omega))) (Below.refl _ _)
  ·intro a w3 hA K hK
   have t9 := bt_is hA 2 9 rfl rfl (by kernel_rfl)
   have k0 := (HA.below hA.below).cell 2 rfl
   have k1 := (HA.below hA.below).cell 3 rfl
   have k2 := (HA.below hA.below).cell 4 rfl
   go_simp
   exact hK _ _ (by first | rfl | exact congrArg _ (by first | rfl | omega | (rw [IntKind.wrap_i64]; omega))) (Below.refl _ _)
  ·intro a w3 hA K hK
   have t3 := hA.old 3 _ rfl rfl
   have k0 := (HB.below hA.below).cell 0 rfl
   have k1 := (HB.below hA.below).cell 1 rfl
   have k2 := (HB.below hA.below).cell 2 rfl
   go_simp
   exact hK _ _ (by first | rfl | exact congrArg _ (by first | rfl | omega | (rw [IntKind.wrap_i64]; omega))) (Below.refl _ _)
  ·intro a w3 hA K hK
   have t10 := bt_is hA 3 10 rfl rfl (by kernel_rfl)
   have t11 := bt_is hA 4 11 rfl rfl (by kernel_rfl)
   have hC := HM.out _ (Below.then_ hb1 hA.below)
   go_simp
   refine hC.mono ?_
   rintro e w4 ⟨y, rfl, hy, hb⟩
   exact hK _ _ (fun W hW => ⟨_, rfl, hy.below hW⟩) hb
  ·intro a w3 hA K hK
   have t8 := bt_is hA 1 8 rfl rfl (by kernel_rfl)
   obtain ⟨v12, t12, p12⟩ := bt_such hA 5 12 rfl rfl (by kernel_rfl)
   obtain ⟨y12_13, rfl, hy12_13⟩ := p12 w3 (Below.refl _ _)
   have u8 := t8; rw [Array.getD_eq_getD_getElem?] at u8
   have u12 := t12; rw [Array.getD_eq_getD_getElem?] at u12
   go_simp
   exact hK _ _ (fun W hW => ⟨_, rfl, hy12_13.below hW⟩) (Below.refl _ _)
  ·intro a w3 hA K hK
   go_simp
   exact hK _ _ (fun W hW => ⟨_, rfl, hA.below.size, (Bs.new w3 _ _ _ rfl).below hW⟩) (Below.new_ (Below.refl _ _) _)
 rintro vs wv hV hbv act hact hold hnew K hK
 replace hV := hV.is_; obtain ⟨_, rfl, hV⟩ := hV
 replace hV := hV.is_; obtain ⟨_, rfl, hV⟩ := hV
 replace hV := hV.is_; obtain ⟨_, rfl, hV⟩ := hV
 replace hV := hV.is_; obtain ⟨_, rfl, hV⟩ := hV
 replace hV := hV.is_; obtain ⟨_, rfl, hV⟩ := hV
 replace hV := hV.such_; obtain ⟨v12, _, rfl, p12, hV⟩ := hV
 replace hV := hV.such_; obtain ⟨v13, _, rfl, p13, hV⟩ := hV
 replace hV := hV.such_; obtain ⟨v5, _, rfl, p5, hV⟩ := hV
 obtain rfl := hV.nil_
 clear hV
 obtain ⟨y12, rfl, hy12⟩ := p12 wv (Below.refl _ _)
 clear p12
 obtain ⟨y12_13, rfl, hy12_13⟩ := p13 wv (Below.refl _ _)
 clear p13
 obtain ⟨g5, rfl, lg5, hg5⟩ := p5 wv (Below.refl _ _)
 clear p5
 simp only [puts] at hact
 have tq1 := hnew 7 5 _ rfl rfl
 have tq2 := hnew 6 13 _ rfl rfl
 clear hold hnew
 have Hact := hid hact
 clear hact
 clear hy12
 have f0 := hg5.frozen 0
 have f1 := hg5.frozen 1
 have f2 := hg5.frozen 2
 have f3 := hg5.frozen 3
 have f4 := hg5.frozen 4
 have c0 := hg5.cell 0 rfl
 have c1 := hg5.cell 1 rfl
 have c2 := hg5.cell 2 rfl
 have c3 := hg5.cell 3 rfl
 have c4 := hg5.cell 4 rfl
 go_simp
 refine hK _ _ ?_
 have hact := Hact.out
 clear Hact tq1 tq2
 subst hact
 go_simp
 go_upto_region 2 with fail
 refine wp_world (F := Stored wv g5 36 [.int .i64 a.s, .slice none 0 0, .bool y12_13.s, .slice y12_13.A y12_13.n y12_13.c, .slice y12_13.A' y12_13.n' y12_13.c']) (stored5 hg5) ?_
 rintro w2 ⟨HC, hk2, hs2⟩
 have HA2 := (HA.below hbv).grown hk2 (by have := HZ.lt; intro e; injection e with e; omega)
 have HB2 := (HB.below hbv).grown hk2 (by have := HZ.lt; intro e; injection e with e; omega)
 have HZ2 := (HZ.below hbv).grown hk2 (by have := HZ.lt; intro e; injection e with e; omega)
 have hy2 := RowsAt.kept hy12_13 hg5 conU0 hk2
 have hb2 : Below w.heap.size w w2 := Below.trans (Below.then_ hb1 hbv) (Below.kept hk2 (by have := hb1.size; omega) (by have := hb1.size; have := hbv.size; omega))
 have hg2 : g5 < w2.heap.size := HC.lt
 have hgw : w.heap.size + 2 < g5 := by have := HZ.lt; omega
 clear hk2 hs2 hg5 lg5 hbv HA HB HZ hb1 c0 c1 c2 c3 c4 f0 f1 f2 f3 f4 hy12_13
 go_wp2_with fail
 go_loopw [6] (fun i wr => ∃ (j : Nat) (us : List TV) (S : Option Addr) (sc : Nat), j ≤ n ∧ i = .int .i64 (j : Int) ∧ Hid (Bs wr w.heap.size 36 [.int .i64 a.s, .slice T n m, .bool x.s, .slice x.A x.n x.c, .slice x.A' x.n' x.c']) ∧ Hid (Bs wr (w.heap.size + 1) 24 [.bool z.s, .slice z.A z.n z.c, .slice z.A' z.n' z.c']) ∧ Hid (Bs wr (w.heap.size + 2) 36 [.int .i64 0, .slice none 0 0, .bool false, .slice none 0 0, .slice none 0 0]) ∧ Hid (Bs wr g5 36 [.int .i64 a.s, .slice S us.length sc, .bool y12_13.s, .slice y12_13.A y12_13.n y12_13.c, .slice y12_13.A' y12_13.n' y12_13.c']) ∧ Hid (OwnZ wr (g5 + 1) 65 4 (.slice S us.length sc) us.length (us.flatMap TV.cells)) ∧ Hid (TRead wr us (scW a.t r.q j)) ∧ Hid (y12_13.at wr (rwOf p)) ∧ Below w.heap.size w wr) (fun i _ => n - (intOf i).toNat)
 case atStart => exact ⟨0, [], none, 0, Nat.zero_le _, rfl, hid HA2, hid HB2, hid HZ2, hid HC, hid (OwnZ.nil _ _ _ _), hid trivial, hid hy2, hb2⟩
 case round =>
  obtain ⟨j, us, S, sc, hj, rfl, HA, HB, HZ, HC, HO, HR, HY, hb⟩ := hrel
  clear HA2 HB2 HZ2 hb2 hg2 hy2 HM
  have a1 := HA.out.cell 1 rfl
  by_cases hlt : j < n
  ·obtain ⟨e1, _, _, _, _, e6⟩ := HT.out
   obtain ⟨b', o', rfl, hbl, hx'⟩ := e6 (by omega)
   obtain ⟨t, ht⟩ : ∃ t, a.t[j]? = some t := ⟨a.t[j]'(by omega), List.getElem?_eq_getElem _⟩
   obtain ⟨u0, u1, u2, hca, hru⟩ := termAt_stays _ _ _ _ _ hbl (hx' j t ht) hb
   obtain ⟨u, rfl, rfl, rfl, hru⟩ := rows_rv hru
   have hbr : b' < wr.heap.size := Nat.lt_of_lt_of_le hbl hb.size
   have HCA := hid hca
   have htm : t.r.Le k := HL.out.1 t (List.mem_of_getElem? ht)
   have Hsc := hid (scW_succ (q := r.q) ht)
   obtain ⟨q, hq⟩ : ∃ q, t.r.q * r.q = q := ⟨_, rfl⟩
   rw [hq] at Hsc
   have HM2 := hid fun W (hW : wr.grownBy W (Value.ownBlock (.slice S us.length sc))) => r2Mul_Q W (hru.ownZ HO.out hW) (RV.at.ownZ (HQ.out.below hb) HO.out hW) htm hr (by omega) hk1 hq
   have Hsh : Hid (Short q (k + k)) := hid (by rw [← hq]; exact (RV.at.short hru htm hk1).mul (RV.at.short HQ.out hr hk1))
   have hul : us.length ≤ j := by rw [HR.out.len]; exact scW_len
   have hgr : g5 < wr.heap.size := HC.out.lt
   have hne : ∀ k, k ≤ g5 → some k ≠ Value.ownBlock (.slice S us.length sc) := fun k hk e => by have := (HO.out.own.lt _ e.symm).1; omega
   clear e1 e6 hx' ht hca hru hq
   have hj0 : (0 : Int) ≤ (j : Int) := Int.natCast_nonneg _
   have hj1 : (j : Int) < (n : Int) := by omega
   go_upto_region 5 with fail
   refine draw_app2 (Value.ownBlock (.slice S us.length sc)) 16 [21, 22, 23, 24, 25, 26, 27, 28, 29, 30, 31, 32, 33, 34, 35, 36, 37, 38] [.is (.pointer (some ⟨g5, 1, none⟩)), .is (.slice S us.length sc), .is (.pointer (some ⟨w.heap.size, 1, none⟩)), .is (.slice (some ⟨b', o', none⟩) n m), .is (.int .i64 (j : Int)), .is (.pointer (some ⟨b', o' + j * 4, none⟩)), .is (.pointer (some ⟨b', o' + j * 4, none⟩)), .is (.int .i64 t.v), .is (.pointer (some ⟨w.heap.size, 1, none⟩)), .is (.slice (some ⟨b', o', none⟩) n m), .is (.int .i64 (j : Int)), .is (.pointer (some ⟨b', o' + j * 4, none⟩)), .is (.pointer (some ⟨b', o' + j * 4 + 1, none⟩)), .is (.agg #[.bool u.s, .slice u.A u.n u.c, .slice u.A' u.n' u.c']), .is (.agg #[.bool z.s, .slice z.A z.n z.c, .slice z.A' z.n' z.c']), .such (fun W v => ∃ (yX : RV), v = .agg #[.bool yX.s, .slice yX.A yX.n yX.c, .slice yX.A' yX.n' yX.c'] ∧ yX.at W (rwOf (q))), .own (fun W v => ∃ (usX : List TV) (SX : Option Addr) (scX : Nat), v = .slice SX usX.length scX ∧ OwnZ W (g5 + 1) 65 4 (.slice SX usX.length scX) usX.length (usX.flatMap TV.cells) ∧ TRead W usX (scW a.t r.q j ++ if q = 0 then [] else [⟨t.v, rwOf q⟩])), .is (.pointer (some ⟨g5, 1, none⟩))]
    (by kernel_rfl) (by kernel_rfl) (by kernel_rfl) (by decide) (by decide) (by kernel_rfl) (by kernel_rfl) (by kernel_rfl) rfl (by rfl) (fun g hg => (HO.out.own.lt g hg).2) (fun q W1 W2 v hm hbw hk hq W hW => by simp at hm; subst hm; obtain ⟨y, rfl, hy⟩ := hq W1 (Below.refl _ _); exact ⟨y, rfl, (RV.at.ownZ hy (HO.out.below hbw) hk).below hW⟩) ?_ ?_
   ·refine ⟨?_, ?_, ?_, ?_, ?_, ?_, ?_, ?_, ?_, ?_, ?_, ?_, ?_, ?_, ?_, ?_, ?_, ?_, trivial⟩
    ·intro a w3 hA hbl K hK
     have t5 := hA.old 5 _ rfl rfl
     go_simp
     exact hK _ _ (by first | rfl | exact congrArg _ (by first | rfl | omega | (rw [IntKind.wrap_i64]; omega))) (Below.refl _ _)
    ·intro a w3 hA hbl K hK
     have t21 := bw_is hA 0 21 rfl rfl (by kernel_rfl)
     have k0 := (HC.out.grown hA.grown (hne _ (by omega))).cell 1 rfl
     go_simp
     exact hK _ _ (by first | rfl | exact congrArg _ (by first | rfl | omega | (rw [IntKind.wrap_i64]; omega))) (Below.refl _ _)
    ·intro a w3 hA hbl K hK
     have t2 := hA.old 2 _ rfl rfl
     go_simp
     exact hK _ _ (by first | rfl | exact congrArg _ (by first | rfl | omega | (rw [IntKind.wrap_i64]; omega))) (Below.refl _ _)
    ·intro a w3 hA hbl K hK
     have t23 := bw_is hA 2 23 rfl rfl (by kernel_rfl)
     have k0 := (HA.out.grown hA.grown (hne _ (by omega))).cell 1 rfl
     go_simp
     exact hK _ _ (by first | rfl | exact congrArg _ (by first | rfl | omega | (rw [IntKind.wrap_i64]; omega))) (Below.refl _ _)
    ·intro a w3 hA hbl K hK
     have t6 := hA.old 6 _ rfl rfl
     go_simp
     exact hK _ _ (by first | rfl | exact congrArg _ (by first | rfl | omega | (rw [IntKind.wrap_i64]; omega))) (Below.refl _ _)
    ·intro a w3 hA hbl K hK
     have t24 := bw_is hA 3 24 rfl rfl (by kernel_rfl)
     have t25 := bw_is hA 4 25 rfl rfl (by kernel_rfl)
     go_simp
     exact hK _ _ (by first | rfl | exact congrArg _ (by first | rfl | omega | (rw [IntKind.wrap_i64]; omega))) (Below.refl _ _)
    ·intro a w3 hA hbl K hK
     have t26 := bw_is hA 5 26 rfl rfl (by kernel_rfl)
     go_simp
     exact hK _ _ (by first | rfl | exact congrArg _ (by first | rfl | omega | (rw [IntKind.wrap_i64]; omega))) (Below.refl _ _)
    ·intro a w3 hA hbl K hK
     have t27 := bw_is hA 6 27 rfl rfl (by kernel_rfl)
     have k0 : w3.cell? ⟨b', o' + j * 4, none⟩ = some (.int .i64 t.v) := (HCA.out.gr hbr hA.grown (hne _ (by omega))).at_ 0 rfl
     go_simp
     exact hK _ _ (by first | rfl | exact congrArg _ (by first | rfl | omega | (rw [IntKind.wrap_i64]; omega))) (Below.refl _ _)
    ·intro a w3 hA hbl K hK
     have t2 := hA.old 2 _ rfl rfl
     go_simp
     exact hK _ _ (by first | rfl | exact congrArg _ (by first | rfl | omega | (rw [IntKind.wrap_i64]; omega))) (Below.refl _ _)
    ·intro a w3 hA hbl K hK
     have t29 := bw_is hA 8 29 rfl rfl (by kernel_rfl)
     have k0 := (HA.out.grown hA.grown (hne _ (by omega))).cell 1 rfl
     go_simp
     exact hK _ _ (by first | rfl | exact congrArg _ (by first | rfl | omega | (rw [IntKind.wrap_i64]; omega))) (Below.refl _ _)
    ·intro a w3 hA hbl K hK
     have t6 := hA.old 6 _ rfl rfl
     go_simp
     exact hK _ _ (by first | rfl | exact congrArg _ (by first | rfl | omega | (rw [IntKind.wrap_i64]; omega))) (Below.refl _ _)
    ·intro a w3 hA hbl K hK
     have t30 := bw_is hA 9 30 rfl rfl (by kernel_rfl)
     have t31 := bw_is hA 10 31 rfl rfl (by kernel_rfl)
     go_simp
     exact hK _ _ (by first | rfl | exact congrArg _ (by first | rfl | omega | (rw [IntKind.wrap_i64]; omega))) (Below.refl _ _)
    ·intro a w3 hA hbl K hK
     have t32 := bw_is hA 11 32 rfl rfl (by kernel_rfl)
     go_simp
     exact hK _ _ (by first | rfl | exact congrArg _ (by first | rfl | omega | (rw [IntKind.wrap_i64]; omega))) (Below.refl _ _)
    ·intro a w3 hA hbl K hK
     have t33 := bw_is hA 12 33 rfl rfl (by kernel_rfl)
     have k0 := (HCA.out.gr hbr hA.grown (hne _ (by omega))).at_ 1 rfl
     have k1 := (HCA.out.gr hbr hA.grown (hne _ (by omega))).at_ 2 rfl
     have k2 := (HCA.out.gr hbr hA.grown (hne _ (by omega))).at_ 3 rfl
     go_simp
     exact hK _ _ (by first | rfl | exact congrArg _ (by first | rfl | omega | (rw [IntKind.wrap_i64]; omega))) (Below.refl _ _)
    ·intro a w3 hA hbl K hK
     have t3 := hA.old 3 _ rfl rfl
     have k0 := (HB.out.grown hA.grown (hne _ (by omega))).cell 0 rfl
     have k1 := (HB.out.grown hA.grown (hne _ (by omega))).cell 1 rfl
     have k2 := (HB.out.grown hA.grown (hne _ (by omega))).cell 2 rfl
     go_simp
     exact hK _ _ (by first | rfl | exact congrArg _ (by first | rfl | omega | (rw [IntKind.wrap_i64]; omega))) (Below.refl _ _)
    ·intro a w3 hA hbl K hK
     have t34 := bw_is hA 13 34 rfl rfl (by kernel_rfl)
     have t35 := bw_is hA 14 35 rfl rfl (by kernel_rfl)
     have hC := HM2.out _ hA.grown
     go_simp
     refine hC.mono ?_
     rintro e w4 ⟨y, rfl, hy, hb⟩
     exact hK _ _ (fun W hW => ⟨_, rfl, hy.below hW⟩) hb
    ·intro a w3 hA hbl K hK
     have t22 := bw_is hA 1 22 rfl rfl (by kernel_rfl)
     have t28 := bw_is hA 7 28 rfl rfl (by kernel_rfl)
     obtain ⟨v36, t36, p36⟩ := bw_such hA 15 36 rfl rfl (by kernel_rfl)
     obtain ⟨y36, rfl, hy36⟩ := p36 w3 (Below.refl _ _)
     have hC := lay_C (v := t.v) w3 (HO.out.below hbl) (HR.out.below hbl) hy36 (short_le Hsh.out) (by omega) (by omega) (by have := hbl.size; omega) (by omega)
     go_simp
     refine hC.mono ?_
     rintro e w4 ⟨us', S7, sc7, rfl, hO7, hR7, hk7⟩
     exact hK _ _ (fun W hW => ⟨_, _, _, rfl, hO7.below hW, by rw [rwOf_q] at hR7; exact hR7.below hW⟩) hk7
    ·intro a w3 hA hbl K hK
     have t5 := hA.old 5 _ rfl rfl
     go_simp
     exact hK _ _ (by first | rfl | exact congrArg _ (by first | rfl | omega | (rw [IntKind.wrap_i64]; omega))) (Below.refl _ _)
   rintro vs wv hV hgv act hact hold hnew K hK
   replace hV := hV.is_; obtain ⟨_, rfl, hV⟩ := hV
   replace hV := hV.is_; obtain ⟨_, rfl, hV⟩ := hV
   replace hV := hV.is_; obtain ⟨_, rfl, hV⟩ := hV
   replace hV := hV.is_; obtain ⟨_, rfl, hV⟩ := hV
   replace hV := hV.is_; obtain ⟨_, rfl, hV⟩ := hV
   replace hV := hV.is_; obtain ⟨_, rfl, hV⟩ := hV
   replace hV := hV.is_; obtain ⟨_, rfl, hV⟩ := hV
   replace hV := hV.is_; obtain ⟨_, rfl, hV⟩ := hV
   replace hV := hV.is_; obtain ⟨_, rfl, hV⟩ := hV
   replace hV := hV.is_; obtain ⟨_, rfl, hV⟩ := hV
   replace hV := hV.is_; obtain ⟨_, rfl, hV⟩ := hV
   replace hV := hV.is_; obtain ⟨_, rfl, hV⟩ := hV
   replace hV := hV.is_; obtain ⟨_, rfl, hV⟩ := hV
   replace hV := hV.is_; obtain ⟨_, rfl, hV⟩ := hV
   replace hV := hV.is_; obtain ⟨_, rfl, hV⟩ := hV
   replace hV := hV.such_; obtain ⟨v36, _, rfl, p36, hV⟩ := hV
   replace hV := hV.own_; obtain ⟨v37, _, rfl, p37, hV⟩ := hV
   replace hV := hV.is_; obtain ⟨_, rfl, hV⟩ := hV
   obtain rfl := hV.nil_
   clear hV
   obtain ⟨y36, rfl, hy36⟩ := p36 wv (Below.refl _ _)
   clear p36
   obtain ⟨us37, S37, sc37, rfl, hO37, hR37⟩ := p37 wv (Below.refl _ _)
   clear p37
   simp only [puts] at hact
   have tq1 := hnew 17 38 _ rfl rfl
   have tq2 := hnew 16 37 _ rfl rfl
   clear hold hnew
   have Hact := hid hact
   clear hact
   have HC7 := HC.out.grown hgv (hne _ (Nat.le_refl _))
   have f1 := HC7.frozen 1
   have c1 := HC7.cell 1 rfl
   go_simp
   refine hK _ _ ?_
   have hact := Hact.out
   clear Hact tq1 tq2
   subst hact
   go_simp
   go_upto_region 4 with fail
   refine wp_at1 (ds := [.int .i64 a.s, .slice S37 us37.length sc37, .bool y12_13.s, .slice y12_13.A y12_13.n y12_13.c, .slice y12_13.A' y12_13.n' y12_13.c']) HC7 rfl ?_
   rintro w8 ⟨HC8, hk8, hs8⟩
   have kp : Kp g5 wr w8 := (Kp.ownZ HO.out hgv (by omega) (by omega)).trans (Kp.stored HC7 conU hk8 (Nat.le_refl _))
   have k8 := Kp.stored (B := 0) HC7 conU hk8 (Nat.zero_le _)
   clear hgv HC7 f1 c1
   go_wp2_with fail
   refine ⟨⟨j + 1, us37, S37, sc37, hlt, by go_num, hid (HA.out.kp kp (by omega)), hid (HB.out.kp kp (by omega)), hid (HZ.out.kp kp (by omega)), hid HC8, hid (hO37.grown hk8 (hO37.apart (by omega))), hid (by rw [Hsc.out]; exact hR37.kp k8), hid (HY.out.kp kp), hb.trans (kp.below.mono (by omega))⟩, ?_⟩
   simp [intOf]; omega
  ·obtain rfl : j = n := by omega
   have c0 := HC.out.cell 0 rfl
   have c1 := HC.out.cell 1 rfl
   have c2 := HC.out.cell 2 rfl
   have c3 := HC.out.cell 3 rfl
   have c4 := HC.out.cell 4 rfl
   have z0 := HZ.out.cell 0 rfl
   have z1 := HZ.out.cell 1 rfl
   have z2 := HZ.out.cell 2 rfl
   have z3 := HZ.out.cell 3 rfl
   have z4 := HZ.out.cell 4 rfl
   have f0 := HZ.out.frozen 0
   have f1 := HZ.out.frozen 1
   have f2 := HZ.out.frozen 2
   have f3 := HZ.out.frozen 3
   have f4 := HZ.out.frozen 4
   have htl : a.t.length ≤ j := Nat.le_of_eq HT.out.1
   rw [scW_all htl] at HR
   have hul : us.length ≤ 100000 := by rw [HR.out.len, ← scW_all htl]; exact Nat.le_trans scW_len (by omega)
   go_wp2_with fail
   refine bp_world (F := Stored wr (w.heap.size + 1 + 1) 36 [.int .i64 a.s, .slice S us.length sc, .bool y12_13.s, .slice y12_13.A y12_13.n y12_13.c, .slice y12_13.A' y12_13.n' y12_13.c']) (stored5 HZ.out) ?_
   rintro wz ⟨HS, ks, ss⟩
   have q0 := HS.cell 0 rfl
   have q1 := HS.cell 1 rfl
   have q2 := HS.cell 2 rfl
   have q3 := HS.cell 3 rfl
   have q4 := HS.cell 4 rfl
   refine bodyPost_ret (v := .agg #[.int .i64 a.s, .slice S us.length sc, .bool y12_13.s, .slice y12_13.A y12_13.n y12_13.c, .slice y12_13.A' y12_13.n' y12_13.c']) (by simp [results, Tryz.results23, go_sem, q0, q1, q2, q3, q4]) rfl ?_
   have kz : Kp w.heap.size wr wz := Kp.stored HZ.out conU0 ks (by omega)
   obtain ⟨A', c', e', hS⟩ := slTerm_of_own rfl (by omega) (HO.out.grown ks (HO.out.apart (by omega))) (HR.out.kp kz)
   injection e' with e1 e2 e3
   subst e1 e3
   exact ⟨_, rfl, ⟨_, _, _, _, _, _, rfl, hS, by show RowsAt _ (rwOf (a.r.q * r.q)) _ _ _; rw [HP.out]; exact HY.out.kp kz⟩, hb.trans kz.below⟩
end Go.Proofs.YtahdlpkncemmaaaGreat
namespace Pg
open Go Go.RowKit
theorem valAt_out {l : List Rat} {i : Int} (h : i < 0 ∨ (l.length : Int) ≤ i) : valAt l i = 0 := by
 unfold valAt
 split
 ·rw [List.getD_eq_getElem?_getD, List.getElem?_eq_none (by omega)]; rfl
 ·rfl
theorem valAt_in {l : List Rat} {i : Nat} {q : Rat} (h : l[i]? = some q) : valAt l (i : Int) = q := by
 unfold valAt
 rw [if_pos (by omega), List.getD_eq_getElem?_getD, Int.toNat_natCast, h]; rfl
theorem ratU0 : noU [.bool false, .slice none 0 0, .slice none 0 0] := noU_bool (noU_slice (noU_slice noU_nil))
end Pg
namespace Go.Proofs.YtahdlpkncemmaaaGreat
open Go.RowKit Pg
set_option maxRecDepth 100000 in
set_option maxHeartbeats 1000000 in
theorem value_Q {A : Option Addr} {n c k : Nat} {l : List RW} (w : World) (hS : SlAt 3 RawAt w A n c l) (hl : ∀ r ∈ l, r.Le k) (hk : k ≤ 262144) (hk1 : 1 ≤ k) (i : Int) {q : Rat} (hq : valAt (l.map RW.q) i = q) :
  Calls Tryz.prog 48 #[.slice A n c, .int .i64 i] w (RetQ w q) := by
 have HZ := hid (Bs.new w 24 [.bool false, .slice none 0 0, .slice none 0 0] _ rfl)
 obtain ⟨e1, e2, e3, e4, _, e6⟩ := hS
 by_cases h0 : i < 0
 ·have hz : q = 0 := hq.symm.trans (valAt_out (.inl h0))
  subst hz
  have hd : decide (i < 0) = true := decide_eq_true h0
  clear hq e1 e6
  go_enter Tryz.func48, Tryz.ntmps48
  go_wp2_with (go_at_call 58; (with_reducible refine (Int_Q 0 _ (by omega) (by omega) rfl).mono ?_); rintro e w2 ⟨y, rfl, hy, hb2⟩; have HB := HZ.out.below hb2; have f0 := HB.frozen 0; have f1 := HB.frozen 1; have f2 := HB.frozen 2; have z0 := HB.cell 0 rfl; have z1 := HB.cell 1 rfl; have z2 := HB.cell 2 rfl)
  refine bp_world (F := Stored w2 w.heap.size 24 [.bool y.s, .slice y.A y.n y.c, .slice y.A' y.n' y.c']) (stored3 HB) ?_
  rintro wz ⟨HS, ks, ss⟩
  have q0 := HS.cell 0 rfl
  have q1 := HS.cell 1 rfl
  have q2 := HS.cell 2 rfl
  refine bodyPost_ret (v := .agg #[.bool y.s, .slice y.A y.n y.c, .slice y.A' y.n' y.c']) (by simp [results, Tryz.results48, go_sem, q0, q1, q2]) rfl ?_
  exact ⟨y, rfl, hy.kp (Kp.stored (B := 0) HB ratU0 ks (Nat.zero_le _)), (Below.then_ (Below.new_ (Below.refl _ _) _) hb2).trans (Below.kept ks (Nat.le_refl _) (by have := HB.lt; omega))⟩
 ·obtain ⟨j, rfl⟩ : ∃ j : Nat, i = (j : Int) := ⟨i.toNat, by omega⟩
  by_cases h1 : j < n
  ·obtain ⟨b', o', rfl, hbl, hx⟩ := e6 (by omega)
   obtain ⟨r, hr⟩ : ∃ r, l[j]? = some r := ⟨l[j]'(by omega), List.getElem?_eq_getElem _⟩
   have hz : q = r.q := hq.symm.trans (valAt_in (by rw [List.getElem?_map, hr]; rfl))
   subst hz
   obtain ⟨v0, v1, v2, hca, hrr⟩ := hx j r hr
   obtain ⟨u, rfl, rfl, rfl, hru⟩ := rows_rv hrr
   have hrm := hl r (List.mem_of_getElem? hr)
   have HN := hid fun W (hW : Below w.heap.size w W) => Norm_Q W (hru.below hW) hrm hk hk1
   have hcb := hca.below hbl (Below.new_ (Below.refl _ _) (.cells #[.bool false, .slice none 0 0, .slice none 0 0] 24))
   have c0 : (w.alloc (.cells #[.bool false, .slice none 0 0, .slice none 0 0] 24)).cell? ⟨b', o' + j * 3, none⟩ = some (.bool u.s) := hcb.at_ 0 rfl
   have c1 := hcb.at_ 1 rfl
   have c2 := hcb.at_ 2 rfl
   clear hq e1 e6 hx hr hca hcb hrr hru h0
   have hd : decide ((j : Int) < 0) = false := decide_eq_false (by omega)
   go_enter Tryz.func48, Tryz.ntmps48
   go_wp2_with (go_at_call 40; (with_reducible refine (HN.out _ (by repeat first | exact Below.refl _ _ | assumption | refine Pg.Below.then_ ?_ (by assumption) | refine Pg.Below.new_ ?_ _ | refine Pg.Below.drewN_ ?_ _)).mono ?_); rintro e w2 ⟨y, rfl, hy, hb2⟩; clear c0 c1 c2; have HB := HZ.out.below hb2; have f0 := HB.frozen 0; have f1 := HB.frozen 1; have f2 := HB.frozen 2; have z0 := HB.cell 0 rfl; have z1 := HB.cell 1 rfl; have z2 := HB.cell 2 rfl)
   refine bp_world (F := Stored w2 w.heap.size 24 [.bool y.s, .slice y.A y.n y.c, .slice y.A' y.n' y.c']) (stored3 HB) ?_
   rintro wz ⟨HS, ks, ss⟩
   have q0 := HS.cell 0 rfl
   have q1 := HS.cell 1 rfl
   have q2 := HS.cell 2 rfl
   refine bodyPost_ret (v := .agg #[.bool y.s, .slice y.A y.n y.c, .slice y.A' y.n' y.c']) (by simp [results, Tryz.results48, go_sem, q0, q1, q2]) rfl ?_
   exact ⟨y, rfl, hy.kp (Kp.stored (B := 0) HB ratU0 ks (Nat.zero_le _)), (Below.then_ (Below.new_ (Below.refl _ _) _) hb2).trans (Below.kept ks (Nat.le_refl _) (by have := HB.lt; omega))⟩
  ·have hz : q = 0 := hq.symm.trans (valAt_out (.inr (by rw [List.length_map]; omega)))
   subst hz
   clear hq e1 e6
   have hd : decide ((j : Int) < 0) = false := decide_eq_false (by omega)
   go_enter Tryz.func48, Tryz.ntmps48
   go_wp2_with (go_at_call 58; (with_reducible refine (Int_Q 0 _ (by omega) (by omega) rfl).mono ?_); rintro e w2 ⟨y, rfl, hy, hb2⟩; have HB := HZ.out.below hb2; have f0 := HB.frozen 0; have f1 := HB.frozen 1; have f2 := HB.frozen 2; have z0 := HB.cell 0 rfl; have z1 := HB.cell 1 rfl; have z2 := HB.cell 2 rfl)
   refine bp_world (F := Stored w2 w.heap.size 24 [.bool y.s, .slice y.A y.n y.c, .slice y.A' y.n' y.c']) (stored3 HB) ?_
   rintro wz ⟨HS, ks, ss⟩
   have q0 := HS.cell 0 rfl
   have q1 := HS.cell 1 rfl
   have q2 := HS.cell 2 rfl
   refine bodyPost_ret (v := .agg #[.bool y.s, .slice y.A y.n y.c, .slice y.A' y.n' y.c']) (by simp [results, Tryz.results48, go_sem, q0, q1, q2]) rfl ?_
   exact ⟨y, rfl, hy.kp (Kp.stored (B := 0) HB ratU0 ks (Nat.zero_le _)), (Below.then_ (Below.new_ (Below.refl _ _) _) hb2).trans (Below.kept ks (Nat.le_refl _) (by have := HB.lt; omega))⟩
theorem short_of_at {w : World} {A : Option Addr} {n c k : Nat} {l : List RW} (hS : SlAt 3 RawAt w A n c l) (hl : ∀ r ∈ l, r.Le k) (hk : 1 ≤ k) : ∀ q ∈ l.map RW.q, Short q k := by
 intro q hq
 obtain ⟨r, hr, rfl⟩ := List.mem_map.1 hq
 obtain ⟨j, hj⟩ := List.getElem?_of_mem hr
 obtain ⟨e1, _, _, _, _, e6⟩ := hS
 obtain ⟨b', o', rfl, hbl, hx⟩ := e6 (by have := (List.getElem?_eq_some_iff.1 hj).1; omega)
 obtain ⟨v0, v1, v2, _, hrr⟩ := hx j r hj
 exact (rows_arg hrr (hl r hr)).short hk
end Go.Proofs.YtahdlpkncemmaaaGreat
