/- Walk. Conditions: those that each theorem names. -/
import Derived.Test.YtahdlpkncemmaaaGreatY45
import Derived.Test.YtahdlpkncemmaaaGreatY39
set_option maxRecDepth 100000
set_option maxHeartbeats 8000000
set_option linter.unusedSimpArgs false
set_option linter.unusedVariables false
namespace Go.Proofs.YtahdlpkncemmaaaGreat
open Go.RowKit Pg
def OfAt (x : EW) (e : XE) : Prop := ∀ (K : Nat) (w : World) (v : Value), XE.Val w e v → SzX e K → K ≤ 10000 → 1 ≤ K → EnvAt w x →
 Calls Tryz.prog 35 #[v, .agg #[.slice x.A0 x.n0 x.k0, .slice x.A1 x.n1 x.k1, .slice x.A2 x.n2 x.k2]] w (SumRet w (sumX x.q e))
theorem OfAt.neg {x : EW} {a : XE} (hl : ∀ r ∈ x.vals, r.Le 3) (hn : x.vars.length ≤ 1000) (IH : OfAt x a) : OfAt x (.neg a) := by
 rintro K w v ⟨v0, v1, v2, nm, b, o, kn, kc, d0, d1, d2, d3, d4, d5, rfl, hk1, hk2, hbl, hck, hv⟩ hsz hK hK1 hE
 have HS1 := hid fun W (hW : Below w.heap.size w W) => IH K W _ (XE.Val.below hW a _ hv) hsz hK hK1 (hE.below hW)
 have hkp : 0 < kn := hk1
 simp only [sumX]
 have hvs : ∀ q ∈ x.q.vals, Short q 3 := short_of_at hE.vals hl (by omega)
 obtain ⟨X, hX⟩ : ∃ X, sumX x.q a = X := ⟨_, rfl⟩
 rw [hX] at HS1 ⊢
 have HE1 := hid fun (y : Nat) (h : X = .error y) => sumX_err (hX.trans h)
 have HF1 := hid fun (C : CQ) (h : X = .ok C) => And.intro (sumX_short x.q hvs a K C hsz (hX.trans h)) (Nat.le_trans (sumX_len (hX.trans h)) hn)
 have HCK := hid hck
 clear hX hv hE hsz hck hvs
 go_enter Tryz.func35, Tryz.ntmps35
 go_upto_region 1 with fail
 refine wp_world (F := fun W => (Bs W w.heap.size 27 [.int .i64 7, v0, v1, v2, nm, .slice (some ⟨b, o, none⟩) kn kc] ∧ Bs W (w.heap.size + 1) 42 [.slice x.A0 x.n0 x.k0, .slice x.A1 x.n1 x.k1, .slice x.A2 x.n2 x.k2] ∧ Bs W (w.heap.size + 2) 36 [.int .i64 0, .slice none 0 0, .bool false, .slice none 0 0, .slice none 0 0]) ∧ Below w.heap.size w W)
  ⟨⟨((Bs.new w _ _ _ rfl).alloc _).alloc _, (Bs.new _ _ _ _ (by simp)).alloc _, Bs.new _ _ _ _ (by simp)⟩, Pg.bel⟩ ?_
 rintro w1 ⟨⟨HX, HV, HZ⟩, hb1⟩
 have a0 := HX.cell 0 rfl
 have HK0 := HCK.out.below hbl hb1
 have hbk : b < w1.heap.size := Nat.lt_of_lt_of_le hbl hb1.size
 go_upto_region 6 with fail
 refine draw_G (FreshR w1 36 5) (fun W => Below w1.heap.size w1 W) 10 (some 9) [some 26, some 27, some 28, some 29, some 30, some 31, some 25, some 32, some 33, some 6, none, some 7] [.is (.pointer (some ⟨w.heap.size, 5, none⟩)), .is (.slice (some ⟨b, o, none⟩) kn kc), .is (.pointer (some ⟨b, o, none⟩)), .is (.agg #[d0, d1, d2, d3, d4, d5]), .is (.agg #[.slice x.A0 x.n0 x.k0, .slice x.A1 x.n1 x.k1, .slice x.A2 x.n2 x.k2]), .such (fun W v => ∃ (TX : Option Addr) (nX : Nat) (mX : Nat) (yX : RV), v = .tuple #[.agg #[.int .i64 (conOf X).s, .slice TX nX mX, .bool yX.s, .slice yX.A yX.n yX.c, .slice yX.A' yX.n' yX.c'], .int .i64 (errOf X : Int)] ∧ CV W TX nX mX yX ((conOf X))), .such (fun W v => ∃ (TX : Option Addr) (nX : Nat) (mX : Nat) (yX : RV), v = .tuple #[.agg #[.int .i64 (conOf X).s, .slice TX nX mX, .bool yX.s, .slice yX.A yX.n yX.c, .slice yX.A' yX.n' yX.c'], .int .i64 (errOf X : Int)] ∧ CV W TX nX mX yX ((conOf X))), .such (fun W v => ∃ (TX : Option Addr) (nX : Nat) (mX : Nat) (yX : RV), v = .agg #[.int .i64 (conOf X).s, .slice TX nX mX, .bool yX.s, .slice yX.A yX.n yX.c, .slice yX.A' yX.n' yX.c'] ∧ CV W TX nX mX yX ((conOf X))), .is (.int .i64 (errOf X : Int)), .such (FreshAt w1 36 5), .own (fun W v => ∃ (gFa : Nat) (T32s : Option Addr) (n32s : Nat) (m32s : Nat) (y32s : RV), v = .pointer (some ⟨gFa, 0, none⟩) ∧ w1.heap.size ≤ gFa ∧ Bs W gFa 36 [.int .i64 (conOf X).s, .slice T32s n32s m32s, .bool y32s.s, .slice y32s.A y32s.n y32s.c, .slice y32s.A' y32s.n' y32s.c'] ∧ CV W T32s n32s m32s y32s ((conOf X))), .is (.int .i64 (errOf X : Int))]
  (by kernel_rfl) (by kernel_rfl) (by kernel_rfl) (by kernel_rfl) rfl (by kernel_rfl) (fun _ h => h) (fun _ _ h hb => Below.then_ h hb) (fun _ _ hb h => FreshR.bel hb h) (fun q W1 W2 v hm hbw hk hq => by simp at hm; rcases hm with rfl | rfl | rfl | rfl <;> first | (obtain ⟨TX, nX, mX, yX, rfl, hcX⟩ := hq W1 (Below.refl _ _); exact fun W hW => ⟨_, _, _, _, rfl, (FreshR.cv hk hcX).below hW⟩) | (exact fun W hW => (FreshAt.after (hq W1 (Below.refl _ _)) hk).below hW)) ?_ ?_
 ·refine ⟨?_, ?_, ?_, ?_, ?_, ?_, ?_, ?_, ?_, ?_, ?_, ?_, trivial⟩
  ·intro a w3 hA K hK
   have t2 := hA.old 2 _ rfl rfl
   go_simp
   exact hK _ _ rfl (Below.refl _ _)
  ·intro a w3 hA K hK
   have t26 := bg_is hA 0 26
   have k0 := (HX.below hA.grown).cell 5 rfl
   go_simp
   exact hK _ _ rfl (Below.refl _ _)
  ·intro a w3 hA K hK
   have t27 := bg_is hA 1 27
   go_simp
   exact hK _ _ Pg.fi_ (Below.refl _ _)
  ·intro a w3 hA K hK
   have t28 := bg_is hA 2 28
   have k0 : w3.cell? ⟨b, o, none⟩ = some (d0) := (HK0.below hbk hA.grown).at_ 0 rfl
   have k1 := (HK0.below hbk hA.grown).at_ 1 rfl
   have k2 := (HK0.below hbk hA.grown).at_ 2 rfl
   have k3 := (HK0.below hbk hA.grown).at_ 3 rfl
   have k4 := (HK0.below hbk hA.grown).at_ 4 rfl
   have k5 := (HK0.below hbk hA.grown).at_ 5 rfl
   go_simp
   exact hK _ _ rfl (Below.refl _ _)
  ·intro a w3 hA K hK
   have t3 := hA.old 3 _ rfl rfl
   have k0 := (HV.below hA.grown).cell 0 rfl
   have k1 := (HV.below hA.grown).cell 1 rfl
   have k2 := (HV.below hA.grown).cell 2 rfl
   go_simp
   exact hK _ _ rfl (Below.refl _ _)
  ·intro a w3 hA K hK
   have t29 := bg_is hA 3 29
   have t30 := bg_is hA 4 30
   have hC := HS1.out w3 (Below.then_ hb1 hA.grown)
   go_simp
   refine hC.mono ?_
   rintro e w4 ⟨v, rfl, hv, hb⟩
   obtain ⟨_, _, _, _, rfl, hc⟩ := hv.cv; exact hK _ _ (fun W hW => ⟨_, _, _, _, rfl, hc.below hW⟩) hb
  ·intro a w3 hA K hK
   obtain ⟨v31, t31, p31⟩ := bg_such hA 5 31
   obtain ⟨T31, n31, m31, y31, rfl, hc31⟩ := p31 w3 (Below.refl _ _)
   go_simp
   exact hK _ _ (fun W hW => ⟨_, _, _, _, rfl, hc31.below hW⟩) (Below.refl _ _)
  ·intro a w3 hA K hK
   obtain ⟨v25, t25, p25⟩ := bg_such hA 6 25
   obtain ⟨T25, n25, m25, y25, rfl, hc25⟩ := p25 w3 (Below.refl _ _)
   go_simp
   exact hK _ _ (fun W hW => ⟨_, _, _, _, rfl, hc25.below hW⟩) (Below.refl _ _)
  ·intro a w3 hA K hK
   obtain ⟨v25, t25, p25⟩ := bg_such hA 6 25
   obtain ⟨T25, n25, m25, y25, rfl, hc25⟩ := p25 w3 (Below.refl _ _)
   go_simp
   exact hK _ _ rfl (Below.refl _ _)
  ·intro a w3 hA K hK
   go_simp
   exact hK _ _ (fun W hW => FreshAt.below ⟨_, _, rfl, hA.grown.size, Bs.new w3 _ [.int .i64 0, .slice none 0 0, .bool false, .slice none 0 0, .slice none 0 0] _ rfl, ⟨(noU_i64 (noU_slice (noU_bool (noU_slice (noU_slice noU_nil))))), noT_con⟩, rfl⟩ hW) (Below.new_ (Below.refl _ _) _)
  ·intro a w3 hA K hK
   obtain ⟨v6, lk6, t6, p6⟩ := bg_link hA 9 6
   obtain ⟨g6, cs6, rfl, lg6, hB6, hU6, hl6⟩ := p6 w3 (Below.refl _ _)
   obtain ⟨x0, x1, x2, x3, x4, rfl⟩ := len5 hl6
   have f0 := hB6.frozen 0
   have c0 := hB6.cell 0 rfl
   have f1 := hB6.frozen 1
   have c1 := hB6.cell 1 rfl
   have f2 := hB6.frozen 2
   have c2 := hB6.cell 2 rfl
   have f3 := hB6.frozen 3
   have c3 := hB6.cell 3 rfl
   have f4 := hB6.frozen 4
   have c4 := hB6.cell 4 rfl
   obtain ⟨v32, t32, p32⟩ := bg_such hA 7 32
   obtain ⟨T32s, n32s, m32s, y32s, rfl, hc32s⟩ := p32 w3 (Below.refl _ _)
   go_simp
   exact hK (.pointer (some ⟨g6, 0, none⟩)) _ (fun W hW => ⟨g6, _, _, _, _, rfl, lg6, (stored5 hB6).1.below hW, (CV.kept hc32s hB6 hU6.1 hU6.2 (stored5 hB6).2.1).below hW⟩) ⟨⟨g6, _, _, lg6, hB6, hU6, rfl, (stored5 hB6).1, ⟨(noU_i64 (noU_slice (noU_bool (noU_slice (noU_slice noU_nil))))), noT_con⟩, rfl, (stored5 hB6).2.1⟩, fun j d h1 h2 => by cases h1; cases h2; exact lk6⟩
  ·intro a w3 hA K hK
   have t33 := bg_is hA 8 33
   go_simp
   exact hK _ _ Pg.fi_ (Below.refl _ _)
 rintro vs wv hV hbv hlk act hact
 repeat (replace hV := hV.is_; obtain ⟨_, rfl, hV⟩ := hV)
 replace hV := hV.such_; obtain ⟨v31, _, rfl, p31, hV⟩ := hV
 replace hV := hV.such_; obtain ⟨v25, _, rfl, p25, hV⟩ := hV
 replace hV := hV.such_; obtain ⟨v32, _, rfl, p32, hV⟩ := hV
 replace hV := hV.is_; obtain ⟨_, rfl, hV⟩ := hV
 replace hV := hV.such_; obtain ⟨v6, _, rfl, p6, hV⟩ := hV
 replace hV := hV.own_; obtain ⟨vP, _, rfl, pP, hV⟩ := hV
 replace hV := hV.is_; obtain ⟨_, rfl, hV⟩ := hV
 obtain rfl := hV.nil_
 clear hV
 replace hlk := hlk _ rfl
 simp only [List.getElem?_cons_succ, List.getElem?_cons_zero, Option.some.injEq] at hlk
 subst hlk; clear p6
 obtain ⟨T31, n31, m31, y31, rfl, hc31⟩ := p31 wv (Below.refl _ _)
 clear p31
 obtain ⟨T25, n25, m25, y25, rfl, hc25⟩ := p25 wv (Below.refl _ _)
 clear p25
 obtain ⟨T32, n32, m32, y32, rfl, hc32⟩ := p32 wv (Below.refl _ _)
 clear p32
 obtain ⟨gFa, T32s, n32s, m32s, y32s, rfl, lgFa, hBFa, hc32s⟩ := pP wv (Below.refl _ _)
 clear pP
 simp only [putsO] at hact
 subst hact
 go_simp
 have hwv := Below.then_ hb1 hbv
 have HXv := HX.below hbv
 clear a0
 have a0 := HXv.cell 0 rfl
 rcases X with x1 | C1
 ·skip
  have hx1 : ((errOf (Except.error x1 : Except Nat CQ) : Int) != 0) = true := bne_iff_ne.2 (Int.natCast_ne_zero.2 (HE1.out _ rfl))
  have HZe := HZ.below hbv
  have f0 := HZe.frozen 0
  have f1 := HZe.frozen 1
  have f2 := HZe.frozen 2
  have f3 := HZe.frozen 3
  have f4 := HZe.frozen 4
  have z0 := HZe.cell 0 rfl
  have z1 := HZe.cell 1 rfl
  have z2 := HZe.cell 2 rfl
  have z3 := HZe.cell 3 rfl
  have z4 := HZe.cell 4 rfl
  go_wp2_with fail
  refine bp_world (F := Stored wv (w.heap.size + 1 + 1) 36 [.int .i64 0, .slice none 0 0, .bool false, .slice none 0 0, .slice none 0 0]) (stored5 HZe) ?_
  rintro wz ⟨HS, ks, ss⟩
  have q0 := HS.cell 0 rfl
  have q1 := HS.cell 1 rfl
  have q2 := HS.cell 2 rfl
  have q3 := HS.cell 3 rfl
  have q4 := HS.cell 4 rfl
  refine bodyPost_ret (v := .tuple #[.agg #[.int .i64 0, .slice none 0 0, .bool false, .slice none 0 0, .slice none 0 0], .int .i64 (errOf (Except.error x1 : Except Nat CQ) : Int)]) (by simp [results, Tryz.results35, go_sem, q0, q1, q2, q3, q4]) rfl ?_
  exact ⟨_, rfl, cw0_val _, hwv.trans (Below.kept ks (by omega) hwv.size)⟩
 ·have hsC := (HF1.out _ rfl).1
  have hlC := (HF1.out _ rfl).2
  have hm1 : (rwOf (-1)).Le K := (short_le short_one.neg).mono hK1
  obtain ⟨c, hc⟩ : ∃ c, cwOf (scaleC C1 (-1)) = c := ⟨_, rfl⟩
  have hl1 : (cwOf C1).Le K := hsC.le
  have hlc1 : (cwOf C1).t.length ≤ 100000 := by rw [cwOf_len]; omega
  have HSc := hid fun (W : World) {v : Value} {y : RV} (hv : ConVal W v (cwOf C1)) (hy : y.at W (rwOf (-1))) => rScale_C W hv hy hl1 hm1 (by omega) hK1 hlc1
  rw [cwOf_q, rwOf_q, hc] at HSc
  have HC : Hid (c = conOf (.ok (scaleC C1 (-1)))) := hid hc.symm
  clear hsC hlC hc hl1 hlc1 hm1 HE1 HF1
  have HZv := HZ.below hbv
  have hx3 : ((errOf (Except.ok C1 : Except Nat CQ) : Int) != 0) = false := rfl
  replace hBFa : Bs wv gFa 36 [.int .i64 (cwOf C1).s, .slice T32s n32s m32s, .bool y32s.s, .slice y32s.A y32s.n y32s.c, .slice y32s.A' y32s.n' y32s.c'] := hBFa
  replace hc32s : CV wv T32s n32s m32s y32s (cwOf C1) := hc32s
  go_upto_region 10 with fail
  refine draw_G (fun W W' => W.grownBy W' (some (w.heap.size + 2))) (fun W => wv.grownBy W (some (w.heap.size + 2))) 3 none [some 41, some 42, some 43, none, some 5] [.is (.agg #[.int .i64 (cwOf C1).s, .slice T32s n32s m32s, .bool y32s.s, .slice y32s.A y32s.n y32s.c, .slice y32s.A' y32s.n' y32s.c']), .such (fun W v => ∃ (yX : RV), v = .agg #[.bool yX.s, .slice yX.A yX.n yX.c, .slice yX.A' yX.n' yX.c'] ∧ yX.at W (rwOf (-1))), .such (fun W v => ∃ (TX : Option Addr) (nX : Nat) (mX : Nat) (yX : RV), v = .agg #[.int .i64 c.s, .slice TX nX mX, .bool yX.s, .slice yX.A yX.n yX.c, .slice yX.A' yX.n' yX.c'] ∧ CV W TX nX mX yX (c)), .own (fun W _ => ∃ (T43s : Option Addr) (n43s : Nat) (m43s : Nat) (y43s : RV), Bs W (w.heap.size + 2) 36 [.int .i64 c.s, .slice T43s n43s m43s, .bool y43s.s, .slice y43s.A y43s.n y43s.c, .slice y43s.A' y43s.n' y43s.c'] ∧ CV W T43s n43s m43s y43s (c)), .is (.int .i64 0)]
   (by kernel_rfl) (by kernel_rfl) (by kernel_rfl) (by kernel_rfl) rfl (by kernel_rfl) (fun _ h => grown_of h _) (fun _ _ h hb => kept_then h (grown_of hb _)) (fun _ _ hb h => kept_then (grown_of hb _) h) (fun q W1 W2 v hm hbw hk hq => by simp at hm; rcases hm with rfl | rfl <;> first | (obtain ⟨yX, rfl, hyX⟩ := hq W1 (Below.refl _ _); exact fun W hW => ⟨_, rfl, (RV.at.kp hyX (Kp.stored (B := 0) (HZv.below hbw) (noU_i64 (noU_slice (noU_bool (noU_slice (noU_slice noU_nil))))) hk (Nat.zero_le _))).below hW⟩) | (obtain ⟨TX, nX, mX, yX, rfl, hcX⟩ := hq W1 (Below.refl _ _); exact fun W hW => ⟨_, _, _, _, rfl, (CV.kept hcX (HZv.below hbw) (noU_i64 (noU_slice (noU_bool (noU_slice (noU_slice noU_nil))))) noT_con hk).below hW⟩)) ?_ ?_
  ·refine ⟨?_, ?_, ?_, ?_, ?_, trivial⟩
   ·intro a w3 hA K hK
    have t6 := hA.old 6 _ rfl rfl
    have k0 := (hBFa.below hA.below).cell 0 rfl
    have k1 := (hBFa.below hA.below).cell 1 rfl
    have k2 := (hBFa.below hA.below).cell 2 rfl
    have k3 := (hBFa.below hA.below).cell 3 rfl
    have k4 := (hBFa.below hA.below).cell 4 rfl
    go_simp
    exact hK _ _ rfl (Below.refl _ _)
   ·intro a w3 hA K hK
    have hC := r2Int_Q (-1) w3 (by omega) (by omega) rfl
    go_simp
    refine hC.mono ?_
    rintro e w4 ⟨y, rfl, hy, hb⟩
    exact hK _ _ (fun W hW => ⟨_, rfl, hy.below hW⟩) hb
   ·intro a w3 hA K hK
    have t41 := bg_is hA 0 41
    obtain ⟨v42, t42, p42⟩ := bg_such hA 1 42
    obtain ⟨y42, rfl, hy42⟩ := p42 w3 (Below.refl _ _)
    have hC := HSc.out w3 (hc32s.below hA.below).val hy42
    go_simp
    refine hC.mono ?_
    rintro e w4 ⟨v, rfl, hv, hb⟩
    obtain ⟨_, _, _, _, rfl, hc⟩ := hv.cv; exact hK _ _ (fun W hW => ⟨_, _, _, _, rfl, hc.below hW⟩) hb
   ·intro a w3 hA K hK
    have t4 := hA.old 4 _ rfl rfl
    obtain ⟨v43, t43, p43⟩ := bg_such hA 2 43
    obtain ⟨T43s, n43s, m43s, y43s, rfl, hc43s⟩ := p43 w3 (Below.refl _ _)
    have hB := HZv.below hA.below
    have f0 := hB.frozen 0
    have c0 := hB.cell 0 rfl
    have f1 := hB.frozen 1
    have c1 := hB.cell 1 rfl
    have f2 := hB.frozen 2
    have c2 := hB.cell 2 rfl
    have f3 := hB.frozen 3
    have c3 := hB.cell 3 rfl
    have f4 := hB.frozen 4
    have c4 := hB.cell 4 rfl
    go_simp
    exact hK undef _ (fun W hW => ⟨_, _, _, _, (stored5 hB).1.below hW, (CV.kept hc43s hB (noU_i64 (noU_slice (noU_bool (noU_slice (noU_slice noU_nil))))) noT_con (stored5 hB).2.1).below hW⟩) ⟨(stored5 hB).2.1, fun j d h => by cases h⟩
   ·intro a w3 hA K hK
    go_simp
    exact hK _ _ Pg.fi_ (Below.refl _ _)
  rintro vs wq hV hgv hlk act hact
  replace hV := hV.is_; obtain ⟨_, rfl, hV⟩ := hV
  replace hV := hV.such_; obtain ⟨v42, _, rfl, p42, hV⟩ := hV
  replace hV := hV.such_; obtain ⟨v43, _, rfl, p43, hV⟩ := hV
  replace hV := hV.own_; obtain ⟨vP, _, rfl, pP, hV⟩ := hV
  replace hV := hV.is_; obtain ⟨_, rfl, hV⟩ := hV
  obtain rfl := hV.nil_
  clear hV
  clear hlk
  obtain ⟨y42, rfl, hy42⟩ := p42 wq (Below.refl _ _)
  clear p42
  obtain ⟨T43, n43, m43, y43, rfl, hc43⟩ := p43 wq (Below.refl _ _)
  clear p43
  obtain ⟨T43s, n43s, m43s, y43s, hBS, hc43s⟩ := pP wq (Below.refl _ _)
  clear pP
  simp only [putsO] at hact
  subst hact
  go_simp
  have hzw : Below w.heap.size w wq := hwv.trans (Below.kept hgv (by omega) hwv.size)
  have hBS' : Bs wq (w.heap.size + 1 + 1) 36 [.int .i64 c.s, .slice T43s n43s m43s, .bool y43s.s, .slice y43s.A y43s.n y43s.c, .slice y43s.A' y43s.n' y43s.c'] := hBS
  have q0 := hBS'.cell 0 rfl
  have q1 := hBS'.cell 1 rfl
  have q2 := hBS'.cell 2 rfl
  have q3 := hBS'.cell 3 rfl
  have q4 := hBS'.cell 4 rfl
  go_wp2_with fail
  refine bodyPost_ret (v := .tuple #[.agg #[.int .i64 c.s, .slice T43s n43s m43s, .bool y43s.s, .slice y43s.A y43s.n y43s.c, .slice y43s.A' y43s.n' y43s.c'], .int .i64 0]) (by simp [results, Tryz.results35, go_sem, q0, q1, q2, q3, q4]) rfl ?_
  exact ⟨_, rfl, by rw [← HC.out]; exact hc43s.val, hzw⟩
theorem OfAt.num {x : EW} {q : Rat} : OfAt x (.num q) := by
 rintro K w v ⟨r, v0, v1, v2, nm, KK, kn, kc, rfl, hr, hq, hrl⟩ _ hK hK1 hE
 obtain ⟨u, rfl, rfl, rfl, hu⟩ := rows_rv hr
 have HN := hid fun W (hW : Below w.heap.size w W) => r2Norm_Q W (hu.below hW) hrl (by omega) (by omega)
 rw [hq] at HN
 simp only [sumX]
 clear hr hu hE
 go_enter Tryz.func35, Tryz.ntmps35
 go_upto_region 1 with fail
 refine wp_world (F := fun W => (Bs W w.heap.size 27 [.int .i64 1, .bool u.s, .slice u.A u.n u.c, .slice u.A' u.n' u.c', nm, .slice KK kn kc] ∧ Bs W (w.heap.size + 1) 42 [.slice x.A0 x.n0 x.k0, .slice x.A1 x.n1 x.k1, .slice x.A2 x.n2 x.k2] ∧ Bs W (w.heap.size + 2) 36 [.int .i64 0, .slice none 0 0, .bool false, .slice none 0 0, .slice none 0 0]) ∧ Below w.heap.size w W)
  ⟨⟨((Bs.new w _ _ _ rfl).alloc _).alloc _, (Bs.new _ _ _ _ (by simp)).alloc _, Bs.new _ _ _ _ (by simp)⟩, Pg.bel⟩ ?_
 rintro w1 ⟨⟨HX, HV, HZ⟩, hb1⟩
 have a0 := HX.cell 0 rfl
 have a1 := HX.cell 1 rfl
 have a2 := HX.cell 2 rfl
 have a3 := HX.cell 3 rfl
 go_wp2_with (go_at_call 46; (with_reducible refine (HN.out _ hb1).mono ?_); rintro e w5 ⟨y', rfl, hy', hb5⟩; have HZ5 := HZ.below hb5; have hbw := Below.then_ hb1 hb5; have f0 := HZ5.frozen 0; have f1 := HZ5.frozen 1; have f2 := HZ5.frozen 2; have f3 := HZ5.frozen 3; have f4 := HZ5.frozen 4; have z0 := HZ5.cell 0 rfl; have z1 := HZ5.cell 1 rfl; have z2 := HZ5.cell 2 rfl; have z3 := HZ5.cell 3 rfl; have z4 := HZ5.cell 4 rfl)
 refine bp_world (F := Stored w5 (w.heap.size + 1 + 1) 36 [.int .i64 0, .slice none 0 0, .bool y'.s, .slice y'.A y'.n y'.c, .slice y'.A' y'.n' y'.c']) (stored5 HZ5) ?_
 rintro wz ⟨HS, ks, ss⟩
 have q0 := HS.cell 0 rfl
 have q1 := HS.cell 1 rfl
 have q2 := HS.cell 2 rfl
 have q3 := HS.cell 3 rfl
 have q4 := HS.cell 4 rfl
 refine bodyPost_ret (v := .tuple #[.agg #[.int .i64 0, .slice none 0 0, .bool y'.s, .slice y'.A y'.n y'.c, .slice y'.A' y'.n' y'.c'], .int .i64 0]) (by simp [results, Tryz.results35, go_sem, q0, q1, q2, q3, q4]) rfl ?_
 exact ⟨_, rfl, no_term (hy'.kp (Kp.stored (B := 0) HZ5 conU0 ks (Nat.zero_le _))), hbw.trans (Below.kept ks (by omega) hbw.size)⟩
theorem OfAt.name {x : EW} {s : List UInt8} (hl : ∀ r ∈ x.vals, r.Le 3) : OfAt x (.name s) := by
 rintro K w v ⟨v0, v1, v2, KK, kn, kc, rfl, hs⟩ _ hK hK1 hE
 have HN := hid fun W (hW : Below w.heap.size w W) => rname_C W s (hE.below hW) hl (by omega) (by omega)
 simp only [sumX]
 obtain ⟨X, hX⟩ : ∃ X, nameC s x.q = X := ⟨_, rfl⟩
 rw [hX] at HN ⊢
 clear hE hX
 go_enter Tryz.func35, Tryz.ntmps35
 go_upto_region 1 with fail
 refine wp_world (F := fun W => (Bs W w.heap.size 27 [.int .i64 2, v0, v1, v2, .string (str s), .slice KK kn kc] ∧ Bs W (w.heap.size + 1) 42 [.slice x.A0 x.n0 x.k0, .slice x.A1 x.n1 x.k1, .slice x.A2 x.n2 x.k2] ∧ Bs W (w.heap.size + 2) 36 [.int .i64 0, .slice none 0 0, .bool false, .slice none 0 0, .slice none 0 0]) ∧ Below w.heap.size w W)
  ⟨⟨((Bs.new w _ _ _ rfl).alloc _).alloc _, (Bs.new _ _ _ _ (by simp)).alloc _, Bs.new _ _ _ _ (by simp)⟩, Pg.bel⟩ ?_
 rintro w1 ⟨⟨HX, HV, HZ⟩, hb1⟩
 have a0 := HX.cell 0 rfl
 have a4 := HX.cell 4 rfl
 have b0 := HV.cell 0 rfl
 have b1 := HV.cell 1 rfl
 have b2 := HV.cell 2 rfl
 go_wp2_with (go_at_call 60; (with_reducible refine (HN.out _ hb1).mono ?_); rintro e w5 ⟨v5, rfl, hv5, hb5⟩; obtain ⟨T5, n5, m5, y5, rfl, hc5⟩ := hv5.cv; have HZ5 := HZ.below hb5; have hbw := Below.then_ hb1 hb5; have f0 := HZ5.frozen 0; have f1 := HZ5.frozen 1; have f2 := HZ5.frozen 2; have f3 := HZ5.frozen 3; have f4 := HZ5.frozen 4; have z0 := HZ5.cell 0 rfl; have z1 := HZ5.cell 1 rfl; have z2 := HZ5.cell 2 rfl; have z3 := HZ5.cell 3 rfl; have z4 := HZ5.cell 4 rfl)
 refine bp_world (F := Stored w5 (w.heap.size + 1 + 1) 36 [.int .i64 (conOf X).s, .slice T5 n5 m5, .bool y5.s, .slice y5.A y5.n y5.c, .slice y5.A' y5.n' y5.c']) (stored5 HZ5) ?_
 rintro wz ⟨HS, ks, ss⟩
 have q0 := HS.cell 0 rfl
 have q1 := HS.cell 1 rfl
 have q2 := HS.cell 2 rfl
 have q3 := HS.cell 3 rfl
 have q4 := HS.cell 4 rfl
 refine bodyPost_ret (v := .tuple #[.agg #[.int .i64 (conOf X).s, .slice T5 n5 m5, .bool y5.s, .slice y5.A y5.n y5.c, .slice y5.A' y5.n' y5.c'], .int .i64 (errOf X : Int)]) (by simp [results, Tryz.results35, go_sem, q0, q1, q2, q3, q4]) rfl ?_
 exact ⟨_, rfl, (hc5.kept HZ5 conU0 noT_con ks).val, hbw.trans (Below.kept ks (by omega) hbw.size)⟩
theorem OfAt.bin {x : EW} {k : Nat} {a a' : XE} (hl : ∀ r ∈ x.vals, r.Le 3) (hn : x.vars.length ≤ 1000) (IH : OfAt x a) (IH' : OfAt x a') : OfAt x (.bin k a a') := by
 rintro K w v ⟨v0, v1, v2, nm, b, o, kn, kc, d0, d1, d2, d3, d4, d5, f0, f1, f2, f3, f4, f5, h3, h6, rfl, hk1, hk2, hbl, hck, hdk, hv, hv'⟩ ⟨i, j, hi, hj, hij⟩ hK hK1 hE
 have hsz := SzX.mono hi (by omega : i ≤ K)
 have hsz' := SzX.mono hj (by omega : j ≤ K)
 clear hi hj hij
 have HS1 := hid fun W (hW : Below w.heap.size w W) => IH K W _ (XE.Val.below hW a _ hv) hsz hK hK1 (hE.below hW)
 have HS2 := hid fun W (hW : Below w.heap.size w W) => IH' K W _ (XE.Val.below hW a' _ hv') hsz' hK hK1 (hE.below hW)
 have hkp : 0 < kn := by omega
 have hkq : (1 : Int) < (kn : Int) := by omega
 have hk7 : ((k : Int) == 7) = false := beq_eq_false_iff_ne.2 (by omega)
 have hk8 : ((k : Int) == 1) = false := beq_eq_false_iff_ne.2 (by omega)
 have hk9 : ((k : Int) == 2) = false := beq_eq_false_iff_ne.2 (by omega)
 simp only [sumX]
 have hvs : ∀ q ∈ x.q.vals, Short q 3 := short_of_at hE.vals hl (by omega)
 have hvl : x.q.vars.length = x.vars.length := rfl
 obtain ⟨X, hX⟩ : ∃ X, sumX x.q a = X := ⟨_, rfl⟩
 obtain ⟨Y, hY⟩ : ∃ Y, sumX x.q a' = Y := ⟨_, rfl⟩
 rw [hX] at HS1 ⊢
 rw [hY] at HS2 ⊢
 have HE1 := hid fun (y : Nat) (h : X = .error y) => sumX_err (hX.trans h)
 have HE2 := hid fun (y : Nat) (h : Y = .error y) => sumX_err (hY.trans h)
 have HF1 := hid fun (C : CQ) (h : X = .ok C) => And.intro (sumX_short x.q hvs a K C hsz (hX.trans h)) (Nat.le_trans (sumX_len (hX.trans h)) hn)
 have HF2 := hid fun (C : CQ) (h : Y = .ok C) => And.intro (sumX_short x.q hvs a' K C hsz' (hY.trans h)) (Nat.le_trans (sumX_len (hY.trans h)) hn)
 have HCK := hid hck
 have HDK := hid hdk
 clear hX hY hv hv' hE hsz hsz' hck hdk hvs hvl
 go_enter Tryz.func35, Tryz.ntmps35
 go_upto_region 1 with fail
 refine wp_world (F := fun W => (Bs W w.heap.size 27 [.int .i64 (k : Int), v0, v1, v2, nm, .slice (some ⟨b, o, none⟩) kn kc] ∧ Bs W (w.heap.size + 1) 42 [.slice x.A0 x.n0 x.k0, .slice x.A1 x.n1 x.k1, .slice x.A2 x.n2 x.k2] ∧ Bs W (w.heap.size + 2) 36 [.int .i64 0, .slice none 0 0, .bool false, .slice none 0 0, .slice none 0 0]) ∧ Below w.heap.size w W)
  ⟨⟨((Bs.new w _ _ _ rfl).alloc _).alloc _, (Bs.new _ _ _ _ (by simp)).alloc _, Bs.new _ _ _ _ (by simp)⟩, Pg.bel⟩ ?_
 rintro w1 ⟨⟨HX, HV, HZ⟩, hb1⟩
 have a0 := HX.cell 0 rfl
 have HK0 := HCK.out.below hbl hb1
 have hbk : b < w1.heap.size := Nat.lt_of_lt_of_le hbl hb1.size
 go_upto_region 6 with fail
 refine draw_G (FreshR w1 36 5) (fun W => Below w1.heap.size w1 W) 10 (some 9) [some 26, some 27, some 28, some 29, some 30, some 31, some 25, some 32, some 33, some 6, none, some 7] [.is (.pointer (some ⟨w.heap.size, 5, none⟩)), .is (.slice (some ⟨b, o, none⟩) kn kc), .is (.pointer (some ⟨b, o, none⟩)), .is (.agg #[d0, d1, d2, d3, d4, d5]), .is (.agg #[.slice x.A0 x.n0 x.k0, .slice x.A1 x.n1 x.k1, .slice x.A2 x.n2 x.k2]), .such (fun W v => ∃ (TX : Option Addr) (nX : Nat) (mX : Nat) (yX : RV), v = .tuple #[.agg #[.int .i64 (conOf X).s, .slice TX nX mX, .bool yX.s, .slice yX.A yX.n yX.c, .slice yX.A' yX.n' yX.c'], .int .i64 (errOf X : Int)] ∧ CV W TX nX mX yX ((conOf X))), .such (fun W v => ∃ (TX : Option Addr) (nX : Nat) (mX : Nat) (yX : RV), v = .tuple #[.agg #[.int .i64 (conOf X).s, .slice TX nX mX, .bool yX.s, .slice yX.A yX.n yX.c, .slice yX.A' yX.n' yX.c'], .int .i64 (errOf X : Int)] ∧ CV W TX nX mX yX ((conOf X))), .such (fun W v => ∃ (TX : Option Addr) (nX : Nat) (mX : Nat) (yX : RV), v = .agg #[.int .i64 (conOf X).s, .slice TX nX mX, .bool yX.s, .slice yX.A yX.n yX.c, .slice yX.A' yX.n' yX.c'] ∧ CV W TX nX mX yX ((conOf X))), .is (.int .i64 (errOf X : Int)), .such (FreshAt w1 36 5), .own (fun W v => ∃ (gFa : Nat) (T32s : Option Addr) (n32s : Nat) (m32s : Nat) (y32s : RV), v = .pointer (some ⟨gFa, 0, none⟩) ∧ w1.heap.size ≤ gFa ∧ Bs W gFa 36 [.int .i64 (conOf X).s, .slice T32s n32s m32s, .bool y32s.s, .slice y32s.A y32s.n y32s.c, .slice y32s.A' y32s.n' y32s.c'] ∧ CV W T32s n32s m32s y32s ((conOf X))), .is (.int .i64 (errOf X : Int))]
  (by kernel_rfl) (by kernel_rfl) (by kernel_rfl) (by kernel_rfl) rfl (by kernel_rfl) (fun _ h => h) (fun _ _ h hb => Below.then_ h hb) (fun _ _ hb h => FreshR.bel hb h) (fun q W1 W2 v hm hbw hk hq => by simp at hm; rcases hm with rfl | rfl | rfl | rfl <;> first | (obtain ⟨TX, nX, mX, yX, rfl, hcX⟩ := hq W1 (Below.refl _ _); exact fun W hW => ⟨_, _, _, _, rfl, (FreshR.cv hk hcX).below hW⟩) | (exact fun W hW => (FreshAt.after (hq W1 (Below.refl _ _)) hk).below hW)) ?_ ?_
 ·refine ⟨?_, ?_, ?_, ?_, ?_, ?_, ?_, ?_, ?_, ?_, ?_, ?_, trivial⟩
  ·intro a w3 hA K hK
   have t2 := hA.old 2 _ rfl rfl
   go_simp
   exact hK _ _ rfl (Below.refl _ _)
  ·intro a w3 hA K hK
   have t26 := bg_is hA 0 26
   have k0 := (HX.below hA.grown).cell 5 rfl
   go_simp
   exact hK _ _ rfl (Below.refl _ _)
  ·intro a w3 hA K hK
   have t27 := bg_is hA 1 27
   go_simp
   exact hK _ _ Pg.fi_ (Below.refl _ _)
  ·intro a w3 hA K hK
   have t28 := bg_is hA 2 28
   have k0 : w3.cell? ⟨b, o, none⟩ = some (d0) := (HK0.below hbk hA.grown).at_ 0 rfl
   have k1 := (HK0.below hbk hA.grown).at_ 1 rfl
   have k2 := (HK0.below hbk hA.grown).at_ 2 rfl
   have k3 := (HK0.below hbk hA.grown).at_ 3 rfl
   have k4 := (HK0.below hbk hA.grown).at_ 4 rfl
   have k5 := (HK0.below hbk hA.grown).at_ 5 rfl
   go_simp
   exact hK _ _ rfl (Below.refl _ _)
  ·intro a w3 hA K hK
   have t3 := hA.old 3 _ rfl rfl
   have k0 := (HV.below hA.grown).cell 0 rfl
   have k1 := (HV.below hA.grown).cell 1 rfl
   have k2 := (HV.below hA.grown).cell 2 rfl
   go_simp
   exact hK _ _ rfl (Below.refl _ _)
  ·intro a w3 hA K hK
   have t29 := bg_is hA 3 29
   have t30 := bg_is hA 4 30
   have hC := HS1.out w3 (Below.then_ hb1 hA.grown)
   go_simp
   refine hC.mono ?_
   rintro e w4 ⟨v, rfl, hv, hb⟩
   obtain ⟨_, _, _, _, rfl, hc⟩ := hv.cv; exact hK _ _ (fun W hW => ⟨_, _, _, _, rfl, hc.below hW⟩) hb
  ·intro a w3 hA K hK
   obtain ⟨v31, t31, p31⟩ := bg_such hA 5 31
   obtain ⟨T31, n31, m31, y31, rfl, hc31⟩ := p31 w3 (Below.refl _ _)
   go_simp
   exact hK _ _ (fun W hW => ⟨_, _, _, _, rfl, hc31.below hW⟩) (Below.refl _ _)
  ·intro a w3 hA K hK
   obtain ⟨v25, t25, p25⟩ := bg_such hA 6 25
   obtain ⟨T25, n25, m25, y25, rfl, hc25⟩ := p25 w3 (Below.refl _ _)
   go_simp
   exact hK _ _ (fun W hW => ⟨_, _, _, _, rfl, hc25.below hW⟩) (Below.refl _ _)
  ·intro a w3 hA K hK
   obtain ⟨v25, t25, p25⟩ := bg_such hA 6 25
   obtain ⟨T25, n25, m25, y25, rfl, hc25⟩ := p25 w3 (Below.refl _ _)
   go_simp
   exact hK _ _ rfl (Below.refl _ _)
  ·intro a w3 hA K hK
   go_simp
   exact hK _ _ (fun W hW => FreshAt.below ⟨_, _, rfl, hA.grown.size, Bs.new w3 _ [.int .i64 0, .slice none 0 0, .bool false, .slice none 0 0, .slice none 0 0] _ rfl, ⟨(noU_i64 (noU_slice (noU_bool (noU_slice (noU_slice noU_nil))))), noT_con⟩, rfl⟩ hW) (Below.new_ (Below.refl _ _) _)
  ·intro a w3 hA K hK
   obtain ⟨v6, lk6, t6, p6⟩ := bg_link hA 9 6
   obtain ⟨g6, cs6, rfl, lg6, hB6, hU6, hl6⟩ := p6 w3 (Below.refl _ _)
   obtain ⟨x0, x1, x2, x3, x4, rfl⟩ := len5 hl6
   have f0 := hB6.frozen 0
   have c0 := hB6.cell 0 rfl
   have f1 := hB6.frozen 1
   have c1 := hB6.cell 1 rfl
   have f2 := hB6.frozen 2
   have c2 := hB6.cell 2 rfl
   have f3 := hB6.frozen 3
   have c3 := hB6.cell 3 rfl
   have f4 := hB6.frozen 4
   have c4 := hB6.cell 4 rfl
   obtain ⟨v32, t32, p32⟩ := bg_such hA 7 32
   obtain ⟨T32s, n32s, m32s, y32s, rfl, hc32s⟩ := p32 w3 (Below.refl _ _)
   go_simp
   exact hK (.pointer (some ⟨g6, 0, none⟩)) _ (fun W hW => ⟨g6, _, _, _, _, rfl, lg6, (stored5 hB6).1.below hW, (CV.kept hc32s hB6 hU6.1 hU6.2 (stored5 hB6).2.1).below hW⟩) ⟨⟨g6, _, _, lg6, hB6, hU6, rfl, (stored5 hB6).1, ⟨(noU_i64 (noU_slice (noU_bool (noU_slice (noU_slice noU_nil))))), noT_con⟩, rfl, (stored5 hB6).2.1⟩, fun j d h1 h2 => by cases h1; cases h2; exact lk6⟩
  ·intro a w3 hA K hK
   have t33 := bg_is hA 8 33
   go_simp
   exact hK _ _ Pg.fi_ (Below.refl _ _)
 rintro vs wv hV hbv hlk act hact
 repeat (replace hV := hV.is_; obtain ⟨_, rfl, hV⟩ := hV)
 replace hV := hV.such_; obtain ⟨v31, _, rfl, p31, hV⟩ := hV
 replace hV := hV.such_; obtain ⟨v25, _, rfl, p25, hV⟩ := hV
 replace hV := hV.such_; obtain ⟨v32, _, rfl, p32, hV⟩ := hV
 replace hV := hV.is_; obtain ⟨_, rfl, hV⟩ := hV
 replace hV := hV.such_; obtain ⟨v6, _, rfl, p6, hV⟩ := hV
 replace hV := hV.own_; obtain ⟨vP, _, rfl, pP, hV⟩ := hV
 replace hV := hV.is_; obtain ⟨_, rfl, hV⟩ := hV
 obtain rfl := hV.nil_
 clear hV
 replace hlk := hlk _ rfl
 simp only [List.getElem?_cons_succ, List.getElem?_cons_zero, Option.some.injEq] at hlk
 subst hlk; clear p6
 obtain ⟨T31, n31, m31, y31, rfl, hc31⟩ := p31 wv (Below.refl _ _)
 clear p31
 obtain ⟨T25, n25, m25, y25, rfl, hc25⟩ := p25 wv (Below.refl _ _)
 clear p25
 obtain ⟨T32, n32, m32, y32, rfl, hc32⟩ := p32 wv (Below.refl _ _)
 clear p32
 obtain ⟨gFa, T32s, n32s, m32s, y32s, rfl, lgFa, hBFa, hc32s⟩ := pP wv (Below.refl _ _)
 clear pP
 simp only [putsO] at hact
 subst hact
 go_simp
 have hwv := Below.then_ hb1 hbv
 have HXv := HX.below hbv
 clear a0
 have a0 := HXv.cell 0 rfl
 rcases X with x1 | C1
 ·skip
  have hx1 : ((errOf (Except.error x1 : Except Nat CQ) : Int) != 0) = true := bne_iff_ne.2 (Int.natCast_ne_zero.2 (HE1.out _ rfl))
  have HZe := HZ.below hbv
  have f0 := HZe.frozen 0
  have f1 := HZe.frozen 1
  have f2 := HZe.frozen 2
  have f3 := HZe.frozen 3
  have f4 := HZe.frozen 4
  have z0 := HZe.cell 0 rfl
  have z1 := HZe.cell 1 rfl
  have z2 := HZe.cell 2 rfl
  have z3 := HZe.cell 3 rfl
  have z4 := HZe.cell 4 rfl
  go_wp2_with fail
  refine bp_world (F := Stored wv (w.heap.size + 1 + 1) 36 [.int .i64 0, .slice none 0 0, .bool false, .slice none 0 0, .slice none 0 0]) (stored5 HZe) ?_
  rintro wz ⟨HS, ks, ss⟩
  have q0 := HS.cell 0 rfl
  have q1 := HS.cell 1 rfl
  have q2 := HS.cell 2 rfl
  have q3 := HS.cell 3 rfl
  have q4 := HS.cell 4 rfl
  refine bodyPost_ret (v := .tuple #[.agg #[.int .i64 0, .slice none 0 0, .bool false, .slice none 0 0, .slice none 0 0], .int .i64 (errOf (Except.error x1 : Except Nat CQ) : Int)]) (by simp [results, Tryz.results35, go_sem, q0, q1, q2, q3, q4]) rfl ?_
  exact ⟨_, rfl, cw0_val _, hwv.trans (Below.kept ks (by omega) hwv.size)⟩
 ·skip
  have hx3 : ((errOf (Except.ok C1 : Except Nat CQ) : Int) != 0) = false := rfl
  replace hBFa : Bs wv gFa 36 [.int .i64 (cwOf C1).s, .slice T32s n32s m32s, .bool y32s.s, .slice y32s.A y32s.n y32s.c, .slice y32s.A' y32s.n' y32s.c'] := hBFa
  replace hc32s : CV wv T32s n32s m32s y32s (cwOf C1) := hc32s
  have HVv := HV.below hbv
  have HZv := HZ.below hbv
  have HK2 := hid (HDK.out.below hbl hwv)
  have hbv2 : b < wv.heap.size := Nat.lt_of_lt_of_le hbl hwv.size
  go_upto_region 11 with fail
  refine draw_G (FreshR wv 36 5) (fun W => Below wv.heap.size wv W) 10 (some 9) [some 45, some 46, some 47, some 48, some 49, some 50, some 44, some 51, some 52, some 8, none, some 7] [.is (.pointer (some ⟨w.heap.size, 5, none⟩)), .is (.slice (some ⟨b, o, none⟩) kn kc), .is (.pointer (some ⟨b, o + 6, none⟩)), .is (.agg #[f0, f1, f2, f3, f4, f5]), .is (.agg #[.slice x.A0 x.n0 x.k0, .slice x.A1 x.n1 x.k1, .slice x.A2 x.n2 x.k2]), .such (fun W v => ∃ (TX : Option Addr) (nX : Nat) (mX : Nat) (yX : RV), v = .tuple #[.agg #[.int .i64 (conOf Y).s, .slice TX nX mX, .bool yX.s, .slice yX.A yX.n yX.c, .slice yX.A' yX.n' yX.c'], .int .i64 (errOf Y : Int)] ∧ CV W TX nX mX yX ((conOf Y))), .such (fun W v => ∃ (TX : Option Addr) (nX : Nat) (mX : Nat) (yX : RV), v = .tuple #[.agg #[.int .i64 (conOf Y).s, .slice TX nX mX, .bool yX.s, .slice yX.A yX.n yX.c, .slice yX.A' yX.n' yX.c'], .int .i64 (errOf Y : Int)] ∧ CV W TX nX mX yX ((conOf Y))), .such (fun W v => ∃ (TX : Option Addr) (nX : Nat) (mX : Nat) (yX : RV), v = .agg #[.int .i64 (conOf Y).s, .slice TX nX mX, .bool yX.s, .slice yX.A yX.n yX.c, .slice yX.A' yX.n' yX.c'] ∧ CV W TX nX mX yX ((conOf Y))), .is (.int .i64 (errOf Y : Int)), .such (FreshAt wv 36 5), .own (fun W v => ∃ (gFb : Nat) (T51s : Option Addr) (n51s : Nat) (m51s : Nat) (y51s : RV), v = .pointer (some ⟨gFb, 0, none⟩) ∧ wv.heap.size ≤ gFb ∧ Bs W gFb 36 [.int .i64 (conOf Y).s, .slice T51s n51s m51s, .bool y51s.s, .slice y51s.A y51s.n y51s.c, .slice y51s.A' y51s.n' y51s.c'] ∧ CV W T51s n51s m51s y51s ((conOf Y))), .is (.int .i64 (errOf Y : Int))]
   (by kernel_rfl) (by kernel_rfl) (by kernel_rfl) (by kernel_rfl) rfl (by kernel_rfl) (fun _ h => h) (fun _ _ h hb => Below.then_ h hb) (fun _ _ hb h => FreshR.bel hb h) (fun q W1 W2 v hm hbw hk hq => by simp at hm; rcases hm with rfl | rfl | rfl | rfl <;> first | (obtain ⟨TX, nX, mX, yX, rfl, hcX⟩ := hq W1 (Below.refl _ _); exact fun W hW => ⟨_, _, _, _, rfl, (FreshR.cv hk hcX).below hW⟩) | (exact fun W hW => (FreshAt.after (hq W1 (Below.refl _ _)) hk).below hW)) ?_ ?_
  ·refine ⟨?_, ?_, ?_, ?_, ?_, ?_, ?_, ?_, ?_, ?_, ?_, ?_, trivial⟩
   ·intro a w3 hA K hK
    have t2 := hA.old 2 _ rfl rfl
    go_simp
    exact hK _ _ rfl (Below.refl _ _)
   ·intro a w3 hA K hK
    have t45 := bg_is hA 0 45
    have k0 := (HXv.below hA.grown).cell 5 rfl
    go_simp
    exact hK _ _ rfl (Below.refl _ _)
   ·intro a w3 hA K hK
    have t46 := bg_is hA 1 46
    go_simp
    exact hK _ _ Pg.fi_ (Below.refl _ _)
   ·intro a w3 hA K hK
    have t47 := bg_is hA 2 47
    have k0 : w3.cell? ⟨b, o + 6, none⟩ = some (f0) := (HK2.out.below hbv2 hA.grown).at_ 0 rfl
    have k1 := (HK2.out.below hbv2 hA.grown).at_ 1 rfl
    have k2 := (HK2.out.below hbv2 hA.grown).at_ 2 rfl
    have k3 := (HK2.out.below hbv2 hA.grown).at_ 3 rfl
    have k4 := (HK2.out.below hbv2 hA.grown).at_ 4 rfl
    have k5 := (HK2.out.below hbv2 hA.grown).at_ 5 rfl
    go_simp
    exact hK _ _ rfl (Below.refl _ _)
   ·intro a w3 hA K hK
    have t3 := hA.old 3 _ rfl rfl
    have k0 := (HVv.below hA.grown).cell 0 rfl
    have k1 := (HVv.below hA.grown).cell 1 rfl
    have k2 := (HVv.below hA.grown).cell 2 rfl
    go_simp
    exact hK _ _ rfl (Below.refl _ _)
   ·intro a w3 hA K hK
    have t48 := bg_is hA 3 48
    have t49 := bg_is hA 4 49
    have hC := HS2.out w3 (Below.then_ hwv hA.grown)
    go_simp
    refine hC.mono ?_
    rintro e w4 ⟨v, rfl, hv, hb⟩
    obtain ⟨_, _, _, _, rfl, hc⟩ := hv.cv; exact hK _ _ (fun W hW => ⟨_, _, _, _, rfl, hc.below hW⟩) hb
   ·intro a w3 hA K hK
    obtain ⟨v50, t50, p50⟩ := bg_such hA 5 50
    obtain ⟨T50, n50, m50, y50, rfl, hc50⟩ := p50 w3 (Below.refl _ _)
    go_simp
    exact hK _ _ (fun W hW => ⟨_, _, _, _, rfl, hc50.below hW⟩) (Below.refl _ _)
   ·intro a w3 hA K hK
    obtain ⟨v44, t44, p44⟩ := bg_such hA 6 44
    obtain ⟨T44, n44, m44, y44, rfl, hc44⟩ := p44 w3 (Below.refl _ _)
    go_simp
    exact hK _ _ (fun W hW => ⟨_, _, _, _, rfl, hc44.below hW⟩) (Below.refl _ _)
   ·intro a w3 hA K hK
    obtain ⟨v44, t44, p44⟩ := bg_such hA 6 44
    obtain ⟨T44, n44, m44, y44, rfl, hc44⟩ := p44 w3 (Below.refl _ _)
    go_simp
    exact hK _ _ rfl (Below.refl _ _)
   ·intro a w3 hA K hK
    go_simp
    exact hK _ _ (fun W hW => FreshAt.below ⟨_, _, rfl, hA.grown.size, Bs.new w3 _ [.int .i64 0, .slice none 0 0, .bool false, .slice none 0 0, .slice none 0 0] _ rfl, ⟨(noU_i64 (noU_slice (noU_bool (noU_slice (noU_slice noU_nil))))), noT_con⟩, rfl⟩ hW) (Below.new_ (Below.refl _ _) _)
   ·intro a w3 hA K hK
    obtain ⟨v8, lk8, t8, p8⟩ := bg_link hA 9 8
    obtain ⟨g8, cs8, rfl, lg8, hB8, hU8, hl8⟩ := p8 w3 (Below.refl _ _)
    obtain ⟨x0, x1, x2, x3, x4, rfl⟩ := len5 hl8
    have f0 := hB8.frozen 0
    have c0 := hB8.cell 0 rfl
    have f1 := hB8.frozen 1
    have c1 := hB8.cell 1 rfl
    have f2 := hB8.frozen 2
    have c2 := hB8.cell 2 rfl
    have f3 := hB8.frozen 3
    have c3 := hB8.cell 3 rfl
    have f4 := hB8.frozen 4
    have c4 := hB8.cell 4 rfl
    obtain ⟨v51, t51, p51⟩ := bg_such hA 7 51
    obtain ⟨T51s, n51s, m51s, y51s, rfl, hc51s⟩ := p51 w3 (Below.refl _ _)
    go_simp
    exact hK (.pointer (some ⟨g8, 0, none⟩)) _ (fun W hW => ⟨g8, _, _, _, _, rfl, lg8, (stored5 hB8).1.below hW, (CV.kept hc51s hB8 hU8.1 hU8.2 (stored5 hB8).2.1).below hW⟩) ⟨⟨g8, _, _, lg8, hB8, hU8, rfl, (stored5 hB8).1, ⟨(noU_i64 (noU_slice (noU_bool (noU_slice (noU_slice noU_nil))))), noT_con⟩, rfl, (stored5 hB8).2.1⟩, fun j d h1 h2 => by cases h1; cases h2; exact lk8⟩
   ·intro a w3 hA K hK
    have t52 := bg_is hA 8 52
    go_simp
    exact hK _ _ Pg.fi_ (Below.refl _ _)
  rintro vs wu hV hbu hlk act hact
  repeat (replace hV := hV.is_; obtain ⟨_, rfl, hV⟩ := hV)
  replace hV := hV.such_; obtain ⟨v50, _, rfl, p50, hV⟩ := hV
  replace hV := hV.such_; obtain ⟨v44, _, rfl, p44, hV⟩ := hV
  replace hV := hV.such_; obtain ⟨v51, _, rfl, p51, hV⟩ := hV
  replace hV := hV.is_; obtain ⟨_, rfl, hV⟩ := hV
  replace hV := hV.such_; obtain ⟨v8, _, rfl, p8, hV⟩ := hV
  replace hV := hV.own_; obtain ⟨vP, _, rfl, pP, hV⟩ := hV
  replace hV := hV.is_; obtain ⟨_, rfl, hV⟩ := hV
  obtain rfl := hV.nil_
  clear hV
  replace hlk := hlk _ rfl
  simp only [List.getElem?_cons_succ, List.getElem?_cons_zero, Option.some.injEq] at hlk
  subst hlk; clear p8
  obtain ⟨T50, n50, m50, y50, rfl, hc50⟩ := p50 wu (Below.refl _ _)
  clear p50
  obtain ⟨T44, n44, m44, y44, rfl, hc44⟩ := p44 wu (Below.refl _ _)
  clear p44
  obtain ⟨T51, n51, m51, y51, rfl, hc51⟩ := p51 wu (Below.refl _ _)
  clear p51
  obtain ⟨gFb, T51s, n51s, m51s, y51s, rfl, lgFb, hBFb, hc51s⟩ := pP wu (Below.refl _ _)
  clear pP
  simp only [putsO] at hact
  subst hact
  go_simp
  have hwu := Below.then_ hwv hbu
  have HXu := HXv.below hbu
  clear a0
  have a0 := HXu.cell 0 rfl
  rcases Y with x2 | C2
  ·skip
   have hx1 : ((errOf (Except.error x2 : Except Nat CQ) : Int) != 0) = true := bne_iff_ne.2 (Int.natCast_ne_zero.2 (HE2.out _ rfl))
   have HZe := HZv.below hbu
   have f0 := HZe.frozen 0
   have f1 := HZe.frozen 1
   have f2 := HZe.frozen 2
   have f3 := HZe.frozen 3
   have f4 := HZe.frozen 4
   have z0 := HZe.cell 0 rfl
   have z1 := HZe.cell 1 rfl
   have z2 := HZe.cell 2 rfl
   have z3 := HZe.cell 3 rfl
   have z4 := HZe.cell 4 rfl
   go_wp2_with fail
   refine bp_world (F := Stored wu (w.heap.size + 1 + 1) 36 [.int .i64 0, .slice none 0 0, .bool false, .slice none 0 0, .slice none 0 0]) (stored5 HZe) ?_
   rintro wz ⟨HS, ks, ss⟩
   have q0 := HS.cell 0 rfl
   have q1 := HS.cell 1 rfl
   have q2 := HS.cell 2 rfl
   have q3 := HS.cell 3 rfl
   have q4 := HS.cell 4 rfl
   refine bodyPost_ret (v := .tuple #[.agg #[.int .i64 0, .slice none 0 0, .bool false, .slice none 0 0, .slice none 0 0], .int .i64 (errOf (Except.error x2 : Except Nat CQ) : Int)]) (by simp [results, Tryz.results35, go_sem, q0, q1, q2, q3, q4]) rfl ?_
   exact ⟨_, rfl, cw0_val _, hwu.trans (Below.kept ks (by omega) hwu.size)⟩
  ·skip
   have hx4 : ((errOf (Except.ok C2 : Except Nat CQ) : Int) != 0) = false := rfl
   replace hBFb : Bs wu gFb 36 [.int .i64 (cwOf C2).s, .slice T51s n51s m51s, .bool y51s.s, .slice y51s.A y51s.n y51s.c, .slice y51s.A' y51s.n' y51s.c'] := hBFb
   replace hc51s : CV wu T51s n51s m51s y51s (cwOf C2) := hc51s
   have hsC1 := (HF1.out _ rfl).1
   have hsC2 := (HF2.out _ rfl).1
   have hl1 : (cwOf C1).Le K := hsC1.le
   have hl2 : (cwOf C2).Le K := hsC2.le
   have hlc1 : C1.t.length ≤ 1000 := (HF1.out _ rfl).2
   have hlc2 : C2.t.length ≤ 1000 := (HF2.out _ rfl).2
   have HZu := HZv.below hbu
   have HAu := hBFa.below hbu
   have hcu := hc32s.below hbu
   clear HE1 HE2 HF1 HF2
   clear hsC1
   rcases (by omega : k = 3 ∨ k = 4 ∨ k = 5 ∨ k = 6) with hq | hq | hq | hq
   ·have hq3 : ((k : Int) == 3) = true := beq_iff_eq.2 (by omega)
    have hq4 : ((k : Int) == 4) = false := beq_eq_false_iff_ne.2 (by omega)
    have hq5 : ((k : Int) == 5) = false := beq_eq_false_iff_ne.2 (by omega)
    have HXX := hid (show .ok (addC C1 C2) = binC k C1 C2 by rw [hq]; rfl)
    have HJ := hid fun (W : World) {va vb : Value} (ha : ConVal W va (cwOf C1)) (hb : ConVal W vb (cwOf C2)) => rAdd_C W ha hb hl1 hl2 (by omega) hK1 (by rw [cwOf_len]; omega) (by rw [cwOf_len]; omega)
    simp only [cwOf_q] at HJ
    obtain ⟨c, hc⟩ : ∃ c, cwOf (addC C1 C2) = c := ⟨_, rfl⟩
    rw [hc] at HJ
    have HC : Hid (c = conOf (.ok (addC C1 C2))) := hid hc.symm
    clear hc
    clear hq hl1 hl2 hlc1 hlc2 hsC2
    have p0 := HAu.cell 0 rfl
    have p1 := HAu.cell 1 rfl
    have p2 := HAu.cell 2 rfl
    have p3 := HAu.cell 3 rfl
    have p4 := HAu.cell 4 rfl
    have r0 := hBFb.cell 0 rfl
    have r1 := hBFb.cell 1 rfl
    have r2 := hBFb.cell 2 rfl
    have r3 := hBFb.cell 3 rfl
    have r4 := hBFb.cell 4 rfl
    have HAv := hid (hcu.val)
    have HBv := hid (hc51s.val)
    clear hc32s hc51s hcu
    go_wp2_with (go_at_call 21; (with_reducible refine (HJ.out _ HAv.out HBv.out).mono ?_); rintro e w5 ⟨v5, rfl, hv5, hb5⟩; obtain ⟨T5, n5, m5, y5, rfl, hc5⟩ := hv5.cv; have HZ5 := HZu.below hb5; have hbw := Below.then_ hwu hb5; have f0 := HZ5.frozen 0; have f1 := HZ5.frozen 1; have f2 := HZ5.frozen 2; have f3 := HZ5.frozen 3; have f4 := HZ5.frozen 4; have z0 := HZ5.cell 0 rfl; have z1 := HZ5.cell 1 rfl; have z2 := HZ5.cell 2 rfl; have z3 := HZ5.cell 3 rfl; have z4 := HZ5.cell 4 rfl)
    refine bp_world (F := Stored w5 (w.heap.size + 1 + 1) 36 [.int .i64 c.s, .slice T5 n5 m5, .bool y5.s, .slice y5.A y5.n y5.c, .slice y5.A' y5.n' y5.c']) (stored5 HZ5) ?_
    rintro wz ⟨HS, ks, ss⟩
    have q0 := HS.cell 0 rfl
    have q1 := HS.cell 1 rfl
    have q2 := HS.cell 2 rfl
    have q3 := HS.cell 3 rfl
    have q4 := HS.cell 4 rfl
    refine bodyPost_ret (v := .tuple #[.agg #[.int .i64 c.s, .slice T5 n5 m5, .bool y5.s, .slice y5.A y5.n y5.c, .slice y5.A' y5.n' y5.c'], .int .i64 0]) (by simp [results, Tryz.results35, go_sem, q0, q1, q2, q3, q4]) rfl ?_
    exact SumRet.to HXX.out ⟨_, rfl, by rw [← HC.out]; exact (hc5.kept HZ5 conU0 noT_con ks).val, hbw.trans (Below.kept ks (by omega) hbw.size)⟩
   ·have hq3 : ((k : Int) == 3) = false := beq_eq_false_iff_ne.2 (by omega)
    have hq4 : ((k : Int) == 4) = true := beq_iff_eq.2 (by omega)
    have hq5 : ((k : Int) == 5) = false := beq_eq_false_iff_ne.2 (by omega)
    have HXX := hid (show .ok (addC C1 (scaleC C2 (-1))) = binC k C1 C2 by rw [hq]; rfl)
    have hm1 : (rwOf (-1)).Le K := (short_le short_one.neg).mono hK1
    obtain ⟨c1, hc1⟩ : ∃ c1, cwOf (scaleC C2 (-1)) = c1 := ⟨_, rfl⟩
    obtain ⟨c, hc⟩ : ∃ c, cwOf (addC C1 (scaleC C2 (-1))) = c := ⟨_, rfl⟩
    have hl1' : c1.Le (K + 1) := by rw [← hc1]; exact (hsC2.scale short_one.neg).le
    have hq1 : c1.q = scaleC C2 (-1) := by rw [← hc1, cwOf_q]
    have hlc1' : c1.t.length ≤ 100000 := by rw [← hc1, cwOf_len]; exact Nat.le_trans (scaleT_len _ _) (by omega)
    have HSB := hid fun (W : World) {v : Value} (hb : ConVal W v (cwOf C2)) (y : RV) (hy : y.at W (rwOf (-1))) => rScale_C W hb hy hl2 hm1 (by omega) hK1 (by rw [cwOf_len]; omega)
    simp only [cwOf_q, rwOf_q] at HSB
    rw [hc1] at HSB
    have HAd := hid fun (W : World) {va : Value} (ha : ConVal W va (cwOf C1)) (v : Value) (hv : ConVal W v c1) => rAdd_C W ha hv (hl1.mono (Nat.le_succ K)) hl1' (by omega) (by omega) (by rw [cwOf_len]; omega) hlc1'
    rw [cwOf_q, hq1, hc] at HAd
    have HC : Hid (c = conOf (.ok (addC C1 (scaleC C2 (-1))))) := hid hc.symm
    clear hc hc1 hq1 hl1' hlc1' hm1
    clear hq hl1 hl2 hlc1 hlc2 hsC2
    have hcv := hc51s
    go_upto_region 18 with fail
    refine draw_G (fun W W' => W.grownBy W' (some (w.heap.size + 2))) (fun W => wu.grownBy W (some (w.heap.size + 2))) 5 none [some 66, some 67, some 68, some 69, some 70, none, some 5] [.is (.agg #[.int .i64 (cwOf C1).s, .slice T32s n32s m32s, .bool y32s.s, .slice y32s.A y32s.n y32s.c, .slice y32s.A' y32s.n' y32s.c']), .is (.agg #[.int .i64 (cwOf C2).s, .slice T51s n51s m51s, .bool y51s.s, .slice y51s.A y51s.n y51s.c, .slice y51s.A' y51s.n' y51s.c']), .such (fun W v => ∃ (yX : RV), v = .agg #[.bool yX.s, .slice yX.A yX.n yX.c, .slice yX.A' yX.n' yX.c'] ∧ yX.at W (rwOf (-1))), .such (fun W v => ∃ (TX : Option Addr) (nX : Nat) (mX : Nat) (yX : RV), v = .agg #[.int .i64 c1.s, .slice TX nX mX, .bool yX.s, .slice yX.A yX.n yX.c, .slice yX.A' yX.n' yX.c'] ∧ CV W TX nX mX yX (c1)), .such (fun W v => ∃ (TX : Option Addr) (nX : Nat) (mX : Nat) (yX : RV), v = .agg #[.int .i64 c.s, .slice TX nX mX, .bool yX.s, .slice yX.A yX.n yX.c, .slice yX.A' yX.n' yX.c'] ∧ CV W TX nX mX yX (c)), .own (fun W _ => ∃ (T70s : Option Addr) (n70s : Nat) (m70s : Nat) (y70s : RV), Bs W (w.heap.size + 2) 36 [.int .i64 c.s, .slice T70s n70s m70s, .bool y70s.s, .slice y70s.A y70s.n y70s.c, .slice y70s.A' y70s.n' y70s.c'] ∧ CV W T70s n70s m70s y70s (c)), .is (.int .i64 0)]
     (by kernel_rfl) (by kernel_rfl) (by kernel_rfl) (by kernel_rfl) rfl (by kernel_rfl) (fun _ h => grown_of h _) (fun _ _ h hb => kept_then h (grown_of hb _)) (fun _ _ hb h => kept_then (grown_of hb _) h) (fun q W1 W2 v hm hbw hk hq => by simp at hm; rcases hm with rfl | rfl | rfl <;> first | (obtain ⟨yX, rfl, hyX⟩ := hq W1 (Below.refl _ _); exact fun W hW => ⟨_, rfl, (RV.at.kp hyX (Kp.stored (B := 0) (HZu.below hbw) (noU_i64 (noU_slice (noU_bool (noU_slice (noU_slice noU_nil))))) hk (Nat.zero_le _))).below hW⟩) | (obtain ⟨TX, nX, mX, yX, rfl, hcX⟩ := hq W1 (Below.refl _ _); exact fun W hW => ⟨_, _, _, _, rfl, (CV.kept hcX (HZu.below hbw) (noU_i64 (noU_slice (noU_bool (noU_slice (noU_slice noU_nil))))) noT_con hk).below hW⟩)) ?_ ?_
    ·refine ⟨?_, ?_, ?_, ?_, ?_, ?_, ?_, trivial⟩
     ·intro a w3 hA K hK
      have t6 := hA.old 6 _ rfl rfl
      have k0 := (HAu.below hA.below).cell 0 rfl
      have k1 := (HAu.below hA.below).cell 1 rfl
      have k2 := (HAu.below hA.below).cell 2 rfl
      have k3 := (HAu.below hA.below).cell 3 rfl
      have k4 := (HAu.below hA.below).cell 4 rfl
      go_simp
      exact hK _ _ rfl (Below.refl _ _)
     ·intro a w3 hA K hK
      have t8 := hA.old 8 _ rfl rfl
      have k0 := (hBFb.below hA.below).cell 0 rfl
      have k1 := (hBFb.below hA.below).cell 1 rfl
      have k2 := (hBFb.below hA.below).cell 2 rfl
      have k3 := (hBFb.below hA.below).cell 3 rfl
      have k4 := (hBFb.below hA.below).cell 4 rfl
      go_simp
      exact hK _ _ rfl (Below.refl _ _)
     ·intro a w3 hA K hK
      have hC := r2Int_Q (-1) w3 (by omega) (by omega) rfl
      go_simp
      refine hC.mono ?_
      rintro e w4 ⟨y, rfl, hy, hb⟩
      exact hK _ _ (fun W hW => ⟨_, rfl, hy.below hW⟩) hb
     ·intro a w3 hA K hK
      have t67 := bg_is hA 1 67
      obtain ⟨v68, t68, p68⟩ := bg_such hA 2 68
      obtain ⟨y68, rfl, hy68⟩ := p68 w3 (Below.refl _ _)
      have hC := HSB.out w3 (hcv.below hA.below).val _ hy68
      go_simp
      refine hC.mono ?_
      rintro e w4 ⟨v, rfl, hv, hb⟩
      obtain ⟨_, _, _, _, rfl, hc⟩ := hv.cv; exact hK _ _ (fun W hW => ⟨_, _, _, _, rfl, hc.below hW⟩) hb
     ·intro a w3 hA K hK
      have t66 := bg_is hA 0 66
      obtain ⟨v69, t69, p69⟩ := bg_such hA 3 69
      obtain ⟨T69, n69, m69, y69, rfl, hc69⟩ := p69 w3 (Below.refl _ _)
      have hC := HAd.out w3 (hcu.below hA.below).val _ hc69.val
      go_simp
      refine hC.mono ?_
      rintro e w4 ⟨v, rfl, hv, hb⟩
      obtain ⟨_, _, _, _, rfl, hc⟩ := hv.cv; exact hK _ _ (fun W hW => ⟨_, _, _, _, rfl, hc.below hW⟩) hb
     ·intro a w3 hA K hK
      have t4 := hA.old 4 _ rfl rfl
      obtain ⟨v70, t70, p70⟩ := bg_such hA 4 70
      obtain ⟨T70s, n70s, m70s, y70s, rfl, hc70s⟩ := p70 w3 (Below.refl _ _)
      have hB := HZu.below hA.below
      have f0 := hB.frozen 0
      have c0 := hB.cell 0 rfl
      have f1 := hB.frozen 1
      have c1 := hB.cell 1 rfl
      have f2 := hB.frozen 2
      have c2 := hB.cell 2 rfl
      have f3 := hB.frozen 3
      have c3 := hB.cell 3 rfl
      have f4 := hB.frozen 4
      have c4 := hB.cell 4 rfl
      go_simp
      exact hK undef _ (fun W hW => ⟨_, _, _, _, (stored5 hB).1.below hW, (CV.kept hc70s hB (noU_i64 (noU_slice (noU_bool (noU_slice (noU_slice noU_nil))))) noT_con (stored5 hB).2.1).below hW⟩) ⟨(stored5 hB).2.1, fun j d h => by cases h⟩
     ·intro a w3 hA K hK
      go_simp
      exact hK _ _ Pg.fi_ (Below.refl _ _)
    rintro vs wq hV hgv hlk act hact
    repeat (replace hV := hV.is_; obtain ⟨_, rfl, hV⟩ := hV)
    replace hV := hV.such_; obtain ⟨v68, _, rfl, p68, hV⟩ := hV
    replace hV := hV.such_; obtain ⟨v69, _, rfl, p69, hV⟩ := hV
    replace hV := hV.such_; obtain ⟨v70, _, rfl, p70, hV⟩ := hV
    replace hV := hV.own_; obtain ⟨vP, _, rfl, pP, hV⟩ := hV
    replace hV := hV.is_; obtain ⟨_, rfl, hV⟩ := hV
    obtain rfl := hV.nil_
    clear hV
    clear hlk
    obtain ⟨y68, rfl, hy68⟩ := p68 wq (Below.refl _ _)
    clear p68
    obtain ⟨T69, n69, m69, y69, rfl, hc69⟩ := p69 wq (Below.refl _ _)
    clear p69
    obtain ⟨T70, n70, m70, y70, rfl, hc70⟩ := p70 wq (Below.refl _ _)
    clear p70
    obtain ⟨T70s, n70s, m70s, y70s, hBS, hc70s⟩ := pP wq (Below.refl _ _)
    clear pP
    simp only [putsO] at hact
    subst hact
    go_simp
    have hzw : Below w.heap.size w wq := hwu.trans (Below.kept hgv (by omega) hwu.size)
    have hBS' : Bs wq (w.heap.size + 1 + 1) 36 [.int .i64 c.s, .slice T70s n70s m70s, .bool y70s.s, .slice y70s.A y70s.n y70s.c, .slice y70s.A' y70s.n' y70s.c'] := hBS
    have q0 := hBS'.cell 0 rfl
    have q1 := hBS'.cell 1 rfl
    have q2 := hBS'.cell 2 rfl
    have q3 := hBS'.cell 3 rfl
    have q4 := hBS'.cell 4 rfl
    go_wp2_with fail
    refine bodyPost_ret (v := .tuple #[.agg #[.int .i64 c.s, .slice T70s n70s m70s, .bool y70s.s, .slice y70s.A y70s.n y70s.c, .slice y70s.A' y70s.n' y70s.c'], .int .i64 0]) (by simp [results, Tryz.results35, go_sem, q0, q1, q2, q3, q4]) rfl ?_
    exact SumRet.to HXX.out ⟨_, rfl, by rw [← HC.out]; exact hc70s.val, hzw⟩
   ·have hq3 : ((k : Int) == 3) = false := beq_eq_false_iff_ne.2 (by omega)
    have hq4 : ((k : Int) == 4) = false := beq_eq_false_iff_ne.2 (by omega)
    have hq5 : ((k : Int) == 5) = true := beq_iff_eq.2 (by omega)
    have HJ := hid fun (W : World) {va vb : Value} (ha : ConVal W va (cwOf C1)) (hb : ConVal W vb (cwOf C2)) => mul_C W ha hb hl1 hl2 (by omega) hK1 hlc1 hlc2
    obtain ⟨X, hXX⟩ : ∃ X, binC 5 C1 C2 = X := ⟨_, rfl⟩
    rw [hXX] at HJ
    have HXX := hid (show X = binC k C1 C2 by rw [hq, hXX])
    clear hXX
    clear hq hl1 hl2 hlc1 hlc2 hsC2
    have p0 := HAu.cell 0 rfl
    have p1 := HAu.cell 1 rfl
    have p2 := HAu.cell 2 rfl
    have p3 := HAu.cell 3 rfl
    have p4 := HAu.cell 4 rfl
    have r0 := hBFb.cell 0 rfl
    have r1 := hBFb.cell 1 rfl
    have r2 := hBFb.cell 2 rfl
    have r3 := hBFb.cell 3 rfl
    have r4 := hBFb.cell 4 rfl
    have HAv := hid (hcu.val)
    have HBv := hid (hc51s.val)
    clear hc32s hc51s hcu
    go_wp2_with (go_at_call 61; (with_reducible refine (HJ.out _ HAv.out HBv.out).mono ?_); rintro e w5 ⟨v5, rfl, hv5, hb5⟩; obtain ⟨T5, n5, m5, y5, rfl, hc5⟩ := hv5.cv; have HZ5 := HZu.below hb5; have hbw := Below.then_ hwu hb5; have f0 := HZ5.frozen 0; have f1 := HZ5.frozen 1; have f2 := HZ5.frozen 2; have f3 := HZ5.frozen 3; have f4 := HZ5.frozen 4; have z0 := HZ5.cell 0 rfl; have z1 := HZ5.cell 1 rfl; have z2 := HZ5.cell 2 rfl; have z3 := HZ5.cell 3 rfl; have z4 := HZ5.cell 4 rfl)
    refine bp_world (F := Stored w5 (w.heap.size + 1 + 1) 36 [.int .i64 (conOf X).s, .slice T5 n5 m5, .bool y5.s, .slice y5.A y5.n y5.c, .slice y5.A' y5.n' y5.c']) (stored5 HZ5) ?_
    rintro wz ⟨HS, ks, ss⟩
    have q0 := HS.cell 0 rfl
    have q1 := HS.cell 1 rfl
    have q2 := HS.cell 2 rfl
    have q3 := HS.cell 3 rfl
    have q4 := HS.cell 4 rfl
    refine bodyPost_ret (v := .tuple #[.agg #[.int .i64 (conOf X).s, .slice T5 n5 m5, .bool y5.s, .slice y5.A y5.n y5.c, .slice y5.A' y5.n' y5.c'], .int .i64 (errOf X : Int)]) (by simp [results, Tryz.results35, go_sem, q0, q1, q2, q3, q4]) rfl ?_
    exact SumRet.to HXX.out ⟨_, rfl, (hc5.kept HZ5 conU0 noT_con ks).val, hbw.trans (Below.kept ks (by omega) hbw.size)⟩
   ·have hq3 : ((k : Int) == 3) = false := beq_eq_false_iff_ne.2 (by omega)
    have hq4 : ((k : Int) == 4) = false := beq_eq_false_iff_ne.2 (by omega)
    have hq5 : ((k : Int) == 5) = false := beq_eq_false_iff_ne.2 (by omega)
    have HJ := hid fun (W : World) {va vb : Value} (ha : ConVal W va (cwOf C1)) (hb : ConVal W vb (cwOf C2)) => div_C W ha hb hl1 hl2 (by omega) hK1 hlc1 hlc2
    obtain ⟨X, hXX⟩ : ∃ X, binC 6 C1 C2 = X := ⟨_, rfl⟩
    rw [hXX] at HJ
    have HXX := hid (show X = binC k C1 C2 by rw [hq, hXX])
    clear hXX
    clear hq hl1 hl2 hlc1 hlc2 hsC2
    have p0 := HAu.cell 0 rfl
    have p1 := HAu.cell 1 rfl
    have p2 := HAu.cell 2 rfl
    have p3 := HAu.cell 3 rfl
    have p4 := HAu.cell 4 rfl
    have r0 := hBFb.cell 0 rfl
    have r1 := hBFb.cell 1 rfl
    have r2 := hBFb.cell 2 rfl
    have r3 := hBFb.cell 3 rfl
    have r4 := hBFb.cell 4 rfl
    have HAv := hid (hcu.val)
    have HBv := hid (hc51s.val)
    clear hc32s hc51s hcu
    go_wp2_with (go_at_call 62; (with_reducible refine (HJ.out _ HAv.out HBv.out).mono ?_); rintro e w5 ⟨v5, rfl, hv5, hb5⟩; obtain ⟨T5, n5, m5, y5, rfl, hc5⟩ := hv5.cv; have HZ5 := HZu.below hb5; have hbw := Below.then_ hwu hb5; have f0 := HZ5.frozen 0; have f1 := HZ5.frozen 1; have f2 := HZ5.frozen 2; have f3 := HZ5.frozen 3; have f4 := HZ5.frozen 4; have z0 := HZ5.cell 0 rfl; have z1 := HZ5.cell 1 rfl; have z2 := HZ5.cell 2 rfl; have z3 := HZ5.cell 3 rfl; have z4 := HZ5.cell 4 rfl)
    refine bp_world (F := Stored w5 (w.heap.size + 1 + 1) 36 [.int .i64 (conOf X).s, .slice T5 n5 m5, .bool y5.s, .slice y5.A y5.n y5.c, .slice y5.A' y5.n' y5.c']) (stored5 HZ5) ?_
    rintro wz ⟨HS, ks, ss⟩
    have q0 := HS.cell 0 rfl
    have q1 := HS.cell 1 rfl
    have q2 := HS.cell 2 rfl
    have q3 := HS.cell 3 rfl
    have q4 := HS.cell 4 rfl
    refine bodyPost_ret (v := .tuple #[.agg #[.int .i64 (conOf X).s, .slice T5 n5 m5, .bool y5.s, .slice y5.A y5.n y5.c, .slice y5.A' y5.n' y5.c'], .int .i64 (errOf X : Int)]) (by simp [results, Tryz.results35, go_sem, q0, q1, q2, q3, q4]) rfl ?_
    exact SumRet.to HXX.out ⟨_, rfl, (hc5.kept HZ5 conU0 noT_con ks).val, hbw.trans (Below.kept ks (by omega) hbw.size)⟩
theorem of_C {x : EW} (hl : ∀ r ∈ x.vals, r.Le 3) (hn : x.vars.length ≤ 1000) : ∀ e : XE, OfAt x e := by
 intro e
 induction e with
 | num q => exact OfAt.num
 | name s => exact OfAt.name hl
 | neg a ih => exact OfAt.neg hl hn ih
 | bin k a b ih ih' => exact OfAt.bin hl hn ih ih'
end Go.Proofs.YtahdlpkncemmaaaGreat
