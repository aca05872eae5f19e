/- Walk. Conditions: those that each theorem names. -/
import Derived.Test.YtahdlpkncemmaaaGreatY45
import Derived.Test.YtahdlpkncemmaaaGreatY36
set_option maxRecDepth 100000
set_option maxHeartbeats 8000000
set_option linter.unusedSimpArgs false
set_option linter.unusedVariables false
namespace Pg
open Go Go.RowKit
theorem nameCN (s : List UInt8) (v : EnvQ) (l : List Rat) : (∃ c, nameC s v = .ok c ∧ nameN s v l = .ok (atC (valAt l) c) ∧ c.t.length ≤ 1) ∨ (nameC s v = .error 5 ∧ nameN s v l = .error 5) := by
 unfold nameC nameN
 cases idx v.vars s with
 | some i => exact .inl ⟨_, rfl, by simp [atC, atT, valAt_nat, Rat.zero_add, Rat.one_mul, Rat.add_zero], Nat.le_refl _⟩
 | none =>
  cases idx v.names s with
  | some i => exact .inl ⟨_, rfl, by simp [atC, atT, Rat.add_zero], Nat.zero_le _⟩
  | none => exact .inr ⟨rfl, rfl⟩
theorem cw0_le (k : Nat) : cw0.Le k := ⟨fun t ht => by simp [cw0] at ht, Nat.zero_le _, Nat.zero_le _⟩
theorem cw0_at (f : Int → Rat) : (0 : Rat) = atC f cw0.q := by
 have h : cw0.r.q = 0 := rv_zero (.inl rfl)
 show 0 = cw0.r.q + atT f []
 rw [h]
 simp [atT, Rat.add_zero]
def r0Of : Except Nat Rat → Rat | .ok q => q | .error _ => 0
def R0Ret (w : World) (x : Except Nat Rat) (e : Ending) (w' : World) : Prop := ∃ y : RV, e = .returned (.tuple #[.agg #[.bool y.s, .slice y.A y.n y.c, .slice y.A' y.n' y.c'], .int .i64 (errOf x : Int)]) ∧ y.at w' (rwOf (r0Of x)) ∧ Below w.heap.size w w'
end Pg
namespace Go.Proofs.YtahdlpkncemmaaaGreat
open Go.RowKit Pg
theorem R0Ret.to {w w' : World} {X Y : Except Nat Rat} {e : Ending} (h : X = Y) (hp : R0Ret w X e w') : R0Ret w Y e w' := h ▸ hp
def ValAt (x : EW) (A : Option Addr) (n c : Nat) (l : List RW) (e : XE) : Prop := ∀ (K : Nat) (w : World) (v : Value), XE.Val w e v → SzX e K → K ≤ 10000 → 1 ≤ K → EnvAt w x → SlAt 3 RawAt w A n c l →
 Calls Tryz.prog 53 #[v, .agg #[.slice x.A0 x.n0 x.k0, .slice x.A1 x.n1 x.k1, .slice x.A2 x.n2 x.k2], .slice A n c] w (R0Ret w (numX x.q (l.map RW.q) e))
theorem ValAt.neg {x : EW} {A : Option Addr} {n c : Nat} {l : List RW} {a : XE} (hl : ∀ r ∈ x.vals, r.Le 3) (hl' : ∀ r ∈ l, r.Le 3) (IH : ValAt x A n c l a) : ValAt x A n c l (.neg a) := by
 rintro K w v ⟨v0, v1, v2, nm, b, o, kn, kc, d0, d1, d2, d3, d4, d5, rfl, hk1, hk2, hbl, hck, hv⟩ hsz hK hK1 hE hS
 have HS1 := hid fun W (hW : Below w.heap.size w W) => IH K W _ (XE.Val.below hW a _ hv) hsz hK hK1 (hE.below hW) (hS.below rawAt_stays hW)
 have hkp : 0 < kn := hk1
 simp only [numX]
 have hvs : ∀ q ∈ x.q.vals, Short q 3 := short_of_at hE.vals hl (by omega)
 have hls : ∀ q ∈ l.map RW.q, Short q 3 := short_of_at hS hl' (by omega)
 obtain ⟨X, hX⟩ : ∃ X, numX x.q (l.map RW.q) a = X := ⟨_, rfl⟩
 rw [hX] at HS1 ⊢
 have HE1 := hid fun (y : Nat) (h : X = .error y) => numX_err (hX.trans h)
 have HL1 := hid fun (C : Rat) (h : X = .ok C) => short_le (numX_short x.q _ hvs hls a K C hsz (hX.trans h))
 have HCK := hid hck
 clear hX hv hE hS hsz hck hvs hls
 go_enter Tryz.func53, Tryz.ntmps53
 go_upto_region 1 with fail
 refine wp_world (F := fun W => (Bs W w.heap.size 27 [.int .i64 7, v0, v1, v2, nm, .slice (some ⟨b, o, none⟩) kn kc] ∧ Bs W (w.heap.size + 1) 42 [.slice x.A0 x.n0 x.k0, .slice x.A1 x.n1 x.k1, .slice x.A2 x.n2 x.k2] ∧ Bs W (w.heap.size + 2) 24 [.bool false, .slice none 0 0, .slice none 0 0]) ∧ Below w.heap.size w W)
  ⟨⟨((Bs.new w _ _ _ rfl).alloc _).alloc _, (Bs.new _ _ _ _ (by simp)).alloc _, Bs.new _ _ _ _ (by simp)⟩, Pg.bel⟩ ?_
 rintro w1 ⟨⟨HX, HV, HZ⟩, hb1⟩
 have a0 := HX.cell 0 rfl
 have HK0 := HCK.out.below hbl hb1
 have hbk : b < w1.heap.size := Nat.lt_of_lt_of_le hbl hb1.size
 go_upto_region 7 with fail
 refine draw_G (FreshR w1 24 3) (fun W => Below w1.heap.size w1 W) 11 (some 10) [some 36, some 37, some 38, some 39, some 40, some 41, some 42, some 35, some 43, some 44, some 10, none, some 11] [.is (.pointer (some ⟨w.heap.size, 5, none⟩)), .is (.slice (some ⟨b, o, none⟩) kn kc), .is (.pointer (some ⟨b, o, none⟩)), .is (.agg #[d0, d1, d2, d3, d4, d5]), .is (.agg #[.slice x.A0 x.n0 x.k0, .slice x.A1 x.n1 x.k1, .slice x.A2 x.n2 x.k2]), .is (.slice A n c), .such (fun W v => ∃ (yX : RV), v = .tuple #[.agg #[.bool yX.s, .slice yX.A yX.n yX.c, .slice yX.A' yX.n' yX.c'], .int .i64 (errOf X : Int)] ∧ yX.at W (rwOf (r0Of X))), .such (fun W v => ∃ (yX : RV), v = .tuple #[.agg #[.bool yX.s, .slice yX.A yX.n yX.c, .slice yX.A' yX.n' yX.c'], .int .i64 (errOf X : Int)] ∧ yX.at W (rwOf (r0Of X))), .such (fun W v => ∃ (yX : RV), v = .agg #[.bool yX.s, .slice yX.A yX.n yX.c, .slice yX.A' yX.n' yX.c'] ∧ yX.at W (rwOf (r0Of X))), .is (.int .i64 (errOf X : Int)), .such (FreshAt w1 24 3), .own (fun W v => ∃ (gFa : Nat) (y43s : RV), v = .pointer (some ⟨gFa, 0, none⟩) ∧ w1.heap.size ≤ gFa ∧ Bs W gFa 24 [.bool y43s.s, .slice y43s.A y43s.n y43s.c, .slice y43s.A' y43s.n' y43s.c'] ∧ y43s.at W (rwOf (r0Of X))), .is (.int .i64 (errOf X : Int))]
  (by kernel_rfl) (by kernel_rfl) (by kernel_rfl) (by kernel_rfl) rfl (by kernel_rfl) (fun _ h => h) (fun _ _ h hb => Below.then_ h hb) (fun _ _ hb h => FreshR.bel hb h) (fun q W1 W2 v hm hbw hk hq => by simp at hm; rcases hm with rfl | rfl | rfl | rfl <;> first | (obtain ⟨yX, rfl, hyX⟩ := hq W1 (Below.refl _ _); exact fun W hW => ⟨_, rfl, (FreshR.rows hk hyX).below hW⟩) | (exact fun W hW => (FreshAt.after (hq W1 (Below.refl _ _)) hk).below hW)) ?_ ?_
 ·refine ⟨?_, ?_, ?_, ?_, ?_, ?_, ?_, ?_, ?_, ?_, ?_, ?_, ?_, trivial⟩
  ·intro a w3 hA K hK
   have t3 := hA.old 3 _ rfl rfl
   go_simp
   exact hK _ _ rfl (Below.refl _ _)
  ·intro a w3 hA K hK
   have t36 := bg_is hA 0 36
   have k0 := (HX.below hA.grown).cell 5 rfl
   go_simp
   exact hK _ _ rfl (Below.refl _ _)
  ·intro a w3 hA K hK
   have t37 := bg_is hA 1 37
   go_simp
   exact hK _ _ Pg.fi_ (Below.refl _ _)
  ·intro a w3 hA K hK
   have t38 := bg_is hA 2 38
   have k0 : w3.cell? ⟨b, o, none⟩ = some (d0) := (HK0.below hbk hA.grown).at_ 0 rfl
   have k1 := (HK0.below hbk hA.grown).at_ 1 rfl
   have k2 := (HK0.below hbk hA.grown).at_ 2 rfl
   have k3 := (HK0.below hbk hA.grown).at_ 3 rfl
   have k4 := (HK0.below hbk hA.grown).at_ 4 rfl
   have k5 := (HK0.below hbk hA.grown).at_ 5 rfl
   go_simp
   exact hK _ _ rfl (Below.refl _ _)
  ·intro a w3 hA K hK
   have t4 := hA.old 4 _ rfl rfl
   have k0 := (HV.below hA.grown).cell 0 rfl
   have k1 := (HV.below hA.grown).cell 1 rfl
   have k2 := (HV.below hA.grown).cell 2 rfl
   go_simp
   exact hK _ _ rfl (Below.refl _ _)
  ·intro a w3 hA K hK
   have t2 := hA.old 2 _ rfl rfl
   go_simp
   exact hK _ _ rfl (Below.refl _ _)
  ·intro a w3 hA K hK
   have t39 := bg_is hA 3 39
   have t40 := bg_is hA 4 40
   have t41 := bg_is hA 5 41
   have hC := HS1.out w3 (Below.then_ hb1 hA.grown)
   go_simp
   refine hC.mono ?_
   rintro e w4 ⟨y, rfl, hy, hb⟩
   exact hK _ _ (fun W hW => ⟨_, rfl, hy.below hW⟩) hb
  ·intro a w3 hA K hK
   obtain ⟨v42, t42, p42⟩ := bg_such hA 6 42
   obtain ⟨y42, rfl, hy42⟩ := p42 w3 (Below.refl _ _)
   go_simp
   exact hK _ _ (fun W hW => ⟨_, rfl, hy42.below hW⟩) (Below.refl _ _)
  ·intro a w3 hA K hK
   obtain ⟨v35, t35, p35⟩ := bg_such hA 7 35
   obtain ⟨y35, rfl, hy35⟩ := p35 w3 (Below.refl _ _)
   go_simp
   exact hK _ _ (fun W hW => ⟨_, rfl, hy35.below hW⟩) (Below.refl _ _)
  ·intro a w3 hA K hK
   obtain ⟨v35, t35, p35⟩ := bg_such hA 7 35
   obtain ⟨y35, rfl, hy35⟩ := p35 w3 (Below.refl _ _)
   go_simp
   exact hK _ _ rfl (Below.refl _ _)
  ·intro a w3 hA K hK
   go_simp
   exact hK _ _ (fun W hW => FreshAt.below ⟨_, _, rfl, hA.grown.size, Bs.new w3 _ [.bool false, .slice none 0 0, .slice none 0 0] _ rfl, ⟨(noU_bool (noU_slice (noU_slice noU_nil))), noT_rat⟩, rfl⟩ hW) (Below.new_ (Below.refl _ _) _)
  ·intro a w3 hA K hK
   obtain ⟨v10, lk10, t10, p10⟩ := bg_link hA 10 10
   obtain ⟨g10, cs10, rfl, lg10, hB10, hU10, hl10⟩ := p10 w3 (Below.refl _ _)
   obtain ⟨x0, x1, x2, rfl⟩ := len3 hl10
   have f0 := hB10.frozen 0
   have c0 := hB10.cell 0 rfl
   have f1 := hB10.frozen 1
   have c1 := hB10.cell 1 rfl
   have f2 := hB10.frozen 2
   have c2 := hB10.cell 2 rfl
   obtain ⟨v43, t43, p43⟩ := bg_such hA 8 43
   obtain ⟨y43s, rfl, hy43s⟩ := p43 w3 (Below.refl _ _)
   go_simp
   exact hK (.pointer (some ⟨g10, 0, none⟩)) _ (fun W hW => ⟨g10, _, rfl, lg10, (stored3 hB10).1.below hW, (RV.at.kp hy43s (Kp.stored (B := 0) hB10 hU10.1 (stored3 hB10).2.1 (Nat.zero_le _))).below hW⟩) ⟨⟨g10, _, _, lg10, hB10, hU10, rfl, (stored3 hB10).1, ⟨(noU_bool (noU_slice (noU_slice noU_nil))), noT_rat⟩, rfl, (stored3 hB10).2.1⟩, fun j d h1 h2 => by cases h1; cases h2; exact lk10⟩
  ·intro a w3 hA K hK
   have t44 := bg_is hA 9 44
   go_simp
   exact hK _ _ Pg.fi_ (Below.refl _ _)
 rintro vs wv hV hbv hlk act hact
 repeat (replace hV := hV.is_; obtain ⟨_, rfl, hV⟩ := hV)
 replace hV := hV.such_; obtain ⟨v42, _, rfl, p42, hV⟩ := hV
 replace hV := hV.such_; obtain ⟨v35, _, rfl, p35, hV⟩ := hV
 replace hV := hV.such_; obtain ⟨v43, _, rfl, p43, hV⟩ := hV
 replace hV := hV.is_; obtain ⟨_, rfl, hV⟩ := hV
 replace hV := hV.such_; obtain ⟨v10, _, rfl, p10, hV⟩ := hV
 replace hV := hV.own_; obtain ⟨vP, _, rfl, pP, hV⟩ := hV
 replace hV := hV.is_; obtain ⟨_, rfl, hV⟩ := hV
 obtain rfl := hV.nil_
 clear hV
 replace hlk := hlk _ rfl
 simp only [List.getElem?_cons_succ, List.getElem?_cons_zero, Option.some.injEq] at hlk
 subst hlk; clear p10
 obtain ⟨y42, rfl, hy42⟩ := p42 wv (Below.refl _ _)
 clear p42
 obtain ⟨y35, rfl, hy35⟩ := p35 wv (Below.refl _ _)
 clear p35
 obtain ⟨y43, rfl, hy43⟩ := p43 wv (Below.refl _ _)
 clear p43
 obtain ⟨gFa, y43s, rfl, lgFa, hBFa, hy43s⟩ := pP wv (Below.refl _ _)
 clear pP
 simp only [putsO] at hact
 subst hact
 go_simp
 have hwv := Below.then_ hb1 hbv
 have HXv := HX.below hbv
 clear a0
 have a0 := HXv.cell 0 rfl
 rcases X with x1 | C1
 ·skip
  have hx1 : ((errOf (Except.error x1 : Except Nat Rat) : Int) != 0) = true := bne_iff_ne.2 (Int.natCast_ne_zero.2 (HE1.out _ rfl))
  have HZe := HZ.below hbv
  have f0 := HZe.frozen 0
  have f1 := HZe.frozen 1
  have f2 := HZe.frozen 2
  have z0 := HZe.cell 0 rfl
  have z1 := HZe.cell 1 rfl
  have z2 := HZe.cell 2 rfl
  have p0 := hBFa.cell 0 rfl
  have p1 := hBFa.cell 1 rfl
  have p2 := hBFa.cell 2 rfl
  go_wp2_with fail
  refine bp_world (F := Stored wv (w.heap.size + 1 + 1) 24 [.bool y43s.s, .slice y43s.A y43s.n y43s.c, .slice y43s.A' y43s.n' y43s.c']) (stored3 HZe) ?_
  rintro wz ⟨HS, ks, ss⟩
  have q0 := HS.cell 0 rfl
  have q1 := HS.cell 1 rfl
  have q2 := HS.cell 2 rfl
  refine bodyPost_ret (v := .tuple #[.agg #[.bool y43s.s, .slice y43s.A y43s.n y43s.c, .slice y43s.A' y43s.n' y43s.c'], .int .i64 (errOf (Except.error x1 : Except Nat Rat) : Int)]) (by simp [results, Tryz.results53, go_sem, q0, q1, q2]) rfl ?_
  exact ⟨_, rfl, hy43s.kp (Kp.stored (B := 0) HZe ratU0 ks (Nat.zero_le _)), hwv.trans (Below.kept ks (by omega) hwv.size)⟩
 ·have HN := hid fun (W : World) (hW : Below w.heap.size w W) {y : RV} (hy : y.at W (rwOf (r0Of (Except.ok C1)))) => r2Neg_Q W hy (HL1.out _ rfl) (by omega) hK1 (q := -C1) (by rw [show rwOf (r0Of (Except.ok C1)) = rwOf C1 from rfl, rwOf_q])
  have hx1 : ((errOf (Except.ok C1 : Except Nat Rat) : Int) != 0) = false := rfl
  have HZv := HZ.below hbv
  have p0 := hBFa.cell 0 rfl
  have p1 := hBFa.cell 1 rfl
  have p2 := hBFa.cell 2 rfl
  have HY := hid hy43s
  go_wp2_with (go_at_call 86; (with_reducible refine (HN.out _ hwv HY.out).mono ?_); rintro e w5 ⟨y, rfl, hy, hb5⟩; have HZ5 := HZv.below hb5; have hbw := Below.then_ hwv hb5; have f0 := HZ5.frozen 0; have f1 := HZ5.frozen 1; have f2 := HZ5.frozen 2; have z0 := HZ5.cell 0 rfl; have z1 := HZ5.cell 1 rfl; have z2 := HZ5.cell 2 rfl)
  refine bp_world (F := Stored w5 (w.heap.size + 1 + 1) 24 [.bool y.s, .slice y.A y.n y.c, .slice y.A' y.n' y.c']) (stored3 HZ5) ?_
  rintro wz ⟨HS, ks, ss⟩
  have q0 := HS.cell 0 rfl
  have q1 := HS.cell 1 rfl
  have q2 := HS.cell 2 rfl
  refine bodyPost_ret (v := .tuple #[.agg #[.bool y.s, .slice y.A y.n y.c, .slice y.A' y.n' y.c'], .int .i64 0]) (by simp [results, Tryz.results53, go_sem, q0, q1, q2]) rfl ?_
  exact ⟨y, rfl, hy.kp (Kp.stored (B := 0) HZ5 ratU0 ks (Nat.zero_le _)), hbw.trans (Below.kept ks (by omega) hbw.size)⟩
theorem ValAt.num {x : EW} {A : Option Addr} {n c : Nat} {l : List RW} {q : Rat} : ValAt x A n c l (.num q) := by
 rintro K w v ⟨r, v0, v1, v2, nm, KK, kn, kc, rfl, hr, hq, hrl⟩ _ hK hK1 hE hS
 obtain ⟨u, rfl, rfl, rfl, hu⟩ := rows_rv hr
 have HN := hid fun W (hW : Below w.heap.size w W) => r2Norm_Q W (hu.below hW) hrl (by omega) (by omega)
 rw [hq] at HN
 simp only [numX]
 clear hr hu hE hS
 go_enter Tryz.func53, Tryz.ntmps53
 go_upto_region 1 with fail
 refine wp_world (F := fun W => (Bs W w.heap.size 27 [.int .i64 1, .bool u.s, .slice u.A u.n u.c, .slice u.A' u.n' u.c', nm, .slice KK kn kc] ∧ Bs W (w.heap.size + 1) 42 [.slice x.A0 x.n0 x.k0, .slice x.A1 x.n1 x.k1, .slice x.A2 x.n2 x.k2] ∧ Bs W (w.heap.size + 2) 24 [.bool false, .slice none 0 0, .slice none 0 0]) ∧ Below w.heap.size w W)
  ⟨⟨((Bs.new w _ _ _ rfl).alloc _).alloc _, (Bs.new _ _ _ _ (by simp)).alloc _, Bs.new _ _ _ _ (by simp)⟩, Pg.bel⟩ ?_
 rintro w1 ⟨⟨HX, HV, HZ⟩, hb1⟩
 have a0 := HX.cell 0 rfl
 have a1 := HX.cell 1 rfl
 have a2 := HX.cell 2 rfl
 have a3 := HX.cell 3 rfl
 go_wp2_with (go_at_call 46; (with_reducible refine (HN.out _ hb1).mono ?_); rintro e w5 ⟨y, rfl, hy, hb5⟩; have HZ5 := HZ.below hb5; have hbw := Below.then_ hb1 hb5; have f0 := HZ5.frozen 0; have f1 := HZ5.frozen 1; have f2 := HZ5.frozen 2; have z0 := HZ5.cell 0 rfl; have z1 := HZ5.cell 1 rfl; have z2 := HZ5.cell 2 rfl)
 refine bp_world (F := Stored w5 (w.heap.size + 1 + 1) 24 [.bool y.s, .slice y.A y.n y.c, .slice y.A' y.n' y.c']) (stored3 HZ5) ?_
 rintro wz ⟨HS, ks, ss⟩
 have q0 := HS.cell 0 rfl
 have q1 := HS.cell 1 rfl
 have q2 := HS.cell 2 rfl
 refine bodyPost_ret (v := .tuple #[.agg #[.bool y.s, .slice y.A y.n y.c, .slice y.A' y.n' y.c'], .int .i64 0]) (by simp [results, Tryz.results53, go_sem, q0, q1, q2]) rfl ?_
 exact ⟨y, rfl, hy.kp (Kp.stored (B := 0) HZ5 ratU0 ks (Nat.zero_le _)), hbw.trans (Below.kept ks (by omega) hbw.size)⟩
theorem ValAt.name {x : EW} {A : Option Addr} {n c : Nat} {l : List RW} {s : List UInt8} (hl : ∀ r ∈ x.vals, r.Le 3) (hl' : ∀ r ∈ l, r.Le 3) : ValAt x A n c l (.name s) := by
 rintro K w v ⟨v0, v1, v2, KK, kn, kc, rfl, hs⟩ _ hK hK1 hE hS
 have HN := hid fun W (hW : Below w.heap.size w W) => rname_C W s (hE.below hW) hl (by omega) (by omega)
 have hvs : ∀ q ∈ x.q.vals, Short q 3 := short_of_at hE.vals hl (by omega)
 simp only [numX]
 obtain ⟨X, hX⟩ : ∃ X, nameC s x.q = X := ⟨_, rfl⟩
 obtain ⟨Y, hY⟩ : ∃ Y, nameN s x.q (l.map RW.q) = Y := ⟨_, rfl⟩
 rw [hX] at HN
 rw [hY]
 have h3 : errOf Y = errOf X ∧ r0Of Y = atC (valAt (l.map RW.q)) (conOf X).q ∧ (conOf X).Le 3 ∧ (conOf X).t.length ≤ 200 := by
  rcases nameCN s x.q (l.map RW.q) with ⟨c, g1, g2, g3⟩ | ⟨g1, g2⟩
  ·have hs3 := sumX_short x.q hvs (.name s) 3 c (Nat.le_refl _) g1
   rw [← hX, ← hY, g1, g2]
   refine ⟨rfl, ?_, hs3.le, ?_⟩
   ·show _ = atC _ (cwOf c).q
    rw [cwOf_q]
    rfl
   ·show (cwOf c).t.length ≤ 200
    rw [show (cwOf c).t.length = c.t.length from List.length_map ..]; omega
  ·rw [← hX, ← hY, g1, g2]
   exact ⟨rfl, cw0_at _, cw0_le 3, Nat.zero_le _⟩
 obtain ⟨hq1, hq2, hq3, hq4⟩ := h3
 have HA := hid fun (W : World) (hW : Below w.heap.size w W) {va : Value} (ha : ConVal W va (conOf X)) => rAt_C W ha (hS.below rawAt_stays hW) hl' hq3 (by omega) (by omega) hq4
 have HQ := hid (And.intro hq1 hq2)
 clear hE hX hY hS hvs hq1 hq2 hq3 hq4
 go_enter Tryz.func53, Tryz.ntmps53
 go_upto_region 1 with fail
 refine wp_world (F := fun W => (Bs W w.heap.size 27 [.int .i64 2, v0, v1, v2, .string (str s), .slice KK kn kc] ∧ Bs W (w.heap.size + 1) 42 [.slice x.A0 x.n0 x.k0, .slice x.A1 x.n1 x.k1, .slice x.A2 x.n2 x.k2] ∧ Bs W (w.heap.size + 2) 24 [.bool false, .slice none 0 0, .slice none 0 0]) ∧ Below w.heap.size w W)
  ⟨⟨((Bs.new w _ _ _ rfl).alloc _).alloc _, (Bs.new _ _ _ _ (by simp)).alloc _, Bs.new _ _ _ _ (by simp)⟩, Pg.bel⟩ ?_
 rintro w1 ⟨⟨HX, HV, HZ⟩, hb1⟩
 have a0 := HX.cell 0 rfl
 have a4 := HX.cell 4 rfl
 have b0 := HV.cell 0 rfl
 have b1 := HV.cell 1 rfl
 have b2 := HV.cell 2 rfl
 go_wp2_with (first
  | (go_at_call 60; (with_reducible refine (HN.out _ hb1).mono ?_); rintro e w5 ⟨v5, rfl, hv5, hb5⟩; obtain ⟨T5, n5, m5, y5, rfl, hc5⟩ := hv5.cv; have HZ5 := (HZ.below hb5).alloc (.cells #[.int .i64 (conOf X).s, .slice T5 n5 m5, .bool y5.s, .slice y5.A y5.n y5.c, .slice y5.A' y5.n' y5.c'] 36); have HC5 := hid (Bs.new w5 36 [.int .i64 (conOf X).s, .slice T5 n5 m5, .bool y5.s, .slice y5.A y5.n y5.c, .slice y5.A' y5.n' y5.c'] _ rfl); have hca := hid (hc5.below (Below.new_ (Below.refl _ _) (.cells #[.int .i64 (conOf X).s, .slice T5 n5 m5, .bool y5.s, .slice y5.A y5.n y5.c, .slice y5.A' y5.n' y5.c'] 36))); have h5 := Below.then_ hb1 hb5; have hbw := h5.trans ((Below.new_ (Below.refl _ _) (.cells #[.int .i64 (conOf X).s, .slice T5 n5 m5, .bool y5.s, .slice y5.A y5.n y5.c, .slice y5.A' y5.n' y5.c'] 36)).mono h5.size); clear hv5 hc5; have p0 := HC5.out.cell 0 rfl; have p1 := HC5.out.cell 1 rfl; have p2 := HC5.out.cell 2 rfl; have p3 := HC5.out.cell 3 rfl; have p4 := HC5.out.cell 4 rfl)
  | (go_at_call 26; (with_reducible refine (HA.out _ hbw hca.out.val).mono ?_); rintro e w6 ⟨y, rfl, hy, hb6⟩; have HZ6 := HZ5.below hb6; have hbz := Below.then_ hbw hb6; have f0 := HZ6.frozen 0; have f1 := HZ6.frozen 1; have f2 := HZ6.frozen 2; have z0 := HZ6.cell 0 rfl; have z1 := HZ6.cell 1 rfl; have z2 := HZ6.cell 2 rfl))
 refine bp_world (F := Stored w6 (w.heap.size + 1 + 1) 24 [.bool y.s, .slice y.A y.n y.c, .slice y.A' y.n' y.c']) (stored3 HZ6) ?_
 rintro wz ⟨HS, ks, ss⟩
 have q0 := HS.cell 0 rfl
 have q1 := HS.cell 1 rfl
 have q2 := HS.cell 2 rfl
 refine bodyPost_ret (v := .tuple #[.agg #[.bool y.s, .slice y.A y.n y.c, .slice y.A' y.n' y.c'], .int .i64 (errOf X : Int)]) (by simp [results, Tryz.results53, go_sem, q0, q1, q2]) rfl ?_
 exact ⟨y, by rw [HQ.out.1], by rw [HQ.out.2]; exact hy.kp (Kp.stored (B := 0) HZ6 ratU0 ks (Nat.zero_le _)), hbz.trans (Below.kept ks (by omega) hbz.size)⟩
theorem ValAt.bin {x : EW} {A : Option Addr} {n c : Nat} {l : List RW} {k : Nat} {a a' : XE} (hl : ∀ r ∈ x.vals, r.Le 3) (hl' : ∀ r ∈ l, r.Le 3) (IH : ValAt x A n c l a) (IH' : ValAt x A n c l a') : ValAt x A n c l (.bin k a a') := by
 rintro K w v ⟨v0, v1, v2, nm, b, o, kn, kc, d0, d1, d2, d3, d4, d5, f0, f1, f2, f3, f4, f5, h3, h6, rfl, hk1, hk2, hbl, hck, hdk, hv, hv'⟩ ⟨i, j, hi, hj, hij⟩ hK hK1 hE hS
 have hsz := SzX.mono hi (by omega : i ≤ K)
 have hsz' := SzX.mono hj (by omega : j ≤ K)
 clear hi hj hij
 have HS1 := hid fun W (hW : Below w.heap.size w W) => IH K W _ (XE.Val.below hW a _ hv) hsz hK hK1 (hE.below hW) (hS.below rawAt_stays hW)
 have HS2 := hid fun W (hW : Below w.heap.size w W) => IH' K W _ (XE.Val.below hW a' _ hv') hsz' hK hK1 (hE.below hW) (hS.below rawAt_stays hW)
 have hkp : 0 < kn := by omega
 have hkq : (1 : Int) < (kn : Int) := by omega
 have hk7 : ((k : Int) == 7) = false := beq_eq_false_iff_ne.2 (by omega)
 have hk8 : ((k : Int) == 1) = false := beq_eq_false_iff_ne.2 (by omega)
 have hk9 : ((k : Int) == 2) = false := beq_eq_false_iff_ne.2 (by omega)
 simp only [numX]
 have hvs : ∀ q ∈ x.q.vals, Short q 3 := short_of_at hE.vals hl (by omega)
 have hls : ∀ q ∈ l.map RW.q, Short q 3 := short_of_at hS hl' (by omega)
 obtain ⟨X, hX⟩ : ∃ X, numX x.q (l.map RW.q) a = X := ⟨_, rfl⟩
 obtain ⟨Y, hY⟩ : ∃ Y, numX x.q (l.map RW.q) a' = Y := ⟨_, rfl⟩
 rw [hX] at HS1 ⊢
 rw [hY] at HS2 ⊢
 have HE1 := hid fun (y : Nat) (h : X = .error y) => numX_err (hX.trans h)
 have HE2 := hid fun (y : Nat) (h : Y = .error y) => numX_err (hY.trans h)
 have HL1 := hid fun (C : Rat) (h : X = .ok C) => short_le (numX_short x.q _ hvs hls a K C hsz (hX.trans h))
 have HL2 := hid fun (C : Rat) (h : Y = .ok C) => short_le (numX_short x.q _ hvs hls a' K C hsz' (hY.trans h))
 have HCK := hid hck
 have HDK := hid hdk
 clear hX hY hv hv' hE hS hsz hsz' hck hdk hvs hls
 go_enter Tryz.func53, Tryz.ntmps53
 go_upto_region 1 with fail
 refine wp_world (F := fun W => (Bs W w.heap.size 27 [.int .i64 (k : Int), v0, v1, v2, nm, .slice (some ⟨b, o, none⟩) kn kc] ∧ Bs W (w.heap.size + 1) 42 [.slice x.A0 x.n0 x.k0, .slice x.A1 x.n1 x.k1, .slice x.A2 x.n2 x.k2] ∧ Bs W (w.heap.size + 2) 24 [.bool false, .slice none 0 0, .slice none 0 0]) ∧ Below w.heap.size w W)
  ⟨⟨((Bs.new w _ _ _ rfl).alloc _).alloc _, (Bs.new _ _ _ _ (by simp)).alloc _, Bs.new _ _ _ _ (by simp)⟩, Pg.bel⟩ ?_
 rintro w1 ⟨⟨HX, HV, HZ⟩, hb1⟩
 have a0 := HX.cell 0 rfl
 have HK0 := HCK.out.below hbl hb1
 have hbk : b < w1.heap.size := Nat.lt_of_lt_of_le hbl hb1.size
 go_upto_region 7 with fail
 refine draw_G (FreshR w1 24 3) (fun W => Below w1.heap.size w1 W) 11 (some 10) [some 36, some 37, some 38, some 39, some 40, some 41, some 42, some 35, some 43, some 44, some 10, none, some 11] [.is (.pointer (some ⟨w.heap.size, 5, none⟩)), .is (.slice (some ⟨b, o, none⟩) kn kc), .is (.pointer (some ⟨b, o, none⟩)), .is (.agg #[d0, d1, d2, d3, d4, d5]), .is (.agg #[.slice x.A0 x.n0 x.k0, .slice x.A1 x.n1 x.k1, .slice x.A2 x.n2 x.k2]), .is (.slice A n c), .such (fun W v => ∃ (yX : RV), v = .tuple #[.agg #[.bool yX.s, .slice yX.A yX.n yX.c, .slice yX.A' yX.n' yX.c'], .int .i64 (errOf X : Int)] ∧ yX.at W (rwOf (r0Of X))), .such (fun W v => ∃ (yX : RV), v = .tuple #[.agg #[.bool yX.s, .slice yX.A yX.n yX.c, .slice yX.A' yX.n' yX.c'], .int .i64 (errOf X : Int)] ∧ yX.at W (rwOf (r0Of X))), .such (fun W v => ∃ (yX : RV), v = .agg #[.bool yX.s, .slice yX.A yX.n yX.c, .slice yX.A' yX.n' yX.c'] ∧ yX.at W (rwOf (r0Of X))), .is (.int .i64 (errOf X : Int)), .such (FreshAt w1 24 3), .own (fun W v => ∃ (gFa : Nat) (y43s : RV), v = .pointer (some ⟨gFa, 0, none⟩) ∧ w1.heap.size ≤ gFa ∧ Bs W gFa 24 [.bool y43s.s, .slice y43s.A y43s.n y43s.c, .slice y43s.A' y43s.n' y43s.c'] ∧ y43s.at W (rwOf (r0Of X))), .is (.int .i64 (errOf X : Int))]
  (by kernel_rfl) (by kernel_rfl) (by kernel_rfl) (by kernel_rfl) rfl (by kernel_rfl) (fun _ h => h) (fun _ _ h hb => Below.then_ h hb) (fun _ _ hb h => FreshR.bel hb h) (fun q W1 W2 v hm hbw hk hq => by simp at hm; rcases hm with rfl | rfl | rfl | rfl <;> first | (obtain ⟨yX, rfl, hyX⟩ := hq W1 (Below.refl _ _); exact fun W hW => ⟨_, rfl, (FreshR.rows hk hyX).below hW⟩) | (exact fun W hW => (FreshAt.after (hq W1 (Below.refl _ _)) hk).below hW)) ?_ ?_
 ·refine ⟨?_, ?_, ?_, ?_, ?_, ?_, ?_, ?_, ?_, ?_, ?_, ?_, ?_, trivial⟩
  ·intro a w3 hA K hK
   have t3 := hA.old 3 _ rfl rfl
   go_simp
   exact hK _ _ rfl (Below.refl _ _)
  ·intro a w3 hA K hK
   have t36 := bg_is hA 0 36
   have k0 := (HX.below hA.grown).cell 5 rfl
   go_simp
   exact hK _ _ rfl (Below.refl _ _)
  ·intro a w3 hA K hK
   have t37 := bg_is hA 1 37
   go_simp
   exact hK _ _ Pg.fi_ (Below.refl _ _)
  ·intro a w3 hA K hK
   have t38 := bg_is hA 2 38
   have k0 : w3.cell? ⟨b, o, none⟩ = some (d0) := (HK0.below hbk hA.grown).at_ 0 rfl
   have k1 := (HK0.below hbk hA.grown).at_ 1 rfl
   have k2 := (HK0.below hbk hA.grown).at_ 2 rfl
   have k3 := (HK0.below hbk hA.grown).at_ 3 rfl
   have k4 := (HK0.below hbk hA.grown).at_ 4 rfl
   have k5 := (HK0.below hbk hA.grown).at_ 5 rfl
   go_simp
   exact hK _ _ rfl (Below.refl _ _)
  ·intro a w3 hA K hK
   have t4 := hA.old 4 _ rfl rfl
   have k0 := (HV.below hA.grown).cell 0 rfl
   have k1 := (HV.below hA.grown).cell 1 rfl
   have k2 := (HV.below hA.grown).cell 2 rfl
   go_simp
   exact hK _ _ rfl (Below.refl _ _)
  ·intro a w3 hA K hK
   have t2 := hA.old 2 _ rfl rfl
   go_simp
   exact hK _ _ rfl (Below.refl _ _)
  ·intro a w3 hA K hK
   have t39 := bg_is hA 3 39
   have t40 := bg_is hA 4 40
   have t41 := bg_is hA 5 41
   have hC := HS1.out w3 (Below.then_ hb1 hA.grown)
   go_simp
   refine hC.mono ?_
   rintro e w4 ⟨y, rfl, hy, hb⟩
   exact hK _ _ (fun W hW => ⟨_, rfl, hy.below hW⟩) hb
  ·intro a w3 hA K hK
   obtain ⟨v42, t42, p42⟩ := bg_such hA 6 42
   obtain ⟨y42, rfl, hy42⟩ := p42 w3 (Below.refl _ _)
   go_simp
   exact hK _ _ (fun W hW => ⟨_, rfl, hy42.below hW⟩) (Below.refl _ _)
  ·intro a w3 hA K hK
   obtain ⟨v35, t35, p35⟩ := bg_such hA 7 35
   obtain ⟨y35, rfl, hy35⟩ := p35 w3 (Below.refl _ _)
   go_simp
   exact hK _ _ (fun W hW => ⟨_, rfl, hy35.below hW⟩) (Below.refl _ _)
  ·intro a w3 hA K hK
   obtain ⟨v35, t35, p35⟩ := bg_such hA 7 35
   obtain ⟨y35, rfl, hy35⟩ := p35 w3 (Below.refl _ _)
   go_simp
   exact hK _ _ rfl (Below.refl _ _)
  ·intro a w3 hA K hK
   go_simp
   exact hK _ _ (fun W hW => FreshAt.below ⟨_, _, rfl, hA.grown.size, Bs.new w3 _ [.bool false, .slice none 0 0, .slice none 0 0] _ rfl, ⟨(noU_bool (noU_slice (noU_slice noU_nil))), noT_rat⟩, rfl⟩ hW) (Below.new_ (Below.refl _ _) _)
  ·intro a w3 hA K hK
   obtain ⟨v10, lk10, t10, p10⟩ := bg_link hA 10 10
   obtain ⟨g10, cs10, rfl, lg10, hB10, hU10, hl10⟩ := p10 w3 (Below.refl _ _)
   obtain ⟨x0, x1, x2, rfl⟩ := len3 hl10
   have f0 := hB10.frozen 0
   have c0 := hB10.cell 0 rfl
   have f1 := hB10.frozen 1
   have c1 := hB10.cell 1 rfl
   have f2 := hB10.frozen 2
   have c2 := hB10.cell 2 rfl
   obtain ⟨v43, t43, p43⟩ := bg_such hA 8 43
   obtain ⟨y43s, rfl, hy43s⟩ := p43 w3 (Below.refl _ _)
   go_simp
   exact hK (.pointer (some ⟨g10, 0, none⟩)) _ (fun W hW => ⟨g10, _, rfl, lg10, (stored3 hB10).1.below hW, (RV.at.kp hy43s (Kp.stored (B := 0) hB10 hU10.1 (stored3 hB10).2.1 (Nat.zero_le _))).below hW⟩) ⟨⟨g10, _, _, lg10, hB10, hU10, rfl, (stored3 hB10).1, ⟨(noU_bool (noU_slice (noU_slice noU_nil))), noT_rat⟩, rfl, (stored3 hB10).2.1⟩, fun j d h1 h2 => by cases h1; cases h2; exact lk10⟩
  ·intro a w3 hA K hK
   have t44 := bg_is hA 9 44
   go_simp
   exact hK _ _ Pg.fi_ (Below.refl _ _)
 rintro vs wv hV hbv hlk act hact
 repeat (replace hV := hV.is_; obtain ⟨_, rfl, hV⟩ := hV)
 replace hV := hV.such_; obtain ⟨v42, _, rfl, p42, hV⟩ := hV
 replace hV := hV.such_; obtain ⟨v35, _, rfl, p35, hV⟩ := hV
 replace hV := hV.such_; obtain ⟨v43, _, rfl, p43, hV⟩ := hV
 replace hV := hV.is_; obtain ⟨_, rfl, hV⟩ := hV
 replace hV := hV.such_; obtain ⟨v10, _, rfl, p10, hV⟩ := hV
 replace hV := hV.own_; obtain ⟨vP, _, rfl, pP, hV⟩ := hV
 replace hV := hV.is_; obtain ⟨_, rfl, hV⟩ := hV
 obtain rfl := hV.nil_
 clear hV
 replace hlk := hlk _ rfl
 simp only [List.getElem?_cons_succ, List.getElem?_cons_zero, Option.some.injEq] at hlk
 subst hlk; clear p10
 obtain ⟨y42, rfl, hy42⟩ := p42 wv (Below.refl _ _)
 clear p42
 obtain ⟨y35, rfl, hy35⟩ := p35 wv (Below.refl _ _)
 clear p35
 obtain ⟨y43, rfl, hy43⟩ := p43 wv (Below.refl _ _)
 clear p43
 obtain ⟨gFa, y43s, rfl, lgFa, hBFa, hy43s⟩ := pP wv (Below.refl _ _)
 clear pP
 simp only [putsO] at hact
 subst hact
 go_simp
 have hwv := Below.then_ hb1 hbv
 have HXv := HX.below hbv
 clear a0
 have a0 := HXv.cell 0 rfl
 rcases X with x1 | C1
 ·skip
  have hx1 : ((errOf (Except.error x1 : Except Nat Rat) : Int) != 0) = true := bne_iff_ne.2 (Int.natCast_ne_zero.2 (HE1.out _ rfl))
  have HZe := HZ.below hbv
  have f0 := HZe.frozen 0
  have f1 := HZe.frozen 1
  have f2 := HZe.frozen 2
  have z0 := HZe.cell 0 rfl
  have z1 := HZe.cell 1 rfl
  have z2 := HZe.cell 2 rfl
  have p0 := hBFa.cell 0 rfl
  have p1 := hBFa.cell 1 rfl
  have p2 := hBFa.cell 2 rfl
  go_wp2_with fail
  refine bp_world (F := Stored wv (w.heap.size + 1 + 1) 24 [.bool y43s.s, .slice y43s.A y43s.n y43s.c, .slice y43s.A' y43s.n' y43s.c']) (stored3 HZe) ?_
  rintro wz ⟨HS, ks, ss⟩
  have q0 := HS.cell 0 rfl
  have q1 := HS.cell 1 rfl
  have q2 := HS.cell 2 rfl
  refine bodyPost_ret (v := .tuple #[.agg #[.bool y43s.s, .slice y43s.A y43s.n y43s.c, .slice y43s.A' y43s.n' y43s.c'], .int .i64 (errOf (Except.error x1 : Except Nat Rat) : Int)]) (by simp [results, Tryz.results53, go_sem, q0, q1, q2]) rfl ?_
  exact ⟨_, rfl, hy43s.kp (Kp.stored (B := 0) HZe ratU0 ks (Nat.zero_le _)), hwv.trans (Below.kept ks (by omega) hwv.size)⟩
 ·have hx3 : ((errOf (Except.ok C1 : Except Nat Rat) : Int) != 0) = false := rfl
  have HVv := HV.below hbv
  have HZv := HZ.below hbv
  have HK2 := hid (HDK.out.below hbl hwv)
  have hbv2 : b < wv.heap.size := Nat.lt_of_lt_of_le hbl hwv.size
  go_upto_region 12 with fail
  refine draw_G (FreshR wv 24 3) (fun W => Below wv.heap.size wv W) 11 (some 10) [some 55, some 56, some 57, some 58, some 59, some 60, some 61, some 54, some 62, some 63, some 12, none, some 11] [.is (.pointer (some ⟨w.heap.size, 5, none⟩)), .is (.slice (some ⟨b, o, none⟩) kn kc), .is (.pointer (some ⟨b, o + 6, none⟩)), .is (.agg #[f0, f1, f2, f3, f4, f5]), .is (.agg #[.slice x.A0 x.n0 x.k0, .slice x.A1 x.n1 x.k1, .slice x.A2 x.n2 x.k2]), .is (.slice A n c), .such (fun W v => ∃ (yX : RV), v = .tuple #[.agg #[.bool yX.s, .slice yX.A yX.n yX.c, .slice yX.A' yX.n' yX.c'], .int .i64 (errOf Y : Int)] ∧ yX.at W (rwOf (r0Of Y))), .such (fun W v => ∃ (yX : RV), v = .tuple #[.agg #[.bool yX.s, .slice yX.A yX.n yX.c, .slice yX.A' yX.n' yX.c'], .int .i64 (errOf Y : Int)] ∧ yX.at W (rwOf (r0Of Y))), .such (fun W v => ∃ (yX : RV), v = .agg #[.bool yX.s, .slice yX.A yX.n yX.c, .slice yX.A' yX.n' yX.c'] ∧ yX.at W (rwOf (r0Of Y))), .is (.int .i64 (errOf Y : Int)), .such (FreshAt wv 24 3), .own (fun W v => ∃ (gFb : Nat) (y62s : RV), v = .pointer (some ⟨gFb, 0, none⟩) ∧ wv.heap.size ≤ gFb ∧ Bs W gFb 24 [.bool y62s.s, .slice y62s.A y62s.n y62s.c, .slice y62s.A' y62s.n' y62s.c'] ∧ y62s.at W (rwOf (r0Of Y))), .is (.int .i64 (errOf Y : Int))]
   (by kernel_rfl) (by kernel_rfl) (by kernel_rfl) (by kernel_rfl) rfl (by kernel_rfl) (fun _ h => h) (fun _ _ h hb => Below.then_ h hb) (fun _ _ hb h => FreshR.bel hb h) (fun q W1 W2 v hm hbw hk hq => by simp at hm; rcases hm with rfl | rfl | rfl | rfl <;> first | (obtain ⟨yX, rfl, hyX⟩ := hq W1 (Below.refl _ _); exact fun W hW => ⟨_, rfl, (FreshR.rows hk hyX).below hW⟩) | (exact fun W hW => (FreshAt.after (hq W1 (Below.refl _ _)) hk).below hW)) ?_ ?_
  ·refine ⟨?_, ?_, ?_, ?_, ?_, ?_, ?_, ?_, ?_, ?_, ?_, ?_, ?_, trivial⟩
   ·intro a w3 hA K hK
    have t3 := hA.old 3 _ rfl rfl
    go_simp
    exact hK _ _ rfl (Below.refl _ _)
   ·intro a w3 hA K hK
    have t55 := bg_is hA 0 55
    have k0 := (HXv.below hA.grown).cell 5 rfl
    go_simp
    exact hK _ _ rfl (Below.refl _ _)
   ·intro a w3 hA K hK
    have t56 := bg_is hA 1 56
    go_simp
    exact hK _ _ Pg.fi_ (Below.refl _ _)
   ·intro a w3 hA K hK
    have t57 := bg_is hA 2 57
    have k0 : w3.cell? ⟨b, o + 6, none⟩ = some (f0) := (HK2.out.below hbv2 hA.grown).at_ 0 rfl
    have k1 := (HK2.out.below hbv2 hA.grown).at_ 1 rfl
    have k2 := (HK2.out.below hbv2 hA.grown).at_ 2 rfl
    have k3 := (HK2.out.below hbv2 hA.grown).at_ 3 rfl
    have k4 := (HK2.out.below hbv2 hA.grown).at_ 4 rfl
    have k5 := (HK2.out.below hbv2 hA.grown).at_ 5 rfl
    go_simp
    exact hK _ _ rfl (Below.refl _ _)
   ·intro a w3 hA K hK
    have t4 := hA.old 4 _ rfl rfl
    have k0 := (HVv.below hA.grown).cell 0 rfl
    have k1 := (HVv.below hA.grown).cell 1 rfl
    have k2 := (HVv.below hA.grown).cell 2 rfl
    go_simp
    exact hK _ _ rfl (Below.refl _ _)
   ·intro a w3 hA K hK
    have t2 := hA.old 2 _ rfl rfl
    go_simp
    exact hK _ _ rfl (Below.refl _ _)
   ·intro a w3 hA K hK
    have t58 := bg_is hA 3 58
    have t59 := bg_is hA 4 59
    have t60 := bg_is hA 5 60
    have hC := HS2.out w3 (Below.then_ hwv hA.grown)
    go_simp
    refine hC.mono ?_
    rintro e w4 ⟨y, rfl, hy, hb⟩
    exact hK _ _ (fun W hW => ⟨_, rfl, hy.below hW⟩) hb
   ·intro a w3 hA K hK
    obtain ⟨v61, t61, p61⟩ := bg_such hA 6 61
    obtain ⟨y61, rfl, hy61⟩ := p61 w3 (Below.refl _ _)
    go_simp
    exact hK _ _ (fun W hW => ⟨_, rfl, hy61.below hW⟩) (Below.refl _ _)
   ·intro a w3 hA K hK
    obtain ⟨v54, t54, p54⟩ := bg_such hA 7 54
    obtain ⟨y54, rfl, hy54⟩ := p54 w3 (Below.refl _ _)
    go_simp
    exact hK _ _ (fun W hW => ⟨_, rfl, hy54.below hW⟩) (Below.refl _ _)
   ·intro a w3 hA K hK
    obtain ⟨v54, t54, p54⟩ := bg_such hA 7 54
    obtain ⟨y54, rfl, hy54⟩ := p54 w3 (Below.refl _ _)
    go_simp
    exact hK _ _ rfl (Below.refl _ _)
   ·intro a w3 hA K hK
    go_simp
    exact hK _ _ (fun W hW => FreshAt.below ⟨_, _, rfl, hA.grown.size, Bs.new w3 _ [.bool false, .slice none 0 0, .slice none 0 0] _ rfl, ⟨(noU_bool (noU_slice (noU_slice noU_nil))), noT_rat⟩, rfl⟩ hW) (Below.new_ (Below.refl _ _) _)
   ·intro a w3 hA K hK
    obtain ⟨v12, lk12, t12, p12⟩ := bg_link hA 10 12
    obtain ⟨g12, cs12, rfl, lg12, hB12, hU12, hl12⟩ := p12 w3 (Below.refl _ _)
    obtain ⟨x0, x1, x2, rfl⟩ := len3 hl12
    have f0 := hB12.frozen 0
    have c0 := hB12.cell 0 rfl
    have f1 := hB12.frozen 1
    have c1 := hB12.cell 1 rfl
    have f2 := hB12.frozen 2
    have c2 := hB12.cell 2 rfl
    obtain ⟨v62, t62, p62⟩ := bg_such hA 8 62
    obtain ⟨y62s, rfl, hy62s⟩ := p62 w3 (Below.refl _ _)
    go_simp
    exact hK (.pointer (some ⟨g12, 0, none⟩)) _ (fun W hW => ⟨g12, _, rfl, lg12, (stored3 hB12).1.below hW, (RV.at.kp hy62s (Kp.stored (B := 0) hB12 hU12.1 (stored3 hB12).2.1 (Nat.zero_le _))).below hW⟩) ⟨⟨g12, _, _, lg12, hB12, hU12, rfl, (stored3 hB12).1, ⟨(noU_bool (noU_slice (noU_slice noU_nil))), noT_rat⟩, rfl, (stored3 hB12).2.1⟩, fun j d h1 h2 => by cases h1; cases h2; exact lk12⟩
   ·intro a w3 hA K hK
    have t63 := bg_is hA 9 63
    go_simp
    exact hK _ _ Pg.fi_ (Below.refl _ _)
  rintro vs wu hV hbu hlk act hact
  repeat (replace hV := hV.is_; obtain ⟨_, rfl, hV⟩ := hV)
  replace hV := hV.such_; obtain ⟨v61, _, rfl, p61, hV⟩ := hV
  replace hV := hV.such_; obtain ⟨v54, _, rfl, p54, hV⟩ := hV
  replace hV := hV.such_; obtain ⟨v62, _, rfl, p62, hV⟩ := hV
  replace hV := hV.is_; obtain ⟨_, rfl, hV⟩ := hV
  replace hV := hV.such_; obtain ⟨v12, _, rfl, p12, hV⟩ := hV
  replace hV := hV.own_; obtain ⟨vP, _, rfl, pP, hV⟩ := hV
  replace hV := hV.is_; obtain ⟨_, rfl, hV⟩ := hV
  obtain rfl := hV.nil_
  clear hV
  replace hlk := hlk _ rfl
  simp only [List.getElem?_cons_succ, List.getElem?_cons_zero, Option.some.injEq] at hlk
  subst hlk; clear p12
  obtain ⟨y61, rfl, hy61⟩ := p61 wu (Below.refl _ _)
  clear p61
  obtain ⟨y54, rfl, hy54⟩ := p54 wu (Below.refl _ _)
  clear p54
  obtain ⟨y62, rfl, hy62⟩ := p62 wu (Below.refl _ _)
  clear p62
  obtain ⟨gFb, y62s, rfl, lgFb, hBFb, hy62s⟩ := pP wu (Below.refl _ _)
  clear pP
  simp only [putsO] at hact
  subst hact
  go_simp
  have hwu := Below.then_ hwv hbu
  have HXu := HXv.below hbu
  clear a0
  have a0 := HXu.cell 0 rfl
  rcases Y with x2 | C2
  ·skip
   have hx1 : ((errOf (Except.error x2 : Except Nat Rat) : Int) != 0) = true := bne_iff_ne.2 (Int.natCast_ne_zero.2 (HE2.out _ rfl))
   have HZe := HZv.below hbu
   have f0 := HZe.frozen 0
   have f1 := HZe.frozen 1
   have f2 := HZe.frozen 2
   have z0 := HZe.cell 0 rfl
   have z1 := HZe.cell 1 rfl
   have z2 := HZe.cell 2 rfl
   have p0 := hBFb.cell 0 rfl
   have p1 := hBFb.cell 1 rfl
   have p2 := hBFb.cell 2 rfl
   go_wp2_with fail
   refine bp_world (F := Stored wu (w.heap.size + 1 + 1) 24 [.bool y62s.s, .slice y62s.A y62s.n y62s.c, .slice y62s.A' y62s.n' y62s.c']) (stored3 HZe) ?_
   rintro wz ⟨HS, ks, ss⟩
   have q0 := HS.cell 0 rfl
   have q1 := HS.cell 1 rfl
   have q2 := HS.cell 2 rfl
   refine bodyPost_ret (v := .tuple #[.agg #[.bool y62s.s, .slice y62s.A y62s.n y62s.c, .slice y62s.A' y62s.n' y62s.c'], .int .i64 (errOf (Except.error x2 : Except Nat Rat) : Int)]) (by simp [results, Tryz.results53, go_sem, q0, q1, q2]) rfl ?_
   exact ⟨_, rfl, hy62s.kp (Kp.stored (B := 0) HZe ratU0 ks (Nat.zero_le _)), hwu.trans (Below.kept ks (by omega) hwu.size)⟩
  ·have hx4 : ((errOf (Except.ok C2 : Except Nat Rat) : Int) != 0) = false := rfl
   have hl1 : (rwOf C1).Le K := HL1.out _ rfl
   have hl2 : (rwOf C2).Le K := HL2.out _ rfl
   have HZu := HZv.below hbu
   have HAu := hBFa.below hbu
   have hyu : RV.at wu y43s (rwOf C1) := hy43s.below hbu
   have hyw : RV.at wu y62s (rwOf C2) := hy62s
   clear HE1 HE2 HL1 HL2
   rcases (by omega : k = 3 ∨ k = 4 ∨ k = 5 ∨ k = 6) with hq | hq | hq | hq
   ·have hq3 : ((k : Int) == 3) = true := beq_iff_eq.2 (by omega)
    have hq4 : ((k : Int) == 4) = false := beq_eq_false_iff_ne.2 (by omega)
    have hq5 : ((k : Int) == 5) = false := beq_eq_false_iff_ne.2 (by omega)
    have HXX := hid (show binN k C1 C2 = .ok (C1 + C2) by rw [hq]; rfl)
    have HJ := hid fun (W : World) {u y : RV} (hu : u.at W (rwOf C1)) (hy : y.at W (rwOf C2)) => r2Add_Q W hu hy hl1 hl2 (by omega) hK1 (q := C1 + C2) (by rw [rwOf_q, rwOf_q])
    have p0 := HAu.cell 0 rfl
    have p1 := HAu.cell 1 rfl
    have p2 := HAu.cell 2 rfl
    have r0 := hBFb.cell 0 rfl
    have r1 := hBFb.cell 1 rfl
    have r2 := hBFb.cell 2 rfl
    have HAv := hid hyu
    have HBv := hid hyw
    clear hy43s hy62s hyu hyw hq hl1 hl2
    go_wp2_with (go_at_call 42; (with_reducible refine (HJ.out _ HAv.out HBv.out).mono ?_); rintro e w5 ⟨y, rfl, hy, hb5⟩; have HZ5 := HZu.below hb5; have hbw := Below.then_ hwu hb5; have f0 := HZ5.frozen 0; have f1 := HZ5.frozen 1; have f2 := HZ5.frozen 2; have z0 := HZ5.cell 0 rfl; have z1 := HZ5.cell 1 rfl; have z2 := HZ5.cell 2 rfl)
    refine bp_world (F := Stored w5 (w.heap.size + 1 + 1) 24 [.bool y.s, .slice y.A y.n y.c, .slice y.A' y.n' y.c']) (stored3 HZ5) ?_
    rintro wz ⟨HS, ks, ss⟩
    have q0 := HS.cell 0 rfl
    have q1 := HS.cell 1 rfl
    have q2 := HS.cell 2 rfl
    refine bodyPost_ret (v := .tuple #[.agg #[.bool y.s, .slice y.A y.n y.c, .slice y.A' y.n' y.c'], .int .i64 0]) (by simp [results, Tryz.results53, go_sem, q0, q1, q2]) rfl ?_
    exact R0Ret.to HXX.out.symm ⟨y, rfl, hy.kp (Kp.stored (B := 0) HZ5 ratU0 ks (Nat.zero_le _)), hbw.trans (Below.kept ks (by omega) hbw.size)⟩
   ·have hq3 : ((k : Int) == 3) = false := beq_eq_false_iff_ne.2 (by omega)
    have hq4 : ((k : Int) == 4) = true := beq_iff_eq.2 (by omega)
    have hq5 : ((k : Int) == 5) = false := beq_eq_false_iff_ne.2 (by omega)
    have HXX := hid (show binN k C1 C2 = .ok (C1 - C2) by rw [hq]; rfl)
    have HJ := hid fun (W : World) {u y : RV} (hu : u.at W (rwOf C1)) (hy : y.at W (rwOf C2)) => r2Sub_Q W hu hy hl1 hl2 (by omega) hK1 (q := C1 - C2) (by rw [rwOf_q, rwOf_q])
    have p0 := HAu.cell 0 rfl
    have p1 := HAu.cell 1 rfl
    have p2 := HAu.cell 2 rfl
    have r0 := hBFb.cell 0 rfl
    have r1 := hBFb.cell 1 rfl
    have r2 := hBFb.cell 2 rfl
    have HAv := hid hyu
    have HBv := hid hyw
    clear hy43s hy62s hyu hyw hq hl1 hl2
    go_wp2_with (go_at_call 87; (with_reducible refine (HJ.out _ HAv.out HBv.out).mono ?_); rintro e w5 ⟨y, rfl, hy, hb5⟩; have HZ5 := HZu.below hb5; have hbw := Below.then_ hwu hb5; have f0 := HZ5.frozen 0; have f1 := HZ5.frozen 1; have f2 := HZ5.frozen 2; have z0 := HZ5.cell 0 rfl; have z1 := HZ5.cell 1 rfl; have z2 := HZ5.cell 2 rfl)
    refine bp_world (F := Stored w5 (w.heap.size + 1 + 1) 24 [.bool y.s, .slice y.A y.n y.c, .slice y.A' y.n' y.c']) (stored3 HZ5) ?_
    rintro wz ⟨HS, ks, ss⟩
    have q0 := HS.cell 0 rfl
    have q1 := HS.cell 1 rfl
    have q2 := HS.cell 2 rfl
    refine bodyPost_ret (v := .tuple #[.agg #[.bool y.s, .slice y.A y.n y.c, .slice y.A' y.n' y.c'], .int .i64 0]) (by simp [results, Tryz.results53, go_sem, q0, q1, q2]) rfl ?_
    exact R0Ret.to HXX.out.symm ⟨y, rfl, hy.kp (Kp.stored (B := 0) HZ5 ratU0 ks (Nat.zero_le _)), hbw.trans (Below.kept ks (by omega) hbw.size)⟩
   ·have hq3 : ((k : Int) == 3) = false := beq_eq_false_iff_ne.2 (by omega)
    have hq4 : ((k : Int) == 4) = false := beq_eq_false_iff_ne.2 (by omega)
    have hq5 : ((k : Int) == 5) = true := beq_iff_eq.2 (by omega)
    have HXX := hid (show binN k C1 C2 = .ok (C1 * C2) by rw [hq]; rfl)
    have HJ := hid fun (W : World) {u y : RV} (hu : u.at W (rwOf C1)) (hy : y.at W (rwOf C2)) => r2Mul_Q W hu hy hl1 hl2 (by omega) hK1 (q := C1 * C2) (by rw [rwOf_q, rwOf_q])
    have p0 := HAu.cell 0 rfl
    have p1 := HAu.cell 1 rfl
    have p2 := HAu.cell 2 rfl
    have r0 := hBFb.cell 0 rfl
    have r1 := hBFb.cell 1 rfl
    have r2 := hBFb.cell 2 rfl
    have HAv := hid hyu
    have HBv := hid hyw
    clear hy43s hy62s hyu hyw hq hl1 hl2
    go_wp2_with (go_at_call 45; (with_reducible refine (HJ.out _ HAv.out HBv.out).mono ?_); rintro e w5 ⟨y, rfl, hy, hb5⟩; have HZ5 := HZu.below hb5; have hbw := Below.then_ hwu hb5; have f0 := HZ5.frozen 0; have f1 := HZ5.frozen 1; have f2 := HZ5.frozen 2; have z0 := HZ5.cell 0 rfl; have z1 := HZ5.cell 1 rfl; have z2 := HZ5.cell 2 rfl)
    refine bp_world (F := Stored w5 (w.heap.size + 1 + 1) 24 [.bool y.s, .slice y.A y.n y.c, .slice y.A' y.n' y.c']) (stored3 HZ5) ?_
    rintro wz ⟨HS, ks, ss⟩
    have q0 := HS.cell 0 rfl
    have q1 := HS.cell 1 rfl
    have q2 := HS.cell 2 rfl
    refine bodyPost_ret (v := .tuple #[.agg #[.bool y.s, .slice y.A y.n y.c, .slice y.A' y.n' y.c'], .int .i64 0]) (by simp [results, Tryz.results53, go_sem, q0, q1, q2]) rfl ?_
    exact R0Ret.to HXX.out.symm ⟨y, rfl, hy.kp (Kp.stored (B := 0) HZ5 ratU0 ks (Nat.zero_le _)), hbw.trans (Below.kept ks (by omega) hbw.size)⟩
   ·have hq3 : ((k : Int) == 3) = false := beq_eq_false_iff_ne.2 (by omega)
    have hq4 : ((k : Int) == 4) = false := beq_eq_false_iff_ne.2 (by omega)
    have hq5 : ((k : Int) == 5) = false := beq_eq_false_iff_ne.2 (by omega)
    by_cases h0 : C2 = 0
    ·have HXX := hid (show binN k C1 C2 = Except.error 7 by rw [hq]; simp [binN, h0])
     have HJ := hid fun (W : World) {u y : RV} (hu : u.at W (rwOf C1)) (hy : y.at W (rwOf C2)) => r2Div_Q W hu hy hl1 hl2 (by omega) hK1 (q := C1 / C2) (b := false) (by rw [rwOf_q, rwOf_q]) (by rw [rwOf_q]; simp [h0])
     have p0 := HAu.cell 0 rfl
     have p1 := HAu.cell 1 rfl
     have p2 := HAu.cell 2 rfl
     have r0 := hBFb.cell 0 rfl
     have r1 := hBFb.cell 1 rfl
     have r2 := hBFb.cell 2 rfl
     have HZ0 := hid h0
     have HAv := hid hyu
     have HBv := hid hyw
     clear hy43s hy62s hyu hyw hq hl1 hl2 h0
     go_wp2_with (go_at_call 88; (with_reducible refine (HJ.out _ HAv.out HBv.out).mono ?_); rintro e w5 ⟨y, rfl, hy, hb5⟩; have HZ5 := (HZu.below hb5).alloc (.cells #[.bool y.s, .slice y.A y.n y.c, .slice y.A' y.n' y.c'] 24); have HQ5 := Bs.new w5 24 [.bool y.s, .slice y.A y.n y.c, .slice y.A' y.n' y.c'] _ rfl; have h5 := Below.then_ hwu hb5; have hbw := h5.trans ((Below.new_ (Below.refl _ _) (.cells #[.bool y.s, .slice y.A y.n y.c, .slice y.A' y.n' y.c'] 24)).mono h5.size); have f0 := HZ5.frozen 0; have f1 := HZ5.frozen 1; have f2 := HZ5.frozen 2; have z0 := HZ5.cell 0 rfl; have z1 := HZ5.cell 1 rfl; have z2 := HZ5.cell 2 rfl; have s0 := HQ5.cell 0 rfl; have s1 := HQ5.cell 1 rfl; have s2 := HQ5.cell 2 rfl)
     refine bp_world (F := Stored ((w5.alloc (.cells #[.bool y.s, .slice y.A y.n y.c, .slice y.A' y.n' y.c'] 24))) (w.heap.size + 1 + 1) 24 [.bool y.s, .slice y.A y.n y.c, .slice y.A' y.n' y.c']) (stored3 HZ5) ?_
     rintro wz ⟨HS, ks, ss⟩
     have q0 := HS.cell 0 rfl
     have q1 := HS.cell 1 rfl
     have q2 := HS.cell 2 rfl
     refine bodyPost_ret (v := .tuple #[.agg #[.bool y.s, .slice y.A y.n y.c, .slice y.A' y.n' y.c'], .int .i64 7]) (by simp [results, Tryz.results53, go_sem, q0, q1, q2]) rfl ?_
     exact R0Ret.to HXX.out.symm ⟨y, rfl, by rw [show r0Of (Except.error 7) = C1 / C2 from by rw [HZ0.out, Rat.div_def, Rat.inv_zero, Rat.mul_zero]; rfl]; exact (hy.below (Below.new_ (Below.refl _ _) _)).kp (Kp.stored (B := 0) HZ5 ratU0 ks (Nat.zero_le _)), hbw.trans (Below.kept ks (by omega) hbw.size)⟩
    ·have HXX := hid (show binN k C1 C2 = Except.ok (C1 / C2) by rw [hq]; simp [binN, h0])
     have HJ := hid fun (W : World) {u y : RV} (hu : u.at W (rwOf C1)) (hy : y.at W (rwOf C2)) => r2Div_Q W hu hy hl1 hl2 (by omega) hK1 (q := C1 / C2) (b := true) (by rw [rwOf_q, rwOf_q]) (by rw [rwOf_q]; simp [h0])
     have p0 := HAu.cell 0 rfl
     have p1 := HAu.cell 1 rfl
     have p2 := HAu.cell 2 rfl
     have r0 := hBFb.cell 0 rfl
     have r1 := hBFb.cell 1 rfl
     have r2 := hBFb.cell 2 rfl
     have HAv := hid hyu
     have HBv := hid hyw
     clear hy43s hy62s hyu hyw hq hl1 hl2 h0
     go_wp2_with (go_at_call 88; (with_reducible refine (HJ.out _ HAv.out HBv.out).mono ?_); rintro e w5 ⟨y, rfl, hy, hb5⟩; have HZ5 := (HZu.below hb5).alloc (.cells #[.bool y.s, .slice y.A y.n y.c, .slice y.A' y.n' y.c'] 24); have HQ5 := Bs.new w5 24 [.bool y.s, .slice y.A y.n y.c, .slice y.A' y.n' y.c'] _ rfl; have h5 := Below.then_ hwu hb5; have hbw := h5.trans ((Below.new_ (Below.refl _ _) (.cells #[.bool y.s, .slice y.A y.n y.c, .slice y.A' y.n' y.c'] 24)).mono h5.size); have f0 := HZ5.frozen 0; have f1 := HZ5.frozen 1; have f2 := HZ5.frozen 2; have z0 := HZ5.cell 0 rfl; have z1 := HZ5.cell 1 rfl; have z2 := HZ5.cell 2 rfl; have s0 := HQ5.cell 0 rfl; have s1 := HQ5.cell 1 rfl; have s2 := HQ5.cell 2 rfl)
     refine bp_world (F := Stored ((w5.alloc (.cells #[.bool y.s, .slice y.A y.n y.c, .slice y.A' y.n' y.c'] 24))) (w.heap.size + 1 + 1) 24 [.bool y.s, .slice y.A y.n y.c, .slice y.A' y.n' y.c']) (stored3 HZ5) ?_
     rintro wz ⟨HS, ks, ss⟩
     have q0 := HS.cell 0 rfl
     have q1 := HS.cell 1 rfl
     have q2 := HS.cell 2 rfl
     refine bodyPost_ret (v := .tuple #[.agg #[.bool y.s, .slice y.A y.n y.c, .slice y.A' y.n' y.c'], .int .i64 0]) (by simp [results, Tryz.results53, go_sem, q0, q1, q2]) rfl ?_
     exact R0Ret.to HXX.out.symm ⟨y, rfl, (hy.below (Below.new_ (Below.refl _ _) _)).kp (Kp.stored (B := 0) HZ5 ratU0 ks (Nat.zero_le _)), hbw.trans (Below.kept ks (by omega) hbw.size)⟩
theorem value_C {x : EW} {A : Option Addr} {n c : Nat} {l : List RW} (hl : ∀ r ∈ x.vals, r.Le 3) (hl' : ∀ r ∈ l, r.Le 3) : ∀ e : XE, ValAt x A n c l e := by
 intro e
 induction e with
 | num q => exact ValAt.num
 | name s => exact ValAt.name hl hl'
 | neg a ih => exact ValAt.neg hl hl' ih
 | bin k a b ih ih' => exact ValAt.bin hl hl' ih ih'
end Go.Proofs.YtahdlpkncemmaaaGreat
