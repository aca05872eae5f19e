/- Walk · Walk · Walk. Conditions: those that each theorem names. -/
import Derived.Test.YtahdlpkncemmaaaW34
import Derived.Test.YtahdlpkncemmaaaW31
import Derived.Deep.CutBlock
import Derived.Deep.CutRange
import Derived.Deep.QuietTactic
import Derived.BigQuiet
import Derived.Test.YtahdlpkncemmaaaW33
import Derived.Test.YtahdlpkncemmaaaW29
set_option maxRecDepth 100000
set_option maxHeartbeats 8000000
set_option linter.unusedSimpArgs false
set_option linter.unusedVariables false
namespace Pg
open Go Go.RowKit
theorem SlAt.tail {α : Type} {sz : Nat} {E : World → Nat → Nat → α → Prop} {w : World} {b o n c : Nat} {x : α} {l : List α} (h : SlAt sz E w (some ⟨b, o, none⟩) n c (x :: l)) {L : Option Addr} (hL : L = some ⟨b, o + sz, none⟩ ∨ (c = 1 ∧ L = some ⟨b, o, none⟩)) : SlAt sz E w L (n - 1) (c - 1) l := by
 obtain ⟨h1, h2, h3, h4, _, h6⟩ := h
 rw [List.length_cons] at h1
 refine ⟨by omega, by omega, by omega, by omega, ?_, fun hn => ?_⟩
 ·rintro rfl
  rcases hL with e | ⟨_, e⟩ <;> cases e
 ·obtain ⟨b', o', e, hb, hx⟩ := h6 (by omega)
  injection e with e
  injection e with e1 e2
  subst e1 e2
  rcases hL with rfl | ⟨hc, rfl⟩
  ·refine ⟨b, o + sz, rfl, hb, fun j y hj => ?_⟩
   have := hx (j + 1) y (by rw [List.getElem?_cons_succ]; exact hj)
   rwa [show o + (j + 1) * sz = o + sz + j * sz by rw [Nat.add_mul]; omega] at this
  ·omega
theorem SlAt.head {α : Type} {sz : Nat} {E : World → Nat → Nat → α → Prop} {w : World} {A : Option Addr} {n c : Nat} {x : α} {l : List α} (h : SlAt sz E w A n c (x :: l)) : ∃ b o, A = some ⟨b, o, none⟩ ∧ b < w.heap.size ∧ E w b o x := by
 obtain ⟨h1, h2, h3, h4, _, h6⟩ := h
 rw [List.length_cons] at h1
 obtain ⟨b, o, e, hb, hx⟩ := h6 (by omega)
 have := hx 0 x rfl
 rw [Nat.zero_mul, Nat.add_zero] at this
 exact ⟨b, o, e, hb, this⟩
def tailA (b o c : Nat) : Option Addr := if c = 1 then some ⟨b, o, none⟩ else some ⟨b, o + 4, none⟩
theorem tailA_or (b o c : Nat) : tailA b o c = some ⟨b, o + 4, none⟩ ∨ (c = 1 ∧ tailA b o c = some ⟨b, o, none⟩) := by
 unfold tailA
 split
 ·rename_i h; exact .inr ⟨h, rfl⟩
 ·exact .inl rfl
theorem addT_keepL {a : TQ} {l : List TQ} : keepT a (addT l []) = addT (a :: l) [] := by
 cases l <;> simp [addT]
theorem addT_keepM {b : TQ} {m : List TQ} : keepT b (addT [] m) = addT [] (b :: m) := by simp [addT]
theorem addT_keepC {a b : TQ} {l m : List TQ} (h : a.v < b.v) : keepT a (addT l (b :: m)) = addT (a :: l) (b :: m) := by conv => rhs; rw [addT, if_pos h]
theorem addT_keepD {a b : TQ} {l m : List TQ} (h : b.v < a.v) : keepT b (addT (a :: l) m) = addT (a :: l) (b :: m) := by conv => rhs; rw [addT, if_neg (by omega), if_pos h]
theorem addT_keepE {a b : TQ} {l m : List TQ} (h : a.v = b.v) : keepT ⟨a.v, a.c + b.c⟩ (addT l m) = addT (a :: l) (b :: m) := by conv => rhs; rw [addT, if_neg (by omega), if_neg (by omega)]
end Pg
namespace Go.Proofs.Ytahdlpkncemmaaa
open Go.RowKit Pg
theorem Add_C {va vb : Value} {a b : CW} {k : Nat} (w : World) (ha : ConVal w va a) (hb : ConVal w vb b) (hle : a.Le k) (hle' : b.Le k) (hk : k ≤ 100000) (hk1 : 1 ≤ k) (hl : a.t.length ≤ 100000) (hl' : b.t.length ≤ 100000) :
  Calls Try.prog 6 #[va, vb] w (ConRet w (cwOf (addC a.q b.q))) := by
 obtain ⟨T, n, m, v0, v1, v2, rfl, hT, hx0⟩ := ha
 obtain ⟨x, rfl, rfl, rfl, hx⟩ := rows_rv hx0
 obtain ⟨T', n', m', v0', v1', v2', rfl, hT', hx0'⟩ := hb
 obtain ⟨x', rfl, rfl, rfl, hx'⟩ := rows_rv hx0'
 obtain ⟨p, hp⟩ : ∃ p, a.r.q + b.r.q = p := ⟨_, rfl⟩
 have HM := hid fun W (hW : Below w.heap.size w W) => Add_Q W (hx.below hW) (hx'.below hW) hle.2 hle'.2 (by omega) hk1 hp
 obtain ⟨R, hR⟩ : ∃ R, (addT (a.t.map TW.q) (b.t.map TW.q)).map twOf = R := ⟨_, rfl⟩
 have hn1 : n ≤ 100000 := hT.1 ▸ hl
 have hn2 : n' ≤ 100000 := hT'.1 ▸ hl'
 have HP := hid hp
 have HTa := hid hT
 have HTb := hid hT'
 have HLa := hid hle.1
 have HLb := hid hle'.1
 have HR := hid hR
 clear hx hx0 hx' hx0' hT hT' hp hR hle hle'
 go_enter Try.func6, Try.ntmps6
 go_upto_region 1 with fail
 refine wp_world (F := fun W => (Bs W w.heap.size 27 [.int .i64 a.s, .slice T n m, .bool x.s, .slice x.A x.n x.c, .slice x.A' x.n' x.c'] ∧ Bs W (w.heap.size + 1) 27 [.int .i64 b.s, .slice T' n' m', .bool x'.s, .slice x'.A x'.n x'.c, .slice x'.A' x'.n' x'.c'] ∧ Bs W (w.heap.size + 2) 27 [.int .i64 0, .slice none 0 0, .bool false, .slice none 0 0, .slice none 0 0]) ∧ Below w.heap.size w W)
  ⟨⟨((Bs.new w _ _ _ rfl).alloc _).alloc _, (Bs.new _ _ _ _ (by simp)).alloc _, Bs.new _ _ _ _ (by simp)⟩, Pg.bel⟩ ?_
 rintro w1 ⟨⟨HA, HB, HZ⟩, hb1⟩
 refine draw_last [9, 10, 11, 12, 13, 14, 15, 16, 5] [.is (.pointer (some ⟨w.heap.size, 0, none⟩)), .is (.int .i64 a.s), .is (.pointer (some ⟨w.heap.size, 2, none⟩)), .is (.agg #[.bool x.s, .slice x.A x.n x.c, .slice x.A' x.n' x.c']), .is (.pointer (some ⟨w.heap.size + 1, 2, none⟩)), .is (.agg #[.bool x'.s, .slice x'.A x'.n x'.c, .slice x'.A' x'.n' x'.c']), .such (fun W v => ∃ (yX : RV), v = .agg #[.bool yX.s, .slice yX.A yX.n yX.c, .slice yX.A' yX.n' yX.c'] ∧ yX.at W (rwOf (p))), .such (fun W v => ∃ (y15_16 : RV), v = .agg #[.int .i64 a.s, .slice none 0 0, .bool y15_16.s, .slice y15_16.A y15_16.n y15_16.c, .slice y15_16.A' y15_16.n' y15_16.c'] ∧ y15_16.at W (rwOf (p))), .such (fun W v => ∃ (gX : Nat), v = .pointer (some ⟨gX, 0, none⟩) ∧ w1.heap.size ≤ gX ∧ Bs W gX 27 [.int .i64 0, .slice none 0 0, .bool false, .slice none 0 0, .slice none 0 0])]
  (by kernel_rfl) (by kernel_rfl) (by kernel_rfl) (by decide) (by kernel_rfl) (by kernel_rfl) (by kernel_rfl) rfl ?_ ?_
 ·refine ⟨?_, ?_, ?_, ?_, ?_, ?_, ?_, ?_, ?_, trivial⟩
  ·intro a w3 hA K hK
   have t2 := hA.old 2 _ rfl rfl
   go_simp
   exact hK _ _ Pg.fi_ (Below.refl _ _)
  ·intro a w3 hA K hK
   have t9 := bt_is hA 0 9
   have k0 := (HA.below hA.below).cell 0 rfl
   go_simp
   exact hK _ _ Pg.fi_ (Below.refl _ _)
  ·intro a w3 hA K hK
   have t2 := hA.old 2 _ rfl rfl
   go_simp
   exact hK _ _ Pg.fi_ (Below.refl _ _)
  ·intro a w3 hA K hK
   have t11 := bt_is hA 2 11
   have k0 := (HA.below hA.below).cell 2 rfl
   have k1 := (HA.below hA.below).cell 3 rfl
   have k2 := (HA.below hA.below).cell 4 rfl
   go_simp
   exact hK _ _ Pg.fi_ (Below.refl _ _)
  ·intro a w3 hA K hK
   have t3 := hA.old 3 _ rfl rfl
   go_simp
   exact hK _ _ Pg.fi_ (Below.refl _ _)
  ·intro a w3 hA K hK
   have t13 := bt_is hA 4 13
   have k0 := (HB.below hA.below).cell 2 rfl
   have k1 := (HB.below hA.below).cell 3 rfl
   have k2 := (HB.below hA.below).cell 4 rfl
   go_simp
   exact hK _ _ Pg.fi_ (Below.refl _ _)
  ·intro a w3 hA K hK
   have t12 := bt_is hA 3 12
   have t14 := bt_is hA 5 14
   have hC := HM.out _ (Below.then_ hb1 hA.below)
   go_simp
   refine hC.mono ?_
   rintro e w4 ⟨y, rfl, hy, hb⟩
   exact hK _ _ (fun W hW => ⟨_, rfl, hy.below hW⟩) hb
  ·intro a w3 hA K hK
   have t10 := bt_is hA 1 10
   obtain ⟨v15, t15, p15⟩ := bt_such hA 6 15
   obtain ⟨y15_16, rfl, hy15_16⟩ := p15 w3 (Below.refl _ _)
   have u10 := t10; rw [Array.getD_eq_getD_getElem?] at u10
   have u15 := t15; rw [Array.getD_eq_getD_getElem?] at u15
   go_simp
   exact hK _ _ (fun W hW => ⟨_, rfl, hy15_16.below hW⟩) (Below.refl _ _)
  ·intro a w3 hA K hK
   go_simp
   exact hK _ _ (fun W hW => ⟨_, rfl, hA.below.size, (Bs.new w3 _ _ _ rfl).below hW⟩) (Below.new_ (Below.refl _ _) _)
 rintro vs wv hV hbv act hact hold hnew K hK
 repeat (replace hV := hV.is_; obtain ⟨_, rfl, hV⟩ := hV)
 replace hV := hV.such_; obtain ⟨v15, _, rfl, p15, hV⟩ := hV
 replace hV := hV.such_; obtain ⟨v16, _, rfl, p16, hV⟩ := hV
 replace hV := hV.such_; obtain ⟨v5, _, rfl, p5, hV⟩ := hV
 obtain rfl := hV.nil_
 clear hV
 obtain ⟨y15, rfl, hy15⟩ := p15 wv (Below.refl _ _)
 clear p15
 obtain ⟨y15_16, rfl, hy15_16⟩ := p16 wv (Below.refl _ _)
 clear p16
 obtain ⟨g5, rfl, lg5, hg5⟩ := p5 wv (Below.refl _ _)
 clear p5
 simp only [puts] at hact
 have tq1 := hnew 8 5 _ rfl rfl
 have tq2 := hnew 7 16 _ rfl rfl
 clear hold hnew
 have Hact := hid hact
 clear hact
 clear hy15
 have f0 := hg5.frozen 0
 have f1 := hg5.frozen 1
 have f2 := hg5.frozen 2
 have f3 := hg5.frozen 3
 have f4 := hg5.frozen 4
 have c0 := hg5.cell 0 rfl
 have c1 := hg5.cell 1 rfl
 have c2 := hg5.cell 2 rfl
 have c3 := hg5.cell 3 rfl
 have c4 := hg5.cell 4 rfl
 go_simp
 refine hK _ _ ?_
 have hact := Hact.out
 clear Hact tq1 tq2
 subst hact
 go_simp
 go_upto_region 2 with fail
 refine wp_world (F := Stored wv g5 27 [.int .i64 a.s, .slice none 0 0, .bool y15_16.s, .slice y15_16.A y15_16.n y15_16.c, .slice y15_16.A' y15_16.n' y15_16.c']) (stored5 hg5) ?_
 rintro w2 ⟨HC, hk2, hs2⟩
 have HA2 := (HA.below hbv).grown hk2 (by have := HZ.lt; intro e; injection e with e; omega)
 have HB2 := (HB.below hbv).grown hk2 (by have := HZ.lt; intro e; injection e with e; omega)
 have HZ2 := (HZ.below hbv).grown hk2 (by have := HZ.lt; intro e; injection e with e; omega)
 have hy2 := RowsAt.kept hy15_16 hg5 conU0 hk2
 have hb2 : Below w.heap.size w w2 := Below.trans (Below.then_ hb1 hbv) (Below.kept hk2 (by have := hb1.size; omega) (by have := hb1.size; have := hbv.size; omega))
 have hgw : w.heap.size + 2 < g5 := by have := HZ.lt; omega
 clear hk2 hs2 hg5 lg5 hbv HA HB HZ hb1 c0 c1 c2 c3 c4 f0 f1 f2 f3 f4 hy15_16 HM
 have a1 := HA2.cell 1 rfl
 have b1 := HB2.cell 1 rfl
 go_quiet (fail)
 go_wp2_with fail
 refine wp_world (F := fun W => Below w2.heap.size w2 W) (by repeat first | exact Below.refl _ _ | refine Pg.Below.drewN_ ?_ _ | refine Go.RowKit.Below.drew ?_) ?_
 rintro w2' hb2'
 replace HC := HC.below hb2'
 replace HZ2 := HZ2.below hb2'
 replace hy2 := RowsAt.below hy2 hb2'
 replace hb2 := Below.then_ hb2 hb2'
 clear HA2 HB2 a1 b1 hb2'
 go_loopw [6, 7] (fun s6 s7 wr => ∃ (us : List TV) (S : Option Addr) (sc : Nat) (L M : Option Addr) (nL cL nM cM : Nat) (ls ms ts : List TW), s6 = .slice L nL cL ∧ s7 = .slice M nM cM ∧ Hid (SlAt 4 TermAt w L nL cL ls) ∧ Hid (SlAt 4 TermAt w M nM cM ms) ∧ Hid (∀ t ∈ ls, t.r.Le k) ∧ Hid (∀ t ∈ ms, t.r.Le k) ∧ Hid (ts ++ (addT (ls.map TW.q) (ms.map TW.q)).map twOf = R) ∧ us.length + nL + nM ≤ 200000 ∧ Hid (Bs wr (w.heap.size + 2) 27 [.int .i64 0, .slice none 0 0, .bool false, .slice none 0 0, .slice none 0 0]) ∧ Hid (Bs wr g5 27 [.int .i64 a.s, .slice S us.length sc, .bool y15_16.s, .slice y15_16.A y15_16.n y15_16.c, .slice y15_16.A' y15_16.n' y15_16.c']) ∧ Hid (OwnZ wr (g5 + 1) 38 4 (.slice S us.length sc) us.length (us.flatMap TV.cells)) ∧ Hid (TRead wr us ts) ∧ Hid (y15_16.at wr (rwOf p)) ∧ Below w.heap.size w wr) (fun s6 s7 _ => slen s6 + slen s7)
 case atStart => exact ⟨[], none, 0, T, T', n, m, n', m', a.t, b.t, [], rfl, rfl, HTa, HTb, HLa, HLb, hid HR.out, by simp; omega, hid HZ2, hid HC, hid (OwnZ.nil _ _ _ _), hid trivial, hid hy2, hb2⟩
 case round =>
  obtain ⟨us, S, sc, L, M, nL, cL, nM, cM, ls, ms, ts, rfl, rfl, HL, HM, HleL0, HleM0, HE, hsz, HZ, HC, HO, HRd, HY, hb⟩ := hrel
  clear HZ2 hy2 hb2
  by_cases h0 : nL + nM = 0
  ·obtain rfl : nL = 0 := by omega
   obtain rfl : nM = 0 := by omega
   obtain rfl : ls = [] := List.length_eq_zero_iff.1 HL.out.1
   obtain rfl : ms = [] := List.length_eq_zero_iff.1 HM.out.1
   have hts : ts = R := by have := HE.out; simpa [addT] using this
   have hul : us.length ≤ 200000 := by omega
   subst hts
   have c0 := HC.out.cell 0 rfl
   have c1 := HC.out.cell 1 rfl
   have c2 := HC.out.cell 2 rfl
   have c3 := HC.out.cell 3 rfl
   have c4 := HC.out.cell 4 rfl
   have z0 := HZ.out.cell 0 rfl
   have z1 := HZ.out.cell 1 rfl
   have z2 := HZ.out.cell 2 rfl
   have z3 := HZ.out.cell 3 rfl
   have z4 := HZ.out.cell 4 rfl
   have f0 := HZ.out.frozen 0
   have f1 := HZ.out.frozen 1
   have f2 := HZ.out.frozen 2
   have f3 := HZ.out.frozen 3
   have f4 := HZ.out.frozen 4
   go_wp2_with fail
   refine bp_world (F := Stored wr (w.heap.size + 1 + 1) 27 [.int .i64 a.s, .slice S us.length sc, .bool y15_16.s, .slice y15_16.A y15_16.n y15_16.c, .slice y15_16.A' y15_16.n' y15_16.c']) (stored5 HZ.out) ?_
   rintro wz ⟨HS, ks, ss⟩
   have q0 := HS.cell 0 rfl
   have q1 := HS.cell 1 rfl
   have q2 := HS.cell 2 rfl
   have q3 := HS.cell 3 rfl
   have q4 := HS.cell 4 rfl
   refine bodyPost_ret (v := .agg #[.int .i64 a.s, .slice S us.length sc, .bool y15_16.s, .slice y15_16.A y15_16.n y15_16.c, .slice y15_16.A' y15_16.n' y15_16.c']) (by simp [results, Try.results6, go_sem, q0, q1, q2, q3, q4]) rfl ?_
   have kz : Kp w.heap.size wr wz := Kp.stored HZ.out conU0 ks (by omega)
   obtain ⟨A', c', e', hS⟩ := slTerm_of_own rfl (by omega) (HO.out.grown ks (HO.out.apart (by omega))) (HRd.out.kp kz)
   injection e' with e1 e2 e3
   subst e1 e3
   exact ⟨_, rfl, ⟨_, _, _, _, _, _, rfl, by rw [← HR.out] at hS; exact hS, by show RowsAt _ (rwOf (a.r.q + b.r.q)) _ _ _; rw [HP.out]; exact HY.out.kp kz⟩, hb.trans kz.below⟩
  ·have hsum : decide ((0 : Int) < (nL : Int) + (nM : Int)) = true := decide_eq_true (by omega)
   have hnL : nL ≤ 200000 := by omega
   have hnM : nM ≤ 200000 := by omega
   go_upto_block 2 with fail
   refine wp_world (F := NewBs wr 38 [.int .i64 0, .bool false, .slice none 0 0, .slice none 0 0]) (made_new _ _ _) ?_
   rintro w3 ⟨H8, hb3, hs3⟩
   have hw3 := Below.then_ hb hb3
   go_cut [6, 7] from 46 to 104 (fun s6 s7 W => ∃ (y : RV) (v : Int) (q : Rat) (L' M' : Option Addr) (nL' cL' nM' cM' : Nat) (ls' ms' : List TW), s6 = .slice L' nL' cL' ∧ s7 = .slice M' nM' cM' ∧ nL' + nM' < nL + nM ∧ Hid (SlAt 4 TermAt w L' nL' cL' ls') ∧ Hid (SlAt 4 TermAt w M' nM' cM' ms') ∧ Hid (∀ t ∈ ls', t.r.Le k) ∧ Hid (∀ t ∈ ms', t.r.Le k) ∧ Hid (keepT ⟨v, q⟩ (addT (ls'.map TW.q) (ms'.map TW.q)) = addT (ls.map TW.q) (ms.map TW.q)) ∧ Hid (Short q (2 * k + 1)) ∧ Hid (Bs W wr.heap.size 38 [.int .i64 v, .bool y.s, .slice y.A y.n y.c, .slice y.A' y.n' y.c']) ∧ Hid (y.at W (rwOf q)) ∧ Below wr.heap.size wr W)
   case first =>
    match ls, ms, HL, HM, HleL0, HleM0, HE with
    | [], [], HL, HM, _, _, _ => exact absurd (show nL + nM = 0 by have := HL.out.1; have := HM.out.1; simp at *; omega) h0
    | tL :: lsL, [], HL, HM, HleL0, HleM0, HE =>
     obtain ⟨bL, oL, rfl, hbL, hTL⟩ := HL.out.head
     obtain ⟨x0L, x1L, x2L, hcL, hu0L⟩ := termAt_stays _ _ _ _ _ hbL hTL hw3
     obtain ⟨uL, rfl, rfl, rfl, huL⟩ := rows_rv hu0L
     have HCL := hid hcL
     have HUL := hid huL
     have HleL := HleL0.out _ List.mem_cons_self
     have ltL : bL < w3.heap.size := Nat.lt_of_lt_of_le hbL hw3.size
     have kL0 : w3.cell? ⟨bL, oL, none⟩ = some (.int .i64 tL.v) := hcL.at_ 0 rfl
     have nL1 : 1 ≤ nL := by have := HL.out.1; rw [List.length_cons] at this; omega
     have nLp : 0 < nL := nL1
     have nLi : (1 : Int) ≤ (nL : Int) := by omega
     have nLc : nL ≤ cL := HL.out.2.1
     have cLm : cL ≤ 9223372036854775807 := HL.out.2.2.2.1
     clear hTL hcL hu0L huL
     obtain rfl : nM = 0 := by have := HM.out.1; simp at this; omega
     go_upto_region 6 with fail
     go_quiet (fail)
     go_upto_region 7 with fail
     refine wp_world (F := fun W => Below w3.heap.size w3 W) ⟨rfl, rfl, rfl, Nat.le_refl _, fun _ _ => rfl⟩ ?_
     rintro w4 hb4
     replace H8 := H8.below hb4
     replace HCL := hid (HCL.out.below ltL hb4)
     replace HUL := hid (HUL.out.below hb4)
     replace ltL := Nat.lt_of_lt_of_le ltL hb4.size
     replace hb3 := Below.then_ hb3 hb4
     clear hb4 kL0
     refine draw_G (fun W W' => W.grownBy W' (some wr.heap.size)) (fun W => w4.grownBy W (some wr.heap.size)) 12 none [some 66, some 67, some 68, some 69, some 70, some 71, some 72, some 73, some 74, some 75, some 76, some 77, none, some 6] [.is (.slice (some ⟨bL, oL, none⟩) nL cL), .is (.pointer (some ⟨bL, oL, none⟩)), .is (.pointer (some ⟨bL, oL, none⟩)), .is (.int .i64 tL.v), .is (.slice (some ⟨bL, oL, none⟩) nL cL), .is (.pointer (some ⟨bL, oL, none⟩)), .is (.pointer (some ⟨bL, oL + 1, none⟩)), .is (.agg #[.bool uL.s, .slice uL.A uL.n uL.c, .slice uL.A' uL.n' uL.c']), .such (fun W v => ∃ (yX : RV), v = .agg #[.bool yX.s, .slice yX.A yX.n yX.c, .slice yX.A' yX.n' yX.c'] ∧ yX.at W (rwOf (tL.r.q))), .such (fun W v => ∃ (y74_75 : RV), v = .agg #[.int .i64 tL.v, .bool y74_75.s, .slice y74_75.A y74_75.n y74_75.c, .slice y74_75.A' y74_75.n' y74_75.c'] ∧ y74_75.at W (rwOf (tL.r.q))), .is (.slice (some ⟨bL, oL, none⟩) nL cL), .is (.slice (tailA bL oL cL) (nL - 1) (cL - 1)), .own (fun W _ => ∃ (y74_75 : RV), Bs W wr.heap.size 38 [.int .i64 tL.v, .bool y74_75.s, .slice y74_75.A y74_75.n y74_75.c, .slice y74_75.A' y74_75.n' y74_75.c'] ∧ y74_75.at W (rwOf (tL.r.q))), .is (.slice (tailA bL oL cL) (nL - 1) (cL - 1))]
      (by kernel_rfl) (by kernel_rfl) (by kernel_rfl) (by kernel_rfl) rfl (by kernel_rfl) (fun _ h => grown_of h _) (fun _ _ h hb => kept_then h (grown_of hb _)) (fun _ _ hb h => kept_then (grown_of hb _) h) (fun q W1 W2 v hm hbw hk hq => by simp at hm; rcases hm with rfl | rfl <;> first | (obtain ⟨yX, rfl, hyX⟩ := hq W1 (Below.refl _ _); exact fun W hW => ⟨_, rfl, (RV.at.kp hyX (Kp.stored (B := 0) (H8.below hbw) (noU_i64 (noU_bool (noU_slice (noU_slice noU_nil)))) hk (Nat.zero_le _))).below hW⟩) | (obtain ⟨y74_75, rfl, hy74_75⟩ := hq W1 (Below.refl _ _); exact fun W hW => ⟨_, rfl, (RV.at.kp hy74_75 (Kp.stored (B := 0) (H8.below hbw) (noU_i64 (noU_bool (noU_slice (noU_slice noU_nil)))) hk (Nat.zero_le _))).below hW⟩)) ?_ ?_
     ·refine ⟨?_, ?_, ?_, ?_, ?_, ?_, ?_, ?_, ?_, ?_, ?_, ?_, ?_, ?_, trivial⟩
      ·intro a w3 hA K hK
       have t6 := hA.own 13 6 _ rfl (by kernel_rfl) rfl
       go_simp
       exact hK _ _ rfl (Below.refl _ _)
      ·intro a w3 hA K hK
       have t66 := bg_is hA 0 66
       go_simp
       exact hK _ _ Pg.fi_ (Below.refl _ _)
      ·intro a w3 hA K hK
       have t67 := bg_is hA 1 67
       go_simp
       exact hK _ _ rfl (Below.refl _ _)
      ·intro a w3 hA K hK
       have t68 := bg_is hA 2 68
       have k0 : w3.cell? ⟨bL, oL, none⟩ = some (.int .i64 tL.v) := (HCL.out.below ltL hA.below).at_ 0 rfl
       go_simp
       exact hK _ _ rfl (Below.refl _ _)
      ·intro a w3 hA K hK
       have t6 := hA.own 13 6 _ rfl (by kernel_rfl) rfl
       go_simp
       exact hK _ _ rfl (Below.refl _ _)
      ·intro a w3 hA K hK
       have t70 := bg_is hA 4 70
       go_simp
       exact hK _ _ Pg.fi_ (Below.refl _ _)
      ·intro a w3 hA K hK
       have t71 := bg_is hA 5 71
       go_simp
       exact hK _ _ rfl (Below.refl _ _)
      ·intro a w3 hA K hK
       have t72 := bg_is hA 6 72
       have k0 := (HCL.out.below ltL hA.below).at_ 1 rfl
       have k1 := (HCL.out.below ltL hA.below).at_ 2 rfl
       have k2 := (HCL.out.below ltL hA.below).at_ 3 rfl
       go_simp
       exact hK _ _ rfl (Below.refl _ _)
      ·intro a w3 hA K hK
       have t73 := bg_is hA 7 73
       have hC := Norm_Q _ (HUL.out.below hA.below) HleL (by omega) hk1
       go_simp
       refine hC.mono ?_
       rintro e w4 ⟨y, rfl, hy, hb⟩
       exact hK _ _ (fun W hW => ⟨_, rfl, hy.below hW⟩) hb
      ·intro a w3 hA K hK
       have t69 := bg_is hA 3 69
       obtain ⟨v74, t74, p74⟩ := bg_such hA 8 74
       obtain ⟨y74_75, rfl, hy74_75⟩ := p74 w3 (Below.refl _ _)
       have u69 := t69; rw [Array.getD_eq_getD_getElem?] at u69
       have u74 := t74; rw [Array.getD_eq_getD_getElem?] at u74
       go_simp
       exact hK _ _ (fun W hW => ⟨_, rfl, hy74_75.below hW⟩) (Below.refl _ _)
      ·intro a w3 hA K hK
       have t6 := hA.own 13 6 _ rfl (by kernel_rfl) rfl
       go_simp
       exact hK _ _ rfl (Below.refl _ _)
      ·intro a w3 hA K hK
       have t76 := bg_is hA 10 76
       go_simp
       exact hK _ _ Pg.fi_ (Below.refl _ _)
      ·intro a w3 hA K hK
       have t8 := hA.old 8 _ rfl rfl
       obtain ⟨v75, t75, p75⟩ := bg_such hA 9 75
       obtain ⟨y74_75, rfl, hy74_75⟩ := p75 w3 (Below.refl _ _)
       have hB := H8.below hA.below
       have f0 := hB.frozen 0
       have c0 := hB.cell 0 rfl
       have f1 := hB.frozen 1
       have c1 := hB.cell 1 rfl
       have f2 := hB.frozen 2
       have c2 := hB.cell 2 rfl
       have f3 := hB.frozen 3
       have c3 := hB.cell 3 rfl
       go_simp
       exact hK undef _ (fun W hW => ⟨_, (stored4 hB).1.below hW, (RV.at.kp hy74_75 (Kp.stored (B := 0) hB (noU_i64 (noU_bool (noU_slice (noU_slice noU_nil)))) (stored4 hB).2.1 (Nat.zero_le _))).below hW⟩) ⟨(stored4 hB).2.1, fun j d h => by cases h⟩
      ·intro a w3 hA K hK
       have t77 := bg_is hA 11 77
       go_simp
       exact hK _ _ Pg.fi_ (Below.refl _ _)
     rintro vs wv hV hgv hlk act hact
     repeat (replace hV := hV.is_; obtain ⟨_, rfl, hV⟩ := hV)
     replace hV := hV.such_; obtain ⟨v74, _, rfl, p74, hV⟩ := hV
     replace hV := hV.such_; obtain ⟨v75, _, rfl, p75, hV⟩ := hV
     repeat (replace hV := hV.is_; obtain ⟨_, rfl, hV⟩ := hV)
     replace hV := hV.own_; obtain ⟨vP, _, rfl, pP, hV⟩ := hV
     replace hV := hV.is_; obtain ⟨_, rfl, hV⟩ := hV
     obtain rfl := hV.nil_
     clear hV
     clear hlk
     obtain ⟨y74, rfl, hy74⟩ := p74 wv (Below.refl _ _)
     clear p74
     obtain ⟨y74_75, rfl, hy74_75⟩ := p75 wv (Below.refl _ _)
     clear p75
     obtain ⟨y74_75, hBS, hy74_75⟩ := pP wv (Below.refl _ _)
     clear pP
     simp only [putsO] at hact
     subst hact
     go_simp
     go_wp2_with fail
     go_meet
     case rel =>
      exact ⟨y74_75, tL.v, tL.r.q, tailA bL oL cL, M, nL - 1, cL - 1, 0, cM, lsL, [], rfl, rfl, by omega, hid (HL.out.tail (tailA_or _ _ _)), HM, hid (fun x hx => HleL0.out x (List.mem_cons_of_mem _ hx)), HleM0, hid (by exact addT_keepL), hid ((RV.at.short HUL.out HleL hk1).mono (by omega)), hid hBS, hid hy74_75, hb3.trans (Below.kept hgv (Nat.le_refl _) (by have := H8.lt; omega))⟩
    | [], tM :: lsM, HL, HM, HleL0, HleM0, HE =>
     obtain ⟨bM, oM, rfl, hbM, hTM⟩ := HM.out.head
     obtain ⟨x0M, x1M, x2M, hcM, hu0M⟩ := termAt_stays _ _ _ _ _ hbM hTM hw3
     obtain ⟨uM, rfl, rfl, rfl, huM⟩ := rows_rv hu0M
     have HCM := hid hcM
     have HUM := hid huM
     have HleM := HleM0.out _ List.mem_cons_self
     have ltM : bM < w3.heap.size := Nat.lt_of_lt_of_le hbM hw3.size
     have kM0 : w3.cell? ⟨bM, oM, none⟩ = some (.int .i64 tM.v) := hcM.at_ 0 rfl
     have nM1 : 1 ≤ nM := by have := HM.out.1; rw [List.length_cons] at this; omega
     have nMp : 0 < nM := nM1
     have nMi : (1 : Int) ≤ (nM : Int) := by omega
     have nMc : nM ≤ cM := HM.out.2.1
     have cMm : cM ≤ 9223372036854775807 := HM.out.2.2.2.1
     clear hTM hcM hu0M huM
     have hz : nL = 0 := by have := HL.out.1; simp at this; omega
     have dL0 : ((nL : Int) == 0) = true := beq_iff_eq.2 (by omega)
     have dLp : decide ((0 : Int) < (nL : Int)) = false := decide_eq_false (by omega)
     have dLn : decide (0 < nL) = false := decide_eq_false (by omega)
     replace hz : ¬ 0 < nL := by omega
     have dM0 : ((nM : Int) == 0) = false := beq_eq_false_iff_ne.2 (by omega)
     go_upto_region 6 with fail
     go_quiet (fail)
     go_upto_region 8 with fail
     go_quiet (fail)
     go_upto_region 9 with fail
     refine wp_world (F := fun W => Below w3.heap.size w3 W) ⟨rfl, rfl, rfl, Nat.le_refl _, fun _ _ => rfl⟩ ?_
     rintro w4 hb4
     replace H8 := H8.below hb4
     replace HCM := hid (HCM.out.below ltM hb4)
     replace HUM := hid (HUM.out.below hb4)
     replace ltM := Nat.lt_of_lt_of_le ltM hb4.size
     replace hb3 := Below.then_ hb3 hb4
     clear hb4 kM0
     refine draw_G (fun W W' => W.grownBy W' (some wr.heap.size)) (fun W => w4.grownBy W (some wr.heap.size)) 12 none [some 93, some 94, some 95, some 96, some 97, some 98, some 99, some 100, some 101, some 102, some 103, some 104, none, some 7] [.is (.slice (some ⟨bM, oM, none⟩) nM cM), .is (.pointer (some ⟨bM, oM, none⟩)), .is (.pointer (some ⟨bM, oM, none⟩)), .is (.int .i64 tM.v), .is (.slice (some ⟨bM, oM, none⟩) nM cM), .is (.pointer (some ⟨bM, oM, none⟩)), .is (.pointer (some ⟨bM, oM + 1, none⟩)), .is (.agg #[.bool uM.s, .slice uM.A uM.n uM.c, .slice uM.A' uM.n' uM.c']), .such (fun W v => ∃ (yX : RV), v = .agg #[.bool yX.s, .slice yX.A yX.n yX.c, .slice yX.A' yX.n' yX.c'] ∧ yX.at W (rwOf (tM.r.q))), .such (fun W v => ∃ (y101_102 : RV), v = .agg #[.int .i64 tM.v, .bool y101_102.s, .slice y101_102.A y101_102.n y101_102.c, .slice y101_102.A' y101_102.n' y101_102.c'] ∧ y101_102.at W (rwOf (tM.r.q))), .is (.slice (some ⟨bM, oM, none⟩) nM cM), .is (.slice (tailA bM oM cM) (nM - 1) (cM - 1)), .own (fun W _ => ∃ (y101_102 : RV), Bs W wr.heap.size 38 [.int .i64 tM.v, .bool y101_102.s, .slice y101_102.A y101_102.n y101_102.c, .slice y101_102.A' y101_102.n' y101_102.c'] ∧ y101_102.at W (rwOf (tM.r.q))), .is (.slice (tailA bM oM cM) (nM - 1) (cM - 1))]
      (by kernel_rfl) (by kernel_rfl) (by kernel_rfl) (by kernel_rfl) rfl (by kernel_rfl) (fun _ h => grown_of h _) (fun _ _ h hb => kept_then h (grown_of hb _)) (fun _ _ hb h => kept_then (grown_of hb _) h) (fun q W1 W2 v hm hbw hk hq => by simp at hm; rcases hm with rfl | rfl <;> first | (obtain ⟨yX, rfl, hyX⟩ := hq W1 (Below.refl _ _); exact fun W hW => ⟨_, rfl, (RV.at.kp hyX (Kp.stored (B := 0) (H8.below hbw) (noU_i64 (noU_bool (noU_slice (noU_slice noU_nil)))) hk (Nat.zero_le _))).below hW⟩) | (obtain ⟨y101_102, rfl, hy101_102⟩ := hq W1 (Below.refl _ _); exact fun W hW => ⟨_, rfl, (RV.at.kp hy101_102 (Kp.stored (B := 0) (H8.below hbw) (noU_i64 (noU_bool (noU_slice (noU_slice noU_nil)))) hk (Nat.zero_le _))).below hW⟩)) ?_ ?_
     ·refine ⟨?_, ?_, ?_, ?_, ?_, ?_, ?_, ?_, ?_, ?_, ?_, ?_, ?_, ?_, trivial⟩
      ·intro a w3 hA K hK
       have t7 := hA.own 13 7 _ rfl (by kernel_rfl) rfl
       go_simp
       exact hK _ _ rfl (Below.refl _ _)
      ·intro a w3 hA K hK
       have t93 := bg_is hA 0 93
       go_simp
       exact hK _ _ Pg.fi_ (Below.refl _ _)
      ·intro a w3 hA K hK
       have t94 := bg_is hA 1 94
       go_simp
       exact hK _ _ rfl (Below.refl _ _)
      ·intro a w3 hA K hK
       have t95 := bg_is hA 2 95
       have k0 : w3.cell? ⟨bM, oM, none⟩ = some (.int .i64 tM.v) := (HCM.out.below ltM hA.below).at_ 0 rfl
       go_simp
       exact hK _ _ rfl (Below.refl _ _)
      ·intro a w3 hA K hK
       have t7 := hA.own 13 7 _ rfl (by kernel_rfl) rfl
       go_simp
       exact hK _ _ rfl (Below.refl _ _)
      ·intro a w3 hA K hK
       have t97 := bg_is hA 4 97
       go_simp
       exact hK _ _ Pg.fi_ (Below.refl _ _)
      ·intro a w3 hA K hK
       have t98 := bg_is hA 5 98
       go_simp
       exact hK _ _ rfl (Below.refl _ _)
      ·intro a w3 hA K hK
       have t99 := bg_is hA 6 99
       have k0 := (HCM.out.below ltM hA.below).at_ 1 rfl
       have k1 := (HCM.out.below ltM hA.below).at_ 2 rfl
       have k2 := (HCM.out.below ltM hA.below).at_ 3 rfl
       go_simp
       exact hK _ _ rfl (Below.refl _ _)
      ·intro a w3 hA K hK
       have t100 := bg_is hA 7 100
       have hC := Norm_Q _ (HUM.out.below hA.below) HleM (by omega) hk1
       go_simp
       refine hC.mono ?_
       rintro e w4 ⟨y, rfl, hy, hb⟩
       exact hK _ _ (fun W hW => ⟨_, rfl, hy.below hW⟩) hb
      ·intro a w3 hA K hK
       have t96 := bg_is hA 3 96
       obtain ⟨v101, t101, p101⟩ := bg_such hA 8 101
       obtain ⟨y101_102, rfl, hy101_102⟩ := p101 w3 (Below.refl _ _)
       have u96 := t96; rw [Array.getD_eq_getD_getElem?] at u96
       have u101 := t101; rw [Array.getD_eq_getD_getElem?] at u101
       go_simp
       exact hK _ _ (fun W hW => ⟨_, rfl, hy101_102.below hW⟩) (Below.refl _ _)
      ·intro a w3 hA K hK
       have t7 := hA.own 13 7 _ rfl (by kernel_rfl) rfl
       go_simp
       exact hK _ _ rfl (Below.refl _ _)
      ·intro a w3 hA K hK
       have t103 := bg_is hA 10 103
       go_simp
       exact hK _ _ Pg.fi_ (Below.refl _ _)
      ·intro a w3 hA K hK
       have t8 := hA.old 8 _ rfl rfl
       obtain ⟨v102, t102, p102⟩ := bg_such hA 9 102
       obtain ⟨y101_102, rfl, hy101_102⟩ := p102 w3 (Below.refl _ _)
       have hB := H8.below hA.below
       have f0 := hB.frozen 0
       have c0 := hB.cell 0 rfl
       have f1 := hB.frozen 1
       have c1 := hB.cell 1 rfl
       have f2 := hB.frozen 2
       have c2 := hB.cell 2 rfl
       have f3 := hB.frozen 3
       have c3 := hB.cell 3 rfl
       go_simp
       exact hK undef _ (fun W hW => ⟨_, (stored4 hB).1.below hW, (RV.at.kp hy101_102 (Kp.stored (B := 0) hB (noU_i64 (noU_bool (noU_slice (noU_slice noU_nil)))) (stored4 hB).2.1 (Nat.zero_le _))).below hW⟩) ⟨(stored4 hB).2.1, fun j d h => by cases h⟩
      ·intro a w3 hA K hK
       have t104 := bg_is hA 11 104
       go_simp
       exact hK _ _ Pg.fi_ (Below.refl _ _)
     rintro vs wv hV hgv hlk act hact
     repeat (replace hV := hV.is_; obtain ⟨_, rfl, hV⟩ := hV)
     replace hV := hV.such_; obtain ⟨v101, _, rfl, p101, hV⟩ := hV
     replace hV := hV.such_; obtain ⟨v102, _, rfl, p102, hV⟩ := hV
     repeat (replace hV := hV.is_; obtain ⟨_, rfl, hV⟩ := hV)
     replace hV := hV.own_; obtain ⟨vP, _, rfl, pP, hV⟩ := hV
     replace hV := hV.is_; obtain ⟨_, rfl, hV⟩ := hV
     obtain rfl := hV.nil_
     clear hV
     clear hlk
     obtain ⟨y101, rfl, hy101⟩ := p101 wv (Below.refl _ _)
     clear p101
     obtain ⟨y101_102, rfl, hy101_102⟩ := p102 wv (Below.refl _ _)
     clear p102
     obtain ⟨y101_102, hBS, hy101_102⟩ := pP wv (Below.refl _ _)
     clear pP
     simp only [putsO] at hact
     subst hact
     go_simp
     go_wp2_with fail
     go_meet
     case rel =>
      exact ⟨y101_102, tM.v, tM.r.q, L, tailA bM oM cM, nL, cL, nM - 1, cM - 1, [], lsM, rfl, rfl, by omega, HL, hid (HM.out.tail (tailA_or _ _ _)), HleL0, hid (fun x hx => HleM0.out x (List.mem_cons_of_mem _ hx)), hid (by exact addT_keepM), hid ((RV.at.short HUM.out HleM hk1).mono (by omega)), hid hBS, hid hy101_102, hb3.trans (Below.kept hgv (Nat.le_refl _) (by have := H8.lt; omega))⟩
    | tL :: lsL, tM :: lsM, HL, HM, HleL0, HleM0, HE =>
     obtain ⟨bL, oL, rfl, hbL, hTL⟩ := HL.out.head
     obtain ⟨x0L, x1L, x2L, hcL, hu0L⟩ := termAt_stays _ _ _ _ _ hbL hTL hw3
     obtain ⟨uL, rfl, rfl, rfl, huL⟩ := rows_rv hu0L
     have HCL := hid hcL
     have HUL := hid huL
     have HleL := HleL0.out _ List.mem_cons_self
     have ltL : bL < w3.heap.size := Nat.lt_of_lt_of_le hbL hw3.size
     have kL0 : w3.cell? ⟨bL, oL, none⟩ = some (.int .i64 tL.v) := hcL.at_ 0 rfl
     have nL1 : 1 ≤ nL := by have := HL.out.1; rw [List.length_cons] at this; omega
     have nLp : 0 < nL := nL1
     have nLi : (1 : Int) ≤ (nL : Int) := by omega
     have nLc : nL ≤ cL := HL.out.2.1
     have cLm : cL ≤ 9223372036854775807 := HL.out.2.2.2.1
     clear hTL hcL hu0L huL
     obtain ⟨bM, oM, rfl, hbM, hTM⟩ := HM.out.head
     obtain ⟨x0M, x1M, x2M, hcM, hu0M⟩ := termAt_stays _ _ _ _ _ hbM hTM hw3
     obtain ⟨uM, rfl, rfl, rfl, huM⟩ := rows_rv hu0M
     have HCM := hid hcM
     have HUM := hid huM
     have HleM := HleM0.out _ List.mem_cons_self
     have ltM : bM < w3.heap.size := Nat.lt_of_lt_of_le hbM hw3.size
     have kM0 : w3.cell? ⟨bM, oM, none⟩ = some (.int .i64 tM.v) := hcM.at_ 0 rfl
     have nM1 : 1 ≤ nM := by have := HM.out.1; rw [List.length_cons] at this; omega
     have nMp : 0 < nM := nM1
     have nMi : (1 : Int) ≤ (nM : Int) := by omega
     have nMc : nM ≤ cM := HM.out.2.1
     have cMm : cM ≤ 9223372036854775807 := HM.out.2.2.2.1
     clear hTM hcM hu0M huM
     have dM0 : ((nM : Int) == 0) = false := beq_eq_false_iff_ne.2 (by omega)
     have dL0 : ((nL : Int) == 0) = false := beq_eq_false_iff_ne.2 (by omega)
     have dLp : decide ((0 : Int) < (nL : Int)) = true := decide_eq_true (by omega)
     by_cases h1 : tL.v < tM.v
     ·have hd1 := decide_eq_true h1
      go_upto_region 6 with fail
      go_quiet (fail)
      go_upto_region 7 with fail
      refine wp_world (F := fun W => Below w3.heap.size w3 W) ⟨rfl, rfl, rfl, Nat.le_refl _, fun _ _ => rfl⟩ ?_
      rintro w4 hb4
      replace H8 := H8.below hb4
      replace HCL := hid (HCL.out.below ltL hb4)
      replace HUL := hid (HUL.out.below hb4)
      replace ltL := Nat.lt_of_lt_of_le ltL hb4.size
      replace HCM := hid (HCM.out.below ltM hb4)
      replace HUM := hid (HUM.out.below hb4)
      replace ltM := Nat.lt_of_lt_of_le ltM hb4.size
      replace hb3 := Below.then_ hb3 hb4
      clear hb4 kL0 kM0
      refine draw_G (fun W W' => W.grownBy W' (some wr.heap.size)) (fun W => w4.grownBy W (some wr.heap.size)) 12 none [some 66, some 67, some 68, some 69, some 70, some 71, some 72, some 73, some 74, some 75, some 76, some 77, none, some 6] [.is (.slice (some ⟨bL, oL, none⟩) nL cL), .is (.pointer (some ⟨bL, oL, none⟩)), .is (.pointer (some ⟨bL, oL, none⟩)), .is (.int .i64 tL.v), .is (.slice (some ⟨bL, oL, none⟩) nL cL), .is (.pointer (some ⟨bL, oL, none⟩)), .is (.pointer (some ⟨bL, oL + 1, none⟩)), .is (.agg #[.bool uL.s, .slice uL.A uL.n uL.c, .slice uL.A' uL.n' uL.c']), .such (fun W v => ∃ (yX : RV), v = .agg #[.bool yX.s, .slice yX.A yX.n yX.c, .slice yX.A' yX.n' yX.c'] ∧ yX.at W (rwOf (tL.r.q))), .such (fun W v => ∃ (y74_75 : RV), v = .agg #[.int .i64 tL.v, .bool y74_75.s, .slice y74_75.A y74_75.n y74_75.c, .slice y74_75.A' y74_75.n' y74_75.c'] ∧ y74_75.at W (rwOf (tL.r.q))), .is (.slice (some ⟨bL, oL, none⟩) nL cL), .is (.slice (tailA bL oL cL) (nL - 1) (cL - 1)), .own (fun W _ => ∃ (y74_75 : RV), Bs W wr.heap.size 38 [.int .i64 tL.v, .bool y74_75.s, .slice y74_75.A y74_75.n y74_75.c, .slice y74_75.A' y74_75.n' y74_75.c'] ∧ y74_75.at W (rwOf (tL.r.q))), .is (.slice (tailA bL oL cL) (nL - 1) (cL - 1))]
       (by kernel_rfl) (by kernel_rfl) (by kernel_rfl) (by kernel_rfl) rfl (by kernel_rfl) (fun _ h => grown_of h _) (fun _ _ h hb => kept_then h (grown_of hb _)) (fun _ _ hb h => kept_then (grown_of hb _) h) (fun q W1 W2 v hm hbw hk hq => by simp at hm; rcases hm with rfl | rfl <;> first | (obtain ⟨yX, rfl, hyX⟩ := hq W1 (Below.refl _ _); exact fun W hW => ⟨_, rfl, (RV.at.kp hyX (Kp.stored (B := 0) (H8.below hbw) (noU_i64 (noU_bool (noU_slice (noU_slice noU_nil)))) hk (Nat.zero_le _))).below hW⟩) | (obtain ⟨y74_75, rfl, hy74_75⟩ := hq W1 (Below.refl _ _); exact fun W hW => ⟨_, rfl, (RV.at.kp hy74_75 (Kp.stored (B := 0) (H8.below hbw) (noU_i64 (noU_bool (noU_slice (noU_slice noU_nil)))) hk (Nat.zero_le _))).below hW⟩)) ?_ ?_
      ·refine ⟨?_, ?_, ?_, ?_, ?_, ?_, ?_, ?_, ?_, ?_, ?_, ?_, ?_, ?_, trivial⟩
       ·intro a w3 hA K hK
        have t6 := hA.own 13 6 _ rfl (by kernel_rfl) rfl
        go_simp
        exact hK _ _ rfl (Below.refl _ _)
       ·intro a w3 hA K hK
        have t66 := bg_is hA 0 66
        go_simp
        exact hK _ _ Pg.fi_ (Below.refl _ _)
       ·intro a w3 hA K hK
        have t67 := bg_is hA 1 67
        go_simp
        exact hK _ _ rfl (Below.refl _ _)
       ·intro a w3 hA K hK
        have t68 := bg_is hA 2 68
        have k0 : w3.cell? ⟨bL, oL, none⟩ = some (.int .i64 tL.v) := (HCL.out.below ltL hA.below).at_ 0 rfl
        go_simp
        exact hK _ _ rfl (Below.refl _ _)
       ·intro a w3 hA K hK
        have t6 := hA.own 13 6 _ rfl (by kernel_rfl) rfl
        go_simp
        exact hK _ _ rfl (Below.refl _ _)
       ·intro a w3 hA K hK
        have t70 := bg_is hA 4 70
        go_simp
        exact hK _ _ Pg.fi_ (Below.refl _ _)
       ·intro a w3 hA K hK
        have t71 := bg_is hA 5 71
        go_simp
        exact hK _ _ rfl (Below.refl _ _)
       ·intro a w3 hA K hK
        have t72 := bg_is hA 6 72
        have k0 := (HCL.out.below ltL hA.below).at_ 1 rfl
        have k1 := (HCL.out.below ltL hA.below).at_ 2 rfl
        have k2 := (HCL.out.below ltL hA.below).at_ 3 rfl
        go_simp
        exact hK _ _ rfl (Below.refl _ _)
       ·intro a w3 hA K hK
        have t73 := bg_is hA 7 73
        have hC := Norm_Q _ (HUL.out.below hA.below) HleL (by omega) hk1
        go_simp
        refine hC.mono ?_
        rintro e w4 ⟨y, rfl, hy, hb⟩
        exact hK _ _ (fun W hW => ⟨_, rfl, hy.below hW⟩) hb
       ·intro a w3 hA K hK
        have t69 := bg_is hA 3 69
        obtain ⟨v74, t74, p74⟩ := bg_such hA 8 74
        obtain ⟨y74_75, rfl, hy74_75⟩ := p74 w3 (Below.refl _ _)
        have u69 := t69; rw [Array.getD_eq_getD_getElem?] at u69
        have u74 := t74; rw [Array.getD_eq_getD_getElem?] at u74
        go_simp
        exact hK _ _ (fun W hW => ⟨_, rfl, hy74_75.below hW⟩) (Below.refl _ _)
       ·intro a w3 hA K hK
        have t6 := hA.own 13 6 _ rfl (by kernel_rfl) rfl
        go_simp
        exact hK _ _ rfl (Below.refl _ _)
       ·intro a w3 hA K hK
        have t76 := bg_is hA 10 76
        go_simp
        exact hK _ _ Pg.fi_ (Below.refl _ _)
       ·intro a w3 hA K hK
        have t8 := hA.old 8 _ rfl rfl
        obtain ⟨v75, t75, p75⟩ := bg_such hA 9 75
        obtain ⟨y74_75, rfl, hy74_75⟩ := p75 w3 (Below.refl _ _)
        have hB := H8.below hA.below
        have f0 := hB.frozen 0
        have c0 := hB.cell 0 rfl
        have f1 := hB.frozen 1
        have c1 := hB.cell 1 rfl
        have f2 := hB.frozen 2
        have c2 := hB.cell 2 rfl
        have f3 := hB.frozen 3
        have c3 := hB.cell 3 rfl
        go_simp
        exact hK undef _ (fun W hW => ⟨_, (stored4 hB).1.below hW, (RV.at.kp hy74_75 (Kp.stored (B := 0) hB (noU_i64 (noU_bool (noU_slice (noU_slice noU_nil)))) (stored4 hB).2.1 (Nat.zero_le _))).below hW⟩) ⟨(stored4 hB).2.1, fun j d h => by cases h⟩
       ·intro a w3 hA K hK
        have t77 := bg_is hA 11 77
        go_simp
        exact hK _ _ Pg.fi_ (Below.refl _ _)
      rintro vs wv hV hgv hlk act hact
      repeat (replace hV := hV.is_; obtain ⟨_, rfl, hV⟩ := hV)
      replace hV := hV.such_; obtain ⟨v74, _, rfl, p74, hV⟩ := hV
      replace hV := hV.such_; obtain ⟨v75, _, rfl, p75, hV⟩ := hV
      repeat (replace hV := hV.is_; obtain ⟨_, rfl, hV⟩ := hV)
      replace hV := hV.own_; obtain ⟨vP, _, rfl, pP, hV⟩ := hV
      replace hV := hV.is_; obtain ⟨_, rfl, hV⟩ := hV
      obtain rfl := hV.nil_
      clear hV
      clear hlk
      obtain ⟨y74, rfl, hy74⟩ := p74 wv (Below.refl _ _)
      clear p74
      obtain ⟨y74_75, rfl, hy74_75⟩ := p75 wv (Below.refl _ _)
      clear p75
      obtain ⟨y74_75, hBS, hy74_75⟩ := pP wv (Below.refl _ _)
      clear pP
      simp only [putsO] at hact
      subst hact
      go_simp
      go_wp2_with fail
      go_meet
      case rel =>
       exact ⟨y74_75, tL.v, tL.r.q, tailA bL oL cL, some ⟨bM, oM, none⟩, nL - 1, cL - 1, nM, cM, lsL, tM :: lsM, rfl, rfl, by omega, hid (HL.out.tail (tailA_or _ _ _)), HM, hid (fun x hx => HleL0.out x (List.mem_cons_of_mem _ hx)), HleM0, hid (by exact addT_keepC (a := tL.q) (b := tM.q) h1), hid ((RV.at.short HUL.out HleL hk1).mono (by omega)), hid hBS, hid hy74_75, hb3.trans (Below.kept hgv (Nat.le_refl _) (by have := H8.lt; omega))⟩
     ·have hd1 := decide_eq_false h1
      by_cases h2 : tM.v < tL.v
      ·have hd2 := decide_eq_true h2
       go_upto_region 6 with fail
       go_quiet (fail)
       go_upto_region 8 with fail
       go_quiet (fail)
       go_upto_region 9 with fail
       refine wp_world (F := fun W => Below w3.heap.size w3 W) ⟨rfl, rfl, rfl, Nat.le_refl _, fun _ _ => rfl⟩ ?_
       rintro w4 hb4
       replace H8 := H8.below hb4
       replace HCL := hid (HCL.out.below ltL hb4)
       replace HUL := hid (HUL.out.below hb4)
       replace ltL := Nat.lt_of_lt_of_le ltL hb4.size
       replace HCM := hid (HCM.out.below ltM hb4)
       replace HUM := hid (HUM.out.below hb4)
       replace ltM := Nat.lt_of_lt_of_le ltM hb4.size
       replace hb3 := Below.then_ hb3 hb4
       clear hb4 kL0 kM0
       refine draw_G (fun W W' => W.grownBy W' (some wr.heap.size)) (fun W => w4.grownBy W (some wr.heap.size)) 12 none [some 93, some 94, some 95, some 96, some 97, some 98, some 99, some 100, some 101, some 102, some 103, some 104, none, some 7] [.is (.slice (some ⟨bM, oM, none⟩) nM cM), .is (.pointer (some ⟨bM, oM, none⟩)), .is (.pointer (some ⟨bM, oM, none⟩)), .is (.int .i64 tM.v), .is (.slice (some ⟨bM, oM, none⟩) nM cM), .is (.pointer (some ⟨bM, oM, none⟩)), .is (.pointer (some ⟨bM, oM + 1, none⟩)), .is (.agg #[.bool uM.s, .slice uM.A uM.n uM.c, .slice uM.A' uM.n' uM.c']), .such (fun W v => ∃ (yX : RV), v = .agg #[.bool yX.s, .slice yX.A yX.n yX.c, .slice yX.A' yX.n' yX.c'] ∧ yX.at W (rwOf (tM.r.q))), .such (fun W v => ∃ (y101_102 : RV), v = .agg #[.int .i64 tM.v, .bool y101_102.s, .slice y101_102.A y101_102.n y101_102.c, .slice y101_102.A' y101_102.n' y101_102.c'] ∧ y101_102.at W (rwOf (tM.r.q))), .is (.slice (some ⟨bM, oM, none⟩) nM cM), .is (.slice (tailA bM oM cM) (nM - 1) (cM - 1)), .own (fun W _ => ∃ (y101_102 : RV), Bs W wr.heap.size 38 [.int .i64 tM.v, .bool y101_102.s, .slice y101_102.A y101_102.n y101_102.c, .slice y101_102.A' y101_102.n' y101_102.c'] ∧ y101_102.at W (rwOf (tM.r.q))), .is (.slice (tailA bM oM cM) (nM - 1) (cM - 1))]
        (by kernel_rfl) (by kernel_rfl) (by kernel_rfl) (by kernel_rfl) rfl (by kernel_rfl) (fun _ h => grown_of h _) (fun _ _ h hb => kept_then h (grown_of hb _)) (fun _ _ hb h => kept_then (grown_of hb _) h) (fun q W1 W2 v hm hbw hk hq => by simp at hm; rcases hm with rfl | rfl <;> first | (obtain ⟨yX, rfl, hyX⟩ := hq W1 (Below.refl _ _); exact fun W hW => ⟨_, rfl, (RV.at.kp hyX (Kp.stored (B := 0) (H8.below hbw) (noU_i64 (noU_bool (noU_slice (noU_slice noU_nil)))) hk (Nat.zero_le _))).below hW⟩) | (obtain ⟨y101_102, rfl, hy101_102⟩ := hq W1 (Below.refl _ _); exact fun W hW => ⟨_, rfl, (RV.at.kp hy101_102 (Kp.stored (B := 0) (H8.below hbw) (noU_i64 (noU_bool (noU_slice (noU_slice noU_nil)))) hk (Nat.zero_le _))).below hW⟩)) ?_ ?_
       ·refine ⟨?_, ?_, ?_, ?_, ?_, ?_, ?_, ?_, ?_, ?_, ?_, ?_, ?_, ?_, trivial⟩
        ·intro a w3 hA K hK
         have t7 := hA.own 13 7 _ rfl (by kernel_rfl) rfl
         go_simp
         exact hK _ _ rfl (Below.refl _ _)
        ·intro a w3 hA K hK
         have t93 := bg_is hA 0 93
         go_simp
         exact hK _ _ Pg.fi_ (Below.refl _ _)
        ·intro a w3 hA K hK
         have t94 := bg_is hA 1 94
         go_simp
         exact hK _ _ rfl (Below.refl _ _)
        ·intro a w3 hA K hK
         have t95 := bg_is hA 2 95
         have k0 : w3.cell? ⟨bM, oM, none⟩ = some (.int .i64 tM.v) := (HCM.out.below ltM hA.below).at_ 0 rfl
         go_simp
         exact hK _ _ rfl (Below.refl _ _)
        ·intro a w3 hA K hK
         have t7 := hA.own 13 7 _ rfl (by kernel_rfl) rfl
         go_simp
         exact hK _ _ rfl (Below.refl _ _)
        ·intro a w3 hA K hK
         have t97 := bg_is hA 4 97
         go_simp
         exact hK _ _ Pg.fi_ (Below.refl _ _)
        ·intro a w3 hA K hK
         have t98 := bg_is hA 5 98
         go_simp
         exact hK _ _ rfl (Below.refl _ _)
        ·intro a w3 hA K hK
         have t99 := bg_is hA 6 99
         have k0 := (HCM.out.below ltM hA.below).at_ 1 rfl
         have k1 := (HCM.out.below ltM hA.below).at_ 2 rfl
         have k2 := (HCM.out.below ltM hA.below).at_ 3 rfl
         go_simp
         exact hK _ _ rfl (Below.refl _ _)
        ·intro a w3 hA K hK
         have t100 := bg_is hA 7 100
         have hC := Norm_Q _ (HUM.out.below hA.below) HleM (by omega) hk1
         go_simp
         refine hC.mono ?_
         rintro e w4 ⟨y, rfl, hy, hb⟩
         exact hK _ _ (fun W hW => ⟨_, rfl, hy.below hW⟩) hb
        ·intro a w3 hA K hK
         have t96 := bg_is hA 3 96
         obtain ⟨v101, t101, p101⟩ := bg_such hA 8 101
         obtain ⟨y101_102, rfl, hy101_102⟩ := p101 w3 (Below.refl _ _)
         have u96 := t96; rw [Array.getD_eq_getD_getElem?] at u96
         have u101 := t101; rw [Array.getD_eq_getD_getElem?] at u101
         go_simp
         exact hK _ _ (fun W hW => ⟨_, rfl, hy101_102.below hW⟩) (Below.refl _ _)
        ·intro a w3 hA K hK
         have t7 := hA.own 13 7 _ rfl (by kernel_rfl) rfl
         go_simp
         exact hK _ _ rfl (Below.refl _ _)
        ·intro a w3 hA K hK
         have t103 := bg_is hA 10 103
         go_simp
         exact hK _ _ Pg.fi_ (Below.refl _ _)
        ·intro a w3 hA K hK
         have t8 := hA.old 8 _ rfl rfl
         obtain ⟨v102, t102, p102⟩ := bg_such hA 9 102
         obtain ⟨y101_102, rfl, hy101_102⟩ := p102 w3 (Below.refl _ _)
         have hB := H8.below hA.below
         have f0 := hB.frozen 0
         have c0 := hB.cell 0 rfl
         have f1 := hB.frozen 1
         have c1 := hB.cell 1 rfl
         have f2 := hB.frozen 2
         have c2 := hB.cell 2 rfl
         have f3 := hB.frozen 3
         have c3 := hB.cell 3 rfl
         go_simp
         exact hK undef _ (fun W hW => ⟨_, (stored4 hB).1.below hW, (RV.at.kp hy101_102 (Kp.stored (B := 0) hB (noU_i64 (noU_bool (noU_slice (noU_slice noU_nil)))) (stored4 hB).2.1 (Nat.zero_le _))).below hW⟩) ⟨(stored4 hB).2.1, fun j d h => by cases h⟩
        ·intro a w3 hA K hK
         have t104 := bg_is hA 11 104
         go_simp
         exact hK _ _ Pg.fi_ (Below.refl _ _)
       rintro vs wv hV hgv hlk act hact
       repeat (replace hV := hV.is_; obtain ⟨_, rfl, hV⟩ := hV)
       replace hV := hV.such_; obtain ⟨v101, _, rfl, p101, hV⟩ := hV
       replace hV := hV.such_; obtain ⟨v102, _, rfl, p102, hV⟩ := hV
       repeat (replace hV := hV.is_; obtain ⟨_, rfl, hV⟩ := hV)
       replace hV := hV.own_; obtain ⟨vP, _, rfl, pP, hV⟩ := hV
       replace hV := hV.is_; obtain ⟨_, rfl, hV⟩ := hV
       obtain rfl := hV.nil_
       clear hV
       clear hlk
       obtain ⟨y101, rfl, hy101⟩ := p101 wv (Below.refl _ _)
       clear p101
       obtain ⟨y101_102, rfl, hy101_102⟩ := p102 wv (Below.refl _ _)
       clear p102
       obtain ⟨y101_102, hBS, hy101_102⟩ := pP wv (Below.refl _ _)
       clear pP
       simp only [putsO] at hact
       subst hact
       go_simp
       go_wp2_with fail
       go_meet
       case rel =>
        exact ⟨y101_102, tM.v, tM.r.q, some ⟨bL, oL, none⟩, tailA bM oM cM, nL, cL, nM - 1, cM - 1, tL :: lsL, lsM, rfl, rfl, by omega, HL, hid (HM.out.tail (tailA_or _ _ _)), HleL0, hid (fun x hx => HleM0.out x (List.mem_cons_of_mem _ hx)), hid (by exact addT_keepD (a := tL.q) (b := tM.q) h2), hid ((RV.at.short HUM.out HleM hk1).mono (by omega)), hid hBS, hid hy101_102, hb3.trans (Below.kept hgv (Nat.le_refl _) (by have := H8.lt; omega))⟩
      ·have hd2 := decide_eq_false h2
       go_upto_region 6 with fail
       go_quiet (fail)
       go_upto_region 8 with fail
       go_quiet (fail)
       go_upto_region 5 with fail
       refine wp_world (F := fun W => Below w3.heap.size w3 W) ⟨rfl, rfl, rfl, Nat.le_refl _, fun _ _ => rfl⟩ ?_
       rintro w4 hb4
       replace H8 := H8.below hb4
       replace HCL := hid (HCL.out.below ltL hb4)
       replace HUL := hid (HUL.out.below hb4)
       replace ltL := Nat.lt_of_lt_of_le ltL hb4.size
       replace HCM := hid (HCM.out.below ltM hb4)
       replace HUM := hid (HUM.out.below hb4)
       replace ltM := Nat.lt_of_lt_of_le ltM hb4.size
       replace hb3 := Below.then_ hb3 hb4
       clear hb4 kL0 kM0
       refine draw_G (fun W W' => W.grownBy W' (some wr.heap.size)) (fun W => w4.grownBy W (some wr.heap.size)) 18 none [some 28, some 29, some 30, some 31, some 32, some 33, some 34, some 35, some 36, some 37, some 38, some 39, some 40, some 41, some 42, some 43, some 44, some 45, none, some 6, some 7] [.is (.slice (some ⟨bL, oL, none⟩) nL cL), .is (.pointer (some ⟨bL, oL, none⟩)), .is (.pointer (some ⟨bL, oL, none⟩)), .is (.int .i64 tL.v), .is (.slice (some ⟨bL, oL, none⟩) nL cL), .is (.pointer (some ⟨bL, oL, none⟩)), .is (.pointer (some ⟨bL, oL + 1, none⟩)), .is (.agg #[.bool uL.s, .slice uL.A uL.n uL.c, .slice uL.A' uL.n' uL.c']), .is (.slice (some ⟨bM, oM, none⟩) nM cM), .is (.pointer (some ⟨bM, oM, none⟩)), .is (.pointer (some ⟨bM, oM + 1, none⟩)), .is (.agg #[.bool uM.s, .slice uM.A uM.n uM.c, .slice uM.A' uM.n' uM.c']), .such (fun W v => ∃ (yX : RV), v = .agg #[.bool yX.s, .slice yX.A yX.n yX.c, .slice yX.A' yX.n' yX.c'] ∧ yX.at W (rwOf (tL.r.q + tM.r.q))), .such (fun W v => ∃ (y40_41 : RV), v = .agg #[.int .i64 tL.v, .bool y40_41.s, .slice y40_41.A y40_41.n y40_41.c, .slice y40_41.A' y40_41.n' y40_41.c'] ∧ y40_41.at W (rwOf (tL.r.q + tM.r.q))), .is (.slice (some ⟨bL, oL, none⟩) nL cL), .is (.slice (tailA bL oL cL) (nL - 1) (cL - 1)), .is (.slice (some ⟨bM, oM, none⟩) nM cM), .is (.slice (tailA bM oM cM) (nM - 1) (cM - 1)), .own (fun W _ => ∃ (y40_41 : RV), Bs W wr.heap.size 38 [.int .i64 tL.v, .bool y40_41.s, .slice y40_41.A y40_41.n y40_41.c, .slice y40_41.A' y40_41.n' y40_41.c'] ∧ y40_41.at W (rwOf (tL.r.q + tM.r.q))), .is (.slice (tailA bL oL cL) (nL - 1) (cL - 1)), .is (.slice (tailA bM oM cM) (nM - 1) (cM - 1))]
        (by kernel_rfl) (by kernel_rfl) (by kernel_rfl) (by kernel_rfl) rfl (by kernel_rfl) (fun _ h => grown_of h _) (fun _ _ h hb => kept_then h (grown_of hb _)) (fun _ _ hb h => kept_then (grown_of hb _) h) (fun q W1 W2 v hm hbw hk hq => by simp at hm; rcases hm with rfl | rfl <;> first | (obtain ⟨yX, rfl, hyX⟩ := hq W1 (Below.refl _ _); exact fun W hW => ⟨_, rfl, (RV.at.kp hyX (Kp.stored (B := 0) (H8.below hbw) (noU_i64 (noU_bool (noU_slice (noU_slice noU_nil)))) hk (Nat.zero_le _))).below hW⟩) | (obtain ⟨y40_41, rfl, hy40_41⟩ := hq W1 (Below.refl _ _); exact fun W hW => ⟨_, rfl, (RV.at.kp hy40_41 (Kp.stored (B := 0) (H8.below hbw) (noU_i64 (noU_bool (noU_slice (noU_slice noU_nil)))) hk (Nat.zero_le _))).below hW⟩)) ?_ ?_
       ·refine ⟨?_, ?_, ?_, ?_, ?_, ?_, ?_, ?_, ?_, ?_, ?_, ?_, ?_, ?_, ?_, ?_, ?_, ?_, ?_, ?_, ?_, trivial⟩
        ·intro a w3 hA K hK
         have t6 := hA.own 19 6 _ rfl (by kernel_rfl) rfl
         go_simp
         exact hK _ _ rfl (Below.refl _ _)
        ·intro a w3 hA K hK
         have t28 := bg_is hA 0 28
         go_simp
         exact hK _ _ Pg.fi_ (Below.refl _ _)
        ·intro a w3 hA K hK
         have t29 := bg_is hA 1 29
         go_simp
         exact hK _ _ rfl (Below.refl _ _)
        ·intro a w3 hA K hK
         have t30 := bg_is hA 2 30
         have k0 : w3.cell? ⟨bL, oL, none⟩ = some (.int .i64 tL.v) := (HCL.out.below ltL hA.below).at_ 0 rfl
         go_simp
         exact hK _ _ rfl (Below.refl _ _)
        ·intro a w3 hA K hK
         have t6 := hA.own 19 6 _ rfl (by kernel_rfl) rfl
         go_simp
         exact hK _ _ rfl (Below.refl _ _)
        ·intro a w3 hA K hK
         have t32 := bg_is hA 4 32
         go_simp
         exact hK _ _ Pg.fi_ (Below.refl _ _)
        ·intro a w3 hA K hK
         have t33 := bg_is hA 5 33
         go_simp
         exact hK _ _ rfl (Below.refl _ _)
        ·intro a w3 hA K hK
         have t34 := bg_is hA 6 34
         have k0 := (HCL.out.below ltL hA.below).at_ 1 rfl
         have k1 := (HCL.out.below ltL hA.below).at_ 2 rfl
         have k2 := (HCL.out.below ltL hA.below).at_ 3 rfl
         go_simp
         exact hK _ _ rfl (Below.refl _ _)
        ·intro a w3 hA K hK
         have t7 := hA.own 20 7 _ rfl (by kernel_rfl) rfl
         go_simp
         exact hK _ _ rfl (Below.refl _ _)
        ·intro a w3 hA K hK
         have t36 := bg_is hA 8 36
         go_simp
         exact hK _ _ Pg.fi_ (Below.refl _ _)
        ·intro a w3 hA K hK
         have t37 := bg_is hA 9 37
         go_simp
         exact hK _ _ rfl (Below.refl _ _)
        ·intro a w3 hA K hK
         have t38 := bg_is hA 10 38
         have k0 := (HCM.out.below ltM hA.below).at_ 1 rfl
         have k1 := (HCM.out.below ltM hA.below).at_ 2 rfl
         have k2 := (HCM.out.below ltM hA.below).at_ 3 rfl
         go_simp
         exact hK _ _ rfl (Below.refl _ _)
        ·intro a w3 hA K hK
         have t35 := bg_is hA 7 35
         have t39 := bg_is hA 11 39
         have hC := Add_Q _ (HUL.out.below hA.below) (HUM.out.below hA.below) HleL HleM (by omega) hk1 rfl
         go_simp
         refine hC.mono ?_
         rintro e w4 ⟨y, rfl, hy, hb⟩
         exact hK _ _ (fun W hW => ⟨_, rfl, hy.below hW⟩) hb
        ·intro a w3 hA K hK
         have t31 := bg_is hA 3 31
         obtain ⟨v40, t40, p40⟩ := bg_such hA 12 40
         obtain ⟨y40_41, rfl, hy40_41⟩ := p40 w3 (Below.refl _ _)
         have u31 := t31; rw [Array.getD_eq_getD_getElem?] at u31
         have u40 := t40; rw [Array.getD_eq_getD_getElem?] at u40
         go_simp
         exact hK _ _ (fun W hW => ⟨_, rfl, hy40_41.below hW⟩) (Below.refl _ _)
        ·intro a w3 hA K hK
         have t6 := hA.own 19 6 _ rfl (by kernel_rfl) rfl
         go_simp
         exact hK _ _ rfl (Below.refl _ _)
        ·intro a w3 hA K hK
         have t42 := bg_is hA 14 42
         go_simp
         exact hK _ _ Pg.fi_ (Below.refl _ _)
        ·intro a w3 hA K hK
         have t7 := hA.own 20 7 _ rfl (by kernel_rfl) rfl
         go_simp
         exact hK _ _ rfl (Below.refl _ _)
        ·intro a w3 hA K hK
         have t44 := bg_is hA 16 44
         go_simp
         exact hK _ _ Pg.fi_ (Below.refl _ _)
        ·intro a w3 hA K hK
         have t8 := hA.old 8 _ rfl rfl
         obtain ⟨v41, t41, p41⟩ := bg_such hA 13 41
         obtain ⟨y40_41, rfl, hy40_41⟩ := p41 w3 (Below.refl _ _)
         have hB := H8.below hA.below
         have f0 := hB.frozen 0
         have c0 := hB.cell 0 rfl
         have f1 := hB.frozen 1
         have c1 := hB.cell 1 rfl
         have f2 := hB.frozen 2
         have c2 := hB.cell 2 rfl
         have f3 := hB.frozen 3
         have c3 := hB.cell 3 rfl
         go_simp
         exact hK undef _ (fun W hW => ⟨_, (stored4 hB).1.below hW, (RV.at.kp hy40_41 (Kp.stored (B := 0) hB (noU_i64 (noU_bool (noU_slice (noU_slice noU_nil)))) (stored4 hB).2.1 (Nat.zero_le _))).below hW⟩) ⟨(stored4 hB).2.1, fun j d h => by cases h⟩
        ·intro a w3 hA K hK
         have t43 := bg_is hA 15 43
         go_simp
         exact hK _ _ Pg.fi_ (Below.refl _ _)
        ·intro a w3 hA K hK
         have t45 := bg_is hA 17 45
         go_simp
         exact hK _ _ Pg.fi_ (Below.refl _ _)
       rintro vs wv hV hgv hlk act hact
       repeat (replace hV := hV.is_; obtain ⟨_, rfl, hV⟩ := hV)
       replace hV := hV.such_; obtain ⟨v40, _, rfl, p40, hV⟩ := hV
       replace hV := hV.such_; obtain ⟨v41, _, rfl, p41, hV⟩ := hV
       repeat (replace hV := hV.is_; obtain ⟨_, rfl, hV⟩ := hV)
       replace hV := hV.own_; obtain ⟨vP, _, rfl, pP, hV⟩ := hV
       repeat (replace hV := hV.is_; obtain ⟨_, rfl, hV⟩ := hV)
       obtain rfl := hV.nil_
       clear hV
       clear hlk
       obtain ⟨y40, rfl, hy40⟩ := p40 wv (Below.refl _ _)
       clear p40
       obtain ⟨y40_41, rfl, hy40_41⟩ := p41 wv (Below.refl _ _)
       clear p41
       obtain ⟨y40_41, hBS, hy40_41⟩ := pP wv (Below.refl _ _)
       clear pP
       simp only [putsO] at hact
       subst hact
       go_simp
       go_wp2_with fail
       go_meet
       case rel =>
        exact ⟨y40_41, tL.v, (tL.r.q + tM.r.q), tailA bL oL cL, tailA bM oM cM, nL - 1, cL - 1, nM - 1, cM - 1, lsL, lsM, rfl, rfl, by omega, hid (HL.out.tail (tailA_or _ _ _)), hid (HM.out.tail (tailA_or _ _ _)), hid (fun x hx => HleL0.out x (List.mem_cons_of_mem _ hx)), hid (fun x hx => HleM0.out x (List.mem_cons_of_mem _ hx)), hid (by exact addT_keepE (a := tL.q) (b := tM.q) (by show tL.v = tM.v; omega)), hid (((RV.at.short HUL.out HleL hk1).add (RV.at.short HUM.out HleM hk1)).mono (by omega)), hid hBS, hid hy40_41, hb3.trans (Below.kept hgv (Nat.le_refl _) (by have := H8.lt; omega))⟩
   case rest =>
    obtain ⟨y, v, q, L', M', nL', cL', nM', cM', ls', ms', rfl, rfl, hlt, HL', HM', Hle1, Hle2, Hk, Hsh, HB8, Hy8, hbc⟩ := hcut
    have c0 := HB8.out.cell 0 rfl
    have c1 := HB8.out.cell 1 rfl
    have c2 := HB8.out.cell 2 rfl
    have c3 := HB8.out.cell 3 rfl
    have HCc := HC.out.below hbc
    have HZr := hid fun W (hW : Below wc.heap.size wc W) => Zero_Q W (RV.at.below Hy8.out hW) (short_le Hsh.out) (by omega) rfl
    obtain ⟨B, hB⟩ : ∃ B, decide (q = 0) = B := ⟨_, rfl⟩
    rw [rwOf_q, hB] at HZr
    clear HL HM HleL0 HleM0 hb3 H8 hw3
    rcases B with _ | _
    ·have hq0 := of_decide_eq_false hB
     have Hk2 : Hid ((ts ++ [⟨v, rwOf q⟩]) ++ (addT (ls'.map TW.q) (ms'.map TW.q)).map twOf = R) := hid (by
      rw [← HE.out, ← Hk.out, keepT, if_neg (by exact hq0), List.append_assoc]; rfl)
     clear hq0 hB
     go_upto_region 11 with (go_at_call 15; (with_reducible refine (HZr.out _ (Below.refl _ _)).mono ?_); rintro e w6 ⟨rfl, hb6⟩)
     have hw6 := Below.then_ hbc hb6
     have HC6 := HCc.below hb6
     have H86 := HB8.out.below hb6
     have hsu := hsz
     have hg6 : g5 < w6.heap.size := HC6.lt
     have hgr : g5 < wr.heap.size := HC.out.lt
     have HO6 := HO.out.below hw6
     clear c0 c1 c2 c3
     have d1 := HC6.cell 1 rfl
     have f1 := HC6.frozen 1
     have c0 := H86.cell 0 rfl
     have c1 := H86.cell 1 rfl
     have c2 := H86.cell 2 rfl
     have c3 := H86.cell 3 rfl
     go_wp2_with (at_builtin; refine wpList_append_z _ rfl _ _ 22 rfl (g5 + 1) 38 4 64 _ Try.underlying22 infoTerm rfl (by decide) termZ (.slice S us.length sc) us.length _ rfl (HO6.below (Below.new_ (Below.refl _ _) _)) _ 1 (TV.cells ⟨v, y⟩) 38 rfl rfl (Bs.new _ _ _ _ rfl) (TV.one _) (TV.noU _) (by simp only [maxLen]; omega) (by omega) (by simp; omega) ?_; intro S7 sc7 w7 hO7 hk7; have HC7 := (HC6.alloc _).grown hk7 (fun e => by have := (HO6.own.lt _ e.symm).1; omega); have d1 := HC7.cell 1 rfl; have f1 := HC7.frozen 1)
     have hk8 := kept_set w7 g5 1 (.slice S7 (us.length + 1) sc7)
     have HC8 : Bs (w7.setCell ⟨g5, 1, none⟩ (.slice S7 (us.length + 1) sc7)) g5 27 [.int .i64 a.s, .slice S7 (us.length + 1) sc7, .bool y15_16.s, .slice y15_16.A y15_16.n y15_16.c, .slice y15_16.A' y15_16.n' y15_16.c'] := HC7.set 1 _
     have kp6 : Kp g5 w6 (w7.setCell ⟨g5, 1, none⟩ (.slice S7 (us.length + 1) sc7)) := ((Kp.of (Below.new_ (Below.refl _ _) _) (by omega)).trans (Kp.ownZ (HO6.below (Below.new_ (Below.refl _ _) _)) hk7 (by omega) (by simp; omega))).trans (Kp.stored HC7 conU hk8 (Nat.le_refl _))
     have kp := (Kp.of hw6 (by omega)).trans kp6
     refine ⟨⟨us ++ [⟨v, y⟩], S7, sc7, L', M', nL', cL', nM', cM', ls', ms', _, rfl, rfl, HL', HM', Hle1, Hle2, Hk2, by simp; omega, hid (HZ.out.kp kp (by omega)), hid (by rw [List.length_append]; exact HC8), hid (by rw [List.length_append, List.flatMap_append, List.flatMap_singleton]; exact hO7.grown hk8 (hO7.apart (by omega))), hid (TRead.snoc (u := ⟨v, y⟩) (t := ⟨v, rwOf q⟩) rfl (RowsAt.kp (RV.at.below Hy8.out hb6) kp6) (HRd.out.kp kp)), hid (HY.out.kp kp), hb.trans (kp.below.mono (by omega))⟩, ?_⟩
     simp [slen]; omega
    ·have hq0 := of_decide_eq_true hB
     have Hk2 : Hid (ts ++ (addT (ls'.map TW.q) (ms'.map TW.q)).map twOf = R) := hid (by rw [← HE.out, ← Hk.out, keepT, if_pos (by exact hq0)])
     clear hq0 hB
     go_wp2_with (go_at_call 15; (with_reducible refine (HZr.out _ (Below.refl _ _)).mono ?_); rintro e w6 ⟨rfl, hb6⟩)
     have hw6 := Below.then_ hbc hb6
     refine ⟨⟨us, S, sc, L', M', nL', cL', nM', cM', ls', ms', ts, rfl, rfl, HL', HM', Hle1, Hle2, Hk2, by omega, hid (HZ.out.below hw6), hid (HC.out.below hw6), hid (HO.out.below hw6), hid (HRd.out.below hw6), hid (RV.at.below HY.out hw6), Below.then_ hb hw6⟩, ?_⟩
     simp [slen]; omega
end Go.Proofs.Ytahdlpkncemmaaa
namespace Pg
open Go Go.RowKit
theorem drop_cons {α : Type} {l : List α} {j : Nat} {x : α} (h : l[j]? = some x) : l.drop j = x :: l.drop (j + 1) := by
 obtain ⟨hlt, e⟩ := List.getElem?_eq_some_iff.1 h
 rw [List.drop_eq_getElem_cons hlt, e]
end Pg
namespace Go.Proofs.Ytahdlpkncemmaaa
open Go.RowKit Pg
end Go.Proofs.Ytahdlpkncemmaaa
namespace Pg
open Go Go.RowKit
def w64 (S : Nat) : Int := IntKind.i64.wrap (S : Int)
theorem w64_add (S k : Nat) : IntKind.i64.wrap (w64 S + (k : Int)) = w64 (S + k) := by
 unfold w64
 simp only [IntKind.wrap_i64]
 omega
theorem w64_small {S : Nat} (h : S < 9223372036854775808) : w64 S = S := by
 unfold w64
 rw [IntKind.wrap_i64]
 omega
def termsW : List TW → Nat
 | [] => 0
 | t :: l => 1 + t.r.xs.length + t.r.ys.length + termsW l
def conW (c : CW) : Nat := 2 + c.r.xs.length + c.r.ys.length + termsW c.t
def sumW : List CW → Nat
 | [] => 0
 | c :: l => conW c + sumW l
theorem termsW_take {l : List TW} {k : Nat} {t : TW} (h : l[k]? = some t) : termsW (l.take (k + 1)) = termsW (l.take k) + 1 + t.r.xs.length + t.r.ys.length := by
 induction l generalizing k with
 | nil => simp at h
 | cons e l ih =>
  cases k with
  | zero => simp at h; subst h; simp [termsW]
  | succ k =>
   rw [List.getElem?_cons_succ] at h
   rw [List.take_succ_cons, List.take_succ_cons]
   unfold termsW
   rw [ih h]; omega
theorem sumW_take {l : List CW} {k : Nat} {c : CW} (h : l[k]? = some c) : sumW (l.take (k + 1)) = sumW (l.take k) + conW c := by
 induction l generalizing k with
 | nil => simp at h
 | cons e l ih =>
  cases k with
  | zero => simp at h; subst h; simp [sumW]
  | succ k =>
   rw [List.getElem?_cons_succ] at h
   rw [List.take_succ_cons, List.take_succ_cons]
   unfold sumW
   rw [ih h]; omega
theorem termsW_len : ∀ l : List TW, l.length ≤ termsW l ∧ ∀ t ∈ l, t.r.Le (termsW l)
 | [] => ⟨Nat.zero_le _, fun t h => by simp at h⟩
 | t :: l => by
  have h := termsW_len l
  unfold termsW
  refine ⟨by rw [List.length_cons]; omega, fun x hx => ?_⟩
  rcases List.mem_cons.1 hx with rfl | hx
  ·exact ⟨by omega, by omega⟩
  ·have := h.2 x hx
   exact ⟨Nat.le_trans this.1 (by omega), Nat.le_trans this.2 (by omega)⟩
theorem conW_le (c : CW) : c.Le (conW c) ∧ c.t.length ≤ conW c := by
 have h := termsW_len c.t
 unfold conW
 exact ⟨⟨fun t ht => ⟨Nat.le_trans (h.2 t ht).1 (by omega), Nat.le_trans (h.2 t ht).2 (by omega)⟩, by omega, by omega⟩, by omega⟩
end Pg
namespace Go.Proofs.Ytahdlpkncemmaaa
open Go.RowKit Pg
def ConAt (w : World) (b o : Nat) (c : CW) : Prop := ∃ T n m v0 v1 v2, CellsAt w b o [.int .i64 c.s, .slice T n m, v0, v1, v2] ∧ SlAt 4 TermAt w T n m c.t ∧ RowsAt w c.r v0 v1 v2
theorem rvat_len2 {w : World} {y : RV} {r : RW} (h : y.at w r) : r.xs.length = y.n ∧ r.ys.length = y.n' := by
 obtain ⟨A, n, c, A', n', c', _, e, e', h1, h2, _⟩ := h
 injection e with e1 e2 e3
 injection e' with e1' e2' e3'
 exact ⟨by rw [h1.len, e2], by rw [h2.len, e2']⟩
theorem heavy_C {A : Option Addr} {N C : Nat} {l : List CW} (w : World) (hS : SlAt 5 ConAt w A N C l) :
  Calls Try.prog 4 #[.slice A N C] w (ManyRet w (sumW l < 9223372036854775808 → sumW l ≤ 150)) := by
 have HS := hid hS
 obtain ⟨h1, h2, h3, _, _, _⟩ := hS
 go_enter Try.func4, Try.ntmps4
 go_wp2_with fail
 go_loopw [3, 4] (fun s i wr => ∃ j S : Nat, j ≤ N ∧ i = .int .i64 (j : Int) ∧ s = .int .i64 (w64 S) ∧ Hid (S = sumW (l.take j) ∧ (0 < j → w64 S ≤ 150)) ∧ Below w.heap.size w wr) (fun _ i _ => N - (intOf i).toNat)
 case atStart => exact ⟨0, 0, Nat.zero_le _, rfl, rfl, hid ⟨by simp [sumW], fun h => absurd h (by omega)⟩, Below.refl _ _⟩
 case round =>
  obtain ⟨j, S0, hj, rfl, rfl, HQ, hb⟩ := hrel
  by_cases hlt : j < N
  ·obtain ⟨_, _, _, _, _, e6⟩ := HS.out
   obtain ⟨b, o, rfl, hbb, hxs⟩ := e6 (by omega)
   obtain ⟨c, hc⟩ : ∃ c, l[j]? = some c := ⟨l[j]'(by omega), List.getElem?_eq_getElem _⟩
   obtain ⟨T, n, m, v0, v1, v2, hE, hT, hr⟩ := hxs j c hc
   obtain ⟨u, rfl, rfl, rfl, hu⟩ := rows_rv hr
   have hul := rvat_len2 hu
   have HU := hid hul
   have HCc := hid hc
   have HTT := hid hT
   have hnt : c.t.length = n := hT.1
   have hn47 : n ≤ 140737488355328 := by have := hT.2.1; have := hT.2.2.1; omega
   have HE0 := hid fun W (hW : Below w.heap.size w W) => hE.below hbb hW
   have hE1 := hE.below hbb hb
   have k1 := hE1.at_ 1 rfl
   have HE := hid hE1
   have ltb : b < wr.heap.size := Nat.lt_of_lt_of_le hbb hb.size
   have i0 : (0 : Int) ≤ (j : Int) := Int.natCast_nonneg _
   have i1 : (j : Int) < (N : Int) := by omega
   obtain ⟨S, hS⟩ : ∃ S, S0 = S := ⟨_, rfl⟩
   rw [hS]
   have HSS := hid hS
   have e1 : IntKind.i64.wrap (w64 S + 2) = w64 (S + 2) := w64_add S 2
   have e2 := w64_add (S + 2) u.n
   have e3 := w64_add (S + 2 + u.n) u.n'
   clear e6 hxs hc hE hT hr hu hE1 hul hS
   go_upto_region 5 with fail
   refine draw_G (fun _ _ => False) (fun W => Below wr.heap.size wr W) 19 none [some 12, some 13, some 14, some 15, some 16, some 17, some 18, some 19, some 20, some 21, some 22, some 23, some 24, some 25, some 26, some 27, some 28, some 29, some 3] [.is (.int .i64 (w64 (S))), .is (.int .i64 (w64 (S + 2))), .is (.slice (some ⟨b, o, none⟩) N C), .is (.int .i64 (j : Int)), .is (.pointer (some ⟨b, o + j * 5, none⟩)), .is (.pointer (some ⟨b, o + j * 5 + 2, none⟩)), .is (.pointer (some ⟨b, o + j * 5 + 3, none⟩)), .is (.slice u.A u.n u.c), .is (.int .i64 (u.n : Int)), .is (.int .i64 (w64 (S + 2 + u.n))), .is (.slice (some ⟨b, o, none⟩) N C), .is (.int .i64 (j : Int)), .is (.pointer (some ⟨b, o + j * 5, none⟩)), .is (.pointer (some ⟨b, o + j * 5 + 2, none⟩)), .is (.pointer (some ⟨b, o + j * 5 + 4, none⟩)), .is (.slice u.A' u.n' u.c'), .is (.int .i64 (u.n' : Int)), .is (.int .i64 (w64 (S + 2 + u.n + u.n'))), .is (.int .i64 (w64 (S + 2 + u.n + u.n')))]
    (by kernel_rfl) (by kernel_rfl) (by kernel_rfl) (by kernel_rfl) rfl (by kernel_rfl) (fun _ h => h) (fun _ _ h hb => Below.then_ h hb) (fun _ _ _ h => h.elim) (fun _ _ _ _ _ _ h => h.elim) ?_ ?_
   ·refine ⟨?_, ?_, ?_, ?_, ?_, ?_, ?_, ?_, ?_, ?_, ?_, ?_, ?_, ?_, ?_, ?_, ?_, ?_, ?_, trivial⟩
    ·intro a w3 hA K hK
     have t3 := hA.own 18 3 _ rfl (by kernel_rfl) rfl
     go_simp
     exact hK _ _ rfl (Below.refl _ _)
    ·intro a w3 hA K hK
     have t12 := bg_is hA 0 12
     go_simp
     exact hK _ _ Pg.fi_ (Below.refl _ _)
    ·intro a w3 hA K hK
     have t0 := hA.old 0 _ rfl rfl
     go_simp
     exact hK _ _ rfl (Below.refl _ _)
    ·intro a w3 hA K hK
     have t4 := hA.old 4 _ rfl rfl
     go_simp
     exact hK _ _ rfl (Below.refl _ _)
    ·intro a w3 hA K hK
     have t14 := bg_is hA 2 14
     have t15 := bg_is hA 3 15
     go_simp
     exact hK _ _ Pg.fi_ (Below.refl _ _)
    ·intro a w3 hA K hK
     have t16 := bg_is hA 4 16
     go_simp
     exact hK _ _ rfl (Below.refl _ _)
    ·intro a w3 hA K hK
     have t17 := bg_is hA 5 17
     go_simp
     exact hK _ _ rfl (Below.refl _ _)
    ·intro a w3 hA K hK
     have t18 := bg_is hA 6 18
     have k0 := (HE.out.below ltb hA.grown).at_ 3 rfl
     go_simp
     exact hK _ _ rfl (Below.refl _ _)
    ·intro a w3 hA K hK
     have t19 := bg_is hA 7 19
     go_simp
     exact hK _ _ Pg.fi_ (Below.refl _ _)
    ·intro a w3 hA K hK
     have t13 := bg_is hA 1 13
     have t20 := bg_is hA 8 20
     go_simp
     exact hK _ _ Pg.fi_ (Below.refl _ _)
    ·intro a w3 hA K hK
     have t0 := hA.old 0 _ rfl rfl
     go_simp
     exact hK _ _ rfl (Below.refl _ _)
    ·intro a w3 hA K hK
     have t4 := hA.old 4 _ rfl rfl
     go_simp
     exact hK _ _ rfl (Below.refl _ _)
    ·intro a w3 hA K hK
     have t22 := bg_is hA 10 22
     have t23 := bg_is hA 11 23
     go_simp
     exact hK _ _ Pg.fi_ (Below.refl _ _)
    ·intro a w3 hA K hK
     have t24 := bg_is hA 12 24
     go_simp
     exact hK _ _ rfl (Below.refl _ _)
    ·intro a w3 hA K hK
     have t25 := bg_is hA 13 25
     go_simp
     exact hK _ _ rfl (Below.refl _ _)
    ·intro a w3 hA K hK
     have t26 := bg_is hA 14 26
     have k0 := (HE.out.below ltb hA.grown).at_ 4 rfl
     go_simp
     exact hK _ _ rfl (Below.refl _ _)
    ·intro a w3 hA K hK
     have t27 := bg_is hA 15 27
     go_simp
     exact hK _ _ Pg.fi_ (Below.refl _ _)
    ·intro a w3 hA K hK
     have t21 := bg_is hA 9 21
     have t28 := bg_is hA 16 28
     go_simp
     exact hK _ _ Pg.fi_ (Below.refl _ _)
    ·intro a w3 hA K hK
     have t29 := bg_is hA 17 29
     go_simp
     exact hK _ _ Pg.fi_ (Below.refl _ _)
   rintro vs w5 hV hb5 hlk act hact
   repeat (replace hV := hV.is_; obtain ⟨_, rfl, hV⟩ := hV)
   obtain rfl := hV.nil_
   clear hV
   clear hlk
   simp only [putsO] at hact
   subst hact
   go_simp
   clear e1 e2 e3 k1
   have hw5 := Below.then_ hb hb5
   have k1 := (HE0.out _ hw5).at_ 1 rfl
   go_wp2_with fail
   go_loopw [3, 5] (fun s k wr => ∃ q S1 : Nat, q ≤ n ∧ k = .int .i64 (q : Int) ∧ s = .int .i64 (w64 S1) ∧ Hid (S1 = S + 2 + u.n + u.n' + termsW (c.t.take q)) ∧ Below w.heap.size w wr) (fun _ k _ => n - (intOf k).toNat)
   case atStart => exact ⟨0, S + 2 + u.n + u.n', Nat.zero_le _, rfl, rfl, hid (by simp [termsW]), hw5⟩
   case round =>
    clear k1 hb hb5 hw5 HE ltb
    obtain ⟨q, S2, hq, rfl, rfl, HQ2, hb⟩ := hrel
    have hE1 := HE0.out _ hb
    have ltb : b < wr.heap.size := Nat.lt_of_lt_of_le hbb hb.size
    have k1 := hE1.at_ 1 rfl
    by_cases hqt : q < n
    ·obtain ⟨_, _, _, _, _, e6⟩ := HTT.out
     obtain ⟨b2, o2, rfl, hb2, hxt⟩ := e6 (by omega)
     obtain ⟨t, ht⟩ : ∃ t, c.t[q]? = some t := ⟨c.t[q]'(by omega), List.getElem?_eq_getElem _⟩
     obtain ⟨_, _, _, hct, hrt⟩ := termAt_stays _ _ _ _ _ hb2 (hxt q t ht) hb
     obtain ⟨u2, rfl, rfl, rfl, hu2⟩ := rows_rv hrt
     have HU2 := hid (rvat_len2 hu2)
     have HTc := hid ht
     have HT := hid hct
     have lt2 : b2 < wr.heap.size := Nat.lt_of_lt_of_le hb2 hb.size
     have HE := hid hE1
     have i2 : (0 : Int) ≤ (q : Int) := Int.natCast_nonneg _
     have i3 : (q : Int) < (n : Int) := by omega
     obtain ⟨S, hS⟩ : ∃ S, S2 = S := ⟨_, rfl⟩
     rw [hS]
     have HS2 := hid hS
     have e1 : IntKind.i64.wrap (w64 S + 1) = w64 (S + 1) := w64_add S 1
     have e2 := w64_add (S + 1) u2.n
     have e3 := w64_add (S + 1 + u2.n) u2.n'
     clear e6 hxt ht hct hrt hu2 hE1 hS
     go_upto_region 9 with fail
     refine draw_G (fun _ _ => False) (fun W => Below wr.heap.size wr W) 27 none [some 40, some 41, some 42, some 43, some 44, some 45, some 46, some 47, some 48, some 49, some 50, some 51, some 52, some 53, some 54, some 55, some 56, some 57, some 58, some 59, some 60, some 61, some 62, some 63, some 64, some 65, some 3] [.is (.int .i64 (w64 (S))), .is (.int .i64 (w64 (S + 1))), .is (.slice (some ⟨b, o, none⟩) N C), .is (.int .i64 (j : Int)), .is (.pointer (some ⟨b, o + j * 5, none⟩)), .is (.pointer (some ⟨b, o + j * 5 + 1, none⟩)), .is (.slice (some ⟨b2, o2, none⟩) n m), .is (.int .i64 (q : Int)), .is (.pointer (some ⟨b2, o2 + q * 4, none⟩)), .is (.pointer (some ⟨b2, o2 + q * 4 + 1, none⟩)), .is (.pointer (some ⟨b2, o2 + q * 4 + 2, none⟩)), .is (.slice u2.A u2.n u2.c), .is (.int .i64 (u2.n : Int)), .is (.int .i64 (w64 (S + 1 + u2.n))), .is (.slice (some ⟨b, o, none⟩) N C), .is (.int .i64 (j : Int)), .is (.pointer (some ⟨b, o + j * 5, none⟩)), .is (.pointer (some ⟨b, o + j * 5 + 1, none⟩)), .is (.slice (some ⟨b2, o2, none⟩) n m), .is (.int .i64 (q : Int)), .is (.pointer (some ⟨b2, o2 + q * 4, none⟩)), .is (.pointer (some ⟨b2, o2 + q * 4 + 1, none⟩)), .is (.pointer (some ⟨b2, o2 + q * 4 + 3, none⟩)), .is (.slice u2.A' u2.n' u2.c'), .is (.int .i64 (u2.n' : Int)), .is (.int .i64 (w64 (S + 1 + u2.n + u2.n'))), .is (.int .i64 (w64 (S + 1 + u2.n + u2.n')))]
      (by kernel_rfl) (by kernel_rfl) (by kernel_rfl) (by kernel_rfl) rfl (by kernel_rfl) (fun _ h => h) (fun _ _ h hb => Below.then_ h hb) (fun _ _ _ h => h.elim) (fun _ _ _ _ _ _ h => h.elim) ?_ ?_
     ·refine ⟨?_, ?_, ?_, ?_, ?_, ?_, ?_, ?_, ?_, ?_, ?_, ?_, ?_, ?_, ?_, ?_, ?_, ?_, ?_, ?_, ?_, ?_, ?_, ?_, ?_, ?_, ?_, trivial⟩
      ·intro a w3 hA K hK
       have t3 := hA.own 26 3 _ rfl (by kernel_rfl) rfl
       go_simp
       exact hK _ _ rfl (Below.refl _ _)
      ·intro a w3 hA K hK
       have t40 := bg_is hA 0 40
       go_simp
       exact hK _ _ Pg.fi_ (Below.refl _ _)
      ·intro a w3 hA K hK
       have t0 := hA.old 0 _ rfl rfl
       go_simp
       exact hK _ _ rfl (Below.refl _ _)
      ·intro a w3 hA K hK
       have t4 := hA.old 4 _ rfl rfl
       go_simp
       exact hK _ _ rfl (Below.refl _ _)
      ·intro a w3 hA K hK
       have t42 := bg_is hA 2 42
       have t43 := bg_is hA 3 43
       go_simp
       exact hK _ _ Pg.fi_ (Below.refl _ _)
      ·intro a w3 hA K hK
       have t44 := bg_is hA 4 44
       go_simp
       exact hK _ _ rfl (Below.refl _ _)
      ·intro a w3 hA K hK
       have t45 := bg_is hA 5 45
       have k0 := (HE.out.below ltb hA.grown).at_ 1 rfl
       go_simp
       exact hK _ _ rfl (Below.refl _ _)
      ·intro a w3 hA K hK
       have t5 := hA.old 5 _ rfl rfl
       go_simp
       exact hK _ _ rfl (Below.refl _ _)
      ·intro a w3 hA K hK
       have t46 := bg_is hA 6 46
       have t47 := bg_is hA 7 47
       go_simp
       exact hK _ _ Pg.fi_ (Below.refl _ _)
      ·intro a w3 hA K hK
       have t48 := bg_is hA 8 48
       go_simp
       exact hK _ _ rfl (Below.refl _ _)
      ·intro a w3 hA K hK
       have t49 := bg_is hA 9 49
       go_simp
       exact hK _ _ rfl (Below.refl _ _)
      ·intro a w3 hA K hK
       have t50 := bg_is hA 10 50
       have k0 := (HT.out.below lt2 hA.grown).at_ 2 rfl
       go_simp
       exact hK _ _ rfl (Below.refl _ _)
      ·intro a w3 hA K hK
       have t51 := bg_is hA 11 51
       go_simp
       exact hK _ _ Pg.fi_ (Below.refl _ _)
      ·intro a w3 hA K hK
       have t41 := bg_is hA 1 41
       have t52 := bg_is hA 12 52
       go_simp
       exact hK _ _ Pg.fi_ (Below.refl _ _)
      ·intro a w3 hA K hK
       have t0 := hA.old 0 _ rfl rfl
       go_simp
       exact hK _ _ rfl (Below.refl _ _)
      ·intro a w3 hA K hK
       have t4 := hA.old 4 _ rfl rfl
       go_simp
       exact hK _ _ rfl (Below.refl _ _)
      ·intro a w3 hA K hK
       have t54 := bg_is hA 14 54
       have t55 := bg_is hA 15 55
       go_simp
       exact hK _ _ Pg.fi_ (Below.refl _ _)
      ·intro a w3 hA K hK
       have t56 := bg_is hA 16 56
       go_simp
       exact hK _ _ rfl (Below.refl _ _)
      ·intro a w3 hA K hK
       have t57 := bg_is hA 17 57
       have k0 := (HE.out.below ltb hA.grown).at_ 1 rfl
       go_simp
       exact hK _ _ rfl (Below.refl _ _)
      ·intro a w3 hA K hK
       have t5 := hA.old 5 _ rfl rfl
       go_simp
       exact hK _ _ rfl (Below.refl _ _)
      ·intro a w3 hA K hK
       have t58 := bg_is hA 18 58
       have t59 := bg_is hA 19 59
       go_simp
       exact hK _ _ Pg.fi_ (Below.refl _ _)
      ·intro a w3 hA K hK
       have t60 := bg_is hA 20 60
       go_simp
       exact hK _ _ rfl (Below.refl _ _)
      ·intro a w3 hA K hK
       have t61 := bg_is hA 21 61
       go_simp
       exact hK _ _ rfl (Below.refl _ _)
      ·intro a w3 hA K hK
       have t62 := bg_is hA 22 62
       have k0 := (HT.out.below lt2 hA.grown).at_ 3 rfl
       go_simp
       exact hK _ _ rfl (Below.refl _ _)
      ·intro a w3 hA K hK
       have t63 := bg_is hA 23 63
       go_simp
       exact hK _ _ Pg.fi_ (Below.refl _ _)
      ·intro a w3 hA K hK
       have t53 := bg_is hA 13 53
       have t64 := bg_is hA 24 64
       go_simp
       exact hK _ _ Pg.fi_ (Below.refl _ _)
      ·intro a w3 hA K hK
       have t65 := bg_is hA 25 65
       go_simp
       exact hK _ _ Pg.fi_ (Below.refl _ _)
     rintro vs w9 hV hb9 hlk act hact
     repeat (replace hV := hV.is_; obtain ⟨_, rfl, hV⟩ := hV)
     obtain rfl := hV.nil_
     clear hV
     clear hlk
     simp only [putsO] at hact
     subst hact
     go_simp
     go_wp2_with fail
     refine ⟨⟨q + 1, _, by omega, by go_num, rfl, hid ?_, Below.then_ hb hb9⟩, ?_⟩
     ·have h1 := termsW_take HTc.out
      have h2 := HQ2.out
      have h3 := HU2.out
      have h4 := HS2.out
      omega
     ·simp [intOf]; omega
    ·obtain rfl : q = n := by omega
     have hS1 : S2 = sumW (l.take (j + 1)) := by
      have h1 := sumW_take HCc.out
      have h2 := HQ2.out
      rw [List.take_of_length_le (by omega)] at h2
      have h3 := HU.out
      have h4 := HQ.out.1
      have h5 := HSS.out
      unfold conW at h1
      omega
     have HS1 := hid hS1
     clear hS1
     obtain ⟨D, hD⟩ : ∃ D, decide (150 < w64 S2) = D := ⟨_, rfl⟩
     have HD := hid hD
     rcases D with _ | _
     ·go_wp2_with fail
      refine ⟨⟨j + 1, S2, hlt, by go_num, rfl, hid ⟨HS1.out, fun _ => by have := of_decide_eq_false HD.out; omega⟩, hb⟩, ?_⟩
      simp [intOf]; omega
     ·go_wp2_with fail
      go_ret
      exact ⟨true, rfl, (fun h => by cases h), hb⟩
  ·go_wp2_with fail
   go_ret
   refine ⟨false, rfl, fun _ hlt63 => ?_, hb⟩
   have h := HQ.out
   rw [List.take_of_length_le (by omega)] at h
   rcases Nat.eq_zero_or_pos j with h0 | h0
   ·have : l = [] := List.length_eq_zero_iff.1 (by omega)
    subst this
    simp [sumW]
   ·have h5 := h.2 h0
    rw [w64_small (by rw [h.1]; exact hlt63)] at h5
    omega
end Go.Proofs.Ytahdlpkncemmaaa
namespace Go.Proofs.Ytahdlpkncemmaaa
open Go.RowKit Pg
def isL (n : Int) : Int → List TW → Bool
 | _, [] => true
 | a, t :: l => decide (a ≤ t.v) && decide (t.v < n) && t.r.norm && !t.r.xs.isEmpty && isL n (t.v + 1) l
def isW (a : CW) (n : Int) : Bool := decide (0 ≤ a.s) && decide (a.s ≤ 4) && a.r.norm && isL n 0 a.t
theorem r2Is_Q {y : RV} {r : RW} {b : Bool} (w : World) (h : y.at w r) (hr : r.Le 35184372087808) (hb : r.norm = b) :
  Calls Try.prog 12 #[.agg #[.bool y.s, .slice y.A y.n y.c, .slice y.A' y.n' y.c']] w fun e w' => e = .returned (.bool b) ∧ Below w.heap.size w w' := by
 subst hb; exact r2Is_any w h hr
theorem rvat_len {w : World} {y : RV} {r : RW} (h : y.at w r) : r.xs.length = y.n := by
 obtain ⟨A, n, c, A', n', c', _, e, _, h1, _⟩ := h
 injection e with e1 e2 e3
 rw [h1.len, e2]
end Go.Proofs.Ytahdlpkncemmaaa
namespace Go.Proofs.Ytahdlpkncemmaaa
open Go.RowKit Pg
def sameT : List TW → List TW → Bool
 | t :: l, u :: m => decide (t.v = u.v) && eqQ t.r.q u.r.q && sameT l m
 | _, _ => true
def sameW (a b : CW) : Bool := decide (a.s = b.s) && decide (a.t.length = b.t.length) && eqQ a.r.q b.r.q && sameT a.t b.t
theorem sameT_refl : ∀ l : List TW, sameT l l = true
 | [] => rfl
 | t :: l => by simp [sameT, eqQ, sameT_refl l]
theorem sameW_refl (a : CW) : sameW a a = true := by simp [sameW, eqQ, sameT_refl]
theorem rSame_C {va vb : Value} {a b : CW} {k : Nat} (w : World) (ha : ConVal w va a) (hb : ConVal w vb b) (hla : a.Le k) (hlb : b.Le k) (hk : k ≤ 262144) {Q : Bool} (hQ : sameW a b = Q) :
  Calls Try.prog 9 #[va, vb] w fun e w' => e = .returned (.bool Q) ∧ Below w.heap.size w w' := by
 obtain ⟨T, n, m, x, rfl, hca⟩ := ha.cv
 obtain ⟨T', n', m', x', rfl, hcb⟩ := hb.cv
 obtain ⟨E, hE⟩ : ∃ E, eqQ a.r.q b.r.q = E := ⟨_, rfl⟩
 have HS := hid fun W (hW : Below w.heap.size w W) => r2Same_Q W (hca.2.below hW) (hcb.2.below hW) hla.2 hlb.2 hk hE
 have HTa := hid hca.1
 have HTb := hid hcb.1
 have HLa := hid hla.1
 have HLb := hid hlb.1
 have hna : a.t.length = n := hca.1.1
 have hnb : b.t.length = n' := hcb.1.1
 have hQ' : Q = (decide (a.s = b.s) && decide (n = n') && E && sameT a.t b.t) := by rw [← hQ, sameW, hna, hnb, hE]
 clear ha hb hla hlb hQ hca hcb
 go_enter Try.func9, Try.ntmps9
 go_upto_region 1 with fail
 refine wp_world (F := fun W => (Bs W w.heap.size 27 [.int .i64 a.s, .slice T n m, .bool x.s, .slice x.A x.n x.c, .slice x.A' x.n' x.c'] ∧ Bs W (w.heap.size + 1) 27 [.int .i64 b.s, .slice T' n' m', .bool x'.s, .slice x'.A x'.n x'.c, .slice x'.A' x'.n' x'.c']) ∧ Below w.heap.size w W)
  ⟨⟨(Bs.new w _ _ _ rfl).alloc _, Bs.new _ _ _ _ (by simp)⟩, Pg.bel⟩ ?_
 rintro w1 ⟨⟨HA1, HB1⟩, hb1⟩
 have a0 := HA1.cell 0 rfl
 have a1 := HA1.cell 1 rfl
 have a2 := HA1.cell 2 rfl
 have a3 := HA1.cell 3 rfl
 have a4 := HA1.cell 4 rfl
 have b0 := HB1.cell 0 rfl
 have b1 := HB1.cell 1 rfl
 have b2 := HB1.cell 2 rfl
 have b3 := HB1.cell 3 rfl
 have b4 := HB1.cell 4 rfl
 by_cases hs : a.s = b.s
 ·have s1 : (a.s != b.s) = false := by rw [hs]; simp
  by_cases hn : n = n'
  ·have s2 : ((n : Int) != (n' : Int)) = false := by rw [hn]; simp
   rcases E with _ | _
   ·obtain rfl : Q = false := by rw [hQ']; simp
    clear hQ' hs hn
    go_wp2_with (go_at_call 19; (with_reducible refine (HS.out _ hb1).mono ?_); rintro e w5 ⟨rfl, hb5⟩)
    go_ret
    exact ⟨rfl, Below.then_ hb1 hb5⟩
   ·have HQ := hid (show sameT a.t b.t = Q by rw [hQ', hs, hn]; simp)
    have hz0 : ((0 : Int) ≤ 0) := by omega
    have hn1 : n ≤ n' := by omega
    have hn2 : n' ≤ n := by omega
    clear hQ' hs hn
    have HA := hid HA1
    have HB := hid HB1
    go_wp2_with (go_at_call 19; (with_reducible refine (HS.out _ hb1).mono ?_); rintro e w5 ⟨rfl, hb5⟩; have HA5 := hid (HA.out.below hb5); have HB5 := hid (HB.out.below hb5); have hbw := Below.then_ hb1 hb5; clear a0 a1 a2 a3 a4 b0 b1 b2 b3 b4 hb5 HA1 HB1)
    go_loopw [5] (fun i wr => ∃ j : Nat, j ≤ n ∧ i = .int .i64 (j : Int) ∧ Hid (sameT (a.t.drop j) (b.t.drop j) = Q) ∧ Hid (Bs wr w.heap.size 27 [.int .i64 a.s, .slice T n m, .bool x.s, .slice x.A x.n x.c, .slice x.A' x.n' x.c']) ∧ Hid (Bs wr (w.heap.size + 1) 27 [.int .i64 b.s, .slice T' n' m', .bool x'.s, .slice x'.A x'.n x'.c, .slice x'.A' x'.n' x'.c']) ∧ Below w.heap.size w wr) (fun i _ => n - (intOf i).toNat)
    case atStart => exact ⟨0, Nat.zero_le _, rfl, hid HQ.out, HA5, HB5, hbw⟩
    case round =>
     obtain ⟨j, hj, rfl, HQ, HA, HB, hb⟩ := hrel
     clear HA5 HB5 hbw hb1
     have a0 := HA.out.cell 0 rfl
     have a1 := HA.out.cell 1 rfl
     have a2 := HA.out.cell 2 rfl
     have a3 := HA.out.cell 3 rfl
     have a4 := HA.out.cell 4 rfl
     have b0 := HB.out.cell 0 rfl
     have b1 := HB.out.cell 1 rfl
     have b2 := HB.out.cell 2 rfl
     have b3 := HB.out.cell 3 rfl
     have b4 := HB.out.cell 4 rfl
     by_cases hlt : j < n
     ·have hlt' : j < n' := by omega
      obtain ⟨e1L, _, _, _, _, e6L⟩ := HTa.out
      obtain ⟨bL, oL, rfl, hbL, hxL⟩ := e6L (by omega)
      obtain ⟨tL, htL⟩ : ∃ t, a.t[j]? = some t := ⟨a.t[j]'(by omega), List.getElem?_eq_getElem _⟩
      obtain ⟨x0L, x1L, x2L, hcL, hu0L⟩ := termAt_stays _ _ _ _ _ hbL (hxL j tL htL) hb
      obtain ⟨uL, rfl, rfl, rfl, huL⟩ := rows_rv hu0L
      have HCL := hid hcL
      have HUL := hid huL
      have HleL := HLa.out tL (List.mem_of_getElem? htL)
      have hdL := hid (drop_cons htL)
      have ltL : bL < wr.heap.size := Nat.lt_of_lt_of_le hbL hb.size
      have iL1 : (j : Int) < (n : Int) := by omega
      clear e1L e6L hxL htL hcL hu0L huL
      obtain ⟨e1M, _, _, _, _, e6M⟩ := HTb.out
      obtain ⟨bM, oM, rfl, hbM, hxM⟩ := e6M (by omega)
      obtain ⟨tM, htM⟩ : ∃ t, b.t[j]? = some t := ⟨b.t[j]'(by omega), List.getElem?_eq_getElem _⟩
      obtain ⟨x0M, x1M, x2M, hcM, hu0M⟩ := termAt_stays _ _ _ _ _ hbM (hxM j tM htM) hb
      obtain ⟨uM, rfl, rfl, rfl, huM⟩ := rows_rv hu0M
      have HCM := hid hcM
      have HUM := hid huM
      have HleM := HLb.out tM (List.mem_of_getElem? htM)
      have hdM := hid (drop_cons htM)
      have ltM : bM < wr.heap.size := Nat.lt_of_lt_of_le hbM hb.size
      have iM1 : (j : Int) < (n' : Int) := by omega
      clear e1M e6M hxM htM hcM hu0M huM
      replace HQ := HQ.out
      rw [hdL.out, hdM.out] at HQ
      simp only [sameT] at HQ
      replace HQ := hid HQ
      by_cases hv : tL.v = tM.v
      ·have v1 : (tL.v != tM.v) = false := by rw [hv]; simp
       obtain ⟨E, hE⟩ : ∃ E, eqQ tL.r.q tM.r.q = E := ⟨_, rfl⟩
       replace HQ := HQ.out
       rw [hE, decide_eq_true hv] at HQ
       replace HQ := hid HQ
       clear hv
       rcases E with _ | _
       ·obtain rfl : false = Q := HQ.out
        go_upto_region 6 with fail
        refine draw_G (fun _ _ => False) (fun W => Below wr.heap.size wr W) 29 none [some 35, some 36, some 37, some 38, some 39, some 40, some 41, some 42, some 43, some 44, some 45, some 46, some 47, some 48, some 49, some 50, some 51, some 52, some 53, some 54, some 55, some 56, some 57, some 58, some 59, some 60, some 61, some 62, some 63] [.is (.pointer (some ⟨w.heap.size, 1, none⟩)), .is (.slice (some ⟨bL, oL, none⟩) n m), .is (.int .i64 (j : Int)), .is (.pointer (some ⟨bL, oL + j * 4, none⟩)), .is (.pointer (some ⟨bL, oL + j * 4, none⟩)), .is (.int .i64 tL.v), .is (.pointer (some ⟨w.heap.size + 1, 1, none⟩)), .is (.slice (some ⟨bM, oM, none⟩) n' m'), .is (.int .i64 (j : Int)), .is (.pointer (some ⟨bM, oM + j * 4, none⟩)), .is (.pointer (some ⟨bM, oM + j * 4, none⟩)), .is (.int .i64 tM.v), .is (.bool false), .is (.bool false), .is (.pointer (some ⟨w.heap.size, 1, none⟩)), .is (.slice (some ⟨bL, oL, none⟩) n m), .is (.int .i64 (j : Int)), .is (.pointer (some ⟨bL, oL + j * 4, none⟩)), .is (.pointer (some ⟨bL, oL + j * 4 + 1, none⟩)), .is (.agg #[.bool uL.s, .slice uL.A uL.n uL.c, .slice uL.A' uL.n' uL.c']), .is (.pointer (some ⟨w.heap.size + 1, 1, none⟩)), .is (.slice (some ⟨bM, oM, none⟩) n' m'), .is (.int .i64 (j : Int)), .is (.pointer (some ⟨bM, oM + j * 4, none⟩)), .is (.pointer (some ⟨bM, oM + j * 4 + 1, none⟩)), .is (.agg #[.bool uM.s, .slice uM.A uM.n uM.c, .slice uM.A' uM.n' uM.c']), .is (.bool false), .is (.bool true), .is (.bool true)]
         (by kernel_rfl) (by kernel_rfl) (by kernel_rfl) (by kernel_rfl) rfl (by kernel_rfl) (fun _ h => h) (fun _ _ h hb => Below.then_ h hb) (fun _ _ _ h => h.elim) (fun _ _ _ _ _ _ h => h.elim) ?_ ?_
        ·refine ⟨?_, ?_, ?_, ?_, ?_, ?_, ?_, ?_, ?_, ?_, ?_, ?_, ?_, ?_, ?_, ?_, ?_, ?_, ?_, ?_, ?_, ?_, ?_, ?_, ?_, ?_, ?_, ?_, ?_, trivial⟩
         ·intro a w3 hA K hK
          have t2 := hA.old 2 _ rfl rfl
          go_simp
          exact hK _ _ rfl (Below.refl _ _)
         ·intro a w3 hA K hK
          have t35 := bg_is hA 0 35
          have k0 := (HA.out.below hA.grown).cell 1 rfl
          go_simp
          exact hK _ _ rfl (Below.refl _ _)
         ·intro a w3 hA K hK
          have t5 := hA.old 5 _ rfl rfl
          go_simp
          exact hK _ _ rfl (Below.refl _ _)
         ·intro a w3 hA K hK
          have t36 := bg_is hA 1 36
          have t37 := bg_is hA 2 37
          go_simp
          exact hK _ _ Pg.fi_ (Below.refl _ _)
         ·intro a w3 hA K hK
          have t38 := bg_is hA 3 38
          go_simp
          exact hK _ _ rfl (Below.refl _ _)
         ·intro a w3 hA K hK
          have t39 := bg_is hA 4 39
          have k0 : w3.cell? ⟨bL, oL + j * 4, none⟩ = some (.int .i64 tL.v) := (HCL.out.below ltL hA.grown).at_ 0 rfl
          go_simp
          exact hK _ _ rfl (Below.refl _ _)
         ·intro a w3 hA K hK
          have t3 := hA.old 3 _ rfl rfl
          go_simp
          exact hK _ _ rfl (Below.refl _ _)
         ·intro a w3 hA K hK
          have t41 := bg_is hA 6 41
          have k0 := (HB.out.below hA.grown).cell 1 rfl
          go_simp
          exact hK _ _ rfl (Below.refl _ _)
         ·intro a w3 hA K hK
          have t5 := hA.old 5 _ rfl rfl
          go_simp
          exact hK _ _ rfl (Below.refl _ _)
         ·intro a w3 hA K hK
          have t42 := bg_is hA 7 42
          have t43 := bg_is hA 8 43
          go_simp
          exact hK _ _ Pg.fi_ (Below.refl _ _)
         ·intro a w3 hA K hK
          have t44 := bg_is hA 9 44
          go_simp
          exact hK _ _ rfl (Below.refl _ _)
         ·intro a w3 hA K hK
          have t45 := bg_is hA 10 45
          have k0 : w3.cell? ⟨bM, oM + j * 4, none⟩ = some (.int .i64 tM.v) := (HCM.out.below ltM hA.grown).at_ 0 rfl
          go_simp
          exact hK _ _ rfl (Below.refl _ _)
         ·intro a w3 hA K hK
          have t40 := bg_is hA 5 40
          have t46 := bg_is hA 11 46
          go_simp
          exact hK _ _ Pg.fi_ (Below.refl _ _)
         ·intro a w3 hA K hK
          have t47 := bg_is hA 12 47
          go_simp
          exact hK _ _ rfl (Below.refl _ _)
         ·intro a w3 hA K hK
          have t2 := hA.old 2 _ rfl rfl
          go_simp
          exact hK _ _ rfl (Below.refl _ _)
         ·intro a w3 hA K hK
          have t49 := bg_is hA 14 49
          have k0 := (HA.out.below hA.grown).cell 1 rfl
          go_simp
          exact hK _ _ rfl (Below.refl _ _)
         ·intro a w3 hA K hK
          have t5 := hA.old 5 _ rfl rfl
          go_simp
          exact hK _ _ rfl (Below.refl _ _)
         ·intro a w3 hA K hK
          have t50 := bg_is hA 15 50
          have t51 := bg_is hA 16 51
          go_simp
          exact hK _ _ Pg.fi_ (Below.refl _ _)
         ·intro a w3 hA K hK
          have t52 := bg_is hA 17 52
          go_simp
          exact hK _ _ rfl (Below.refl _ _)
         ·intro a w3 hA K hK
          have t53 := bg_is hA 18 53
          have k0 := (HCL.out.below ltL hA.grown).at_ 1 rfl
          have k1 := (HCL.out.below ltL hA.grown).at_ 2 rfl
          have k2 := (HCL.out.below ltL hA.grown).at_ 3 rfl
          go_simp
          exact hK _ _ rfl (Below.refl _ _)
         ·intro a w3 hA K hK
          have t3 := hA.old 3 _ rfl rfl
          go_simp
          exact hK _ _ rfl (Below.refl _ _)
         ·intro a w3 hA K hK
          have t55 := bg_is hA 20 55
          have k0 := (HB.out.below hA.grown).cell 1 rfl
          go_simp
          exact hK _ _ rfl (Below.refl _ _)
         ·intro a w3 hA K hK
          have t5 := hA.old 5 _ rfl rfl
          go_simp
          exact hK _ _ rfl (Below.refl _ _)
         ·intro a w3 hA K hK
          have t56 := bg_is hA 21 56
          have t57 := bg_is hA 22 57
          go_simp
          exact hK _ _ Pg.fi_ (Below.refl _ _)
         ·intro a w3 hA K hK
          have t58 := bg_is hA 23 58
          go_simp
          exact hK _ _ rfl (Below.refl _ _)
         ·intro a w3 hA K hK
          have t59 := bg_is hA 24 59
          have k0 := (HCM.out.below ltM hA.grown).at_ 1 rfl
          have k1 := (HCM.out.below ltM hA.grown).at_ 2 rfl
          have k2 := (HCM.out.below ltM hA.grown).at_ 3 rfl
          go_simp
          exact hK _ _ rfl (Below.refl _ _)
         ·intro a w3 hA K hK
          have t54 := bg_is hA 19 54
          have t60 := bg_is hA 25 60
          have hC := r2Same_Q w3 (HUL.out.below hA.grown) (HUM.out.below hA.grown) HleL HleM hk hE
          go_simp
          refine hC.mono ?_
          rintro e w4 ⟨rfl, hb⟩
          exact hK _ _ rfl hb
         ·intro a w3 hA K hK
          have t61 := bg_is hA 26 61
          go_simp
          exact hK _ _ Pg.fi_ (Below.refl _ _)
         ·intro a w3 hA K hK
          have t48 := bg_is hA 13 48
          have t62 := bg_is hA 27 62
          go_simp
          exact hK _ _ Pg.fi_ (Below.refl _ _)
        rintro vs w4 hV hb4 hlk act hact
        repeat (replace hV := hV.is_; obtain ⟨_, rfl, hV⟩ := hV)
        obtain rfl := hV.nil_
        clear hV
        clear hlk
        simp only [putsO] at hact
        subst hact
        go_simp
        have hbz := Below.then_ hb hb4
        go_wp2_with fail
        go_ret
        exact ⟨rfl, hbz⟩
       ·have HQ' := hid (show sameT (a.t.drop (j + 1)) (b.t.drop (j + 1)) = Q by rw [← HQ.out]; simp)
        go_upto_region 6 with fail
        refine draw_G (fun _ _ => False) (fun W => Below wr.heap.size wr W) 29 none [some 35, some 36, some 37, some 38, some 39, some 40, some 41, some 42, some 43, some 44, some 45, some 46, some 47, some 48, some 49, some 50, some 51, some 52, some 53, some 54, some 55, some 56, some 57, some 58, some 59, some 60, some 61, some 62, some 63] [.is (.pointer (some ⟨w.heap.size, 1, none⟩)), .is (.slice (some ⟨bL, oL, none⟩) n m), .is (.int .i64 (j : Int)), .is (.pointer (some ⟨bL, oL + j * 4, none⟩)), .is (.pointer (some ⟨bL, oL + j * 4, none⟩)), .is (.int .i64 tL.v), .is (.pointer (some ⟨w.heap.size + 1, 1, none⟩)), .is (.slice (some ⟨bM, oM, none⟩) n' m'), .is (.int .i64 (j : Int)), .is (.pointer (some ⟨bM, oM + j * 4, none⟩)), .is (.pointer (some ⟨bM, oM + j * 4, none⟩)), .is (.int .i64 tM.v), .is (.bool false), .is (.bool false), .is (.pointer (some ⟨w.heap.size, 1, none⟩)), .is (.slice (some ⟨bL, oL, none⟩) n m), .is (.int .i64 (j : Int)), .is (.pointer (some ⟨bL, oL + j * 4, none⟩)), .is (.pointer (some ⟨bL, oL + j * 4 + 1, none⟩)), .is (.agg #[.bool uL.s, .slice uL.A uL.n uL.c, .slice uL.A' uL.n' uL.c']), .is (.pointer (some ⟨w.heap.size + 1, 1, none⟩)), .is (.slice (some ⟨bM, oM, none⟩) n' m'), .is (.int .i64 (j : Int)), .is (.pointer (some ⟨bM, oM + j * 4, none⟩)), .is (.pointer (some ⟨bM, oM + j * 4 + 1, none⟩)), .is (.agg #[.bool uM.s, .slice uM.A uM.n uM.c, .slice uM.A' uM.n' uM.c']), .is (.bool true), .is (.bool false), .is (.bool false)]
         (by kernel_rfl) (by kernel_rfl) (by kernel_rfl) (by kernel_rfl) rfl (by kernel_rfl) (fun _ h => h) (fun _ _ h hb => Below.then_ h hb) (fun _ _ _ h => h.elim) (fun _ _ _ _ _ _ h => h.elim) ?_ ?_
        ·refine ⟨?_, ?_, ?_, ?_, ?_, ?_, ?_, ?_, ?_, ?_, ?_, ?_, ?_, ?_, ?_, ?_, ?_, ?_, ?_, ?_, ?_, ?_, ?_, ?_, ?_, ?_, ?_, ?_, ?_, trivial⟩
         ·intro a w3 hA K hK
          have t2 := hA.old 2 _ rfl rfl
          go_simp
          exact hK _ _ rfl (Below.refl _ _)
         ·intro a w3 hA K hK
          have t35 := bg_is hA 0 35
          have k0 := (HA.out.below hA.grown).cell 1 rfl
          go_simp
          exact hK _ _ rfl (Below.refl _ _)
         ·intro a w3 hA K hK
          have t5 := hA.old 5 _ rfl rfl
          go_simp
          exact hK _ _ rfl (Below.refl _ _)
         ·intro a w3 hA K hK
          have t36 := bg_is hA 1 36
          have t37 := bg_is hA 2 37
          go_simp
          exact hK _ _ Pg.fi_ (Below.refl _ _)
         ·intro a w3 hA K hK
          have t38 := bg_is hA 3 38
          go_simp
          exact hK _ _ rfl (Below.refl _ _)
         ·intro a w3 hA K hK
          have t39 := bg_is hA 4 39
          have k0 : w3.cell? ⟨bL, oL + j * 4, none⟩ = some (.int .i64 tL.v) := (HCL.out.below ltL hA.grown).at_ 0 rfl
          go_simp
          exact hK _ _ rfl (Below.refl _ _)
         ·intro a w3 hA K hK
          have t3 := hA.old 3 _ rfl rfl
          go_simp
          exact hK _ _ rfl (Below.refl _ _)
         ·intro a w3 hA K hK
          have t41 := bg_is hA 6 41
          have k0 := (HB.out.below hA.grown).cell 1 rfl
          go_simp
          exact hK _ _ rfl (Below.refl _ _)
         ·intro a w3 hA K hK
          have t5 := hA.old 5 _ rfl rfl
          go_simp
          exact hK _ _ rfl (Below.refl _ _)
         ·intro a w3 hA K hK
          have t42 := bg_is hA 7 42
          have t43 := bg_is hA 8 43
          go_simp
          exact hK _ _ Pg.fi_ (Below.refl _ _)
         ·intro a w3 hA K hK
          have t44 := bg_is hA 9 44
          go_simp
          exact hK _ _ rfl (Below.refl _ _)
         ·intro a w3 hA K hK
          have t45 := bg_is hA 10 45
          have k0 : w3.cell? ⟨bM, oM + j * 4, none⟩ = some (.int .i64 tM.v) := (HCM.out.below ltM hA.grown).at_ 0 rfl
          go_simp
          exact hK _ _ rfl (Below.refl _ _)
         ·intro a w3 hA K hK
          have t40 := bg_is hA 5 40
          have t46 := bg_is hA 11 46
          go_simp
          exact hK _ _ Pg.fi_ (Below.refl _ _)
         ·intro a w3 hA K hK
          have t47 := bg_is hA 12 47
          go_simp
          exact hK _ _ rfl (Below.refl _ _)
         ·intro a w3 hA K hK
          have t2 := hA.old 2 _ rfl rfl
          go_simp
          exact hK _ _ rfl (Below.refl _ _)
         ·intro a w3 hA K hK
          have t49 := bg_is hA 14 49
          have k0 := (HA.out.below hA.grown).cell 1 rfl
          go_simp
          exact hK _ _ rfl (Below.refl _ _)
         ·intro a w3 hA K hK
          have t5 := hA.old 5 _ rfl rfl
          go_simp
          exact hK _ _ rfl (Below.refl _ _)
         ·intro a w3 hA K hK
          have t50 := bg_is hA 15 50
          have t51 := bg_is hA 16 51
          go_simp
          exact hK _ _ Pg.fi_ (Below.refl _ _)
         ·intro a w3 hA K hK
          have t52 := bg_is hA 17 52
          go_simp
          exact hK _ _ rfl (Below.refl _ _)
         ·intro a w3 hA K hK
          have t53 := bg_is hA 18 53
          have k0 := (HCL.out.below ltL hA.grown).at_ 1 rfl
          have k1 := (HCL.out.below ltL hA.grown).at_ 2 rfl
          have k2 := (HCL.out.below ltL hA.grown).at_ 3 rfl
          go_simp
          exact hK _ _ rfl (Below.refl _ _)
         ·intro a w3 hA K hK
          have t3 := hA.old 3 _ rfl rfl
          go_simp
          exact hK _ _ rfl (Below.refl _ _)
         ·intro a w3 hA K hK
          have t55 := bg_is hA 20 55
          have k0 := (HB.out.below hA.grown).cell 1 rfl
          go_simp
          exact hK _ _ rfl (Below.refl _ _)
         ·intro a w3 hA K hK
          have t5 := hA.old 5 _ rfl rfl
          go_simp
          exact hK _ _ rfl (Below.refl _ _)
         ·intro a w3 hA K hK
          have t56 := bg_is hA 21 56
          have t57 := bg_is hA 22 57
          go_simp
          exact hK _ _ Pg.fi_ (Below.refl _ _)
         ·intro a w3 hA K hK
          have t58 := bg_is hA 23 58
          go_simp
          exact hK _ _ rfl (Below.refl _ _)
         ·intro a w3 hA K hK
          have t59 := bg_is hA 24 59
          have k0 := (HCM.out.below ltM hA.grown).at_ 1 rfl
          have k1 := (HCM.out.below ltM hA.grown).at_ 2 rfl
          have k2 := (HCM.out.below ltM hA.grown).at_ 3 rfl
          go_simp
          exact hK _ _ rfl (Below.refl _ _)
         ·intro a w3 hA K hK
          have t54 := bg_is hA 19 54
          have t60 := bg_is hA 25 60
          have hC := r2Same_Q w3 (HUL.out.below hA.grown) (HUM.out.below hA.grown) HleL HleM hk hE
          go_simp
          refine hC.mono ?_
          rintro e w4 ⟨rfl, hb⟩
          exact hK _ _ rfl hb
         ·intro a w3 hA K hK
          have t61 := bg_is hA 26 61
          go_simp
          exact hK _ _ Pg.fi_ (Below.refl _ _)
         ·intro a w3 hA K hK
          have t48 := bg_is hA 13 48
          have t62 := bg_is hA 27 62
          go_simp
          exact hK _ _ Pg.fi_ (Below.refl _ _)
        rintro vs w4 hV hb4 hlk act hact
        repeat (replace hV := hV.is_; obtain ⟨_, rfl, hV⟩ := hV)
        obtain rfl := hV.nil_
        clear hV
        clear hlk
        simp only [putsO] at hact
        subst hact
        go_simp
        have hbz := Below.then_ hb hb4
        have HA4 := hid (HA.out.below hb4)
        have HB4 := hid (HB.out.below hb4)
        clear a0 a1 a2 a3 a4 b0 b1 b2 b3 b4
        go_wp2_with fail
        refine ⟨⟨j + 1, hlt, by go_num, HQ', HA4, HB4, hbz⟩, ?_⟩
        simp [intOf]; omega
      ·have v1 : (tL.v != tM.v) = true := bne_iff_ne.2 hv
       obtain rfl : false = Q := by rw [← HQ.out, decide_eq_false hv]; rfl
       go_upto_region 6 with fail
       refine draw_G (fun _ _ => False) (fun W => Below wr.heap.size wr W) 29 none [some 35, some 36, some 37, some 38, some 39, some 40, some 41, some 42, some 43, some 44, some 45, some 46, some 47, some 48, some 49, some 50, some 51, some 52, some 53, some 54, some 55, some 56, some 57, some 58, some 59, some 60, some 61, some 62, some 63] [.is (.pointer (some ⟨w.heap.size, 1, none⟩)), .is (.slice (some ⟨bL, oL, none⟩) n m), .is (.int .i64 (j : Int)), .is (.pointer (some ⟨bL, oL + j * 4, none⟩)), .is (.pointer (some ⟨bL, oL + j * 4, none⟩)), .is (.int .i64 tL.v), .is (.pointer (some ⟨w.heap.size + 1, 1, none⟩)), .is (.slice (some ⟨bM, oM, none⟩) n' m'), .is (.int .i64 (j : Int)), .is (.pointer (some ⟨bM, oM + j * 4, none⟩)), .is (.pointer (some ⟨bM, oM + j * 4, none⟩)), .is (.int .i64 tM.v), .is (.bool true), .is (.bool true), .is (undef), .is (undef), .is (undef), .is (undef), .is (undef), .is (undef), .is (undef), .is (undef), .is (undef), .is (undef), .is (undef), .is (undef), .is (undef), .is (undef), .is (.bool true)]
        (by kernel_rfl) (by kernel_rfl) (by kernel_rfl) (by kernel_rfl) rfl (by kernel_rfl) (fun _ h => h) (fun _ _ h hb => Below.then_ h hb) (fun _ _ _ h => h.elim) (fun _ _ _ _ _ _ h => h.elim) ?_ ?_
       ·refine ⟨?_, ?_, ?_, ?_, ?_, ?_, ?_, ?_, ?_, ?_, ?_, ?_, ?_, ?_, ?_, ?_, ?_, ?_, ?_, ?_, ?_, ?_, ?_, ?_, ?_, ?_, ?_, ?_, ?_, trivial⟩
        ·intro a w3 hA K hK
         have t2 := hA.old 2 _ rfl rfl
         go_simp
         exact hK _ _ rfl (Below.refl _ _)
        ·intro a w3 hA K hK
         have t35 := bg_is hA 0 35
         have k0 := (HA.out.below hA.grown).cell 1 rfl
         go_simp
         exact hK _ _ rfl (Below.refl _ _)
        ·intro a w3 hA K hK
         have t5 := hA.old 5 _ rfl rfl
         go_simp
         exact hK _ _ rfl (Below.refl _ _)
        ·intro a w3 hA K hK
         have t36 := bg_is hA 1 36
         have t37 := bg_is hA 2 37
         go_simp
         exact hK _ _ Pg.fi_ (Below.refl _ _)
        ·intro a w3 hA K hK
         have t38 := bg_is hA 3 38
         go_simp
         exact hK _ _ rfl (Below.refl _ _)
        ·intro a w3 hA K hK
         have t39 := bg_is hA 4 39
         have k0 : w3.cell? ⟨bL, oL + j * 4, none⟩ = some (.int .i64 tL.v) := (HCL.out.below ltL hA.grown).at_ 0 rfl
         go_simp
         exact hK _ _ rfl (Below.refl _ _)
        ·intro a w3 hA K hK
         have t3 := hA.old 3 _ rfl rfl
         go_simp
         exact hK _ _ rfl (Below.refl _ _)
        ·intro a w3 hA K hK
         have t41 := bg_is hA 6 41
         have k0 := (HB.out.below hA.grown).cell 1 rfl
         go_simp
         exact hK _ _ rfl (Below.refl _ _)
        ·intro a w3 hA K hK
         have t5 := hA.old 5 _ rfl rfl
         go_simp
         exact hK _ _ rfl (Below.refl _ _)
        ·intro a w3 hA K hK
         have t42 := bg_is hA 7 42
         have t43 := bg_is hA 8 43
         go_simp
         exact hK _ _ Pg.fi_ (Below.refl _ _)
        ·intro a w3 hA K hK
         have t44 := bg_is hA 9 44
         go_simp
         exact hK _ _ rfl (Below.refl _ _)
        ·intro a w3 hA K hK
         have t45 := bg_is hA 10 45
         have k0 : w3.cell? ⟨bM, oM + j * 4, none⟩ = some (.int .i64 tM.v) := (HCM.out.below ltM hA.grown).at_ 0 rfl
         go_simp
         exact hK _ _ rfl (Below.refl _ _)
        ·intro a w3 hA K hK
         have t40 := bg_is hA 5 40
         have t46 := bg_is hA 11 46
         go_simp
         exact hK _ _ Pg.fi_ (Below.refl _ _)
        ·intro a w3 hA K hK
         have t47 := bg_is hA 12 47
         go_simp
         exact hK _ _ rfl (Below.refl _ _)
        ·exact rfl
        ·exact rfl
        ·exact rfl
        ·exact rfl
        ·exact rfl
        ·exact rfl
        ·exact rfl
        ·exact rfl
        ·exact rfl
        ·exact rfl
        ·exact rfl
        ·exact rfl
        ·exact rfl
        ·exact rfl
        ·intro a w3 hA K hK
         have t48 := bg_is hA 13 48
         have t62 := bg_is hA 27 62
         go_simp
         exact hK _ _ Pg.fi_ (Below.refl _ _)
       rintro vs w4 hV hb4 hlk act hact
       repeat (replace hV := hV.is_; obtain ⟨_, rfl, hV⟩ := hV)
       obtain rfl := hV.nil_
       clear hV
       clear hlk
       simp only [putsO] at hact
       subst hact
       go_simp
       have hbz := Below.then_ hb hb4
       go_wp2_with fail
       go_ret
       exact ⟨rfl, hbz⟩
     ·go_wp2_with fail
      go_ret
      refine ⟨?_, hb⟩
      have h := HQ.out
      rw [List.drop_of_length_le (by omega)] at h
      rw [← h]; cases b.t.drop j <;> rfl
  ·have s2 : ((n : Int) != (n' : Int)) = true := bne_iff_ne.2 (by omega)
   obtain rfl : Q = false := by rw [hQ', decide_eq_false hn]; simp
   clear hQ' hs
   go_wp2_with fail
   go_ret
   exact ⟨rfl, hb1⟩
 ·have s1 : (a.s != b.s) = true := bne_iff_ne.2 hs
  obtain rfl : Q = false := by rw [hQ', decide_eq_false hs]; simp
  clear hQ'
  go_wp2_with fail
  go_ret
  exact ⟨rfl, hb1⟩
end Go.Proofs.Ytahdlpkncemmaaa
