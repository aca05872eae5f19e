/- Walk · Walk · Walk. Conditions: those that each theorem names. -/
import Derived.Test.YtahdlpkncemmaaaGreatX37
import Derived.Test.YtahdlpkncemmaaaGreatX31
import Derived.Deep.CutBlock
import Derived.Deep.CutRange
import Derived.Deep.QuietTactic
import Derived.BigQuiet
import Derived.Test.YtahdlpkncemmaaaGreatX36
import Derived.Test.YtahdlpkncemmaaaGreatX34
set_option maxRecDepth 100000
set_option maxHeartbeats 8000000
set_option linter.unusedSimpArgs false
set_option linter.unusedVariables false
namespace Pg
open Go Go.RowKit
theorem SlAt.tail {α : Type} {sz : Nat} {E : World → Nat → Nat → α → Prop} {w : World} {b o n c : Nat} {x : α} {l : List α} (h : SlAt sz E w (some ⟨b, o, none⟩) n c (x :: l)) {L : Option Addr} (hL : L = some ⟨b, o + sz, none⟩ ∨ (c = 1 ∧ L = some ⟨b, o, none⟩)) : SlAt sz E w L (n - 1) (c - 1) l := by
 obtain ⟨h1, h2, h3, h4, _, h6⟩ := h
 rw [List.length_cons] at h1
 refine ⟨by omega, by omega, by omega, by omega, ?_, fun hn => ?_⟩
 ·rintro rfl
  rcases hL with e | ⟨_, e⟩ <;> cases e
 ·obtain ⟨b', o', e, hb, hx⟩ := h6 (by omega)
  injection e with e
  injection e with e1 e2
  subst e1 e2
  rcases hL with rfl | ⟨hc, rfl⟩
  ·refine ⟨b, o + sz, rfl, hb, fun j y hj => ?_⟩
   have := hx (j + 1) y (by rw [List.getElem?_cons_succ]; exact hj)
   rwa [show o + (j + 1) * sz = o + sz + j * sz by rw [Nat.add_mul]; omega] at this
  ·omega
theorem SlAt.head {α : Type} {sz : Nat} {E : World → Nat → Nat → α → Prop} {w : World} {A : Option Addr} {n c : Nat} {x : α} {l : List α} (h : SlAt sz E w A n c (x :: l)) : ∃ b o, A = some ⟨b, o, none⟩ ∧ b < w.heap.size ∧ E w b o x := by
 obtain ⟨h1, h2, h3, h4, _, h6⟩ := h
 rw [List.length_cons] at h1
 obtain ⟨b, o, e, hb, hx⟩ := h6 (by omega)
 have := hx 0 x rfl
 rw [Nat.zero_mul, Nat.add_zero] at this
 exact ⟨b, o, e, hb, this⟩
def tailA (b o c : Nat) : Option Addr := if c = 1 then some ⟨b, o, none⟩ else some ⟨b, o + 4, none⟩
theorem tailA_or (b o c : Nat) : tailA b o c = some ⟨b, o + 4, none⟩ ∨ (c = 1 ∧ tailA b o c = some ⟨b, o, none⟩) := by
 unfold tailA
 split
 ·rename_i h; exact .inr ⟨h, rfl⟩
 ·exact .inl rfl
theorem addT_keepL {a : TQ} {l : List TQ} : keepT a (addT l []) = addT (a :: l) [] := by
 cases l <;> simp [addT]
theorem addT_keepM {b : TQ} {m : List TQ} : keepT b (addT [] m) = addT [] (b :: m) := by simp [addT]
theorem addT_keepC {a b : TQ} {l m : List TQ} (h : a.v < b.v) : keepT a (addT l (b :: m)) = addT (a :: l) (b :: m) := by conv => rhs; rw [addT, if_pos h]
theorem addT_keepD {a b : TQ} {l m : List TQ} (h : b.v < a.v) : keepT b (addT (a :: l) m) = addT (a :: l) (b :: m) := by conv => rhs; rw [addT, if_neg (by omega), if_pos h]
theorem addT_keepE {a b : TQ} {l m : List TQ} (h : a.v = b.v) : keepT ⟨a.v, a.c + b.c⟩ (addT l m) = addT (a :: l) (b :: m) := by conv => rhs; rw [addT, if_neg (by omega), if_neg (by omega)]
end Pg
namespace Go.Proofs.YtahdlpkncemmaaaGreat
open Go.RowKit Pg
theorem Add_C {va vb : Value} {a b : CW} {k : Nat} (w : World) (ha : ConVal w va a) (hb : ConVal w vb b) (hle : a.Le k) (hle' : b.Le k) (hk : k ≤ 100000) (hk1 : 1 ≤ k) (hl : a.t.length ≤ 100000) (hl' : b.t.length ≤ 100000) :
  Calls Tryz.prog 20 #[va, vb] w (ConRet w (cwOf (addC a.q b.q))) := by
 obtain ⟨T, n, m, v0, v1, v2, rfl, hT, hx0⟩ := ha
 obtain ⟨x, rfl, rfl, rfl, hx⟩ := rows_rv hx0
 obtain ⟨T', n', m', v0', v1', v2', rfl, hT', hx0'⟩ := hb
 obtain ⟨x', rfl, rfl, rfl, hx'⟩ := rows_rv hx0'
 obtain ⟨p, hp⟩ : ∃ p, a.r.q + b.r.q = p := ⟨_, rfl⟩
 have HM := hid fun W (hW : Below w.heap.size w W) => Add_Q W (hx.below hW) (hx'.below hW) hle.2 hle'.2 (by omega) hk1 hp
 obtain ⟨R, hR⟩ : ∃ R, (addT (a.t.map TW.q) (b.t.map TW.q)).map twOf = R := ⟨_, rfl⟩
 have hn1 : n ≤ 100000 := hT.1 ▸ hl
 have hn2 : n' ≤ 100000 := hT'.1 ▸ hl'
 have HP := hid hp
 have HTa := hid hT
 have HTb := hid hT'
 have HLa := hid hle.1
 have HLb := hid hle'.1
 have HR := hid hR
 clear hx hx0 hx' hx0' hT hT' hp hR hle hle'
 go_enter Tryz.func20, Tryz.ntmps20
 go_upto_region 1 with fail
 refine wp_world (F := fun W => (Bs W w.heap.size 36 [.int .i64 a.s, .slice T n m, .bool x.s, .slice x.A x.n x.c, .slice x.A' x.n' x.c'] ∧ Bs W (w.heap.size + 1) 36 [.int .i64 b.s, .slice T' n' m', .bool x'.s, .slice x'.A x'.n x'.c, .slice x'.A' x'.n' x'.c'] ∧ Bs W (w.heap.size + 2) 36 [.int .i64 0, .slice none 0 0, .bool false, .slice none 0 0, .slice none 0 0]) ∧ Below w.heap.size w W)
  ⟨⟨((Bs.new w _ _ _ rfl).alloc _).alloc _, (Bs.new _ _ _ _ (by simp)).alloc _, Bs.new _ _ _ _ (by simp)⟩, Pg.bel⟩ ?_
 rintro w1 ⟨⟨HA, HB, HZ⟩, hb1⟩
 refine draw_last [9, 10, 11, 12, 13, 14, 15, 16, 5] [.is (.pointer (some ⟨w.heap.size, 0, none⟩)), .is (.int .i64 a.s), .is (.pointer (some ⟨w.heap.size, 2, none⟩)), .is (.agg #[.bool x.s, .slice x.A x.n x.c, .slice x.A' x.n' x.c']), .is (.pointer (some ⟨w.heap.size + 1, 2, none⟩)), .is (.agg #[.bool x'.s, .slice x'.A x'.n x'.c, .slice x'.A' x'.n' x'.c']), .such (fun W v => ∃ (yX : RV), v = .agg #[.bool yX.s, .slice yX.A yX.n yX.c, .slice yX.A' yX.n' yX.c'] ∧ yX.at W (rwOf (p))), .such (fun W v => ∃ (y15_16 : RV), v = .agg #[.int .i64 a.s, .slice none 0 0, .bool y15_16.s, .slice y15_16.A y15_16.n y15_16.c, .slice y15_16.A' y15_16.n' y15_16.c'] ∧ y15_16.at W (rwOf (p))), .such (fun W v => ∃ (gX : Nat), v = .pointer (some ⟨gX, 0, none⟩) ∧ w1.heap.size ≤ gX ∧ Bs W gX 36 [.int .i64 0, .slice none 0 0, .bool false, .slice none 0 0, .slice none 0 0])]
  (by kernel_rfl) (by kernel_rfl) (by kernel_rfl) (by decide) (by kernel_rfl) (by kernel_rfl) (by kernel_rfl) rfl ?_ ?_
 ·refine ⟨?_, ?_, ?_, ?_, ?_, ?_, ?_, ?_, ?_, trivial⟩
  ·intro a w3 hA K hK
   have t2 := hA.old 2 _ rfl rfl
   go_simp
   exact hK _ _ Pg.fi_ (Below.refl _ _)
  ·intro a w3 hA K hK
   have t9 := bt_is hA 0 9
   have k0 := (HA.below hA.below).cell 0 rfl
   go_simp
   exact hK _ _ Pg.fi_ (Below.refl _ _)
  ·intro a w3 hA K hK
   have t2 := hA.old 2 _ rfl rfl
   go_simp
   exact hK _ _ Pg.fi_ (Below.refl _ _)
  ·intro a w3 hA K hK
   have t11 := bt_is hA 2 11
   have k0 := (HA.below hA.below).cell 2 rfl
   have k1 := (HA.below hA.below).cell 3 rfl
   have k2 := (HA.below hA.below).cell 4 rfl
   go_simp
   exact hK _ _ Pg.fi_ (Below.refl _ _)
  ·intro a w3 hA K hK
   have t3 := hA.old 3 _ rfl rfl
   go_simp
   exact hK _ _ Pg.fi_ (Below.refl _ _)
  ·intro a w3 hA K hK
   have t13 := bt_is hA 4 13
   have k0 := (HB.below hA.below).cell 2 rfl
   have k1 := (HB.below hA.below).cell 3 rfl
   have k2 := (HB.below hA.below).cell 4 rfl
   go_simp
   exact hK _ _ Pg.fi_ (Below.refl _ _)
  ·intro a w3 hA K hK
   have t12 := bt_is hA 3 12
   have t14 := bt_is hA 5 14
   have hC := HM.out _ (Below.then_ hb1 hA.below)
   go_simp
   refine hC.mono ?_
   rintro e w4 ⟨y, rfl, hy, hb⟩
   exact hK _ _ (fun W hW => ⟨_, rfl, hy.below hW⟩) hb
  ·intro a w3 hA K hK
   have t10 := bt_is hA 1 10
   obtain ⟨v15, t15, p15⟩ := bt_such hA 6 15
   obtain ⟨y15_16, rfl, hy15_16⟩ := p15 w3 (Below.refl _ _)
   have u10 := t10; rw [Array.getD_eq_getD_getElem?] at u10
   have u15 := t15; rw [Array.getD_eq_getD_getElem?] at u15
   go_simp
   exact hK _ _ (fun W hW => ⟨_, rfl, hy15_16.below hW⟩) (Below.refl _ _)
  ·intro a w3 hA K hK
   go_simp
   exact hK _ _ (fun W hW => ⟨_, rfl, hA.below.size, (Bs.new w3 _ _ _ rfl).below hW⟩) (Below.new_ (Below.refl _ _) _)
 rintro vs wv hV hbv act hact hold hnew K hK
 repeat (replace hV := hV.is_; obtain ⟨_, rfl, hV⟩ := hV)
 replace hV := hV.such_; obtain ⟨v15, _, rfl, p15, hV⟩ := hV
 replace hV := hV.such_; obtain ⟨v16, _, rfl, p16, hV⟩ := hV
 replace hV := hV.such_; obtain ⟨v5, _, rfl, p5, hV⟩ := hV
 obtain rfl := hV.nil_
 clear hV
 obtain ⟨y15, rfl, hy15⟩ := p15 wv (Below.refl _ _)
 clear p15
 obtain ⟨y15_16, rfl, hy15_16⟩ := p16 wv (Below.refl _ _)
 clear p16
 obtain ⟨g5, rfl, lg5, hg5⟩ := p5 wv (Below.refl _ _)
 clear p5
 simp only [puts] at hact
 have tq1 := hnew 8 5 _ rfl rfl
 have tq2 := hnew 7 16 _ rfl rfl
 clear hold hnew
 have Hact := hid hact
 clear hact
 clear hy15
 have f0 := hg5.frozen 0
 have f1 := hg5.frozen 1
 have f2 := hg5.frozen 2
 have f3 := hg5.frozen 3
 have f4 := hg5.frozen 4
 have c0 := hg5.cell 0 rfl
 have c1 := hg5.cell 1 rfl
 have c2 := hg5.cell 2 rfl
 have c3 := hg5.cell 3 rfl
 have c4 := hg5.cell 4 rfl
 go_simp
 refine hK _ _ ?_
 have hact := Hact.out
 clear Hact tq1 tq2
 subst hact
 go_simp
 go_upto_region 2 with fail
 refine wp_world (F := Stored wv g5 36 [.int .i64 a.s, .slice none 0 0, .bool y15_16.s, .slice y15_16.A y15_16.n y15_16.c, .slice y15_16.A' y15_16.n' y15_16.c']) (stored5 hg5) ?_
 rintro w2 ⟨HC, hk2, hs2⟩
 have HA2 := (HA.below hbv).grown hk2 (by have := HZ.lt; intro e; injection e with e; omega)
 have HB2 := (HB.below hbv).grown hk2 (by have := HZ.lt; intro e; injection e with e; omega)
 have HZ2 := (HZ.below hbv).grown hk2 (by have := HZ.lt; intro e; injection e with e; omega)
 have hy2 := RowsAt.kept hy15_16 hg5 conU0 hk2
 have hb2 : Below w.heap.size w w2 := Below.trans (Below.then_ hb1 hbv) (Below.kept hk2 (by have := hb1.size; omega) (by have := hb1.size; have := hbv.size; omega))
 have hgw : w.heap.size + 2 < g5 := by have := HZ.lt; omega
 clear hk2 hs2 hg5 lg5 hbv HA HB HZ hb1 c0 c1 c2 c3 c4 f0 f1 f2 f3 f4 hy15_16 HM
 have a1 := HA2.cell 1 rfl
 have b1 := HB2.cell 1 rfl
 go_quiet (fail)
 go_wp2_with fail
 refine wp_world (F := fun W => Below w2.heap.size w2 W) (by repeat first | exact Below.refl _ _ | refine Pg.Below.drewN_ ?_ _ | refine Go.RowKit.Below.drew ?_) ?_
 rintro w2' hb2'
 replace HC := HC.below hb2'
 replace HZ2 := HZ2.below hb2'
 replace hy2 := RowsAt.below hy2 hb2'
 replace hb2 := Below.then_ hb2 hb2'
 clear HA2 HB2 a1 b1 hb2'
 go_loopw [6, 7] (fun s6 s7 wr => ∃ (us : List TV) (S : Option Addr) (sc : Nat) (L M : Option Addr) (nL cL nM cM : Nat) (ls ms ts : List TW), s6 = .slice L nL cL ∧ s7 = .slice M nM cM ∧ Hid (SlAt 4 TermAt w L nL cL ls) ∧ Hid (SlAt 4 TermAt w M nM cM ms) ∧ Hid (∀ t ∈ ls, t.r.Le k) ∧ Hid (∀ t ∈ ms, t.r.Le k) ∧ Hid (ts ++ (addT (ls.map TW.q) (ms.map TW.q)).map twOf = R) ∧ us.length + nL + nM ≤ 200000 ∧ Hid (Bs wr (w.heap.size + 2) 36 [.int .i64 0, .slice none 0 0, .bool false, .slice none 0 0, .slice none 0 0]) ∧ Hid (Bs wr g5 36 [.int .i64 a.s, .slice S us.length sc, .bool y15_16.s, .slice y15_16.A y15_16.n y15_16.c, .slice y15_16.A' y15_16.n' y15_16.c']) ∧ Hid (OwnZ wr (g5 + 1) 65 4 (.slice S us.length sc) us.length (us.flatMap TV.cells)) ∧ Hid (TRead wr us ts) ∧ Hid (y15_16.at wr (rwOf p)) ∧ Below w.heap.size w wr) (fun s6 s7 _ => slen s6 + slen s7)
 case atStart => exact ⟨[], none, 0, T, T', n, m, n', m', a.t, b.t, [], rfl, rfl, HTa, HTb, HLa, HLb, hid HR.out, by simp; omega, hid HZ2, hid HC, hid (OwnZ.nil _ _ _ _), hid trivial, hid hy2, hb2⟩
 case round =>
  obtain ⟨us, S, sc, L, M, nL, cL, nM, cM, ls, ms, ts, rfl, rfl, HL, HM, HleL0, HleM0, HE, hsz, HZ, HC, HO, HRd, HY, hb⟩ := hrel
  clear HZ2 hy2 hb2
  by_cases h0 : nL + nM = 0
  ·obtain rfl : nL = 0 := by omega
   obtain rfl : nM = 0 := by omega
   obtain rfl : ls = [] := List.length_eq_zero_iff.1 HL.out.1
   obtain rfl : ms = [] := List.length_eq_zero_iff.1 HM.out.1
   have hts : ts = R := by have := HE.out; simpa [addT] using this
   have hul : us.length ≤ 200000 := by omega
   subst hts
   have c0 := HC.out.cell 0 rfl
   have c1 := HC.out.cell 1 rfl
   have c2 := HC.out.cell 2 rfl
   have c3 := HC.out.cell 3 rfl
   have c4 := HC.out.cell 4 rfl
   have z0 := HZ.out.cell 0 rfl
   have z1 := HZ.out.cell 1 rfl
   have z2 := HZ.out.cell 2 rfl
   have z3 := HZ.out.cell 3 rfl
   have z4 := HZ.out.cell 4 rfl
   have f0 := HZ.out.frozen 0
   have f1 := HZ.out.frozen 1
   have f2 := HZ.out.frozen 2
   have f3 := HZ.out.frozen 3
   have f4 := HZ.out.frozen 4
   go_wp2_with fail
   refine bp_world (F := Stored wr (w.heap.size + 1 + 1) 36 [.int .i64 a.s, .slice S us.length sc, .bool y15_16.s, .slice y15_16.A y15_16.n y15_16.c, .slice y15_16.A' y15_16.n' y15_16.c']) (stored5 HZ.out) ?_
   rintro wz ⟨HS, ks, ss⟩
   have q0 := HS.cell 0 rfl
   have q1 := HS.cell 1 rfl
   have q2 := HS.cell 2 rfl
   have q3 := HS.cell 3 rfl
   have q4 := HS.cell 4 rfl
   refine bodyPost_ret (v := .agg #[.int .i64 a.s, .slice S us.length sc, .bool y15_16.s, .slice y15_16.A y15_16.n y15_16.c, .slice y15_16.A' y15_16.n' y15_16.c']) (by simp [results, Tryz.results20, go_sem, q0, q1, q2, q3, q4]) rfl ?_
   have kz : Kp w.heap.size wr wz := Kp.stored HZ.out conU0 ks (by omega)
   obtain ⟨A', c', e', hS⟩ := slTerm_of_own rfl (by omega) (HO.out.grown ks (HO.out.apart (by omega))) (HRd.out.kp kz)
   injection e' with e1 e2 e3
   subst e1 e3
   exact ⟨_, rfl, ⟨_, _, _, _, _, _, rfl, by rw [← HR.out] at hS; exact hS, by show RowsAt _ (rwOf (a.r.q + b.r.q)) _ _ _; rw [HP.out]; exact HY.out.kp kz⟩, hb.trans kz.below⟩
  ·have hsum : decide ((0 : Int) < (nL : Int) + (nM : Int)) = true := decide_eq_true (by omega)
   have hnL : nL ≤ 200000 := by omega
   have hnM : nM ≤ 200000 := by omega
   go_upto_block 2 with fail
   refine wp_world (F := NewBs wr 65 [.int .i64 0, .bool false, .slice none 0 0, .slice none 0 0]) (made_new _ _ _) ?_
   rintro w3 ⟨H8, hb3, hs3⟩
   have hw3 := Below.then_ hb hb3
   go_cut [6, 7] from 46 to 104 (fun s6 s7 W => ∃ (y : RV) (v : Int) (q : Rat) (L' M' : Option Addr) (nL' cL' nM' cM' : Nat) (ls' ms' : List TW), s6 = .slice L' nL' cL' ∧ s7 = .slice M' nM' cM' ∧ nL' + nM' < nL + nM ∧ Hid (SlAt 4 TermAt w L' nL' cL' ls') ∧ Hid (SlAt 4 TermAt w M' nM' cM' ms') ∧ Hid (∀ t ∈ ls', t.r.Le k) ∧ Hid (∀ t ∈ ms', t.r.Le k) ∧ Hid (keepT ⟨v, q⟩ (addT (ls'.map TW.q) (ms'.map TW.q)) = addT (ls.map TW.q) (ms.map TW.q)) ∧ Hid (Short q (2 * k + 1)) ∧ Hid (Bs W wr.heap.size 65 [.int .i64 v, .bool y.s, .slice y.A y.n y.c, .slice y.A' y.n' y.c']) ∧ Hid (y.at W (rwOf q)) ∧ Below wr.heap.size wr W)
   case first =>
    match ls, ms, HL, HM, HleL0, HleM0, HE with
    | [], [], HL, HM, _, _, _ => exact absurd (show nL + nM = 0 by have := HL.out.1; have := HM.out.1; simp at *; omega) h0
    | tL :: lsL, [], HL, HM, HleL0, HleM0, HE =>
     obtain ⟨bL, oL, rfl, hbL, hTL⟩ := HL.out.head
     obtain ⟨x0L, x1L, x2L, hcL, hu0L⟩ := termAt_stays _ _ _ _ _ hbL hTL hw3
     obtain ⟨uL, rfl, rfl, rfl, huL⟩ := rows_rv hu0L
     have HCL := hid hcL
     have HUL := hid huL
     have HleL := HleL0.out _ List.mem_cons_self
     have ltL : bL < w3.heap.size := Nat.lt_of_lt_of_le hbL hw3.size
     have kL0 : w3.cell? ⟨bL, oL, none⟩ = some (.int .i64 tL.v) := hcL.at_ 0 rfl
     have nL1 : 1 ≤ nL := by have := HL.out.1; rw [List.length_cons] at this; omega
     have nLp : 0 < nL := nL1
     have nLi : (1 : Int) ≤ (nL : Int) := by omega
     have nLc : nL ≤ cL := HL.out.2.1
     have cLm : cL ≤ 9223372036854775807 := HL.out.2.2.2.1
     clear hTL hcL hu0L huL
     obtain rfl : nM = 0 := by have := HM.out.1; simp at this; omega
     go_upto_region 6 with fail
     go_quiet (fail)
     go_upto_region 7 with fail
     refine wp_world (F := fun W => Below w3.heap.size w3 W) ⟨rfl, rfl, rfl, Nat.le_refl _, fun _ _ => rfl⟩ ?_
     rintro w4 hb4
     replace H8 := H8.below hb4
     replace HCL := hid (HCL.out.below ltL hb4)
     replace HUL := hid (HUL.out.below hb4)
     replace ltL := Nat.lt_of_lt_of_le ltL hb4.size
     replace hb3 := Below.then_ hb3 hb4
     clear hb4 kL0
     refine draw_G (fun W W' => W.grownBy W' (some wr.heap.size)) (fun W => w4.grownBy W (some wr.heap.size)) 12 none [some 66, some 67, some 68, some 69, some 70, some 71, some 72, some 73, some 74, some 75, some 76, some 77, none, some 6] [.is (.slice (some ⟨bL, oL, none⟩) nL cL), .is (.pointer (some ⟨bL, oL, none⟩)), .is (.pointer (some ⟨bL, oL, none⟩)), .is (.int .i64 tL.v), .is (.slice (some ⟨bL, oL, none⟩) nL cL), .is (.pointer (some ⟨bL, oL, none⟩)), .is (.pointer (some ⟨bL, oL + 1, none⟩)), .is (.agg #[.bool uL.s, .slice uL.A uL.n uL.c, .slice uL.A' uL.n' uL.c']), .such (fun W v => ∃ (yX : RV), v = .agg #[.bool yX.s, .slice yX.A yX.n yX.c, .slice yX.A' yX.n' yX.c'] ∧ yX.at W (rwOf (tL.r.q))), .such (fun W v => ∃ (y74_75 : RV), v = .agg #[.int .i64 tL.v, .bool y74_75.s, .slice y74_75.A y74_75.n y74_75.c, .slice y74_75.A' y74_75.n' y74_75.c'] ∧ y74_75.at W (rwOf (tL.r.q))), .is (.slice (some ⟨bL, oL, none⟩) nL cL), .is (.slice (tailA bL oL cL) (nL - 1) (cL - 1)), .own (fun W _ => ∃ (y74_75 : RV), Bs W wr.heap.size 65 [.int .i64 tL.v, .bool y74_75.s, .slice y74_75.A y74_75.n y74_75.c, .slice y74_75.A' y74_75.n' y74_75.c'] ∧ y74_75.at W (rwOf (tL.r.q))), .is (.slice (tailA bL oL cL) (nL - 1) (cL - 1))]
      (by kernel_rfl) (by kernel_rfl) (by kernel_rfl) (by kernel_rfl) rfl (by kernel_rfl) (fun _ h => grown_of h _) (fun _ _ h hb => kept_then h (grown_of hb _)) (fun _ _ hb h => kept_then (grown_of hb _) h) (fun q W1 W2 v hm hbw hk hq => by simp at hm; rcases hm with rfl | rfl <;> first | (obtain ⟨yX, rfl, hyX⟩ := hq W1 (Below.refl _ _); exact fun W hW => ⟨_, rfl, (RV.at.kp hyX (Kp.stored (B := 0) (H8.below hbw) (noU_i64 (noU_bool (noU_slice (noU_slice noU_nil)))) hk (Nat.zero_le _))).below hW⟩) | (obtain ⟨y74_75, rfl, hy74_75⟩ := hq W1 (Below.refl _ _); exact fun W hW => ⟨_, rfl, (RV.at.kp hy74_75 (Kp.stored (B := 0) (H8.below hbw) (noU_i64 (noU_bool (noU_slice (noU_slice noU_nil)))) hk (Nat.zero_le _))).below hW⟩)) ?_ ?_
     ·refine ⟨?_, ?_, ?_, ?_, ?_, ?_, ?_, ?_, ?_, ?_, ?_, ?_, ?_, ?_, trivial⟩
      ·intro a w3 hA K hK
       have t6 := hA.own 13 6 _ rfl (by kernel_rfl) rfl
       go_simp
       exact hK _ _ rfl (Below.refl _ _)
      ·intro a w3 hA K hK
       have t66 := bg_is hA 0 66
       go_simp
       exact hK _ _ Pg.fi_ (Below.refl _ _)
      ·intro a w3 hA K hK
       have t67 := bg_is hA 1 67
       go_simp
       exact hK _ _ rfl (Below.refl _ _)
      ·intro a w3 hA K hK
       have t68 := bg_is hA 2 68
       have k0 : w3.cell? ⟨bL, oL, none⟩ = some (.int .i64 tL.v) := (HCL.out.below ltL hA.below).at_ 0 rfl
       go_simp
       exact hK _ _ rfl (Below.refl _ _)
      ·intro a w3 hA K hK
       have t6 := hA.own 13 6 _ rfl (by kernel_rfl) rfl
       go_simp
       exact hK _ _ rfl (Below.refl _ _)
      ·intro a w3 hA K hK
       have t70 := bg_is hA 4 70
       go_simp
       exact hK _ _ Pg.fi_ (Below.refl _ _)
      ·intro a w3 hA K hK
       have t71 := bg_is hA 5 71
       go_simp
       exact hK _ _ rfl (Below.refl _ _)
      ·intro a w3 hA K hK
       have t72 := bg_is hA 6 72
       have k0 := (HCL.out.below ltL hA.below).at_ 1 rfl
       have k1 := (HCL.out.below ltL hA.below).at_ 2 rfl
       have k2 := (HCL.out.below ltL hA.below).at_ 3 rfl
       go_simp
       exact hK _ _ rfl (Below.refl _ _)
      ·intro a w3 hA K hK
       have t73 := bg_is hA 7 73
       have hC := Norm_Q _ (HUL.out.below hA.below) HleL (by omega) hk1
       go_simp
       refine hC.mono ?_
       rintro e w4 ⟨y, rfl, hy, hb⟩
       exact hK _ _ (fun W hW => ⟨_, rfl, hy.below hW⟩) hb
      ·intro a w3 hA K hK
       have t69 := bg_is hA 3 69
       obtain ⟨v74, t74, p74⟩ := bg_such hA 8 74
       obtain ⟨y74_75, rfl, hy74_75⟩ := p74 w3 (Below.refl _ _)
       have u69 := t69; rw [Array.getD_eq_getD_getElem?] at u69
       have u74 := t74; rw [Array.getD_eq_getD_getElem?] at u74
       go_simp
       exact hK _ _ (fun W hW => ⟨_, rfl, hy74_75.below hW⟩) (Below.refl _ _)
      ·intro a w3 hA K hK
       have t6 := hA.own 13 6 _ rfl (by kernel_rfl) rfl
       go_simp
       exact hK _ _ rfl (Below.refl _ _)
      ·intro a w3 hA K hK
       have t76 := bg_is hA 10 76
       go_simp
       exact hK _ _ Pg.fi_ (Below.refl _ _)
      ·intro a w3 hA K hK
       have t8 := hA.old 8 _ rfl rfl
       obtain ⟨v75, t75, p75⟩ := bg_such hA 9 75
       obtain ⟨y74_75, rfl, hy74_75⟩ := p75 w3 (Below.refl _ _)
       have hB := H8.below hA.below
       have f0 := hB.frozen 0
       have c0 := hB.cell 0 rfl
       have f1 := hB.frozen 1
       have c1 := hB.cell 1 rfl
       have f2 := hB.frozen 2
       have c2 := hB.cell 2 rfl
       have f3 := hB.frozen 3
       have c3 := hB.cell 3 rfl
       go_simp
       exact hK undef _ (fun W hW => ⟨_, (stored4 hB).1.below hW, (RV.at.kp hy74_75 (Kp.stored (B := 0) hB (noU_i64 (noU_bool (noU_slice (noU_slice noU_nil)))) (stored4 hB).2.1 (Nat.zero_le _))).below hW⟩) ⟨(stored4 hB).2.1, fun j d h => by cases h⟩
      ·intro a w3 hA K hK
       have t77 := bg_is hA 11 77
       go_simp
       exact hK _ _ Pg.fi_ (Below.refl _ _)
     rintro vs wv hV hgv hlk act hact
     repeat (replace hV := hV.is_; obtain ⟨_, rfl, hV⟩ := hV)
     replace hV := hV.such_; obtain ⟨v74, _, rfl, p74, hV⟩ := hV
     replace hV := hV.such_; obtain ⟨v75, _, rfl, p75, hV⟩ := hV
     repeat (replace hV := hV.is_; obtain ⟨_, rfl, hV⟩ := hV)
     replace hV := hV.own_; obtain ⟨vP, _, rfl, pP, hV⟩ := hV
     replace hV := hV.is_; obtain ⟨_, rfl, hV⟩ := hV
     obtain rfl := hV.nil_
     clear hV
     clear hlk
     obtain ⟨y74, rfl, hy74⟩ := p74 wv (Below.refl _ _)
     clear p74
     obtain ⟨y74_75, rfl, hy74_75⟩ := p75 wv (Below.refl _ _)
     clear p75
     obtain ⟨y74_75, hBS, hy74_75⟩ := pP wv (Below.refl _ _)
     clear pP
     simp only [putsO] at hact
     subst hact
     go_simp
     go_wp2_with fail
     go_meet
     case rel =>
      exact ⟨y74_75, tL.v, tL.r.q, tailA bL oL cL, M, nL - 1, cL - 1, 0, cM, lsL, [], rfl, rfl, by omega, hid (HL.out.tail (tailA_or _ _ _)), HM, hid (fun x hx => HleL0.out x (List.mem_cons_of_mem _ hx)), HleM0, hid (by exact addT_keepL), hid ((RV.at.short HUL.out HleL hk1).mono (by omega)), hid hBS, hid hy74_75, hb3.trans (Below.kept hgv (Nat.le_refl _) (by have := H8.lt; omega))⟩
    | [], tM :: lsM, HL, HM, HleL0, HleM0, HE =>
     obtain ⟨bM, oM, rfl, hbM, hTM⟩ := HM.out.head
     obtain ⟨x0M, x1M, x2M, hcM, hu0M⟩ := termAt_stays _ _ _ _ _ hbM hTM hw3
     obtain ⟨uM, rfl, rfl, rfl, huM⟩ := rows_rv hu0M
     have HCM := hid hcM
     have HUM := hid huM
     have HleM := HleM0.out _ List.mem_cons_self
     have ltM : bM < w3.heap.size := Nat.lt_of_lt_of_le hbM hw3.size
     have kM0 : w3.cell? ⟨bM, oM, none⟩ = some (.int .i64 tM.v) := hcM.at_ 0 rfl
     have nM1 : 1 ≤ nM := by have := HM.out.1; rw [List.length_cons] at this; omega
     have nMp : 0 < nM := nM1
     have nMi : (1 : Int) ≤ (nM : Int) := by omega
     have nMc : nM ≤ cM := HM.out.2.1
     have cMm : cM ≤ 9223372036854775807 := HM.out.2.2.2.1
     clear hTM hcM hu0M huM
     have hz : nL = 0 := by have := HL.out.1; simp at this; omega
     have dL0 : ((nL : Int) == 0) = true := beq_iff_eq.2 (by omega)
     have dLp : decide ((0 : Int) < (nL : Int)) = false := decide_eq_false (by omega)
     have dLn : decide (0 < nL) = false := decide_eq_false (by omega)
     replace hz : ¬ 0 < nL := by omega
     have dM0 : ((nM : Int) == 0) = false := beq_eq_false_iff_ne.2 (by omega)
     go_upto_region 6 with fail
     go_quiet (fail)
     go_upto_region 8 with fail
     go_quiet (fail)
     go_upto_region 9 with fail
     refine wp_world (F := fun W => Below w3.heap.size w3 W) ⟨rfl, rfl, rfl, Nat.le_refl _, fun _ _ => rfl⟩ ?_
     rintro w4 hb4
     replace H8 := H8.below hb4
     replace HCM := hid (HCM.out.below ltM hb4)
     replace HUM := hid (HUM.out.below hb4)
     replace ltM := Nat.lt_of_lt_of_le ltM hb4.size
     replace hb3 := Below.then_ hb3 hb4
     clear hb4 kM0
     refine draw_G (fun W W' => W.grownBy W' (some wr.heap.size)) (fun W => w4.grownBy W (some wr.heap.size)) 12 none [some 93, some 94, some 95, some 96, some 97, some 98, some 99, some 100, some 101, some 102, some 103, some 104, none, some 7] [.is (.slice (some ⟨bM, oM, none⟩) nM cM), .is (.pointer (some ⟨bM, oM, none⟩)), .is (.pointer (some ⟨bM, oM, none⟩)), .is (.int .i64 tM.v), .is (.slice (some ⟨bM, oM, none⟩) nM cM), .is (.pointer (some ⟨bM, oM, none⟩)), .is (.pointer (some ⟨bM, oM + 1, none⟩)), .is (.agg #[.bool uM.s, .slice uM.A uM.n uM.c, .slice uM.A' uM.n' uM.c']), .such (fun W v => ∃ (yX : RV), v = .agg #[.bool yX.s, .slice yX.A yX.n yX.c, .slice yX.A' yX.n' yX.c'] ∧ yX.at W (rwOf (tM.r.q))), .such (fun W v => ∃ (y101_102 : RV), v = .agg #[.int .i64 tM.v, .bool y101_102.s, .slice y101_102.A y101_102.n y101_102.c, .slice y101_102.A' y101_102.n' y101_102.c'] ∧ y101_102.at W (rwOf (tM.r.q))), .is (.slice (some ⟨bM, oM, none⟩) nM cM), .is (.slice (tailA bM oM cM) (nM - 1) (cM - 1)), .own (fun W _ => ∃ (y101_102 : RV), Bs W wr.heap.size 65 [.int .i64 tM.v, .bool y101_102.s, .slice y101_102.A y101_102.n y101_102.c, .slice y101_102.A' y101_102.n' y101_102.c'] ∧ y101_102.at W (rwOf (tM.r.q))), .is (.slice (tailA bM oM cM) (nM - 1) (cM - 1))]
      (by kernel_rfl) (by kernel_rfl) (by kernel_rfl) (by kernel_rfl) rfl (by kernel_rfl) (fun _ h => grown_of h _) (fun _ _ h hb => kept_then h (grown_of hb _)) (fun _ _ hb h => kept_then (grown_of hb _) h) (fun q W1 W2 v hm hbw hk hq => by simp at hm; rcases hm with rfl | rfl <;> first | (obtain ⟨yX, rfl, hyX⟩ := hq W1 (Below.refl _ _); exact fun W hW => ⟨_, rfl, (RV.at.kp hyX (Kp.stored (B := 0) (H8.below hbw) (noU_i64 (noU_bool (noU_slice (noU_slice noU_nil)))) hk (Nat.zero_le _))).below hW⟩) | (obtain ⟨y101_102, rfl, hy101_102⟩ := hq W1 (Below.refl _ _); exact fun W hW => ⟨_, rfl, (RV.at.kp hy101_102 (Kp.stored (B := 0) (H8.below hbw) (noU_i64 (noU_bool (noU_slice (noU_slice noU_nil)))) hk (Nat.zero_le _))).below hW⟩)) ?_ ?_
     ·refine ⟨?_, ?_, ?_, ?_, ?_, ?_, ?_, ?_, ?_, ?_, ?_, ?_, ?_, ?_, trivial⟩
      ·intro a w3 hA K hK
       have t7 := hA.own 13 7 _ rfl (by kernel_rfl) rfl
       go_simp
       exact hK _ _ rfl (Below.refl _ _)
      ·intro a w3 hA K hK
       have t93 := bg_is hA 0 93
       go_simp
       exact hK _ _ Pg.fi_ (Below.refl _ _)
      ·intro a w3 hA K hK
       have t94 := bg_is hA 1 94
       go_simp
       exact hK _ _ rfl (Below.refl _ _)
      ·intro a w3 hA K hK
       have t95 := bg_is hA 2 95
       have k0 : w3.cell? ⟨bM, oM, none⟩ = some (.int .i64 tM.v) := (HCM.out.below ltM hA.below).at_ 0 rfl
       go_simp
       exact hK _ _ rfl (Below.refl _ _)
      ·intro a w3 hA K hK
       have t7 := hA.own 13 7 _ rfl (by kernel_rfl) rfl
       go_simp
       exact hK _ _ rfl (Below.refl _ _)
      ·intro a w3 hA K hK
       have t97 := bg_is hA 4 97
       go_simp
       exact hK _ _ Pg.fi_ (Below.refl _ _)
      ·intro a w3 hA K hK
       have t98 := bg_is hA 5 98
       go_simp
       exact hK _ _ rfl (Below.refl _ _)
      ·intro a w3 hA K hK
       have t99 := bg_is hA 6 99
       have k0 := (HCM.out.below ltM hA.below).at_ 1 rfl
       have k1 := (HCM.out.below ltM hA.below).at_ 2 rfl
       have k2 := (HCM.out.below ltM hA.below).at_ 3 rfl
       go_simp
       exact hK _ _ rfl (Below.refl _ _)
      ·intro a w3 hA K hK
       have t100 := bg_is hA 7 100
       have hC := Norm_Q _ (HUM.out.below hA.below) HleM (by omega) hk1
       go_simp
       refine hC.mono ?_
       rintro e w4 ⟨y, rfl, hy, hb⟩
       exact hK _ _ (fun W hW => ⟨_, rfl, hy.below hW⟩) hb
      ·intro a w3 hA K hK
       have t96 := bg_is hA 3 96
       obtain ⟨v101, t101, p101⟩ := bg_such hA 8 101
       obtain ⟨y101_102, rfl, hy101_102⟩ := p101 w3 (Below.refl _ _)
       have u96 := t96; rw [Array.getD_eq_getD_getElem?] at u96
       have u101 := t101; rw [Array.getD_eq_getD_getElem?] at u101
       go_simp
       exact hK _ _ (fun W hW => ⟨_, rfl, hy101_102.below hW⟩) (Below.refl _ _)
      ·intro a w3 hA K hK
       have t7 := hA.own 13 7 _ rfl (by kernel_rfl) rfl
       go_simp
       exact hK _ _ rfl (Below.refl _ _)
      ·intro a w3 hA K hK
       have t103 := bg_is hA 10 103
       go_simp
       exact hK _ _ Pg.fi_ (Below.refl _ _)
      ·intro a w3 hA K hK
       have t8 := hA.old 8 _ rfl rfl
       obtain ⟨v102, t102, p102⟩ := bg_such hA 9 102
       obtain ⟨y101_102, rfl, hy101_102⟩ := p102 w3 (Below.refl _ _)
       have hB := H8.below hA.below
       have f0 := hB.frozen 0
       have c0 := hB.cell 0 rfl
       have f1 := hB.frozen 1
       have c1 := hB.cell 1 rfl
       have f2 := hB.frozen 2
       have c2 := hB.cell 2 rfl
       have f3 := hB.frozen 3
       have c3 := hB.cell 3 rfl
       go_simp
       exact hK undef _ (fun W hW => ⟨_, (stored4 hB).1.below hW, (RV.at.kp hy101_102 (Kp.stored (B := 0) hB (noU_i64 (noU_bool (noU_slice (noU_slice noU_nil)))) (stored4 hB).2.1 (Nat.zero_le _))).below hW⟩) ⟨(stored4 hB).2.1, fun j d h => by cases h⟩
      ·intro a w3 hA K hK
       have t104 := bg_is hA 11 104
       go_simp
       exact hK _ _ Pg.fi_ (Below.refl _ _)
     rintro vs wv hV hgv hlk act hact
     repeat (replace hV := hV.is_; obtain ⟨_, rfl, hV⟩ := hV)
     replace hV := hV.such_; obtain ⟨v101, _, rfl, p101, hV⟩ := hV
     replace hV := hV.such_; obtain ⟨v102, _, rfl, p102, hV⟩ := hV
     repeat (replace hV := hV.is_; obtain ⟨_, rfl, hV⟩ := hV)
     replace hV := hV.own_; obtain ⟨vP, _, rfl, pP, hV⟩ := hV
     replace hV := hV.is_; obtain ⟨_, rfl, hV⟩ := hV
     obtain rfl := hV.nil_
     clear hV
     clear hlk
     obtain ⟨y101, rfl, hy101⟩ := p101 wv (Below.refl _ _)
     clear p101
     obtain ⟨y101_102, rfl, hy101_102⟩ := p102 wv (Below.refl _ _)
     clear p102
     obtain ⟨y101_102, hBS, hy101_102⟩ := pP wv (Below.refl _ _)
     clear pP
     simp only [putsO] at hact
     subst hact
     go_simp
     go_wp2_with fail
     go_meet
     case rel =>
      exact ⟨y101_102, tM.v, tM.r.q, L, tailA bM oM cM, nL, cL, nM - 1, cM - 1, [], lsM, rfl, rfl, by omega, HL, hid (HM.out.tail (tailA_or _ _ _)), HleL0, hid (fun x hx => HleM0.out x (List.mem_cons_of_mem _ hx)), hid (by exact addT_keepM), hid ((RV.at.short HUM.out HleM hk1).mono (by omega)), hid hBS, hid hy101_102, hb3.trans (Below.kept hgv (Nat.le_refl _) (by have := H8.lt; omega))⟩
    | tL :: lsL, tM :: lsM, HL, HM, HleL0, HleM0, HE =>
     obtain ⟨bL, oL, rfl, hbL, hTL⟩ := HL.out.head
     obtain ⟨x0L, x1L, x2L, hcL, hu0L⟩ := termAt_stays _ _ _ _ _ hbL hTL hw3
     obtain ⟨uL, rfl, rfl, rfl, huL⟩ := rows_rv hu0L
     have HCL := hid hcL
     have HUL := hid huL
     have HleL := HleL0.out _ List.mem_cons_self
     have ltL : bL < w3.heap.size := Nat.lt_of_lt_of_le hbL hw3.size
     have kL0 : w3.cell? ⟨bL, oL, none⟩ = some (.int .i64 tL.v) := hcL.at_ 0 rfl
     have nL1 : 1 ≤ nL := by have := HL.out.1; rw [List.length_cons] at this; omega
     have nLp : 0 < nL := nL1
     have nLi : (1 : Int) ≤ (nL : Int) := by omega
     have nLc : nL ≤ cL := HL.out.2.1
     have cLm : cL ≤ 9223372036854775807 := HL.out.2.2.2.1
     clear hTL hcL hu0L huL
     obtain ⟨bM, oM, rfl, hbM, hTM⟩ := HM.out.head
     obtain ⟨x0M, x1M, x2M, hcM, hu0M⟩ := termAt_stays _ _ _ _ _ hbM hTM hw3
     obtain ⟨uM, rfl, rfl, rfl, huM⟩ := rows_rv hu0M
     have HCM := hid hcM
     have HUM := hid huM
     have HleM := HleM0.out _ List.mem_cons_self
     have ltM : bM < w3.heap.size := Nat.lt_of_lt_of_le hbM hw3.size
     have kM0 : w3.cell? ⟨bM, oM, none⟩ = some (.int .i64 tM.v) := hcM.at_ 0 rfl
     have nM1 : 1 ≤ nM := by have := HM.out.1; rw [List.length_cons] at this; omega
     have nMp : 0 < nM := nM1
     have nMi : (1 : Int) ≤ (nM : Int) := by omega
     have nMc : nM ≤ cM := HM.out.2.1
     have cMm : cM ≤ 9223372036854775807 := HM.out.2.2.2.1
     clear hTM hcM hu0M huM
     have dM0 : ((nM : Int) == 0) = false := beq_eq_false_iff_ne.2 (by omega)
     have dL0 : ((nL : Int) == 0) = false := beq_eq_false_iff_ne.2 (by omega)
     have dLp : decide ((0 : Int) < (nL : Int)) = true := decide_eq_true (by omega)
     by_cases h1 : tL.v < tM.v
     ·have hd1 := decide_eq_true h1
      go_upto_region 6 with fail
      go_quiet (fail)
      go_upto_region 7 with fail
      refine wp_world (F := fun W => Below w3.heap.size w3 W) ⟨rfl, rfl, rfl, Nat.le_refl _, fun _ _ => rfl⟩ ?_
      rintro w4 hb4
      replace H8 := H8.below hb4
      replace HCL := hid (HCL.out.below ltL hb4)
      replace HUL := hid (HUL.out.below hb4)
      replace ltL := Nat.lt_of_lt_of_le ltL hb4.size
      replace HCM := hid (HCM.out.below ltM hb4)
      replace HUM := hid (HUM.out.below hb4)
      replace ltM := Nat.lt_of_lt_of_le ltM hb4.size
      replace hb3 := Below.then_ hb3 hb4
      clear hb4 kL0 kM0
      refine draw_G (fun W W' => W.grownBy W' (some wr.heap.size)) (fun W => w4.grownBy W (some wr.heap.size)) 12 none [some 66, some 67, some 68, some 69, some 70, some 71, some 72, some 73, some 74, some 75, some 76, some 77, none, some 6] [.is (.slice (some ⟨bL, oL, none⟩) nL cL), .is (.pointer (some ⟨bL, oL, none⟩)), .is (.pointer (some ⟨bL, oL, none⟩)), .is (.int .i64 tL.v), .is (.slice (some ⟨bL, oL, none⟩) nL cL), .is (.pointer (some ⟨bL, oL, none⟩)), .is (.pointer (some ⟨bL, oL + 1, none⟩)), .is (.agg #[.bool uL.s, .slice uL.A uL.n uL.c, .slice uL.A' uL.n' uL.c']), .such (fun W v => ∃ (yX : RV), v = .agg #[.bool yX.s, .slice yX.A yX.n yX.c, .slice yX.A' yX.n' yX.c'] ∧ yX.at W (rwOf (tL.r.q))), .such (fun W v => ∃ (y74_75 : RV), v = .agg #[.int .i64 tL.v, .bool y74_75.s, .slice y74_75.A y74_75.n y74_75.c, .slice y74_75.A' y74_75.n' y74_75.c'] ∧ y74_75.at W (rwOf (tL.r.q))), .is (.slice (some ⟨bL, oL, none⟩) nL cL), .is (.slice (tailA bL oL cL) (nL - 1) (cL - 1)), .own (fun W _ => ∃ (y74_75 : RV), Bs W wr.heap.size 65 [.int .i64 tL.v, .bool y74_75.s, .slice y74_75.A y74_75.n y74_75.c, .slice y74_75.A' y74_75.n' y74_75.c'] ∧ y74_75.at W (rwOf (tL.r.q))), .is (.slice (tailA bL oL cL) (nL - 1) (cL - 1))]
       (by kernel_rfl) (by kernel_rfl) (by kernel_rfl) (by kernel_rfl) rfl (by kernel_rfl) (fun _ h => grown_of h _) (fun _ _ h hb => kept_then h (grown_of hb _)) (fun _ _ hb h => kept_then (grown_of hb _) h) (fun q W1 W2 v hm hbw hk hq => by simp at hm; rcases hm with rfl | rfl <;> first | (obtain ⟨yX, rfl, hyX⟩ := hq W1 (Below.refl _ _); exact fun W hW => ⟨_, rfl, (RV.at.kp hyX (Kp.stored (B := 0) (H8.below hbw) (noU_i64 (noU_bool (noU_slice (noU_slice noU_nil)))) hk (Nat.zero_le _))).below hW⟩) | (obtain ⟨y74_75, rfl, hy74_75⟩ := hq W1 (Below.refl _ _); exact fun W hW => ⟨_, rfl, (RV.at.kp hy74_75 (Kp.stored (B := 0) (H8.below hbw) (noU_i64 (noU_bool (noU_slice (noU_slice noU_nil)))) hk (Nat.zero_le _))).below hW⟩)) ?_ ?_
      ·refine ⟨?_, ?_, ?_, ?_, ?_, ?_, ?_, ?_, ?_, ?_, ?_, ?_, ?_, ?_, trivial⟩
       ·intro a w3 hA K hK
        have t6 := hA.own 13 6 _ rfl (by kernel_rfl) rfl
        go_simp
        exact hK _ _ rfl (Below.refl _ _)
       ·intro a w3 hA K hK
        have t66 := bg_is hA 0 66
        go_simp
        exact hK _ _ Pg.fi_ (Below.refl _ _)
       ·intro a w3 hA K hK
        have t67 := bg_is hA 1 67
        go_simp
        exact hK _ _ rfl (Below.refl _ _)
       ·intro a w3 hA K hK
        have t68 := bg_is hA 2 68
        have k0 : w3.cell? ⟨bL, oL, none⟩ = some (.int .i64 tL.v) := (HCL.out.below ltL hA.below).at_ 0 rfl
        go_simp
        exact hK _ _ rfl (Below.refl _ _)
       ·intro a w3 hA K hK
        have t6 := hA.own 13 6 _ rfl (by kernel_rfl) rfl
        go_simp
        exact hK _ _ rfl (Below.refl _ _)
       ·intro a w3 hA K hK
        have t70 := bg_is hA 4 70
        go_simp
        exact hK _ _ Pg.fi_ (Below.refl _ _)
       ·intro a w3 hA K hK
        have t71 := bg_is hA 5 71
        go_simp
        exact hK _ _ rfl (Below.refl _ _)
       ·intro a w3 hA K hK
        have t72 := bg_is hA 6 72
        have k0 := (HCL.out.below ltL hA.below).at_ 1 rfl
        have k1 := (HCL.out.below ltL hA.below).at_ 2 rfl
        have k2 := (HCL.out.below ltL hA.below).at_ 3 rfl
        go_simp
        exact hK _ _ rfl (Below.refl _ _)
       ·intro a w3 hA K hK
        have t73 := bg_is hA 7 73
        have hC := Norm_Q _ (HUL.out.below hA.below) HleL (by omega) hk1
        go_simp
        refine hC.mono ?_
        rintro e w4 ⟨y, rfl, hy, hb⟩
        exact hK _ _ (fun W hW => ⟨_, rfl, hy.below hW⟩) hb
       ·intro a w3 hA K hK
        have t69 := bg_is hA 3 69
        obtain ⟨v74, t74, p74⟩ := bg_such hA 8 74
        obtain ⟨y74_75, rfl, hy74_75⟩ := p74 w3 (Below.refl _ _)
        have u69 := t69; rw [Array.getD_eq_getD_getElem?] at u69
        have u74 := t74; rw [Array.getD_eq_getD_getElem?] at u74
        go_simp
        exact hK _ _ (fun W hW => ⟨_, rfl, hy74_75.below hW⟩) (Below.refl _ _)
       ·intro a w3 hA K hK
        have t6 := hA.own 13 6 _ rfl (by kernel_rfl) rfl
        go_simp
        exact hK _ _ rfl (Below.refl _ _)
       ·intro a w3 hA K hK
        have t76 := bg_is hA 10 76
        go_simp
        exact hK _ _ Pg.fi_ (Below.refl _ _)
       ·intro a w3 hA K hK
        have t8 := hA.old 8 _ rfl rfl
        obtain ⟨v75, t75, p75⟩ := bg_such hA 9 75
        obtain ⟨y74_75, rfl, hy74_75⟩ := p75 w3 (Below.refl _ _)
        have hB := H8.below hA.below
        have f0 := hB.frozen 0
        have c0 := hB.cell 0 rfl
        have f1 := hB.frozen 1
        have c1 := hB.cell 1 rfl
        have f2 := hB.frozen 2
        have c2 := hB.cell 2 rfl
        have f3 := hB.frozen 3
        have c3 := hB.cell 3 rfl
        go_simp
        exact hK undef _ (fun W hW => ⟨_, (stored4 hB).1.below hW, (RV.at.kp hy74_75 (Kp.stored (B := 0) hB (noU_i64 (noU_bool (noU_slice (noU_slice noU_nil)))) (stored4 hB).2.1 (Nat.zero_le _))).below hW⟩) ⟨(stored4 hB).2.1, fun j d h => by cases h⟩
       ·intro a w3 hA K hK
        have t77 := bg_is hA 11 77
        go_simp
        exact hK _ _ Pg.fi_ (Below.refl _ _)
      rintro vs wv hV hgv hlk act hact
      repeat (replace hV := hV.is_; obtain ⟨_, rfl, hV⟩ := hV)
      replace hV := hV.such_; obtain ⟨v74, _, rfl, p74, hV⟩ := hV
      replace hV := hV.such_; obtain ⟨v75, _, rfl, p75, hV⟩ := hV
      repeat (replace hV := hV.is_; obtain ⟨_, rfl, hV⟩ := hV)
      replace hV := hV.own_; obtain ⟨vP, _, rfl, pP, hV⟩ := hV
      replace hV := hV.is_; obtain ⟨_, rfl, hV⟩ := hV
      obtain rfl := hV.nil_
      clear hV
      clear hlk
      obtain ⟨y74, rfl, hy74⟩ := p74 wv (Below.refl _ _)
      clear p74
      obtain ⟨y74_75, rfl, hy74_75⟩ := p75 wv (Below.refl _ _)
      clear p75
      obtain ⟨y74_75, hBS, hy74_75⟩ := pP wv (Below.refl _ _)
      clear pP
      simp only [putsO] at hact
      subst hact
      go_simp
      go_wp2_with fail
      go_meet
      case rel =>
       exact ⟨y74_75, tL.v, tL.r.q, tailA bL oL cL, some ⟨bM, oM, none⟩, nL - 1, cL - 1, nM, cM, lsL, tM :: lsM, rfl, rfl, by omega, hid (HL.out.tail (tailA_or _ _ _)), HM, hid (fun x hx => HleL0.out x (List.mem_cons_of_mem _ hx)), HleM0, hid (by exact addT_keepC (a := tL.q) (b := tM.q) h1), hid ((RV.at.short HUL.out HleL hk1).mono (by omega)), hid hBS, hid hy74_75, hb3.trans (Below.kept hgv (Nat.le_refl _) (by have := H8.lt; omega))⟩
     ·have hd1 := decide_eq_false h1
      by_cases h2 : tM.v < tL.v
      ·have hd2 := decide_eq_true h2
       go_upto_region 6 with fail
       go_quiet (fail)
       go_upto_region 8 with fail
       go_quiet (fail)
       go_upto_region 9 with fail
       refine wp_world (F := fun W => Below w3.heap.size w3 W) ⟨rfl, rfl, rfl, Nat.le_refl _, fun _ _ => rfl⟩ ?_
       rintro w4 hb4
       replace H8 := H8.below hb4
       replace HCL := hid (HCL.out.below ltL hb4)
       replace HUL := hid (HUL.out.below hb4)
       replace ltL := Nat.lt_of_lt_of_le ltL hb4.size
       replace HCM := hid (HCM.out.below ltM hb4)
       replace HUM := hid (HUM.out.below hb4)
       replace ltM := Nat.lt_of_lt_of_le ltM hb4.size
       replace hb3 := Below.then_ hb3 hb4
       clear hb4 kL0 kM0
       refine draw_G (fun W W' => W.grownBy W' (some wr.heap.size)) (fun W => w4.grownBy W (some wr.heap.size)) 12 none [some 93, some 94, some 95, some 96, some 97, some 98, some 99, some 100, some 101, some 102, some 103, some 104, none, some 7] [.is (.slice (some ⟨bM, oM, none⟩) nM cM), .is (.pointer (some ⟨bM, oM, none⟩)), .is (.pointer (some ⟨bM, oM, none⟩)), .is (.int .i64 tM.v), .is (.slice (some ⟨bM, oM, none⟩) nM cM), .is (.pointer (some ⟨bM, oM, none⟩)), .is (.pointer (some ⟨bM, oM + 1, none⟩)), .is (.agg #[.bool uM.s, .slice uM.A uM.n uM.c, .slice uM.A' uM.n' uM.c']), .such (fun W v => ∃ (yX : RV), v = .agg #[.bool yX.s, .slice yX.A yX.n yX.c, .slice yX.A' yX.n' yX.c'] ∧ yX.at W (rwOf (tM.r.q))), .such (fun W v => ∃ (y101_102 : RV), v = .agg #[.int .i64 tM.v, .bool y101_102.s, .slice y101_102.A y101_102.n y101_102.c, .slice y101_102.A' y101_102.n' y101_102.c'] ∧ y101_102.at W (rwOf (tM.r.q))), .is (.slice (some ⟨bM, oM, none⟩) nM cM), .is (.slice (tailA bM oM cM) (nM - 1) (cM - 1)), .own (fun W _ => ∃ (y101_102 : RV), Bs W wr.heap.size 65 [.int .i64 tM.v, .bool y101_102.s, .slice y101_102.A y101_102.n y101_102.c, .slice y101_102.A' y101_102.n' y101_102.c'] ∧ y101_102.at W (rwOf (tM.r.q))), .is (.slice (tailA bM oM cM) (nM - 1) (cM - 1))]
        (by kernel_rfl) (by kernel_rfl) (by kernel_rfl) (by kernel_rfl) rfl (by kernel_rfl) (fun _ h => grown_of h _) (fun _ _ h hb => kept_then h (grown_of hb _)) (fun _ _ hb h => kept_then (grown_of hb _) h) (fun q W1 W2 v hm hbw hk hq => by simp at hm; rcases hm with rfl | rfl <;> first | (obtain ⟨yX, rfl, hyX⟩ := hq W1 (Below.refl _ _); exact fun W hW => ⟨_, rfl, (RV.at.kp hyX (Kp.stored (B := 0) (H8.below hbw) (noU_i64 (noU_bool (noU_slice (noU_slice noU_nil)))) hk (Nat.zero_le _))).below hW⟩) | (obtain ⟨y101_102, rfl, hy101_102⟩ := hq W1 (Below.refl _ _); exact fun W hW => ⟨_, rfl, (RV.at.kp hy101_102 (Kp.stored (B := 0) (H8.below hbw) (noU_i64 (noU_bool (noU_slice (noU_slice noU_nil)))) hk (Nat.zero_le _))).below hW⟩)) ?_ ?_
       ·refine ⟨?_, ?_, ?_, ?_, ?_, ?_, ?_, ?_, ?_, ?_, ?_, ?_, ?_, ?_, trivial⟩
        ·intro a w3 hA K hK
         have t7 := hA.own 13 7 _ rfl (by kernel_rfl) rfl
         go_simp
         exact hK _ _ rfl (Below.refl _ _)
        ·intro a w3 hA K hK
         have t93 := bg_is hA 0 93
         go_simp
         exact hK _ _ Pg.fi_ (Below.refl _ _)
        ·intro a w3 hA K hK
         have t94 := bg_is hA 1 94
         go_simp
         exact hK _ _ rfl (Below.refl _ _)
        ·intro a w3 hA K hK
         have t95 := bg_is hA 2 95
         have k0 : w3.cell? ⟨bM, oM, none⟩ = some (.int .i64 tM.v) := (HCM.out.below ltM hA.below).at_ 0 rfl
         go_simp
         exact hK _ _ rfl (Below.refl _ _)
        ·intro a w3 hA K hK
         have t7 := hA.own 13 7 _ rfl (by kernel_rfl) rfl
         go_simp
         exact hK _ _ rfl (Below.refl _ _)
        ·intro a w3 hA K hK
         have t97 := bg_is hA 4 97
         go_simp
         exact hK _ _ Pg.fi_ (Below.refl _ _)
        ·intro a w3 hA K hK
         have t98 := bg_is hA 5 98
         go_simp
         exact hK _ _ rfl (Below.refl _ _)
        ·intro a w3 hA K hK
         have t99 := bg_is hA 6 99
         have k0 := (HCM.out.below ltM hA.below).at_ 1 rfl
         have k1 := (HCM.out.below ltM hA.below).at_ 2 rfl
         have k2 := (HCM.out.below ltM hA.below).at_ 3 rfl
         go_simp
         exact hK _ _ rfl (Below.refl _ _)
        ·intro a w3 hA K hK
         have t100 := bg_is hA 7 100
         have hC := Norm_Q _ (HUM.out.below hA.below) HleM (by omega) hk1
         go_simp
         refine hC.mono ?_
         rintro e w4 ⟨y, rfl, hy, hb⟩
         exact hK _ _ (fun W hW => ⟨_, rfl, hy.below hW⟩) hb
        ·intro a w3 hA K hK
         have t96 := bg_is hA 3 96
         obtain ⟨v101, t101, p101⟩ := bg_such hA 8 101
         obtain ⟨y101_102, rfl, hy101_102⟩ := p101 w3 (Below.refl _ _)
         have u96 := t96; rw [Array.getD_eq_getD_getElem?] at u96
         have u101 := t101; rw [Array.getD_eq_getD_getElem?] at u101
         go_simp
         exact hK _ _ (fun W hW => ⟨_, rfl, hy101_102.below hW⟩) (Below.refl _ _)
        ·intro a w3 hA K hK
         have t7 := hA.own 13 7 _ rfl (by kernel_rfl) rfl
         go_simp
         exact hK _ _ rfl (Below.refl _ _)
        ·intro a w3 hA K hK
         have t103 := bg_is hA 10 103
         go_simp
         exact hK _ _ Pg.fi_ (Below.refl _ _)
        ·intro a w3 hA K hK
         have t8 := hA.old 8 _ rfl rfl
         obtain ⟨v102, t102, p102⟩ := bg_such hA 9 102
         obtain ⟨y101_102, rfl, hy101_102⟩ := p102 w3 (Below.refl _ _)
         have hB := H8.below hA.below
         have f0 := hB.frozen 0
         have c0 := hB.cell 0 rfl
         have f1 := hB.frozen 1
         have c1 := hB.cell 1 rfl
         have f2 := hB.frozen 2
         have c2 := hB.cell 2 rfl
         have f3 := hB.frozen 3
         have c3 := hB.cell 3 rfl
         go_simp
         exact hK undef _ (fun W hW => ⟨_, (stored4 hB).1.below hW, (RV.at.kp hy101_102 (Kp.stored (B := 0) hB (noU_i64 (noU_bool (noU_slice (noU_slice noU_nil)))) (stored4 hB).2.1 (Nat.zero_le _))).below hW⟩) ⟨(stored4 hB).2.1, fun j d h => by cases h⟩
        ·intro a w3 hA K hK
         have t104 := bg_is hA 11 104
         go_simp
         exact hK _ _ Pg.fi_ (Below.refl _ _)
       rintro vs wv hV hgv hlk act hact
       repeat (replace hV := hV.is_; obtain ⟨_, rfl, hV⟩ := hV)
       replace hV := hV.such_; obtain ⟨v101, _, rfl, p101, hV⟩ := hV
       replace hV := hV.such_; obtain ⟨v102, _, rfl, p102, hV⟩ := hV
       repeat (replace hV := hV.is_; obtain ⟨_, rfl, hV⟩ := hV)
       replace hV := hV.own_; obtain ⟨vP, _, rfl, pP, hV⟩ := hV
       replace hV := hV.is_; obtain ⟨_, rfl, hV⟩ := hV
       obtain rfl := hV.nil_
       clear hV
       clear hlk
       obtain ⟨y101, rfl, hy101⟩ := p101 wv (Below.refl _ _)
       clear p101
       obtain ⟨y101_102, rfl, hy101_102⟩ := p102 wv (Below.refl _ _)
       clear p102
       obtain ⟨y101_102, hBS, hy101_102⟩ := pP wv (Below.refl _ _)
       clear pP
       simp only [putsO] at hact
       subst hact
       go_simp
       go_wp2_with fail
       go_meet
       case rel =>
        exact ⟨y101_102, tM.v, tM.r.q, some ⟨bL, oL, none⟩, tailA bM oM cM, nL, cL, nM - 1, cM - 1, tL :: lsL, lsM, rfl, rfl, by omega, HL, hid (HM.out.tail (tailA_or _ _ _)), HleL0, hid (fun x hx => HleM0.out x (List.mem_cons_of_mem _ hx)), hid (by exact addT_keepD (a := tL.q) (b := tM.q) h2), hid ((RV.at.short HUM.out HleM hk1).mono (by omega)), hid hBS, hid hy101_102, hb3.trans (Below.kept hgv (Nat.le_refl _) (by have := H8.lt; omega))⟩
      ·have hd2 := decide_eq_false h2
       go_upto_region 6 with fail
       go_quiet (fail)
       go_upto_region 8 with fail
       go_quiet (fail)
       go_upto_region 5 with fail
       refine wp_world (F := fun W => Below w3.heap.size w3 W) ⟨rfl, rfl, rfl, Nat.le_refl _, fun _ _ => rfl⟩ ?_
       rintro w4 hb4
       replace H8 := H8.below hb4
       replace HCL := hid (HCL.out.below ltL hb4)
       replace HUL := hid (HUL.out.below hb4)
       replace ltL := Nat.lt_of_lt_of_le ltL hb4.size
       replace HCM := hid (HCM.out.below ltM hb4)
       replace HUM := hid (HUM.out.below hb4)
       replace ltM := Nat.lt_of_lt_of_le ltM hb4.size
       replace hb3 := Below.then_ hb3 hb4
       clear hb4 kL0 kM0
       refine draw_G (fun W W' => W.grownBy W' (some wr.heap.size)) (fun W => w4.grownBy W (some wr.heap.size)) 18 none [some 28, some 29, some 30, some 31, some 32, some 33, some 34, some 35, some 36, some 37, some 38, some 39, some 40, some 41, some 42, some 43, some 44, some 45, none, some 6, some 7] [.is (.slice (some ⟨bL, oL, none⟩) nL cL), .is (.pointer (some ⟨bL, oL, none⟩)), .is (.pointer (some ⟨bL, oL, none⟩)), .is (.int .i64 tL.v), .is (.slice (some ⟨bL, oL, none⟩) nL cL), .is (.pointer (some ⟨bL, oL, none⟩)), .is (.pointer (some ⟨bL, oL + 1, none⟩)), .is (.agg #[.bool uL.s, .slice uL.A uL.n uL.c, .slice uL.A' uL.n' uL.c']), .is (.slice (some ⟨bM, oM, none⟩) nM cM), .is (.pointer (some ⟨bM, oM, none⟩)), .is (.pointer (some ⟨bM, oM + 1, none⟩)), .is (.agg #[.bool uM.s, .slice uM.A uM.n uM.c, .slice uM.A' uM.n' uM.c']), .such (fun W v => ∃ (yX : RV), v = .agg #[.bool yX.s, .slice yX.A yX.n yX.c, .slice yX.A' yX.n' yX.c'] ∧ yX.at W (rwOf (tL.r.q + tM.r.q))), .such (fun W v => ∃ (y40_41 : RV), v = .agg #[.int .i64 tL.v, .bool y40_41.s, .slice y40_41.A y40_41.n y40_41.c, .slice y40_41.A' y40_41.n' y40_41.c'] ∧ y40_41.at W (rwOf (tL.r.q + tM.r.q))), .is (.slice (some ⟨bL, oL, none⟩) nL cL), .is (.slice (tailA bL oL cL) (nL - 1) (cL - 1)), .is (.slice (some ⟨bM, oM, none⟩) nM cM), .is (.slice (tailA bM oM cM) (nM - 1) (cM - 1)), .own (fun W _ => ∃ (y40_41 : RV), Bs W wr.heap.size 65 [.int .i64 tL.v, .bool y40_41.s, .slice y40_41.A y40_41.n y40_41.c, .slice y40_41.A' y40_41.n' y40_41.c'] ∧ y40_41.at W (rwOf (tL.r.q + tM.r.q))), .is (.slice (tailA bL oL cL) (nL - 1) (cL - 1)), .is (.slice (tailA bM oM cM) (nM - 1) (cM - 1))]
        (by kernel_rfl) (by kernel_rfl) (by kernel_rfl) (by kernel_rfl) rfl (by kernel_rfl) (fun _ h => grown_of h _) (fun _ _ h hb => kept_then h (grown_of hb _)) (fun _ _ hb h => kept_then (grown_of hb _) h) (fun q W1 W2 v hm hbw hk hq => by simp at hm; rcases hm with rfl | rfl <;> first | (obtain ⟨yX, rfl, hyX⟩ := hq W1 (Below.refl _ _); exact fun W hW => ⟨_, rfl, (RV.at.kp hyX (Kp.stored (B := 0) (H8.below hbw) (noU_i64 (noU_bool (noU_slice (noU_slice noU_nil)))) hk (Nat.zero_le _))).below hW⟩) | (obtain ⟨y40_41, rfl, hy40_41⟩ := hq W1 (Below.refl _ _); exact fun W hW => ⟨_, rfl, (RV.at.kp hy40_41 (Kp.stored (B := 0) (H8.below hbw) (noU_i64 (noU_bool (noU_slice (noU_slice noU_nil)))) hk (Nat.zero_le _))).below hW⟩)) ?_ ?_
       ·refine ⟨?_, ?_, ?_, ?_, ?_, ?_, ?_, ?_, ?_, ?_, ?_, ?_, ?_, ?_, ?_, ?_, ?_, ?_, ?_, ?_, ?_, trivial⟩
        ·intro a w3 hA K hK
         have t6 := hA.own 19 6 _ rfl (by kernel_rfl) rfl
         go_simp
         exact hK _ _ rfl (Below.refl _ _)
        ·intro a w3 hA K hK
         have t28 := bg_is hA 0 28
         go_simp
         exact hK _ _ Pg.fi_ (Below.refl _ _)
        ·intro a w3 hA K hK
         have t29 := bg_is hA 1 29
         go_simp
         exact hK _ _ rfl (Below.refl _ _)
        ·intro a w3 hA K hK
         have t30 := bg_is hA 2 30
         have k0 : w3.cell? ⟨bL, oL, none⟩ = some (.int .i64 tL.v) := (HCL.out.below ltL hA.below).at_ 0 rfl
         go_simp
         exact hK _ _ rfl (Below.refl _ _)
        ·intro a w3 hA K hK
         have t6 := hA.own 19 6 _ rfl (by kernel_rfl) rfl
         go_simp
         exact hK _ _ rfl (Below.refl _ _)
        ·intro a w3 hA K hK
         have t32 := bg_is hA 4 32
         go_simp
         exact hK _ _ Pg.fi_ (Below.refl _ _)
        ·intro a w3 hA K hK
         have t33 := bg_is hA 5 33
         go_simp
         exact hK _ _ rfl (Below.refl _ _)
        ·intro a w3 hA K hK
         have t34 := bg_is hA 6 34
         have k0 := (HCL.out.below ltL hA.below).at_ 1 rfl
         have k1 := (HCL.out.below ltL hA.below).at_ 2 rfl
         have k2 := (HCL.out.below ltL hA.below).at_ 3 rfl
         go_simp
         exact hK _ _ rfl (Below.refl _ _)
        ·intro a w3 hA K hK
         have t7 := hA.own 20 7 _ rfl (by kernel_rfl) rfl
         go_simp
         exact hK _ _ rfl (Below.refl _ _)
        ·intro a w3 hA K hK
         have t36 := bg_is hA 8 36
         go_simp
         exact hK _ _ Pg.fi_ (Below.refl _ _)
        ·intro a w3 hA K hK
         have t37 := bg_is hA 9 37
         go_simp
         exact hK _ _ rfl (Below.refl _ _)
        ·intro a w3 hA K hK
         have t38 := bg_is hA 10 38
         have k0 := (HCM.out.below ltM hA.below).at_ 1 rfl
         have k1 := (HCM.out.below ltM hA.below).at_ 2 rfl
         have k2 := (HCM.out.below ltM hA.below).at_ 3 rfl
         go_simp
         exact hK _ _ rfl (Below.refl _ _)
        ·intro a w3 hA K hK
         have t35 := bg_is hA 7 35
         have t39 := bg_is hA 11 39
         have hC := Add_Q _ (HUL.out.below hA.below) (HUM.out.below hA.below) HleL HleM (by omega) hk1 rfl
         go_simp
         refine hC.mono ?_
         rintro e w4 ⟨y, rfl, hy, hb⟩
         exact hK _ _ (fun W hW => ⟨_, rfl, hy.below hW⟩) hb
        ·intro a w3 hA K hK
         have t31 := bg_is hA 3 31
         obtain ⟨v40, t40, p40⟩ := bg_such hA 12 40
         obtain ⟨y40_41, rfl, hy40_41⟩ := p40 w3 (Below.refl _ _)
         have u31 := t31; rw [Array.getD_eq_getD_getElem?] at u31
         have u40 := t40; rw [Array.getD_eq_getD_getElem?] at u40
         go_simp
         exact hK _ _ (fun W hW => ⟨_, rfl, hy40_41.below hW⟩) (Below.refl _ _)
        ·intro a w3 hA K hK
         have t6 := hA.own 19 6 _ rfl (by kernel_rfl) rfl
         go_simp
         exact hK _ _ rfl (Below.refl _ _)
        ·intro a w3 hA K hK
         have t42 := bg_is hA 14 42
         go_simp
         exact hK _ _ Pg.fi_ (Below.refl _ _)
        ·intro a w3 hA K hK
         have t7 := hA.own 20 7 _ rfl (by kernel_rfl) rfl
         go_simp
         exact hK _ _ rfl (Below.refl _ _)
        ·intro a w3 hA K hK
         have t44 := bg_is hA 16 44
         go_simp
         exact hK _ _ Pg.fi_ (Below.refl _ _)
        ·intro a w3 hA K hK
         have t8 := hA.old 8 _ rfl rfl
         obtain ⟨v41, t41, p41⟩ := bg_such hA 13 41
         obtain ⟨y40_41, rfl, hy40_41⟩ := p41 w3 (Below.refl _ _)
         have hB := H8.below hA.below
         have f0 := hB.frozen 0
         have c0 := hB.cell 0 rfl
         have f1 := hB.frozen 1
         have c1 := hB.cell 1 rfl
         have f2 := hB.frozen 2
         have c2 := hB.cell 2 rfl
         have f3 := hB.frozen 3
         have c3 := hB.cell 3 rfl
         go_simp
         exact hK undef _ (fun W hW => ⟨_, (stored4 hB).1.below hW, (RV.at.kp hy40_41 (Kp.stored (B := 0) hB (noU_i64 (noU_bool (noU_slice (noU_slice noU_nil)))) (stored4 hB).2.1 (Nat.zero_le _))).below hW⟩) ⟨(stored4 hB).2.1, fun j d h => by cases h⟩
        ·intro a w3 hA K hK
         have t43 := bg_is hA 15 43
         go_simp
         exact hK _ _ Pg.fi_ (Below.refl _ _)
        ·intro a w3 hA K hK
         have t45 := bg_is hA 17 45
         go_simp
         exact hK _ _ Pg.fi_ (Below.refl _ _)
       rintro vs wv hV hgv hlk act hact
       repeat (replace hV := hV.is_; obtain ⟨_, rfl, hV⟩ := hV)
       replace hV := hV.such_; obtain ⟨v40, _, rfl, p40, hV⟩ := hV
       replace hV := hV.such_; obtain ⟨v41, _, rfl, p41, hV⟩ := hV
       repeat (replace hV := hV.is_; obtain ⟨_, rfl, hV⟩ := hV)
       replace hV := hV.own_; obtain ⟨vP, _, rfl, pP, hV⟩ := hV
       repeat (replace hV := hV.is_; obtain ⟨_, rfl, hV⟩ := hV)
       obtain rfl := hV.nil_
       clear hV
       clear hlk
       obtain ⟨y40, rfl, hy40⟩ := p40 wv (Below.refl _ _)
       clear p40
       obtain ⟨y40_41, rfl, hy40_41⟩ := p41 wv (Below.refl _ _)
       clear p41
       obtain ⟨y40_41, hBS, hy40_41⟩ := pP wv (Below.refl _ _)
       clear pP
       simp only [putsO] at hact
       subst hact
       go_simp
       go_wp2_with fail
       go_meet
       case rel =>
        exact ⟨y40_41, tL.v, (tL.r.q + tM.r.q), tailA bL oL cL, tailA bM oM cM, nL - 1, cL - 1, nM - 1, cM - 1, lsL, lsM, rfl, rfl, by omega, hid (HL.out.tail (tailA_or _ _ _)), hid (HM.out.tail (tailA_or _ _ _)), hid (fun x hx => HleL0.out x (List.mem_cons_of_mem _ hx)), hid (fun x hx => HleM0.out x (List.mem_cons_of_mem _ hx)), hid (by exact addT_keepE (a := tL.q) (b := tM.q) (by show tL.v = tM.v; omega)), hid (((RV.at.short HUL.out HleL hk1).add (RV.at.short HUM.out HleM hk1)).mono (by omega)), hid hBS, hid hy40_41, hb3.trans (Below.kept hgv (Nat.le_refl _) (by have := H8.lt; omega))⟩
   case rest =>
    obtain ⟨y, v, q, L', M', nL', cL', nM', cM', ls', ms', rfl, rfl, hlt, HL', HM', Hle1, Hle2, Hk, Hsh, HB8, Hy8, hbc⟩ := hcut
    have c0 := HB8.out.cell 0 rfl
    have c1 := HB8.out.cell 1 rfl
    have c2 := HB8.out.cell 2 rfl
    have c3 := HB8.out.cell 3 rfl
    have HCc := HC.out.below hbc
    have HZr := hid fun W (hW : Below wc.heap.size wc W) => Zero_Q W (RV.at.below Hy8.out hW) (short_le Hsh.out) (by omega) rfl
    obtain ⟨B, hB⟩ : ∃ B, decide (q = 0) = B := ⟨_, rfl⟩
    rw [rwOf_q, hB] at HZr
    clear HL HM HleL0 HleM0 hb3 H8 hw3
    rcases B with _ | _
    ·have hq0 := of_decide_eq_false hB
     have Hk2 : Hid ((ts ++ [⟨v, rwOf q⟩]) ++ (addT (ls'.map TW.q) (ms'.map TW.q)).map twOf = R) := hid (by
      rw [← HE.out, ← Hk.out, keepT, if_neg (by exact hq0), List.append_assoc]; rfl)
     clear hq0 hB
     go_upto_region 11 with (go_at_call 41; (with_reducible refine (HZr.out _ (Below.refl _ _)).mono ?_); rintro e w6 ⟨rfl, hb6⟩)
     have hw6 := Below.then_ hbc hb6
     have HC6 := HCc.below hb6
     have H86 := HB8.out.below hb6
     have hsu := hsz
     have hg6 : g5 < w6.heap.size := HC6.lt
     have hgr : g5 < wr.heap.size := HC.out.lt
     have HO6 := HO.out.below hw6
     clear c0 c1 c2 c3
     have d1 := HC6.cell 1 rfl
     have f1 := HC6.frozen 1
     have c0 := H86.cell 0 rfl
     have c1 := H86.cell 1 rfl
     have c2 := H86.cell 2 rfl
     have c3 := H86.cell 3 rfl
     go_wp2_with (at_builtin; refine wpList_append_z _ rfl _ _ 34 rfl (g5 + 1) 65 4 64 _ Tryz.underlying34 infoTerm rfl (by decide) termZ (.slice S us.length sc) us.length _ rfl (HO6.below (Below.new_ (Below.refl _ _) _)) _ 1 (TV.cells ⟨v, y⟩) 65 rfl rfl (Bs.new _ _ _ _ rfl) (TV.one _) (TV.noU _) (by simp only [maxLen]; omega) (by omega) (by simp; omega) ?_; intro S7 sc7 w7 hO7 hk7; have HC7 := (HC6.alloc _).grown hk7 (fun e => by have := (HO6.own.lt _ e.symm).1; omega); have d1 := HC7.cell 1 rfl; have f1 := HC7.frozen 1)
     have hk8 := kept_set w7 g5 1 (.slice S7 (us.length + 1) sc7)
     have HC8 : Bs (w7.setCell ⟨g5, 1, none⟩ (.slice S7 (us.length + 1) sc7)) g5 36 [.int .i64 a.s, .slice S7 (us.length + 1) sc7, .bool y15_16.s, .slice y15_16.A y15_16.n y15_16.c, .slice y15_16.A' y15_16.n' y15_16.c'] := HC7.set 1 _
     have kp6 : Kp g5 w6 (w7.setCell ⟨g5, 1, none⟩ (.slice S7 (us.length + 1) sc7)) := ((Kp.of (Below.new_ (Below.refl _ _) _) (by omega)).trans (Kp.ownZ (HO6.below (Below.new_ (Below.refl _ _) _)) hk7 (by omega) (by simp; omega))).trans (Kp.stored HC7 conU hk8 (Nat.le_refl _))
     have kp := (Kp.of hw6 (by omega)).trans kp6
     refine ⟨⟨us ++ [⟨v, y⟩], S7, sc7, L', M', nL', cL', nM', cM', ls', ms', _, rfl, rfl, HL', HM', Hle1, Hle2, Hk2, by simp; omega, hid (HZ.out.kp kp (by omega)), hid (by rw [List.length_append]; exact HC8), hid (by rw [List.length_append, List.flatMap_append, List.flatMap_singleton]; exact hO7.grown hk8 (hO7.apart (by omega))), hid (TRead.snoc (u := ⟨v, y⟩) (t := ⟨v, rwOf q⟩) rfl (RowsAt.kp (RV.at.below Hy8.out hb6) kp6) (HRd.out.kp kp)), hid (HY.out.kp kp), hb.trans (kp.below.mono (by omega))⟩, ?_⟩
     simp [slen]; omega
    ·have hq0 := of_decide_eq_true hB
     have Hk2 : Hid (ts ++ (addT (ls'.map TW.q) (ms'.map TW.q)).map twOf = R) := hid (by rw [← HE.out, ← Hk.out, keepT, if_pos (by exact hq0)])
     clear hq0 hB
     go_wp2_with (go_at_call 41; (with_reducible refine (HZr.out _ (Below.refl _ _)).mono ?_); rintro e w6 ⟨rfl, hb6⟩)
     have hw6 := Below.then_ hbc hb6
     refine ⟨⟨us, S, sc, L', M', nL', cL', nM', cM', ls', ms', ts, rfl, rfl, HL', HM', Hle1, Hle2, Hk2, by omega, hid (HZ.out.below hw6), hid (HC.out.below hw6), hid (HO.out.below hw6), hid (HRd.out.below hw6), hid (RV.at.below HY.out hw6), Below.then_ hb hw6⟩, ?_⟩
     simp [slen]; omega
end Go.Proofs.YtahdlpkncemmaaaGreat
namespace Pg
open Go Go.RowKit
theorem drop_cons {α : Type} {l : List α} {j : Nat} {x : α} (h : l[j]? = some x) : l.drop j = x :: l.drop (j + 1) := by
 obtain ⟨hlt, e⟩ := List.getElem?_eq_some_iff.1 h
 rw [List.drop_eq_getElem_cons hlt, e]
theorem keep_split {q : Rat} {v : Int} {l : List TQ} : (if q = 0 then [] else [(⟨v, rwOf q⟩ : TW)]) ++ l.map twOf = (keepT ⟨v, q⟩ l).map twOf := by
 unfold keepT
 by_cases h : q = 0
 ·rw [if_pos h, if_pos (show (⟨v, q⟩ : TQ).c = 0 from h)]; rfl
 ·rw [if_neg h, if_neg (show ¬ (⟨v, q⟩ : TQ).c = 0 from h)]; rfl
end Pg
namespace Go.Proofs.YtahdlpkncemmaaaGreat
open Go.RowKit Pg
theorem rAdd_C {va vb : Value} {a b : CW} {k : Nat} (w : World) (ha : ConVal w va a) (hb : ConVal w vb b) (hle : a.Le k) (hle' : b.Le k) (hk : k ≤ 100000) (hk1 : 1 ≤ k) (hl : a.t.length ≤ 100000) (hl' : b.t.length ≤ 100000) :
  Calls Tryz.prog 21 #[va, vb] w (ConRet w (cwOf (addC a.q b.q))) := by
 obtain ⟨T, n, m, v0, v1, v2, rfl, hT, hx0⟩ := ha
 obtain ⟨x, rfl, rfl, rfl, hx⟩ := rows_rv hx0
 obtain ⟨T', n', m', v0', v1', v2', rfl, hT', hx0'⟩ := hb
 obtain ⟨x', rfl, rfl, rfl, hx'⟩ := rows_rv hx0'
 obtain ⟨p, hp⟩ : ∃ p, a.r.q + b.r.q = p := ⟨_, rfl⟩
 have HM := hid fun W (hW : Below w.heap.size w W) => r2Add_Q W (hx.below hW) (hx'.below hW) hle.2 hle'.2 (by omega) hk1 hp
 obtain ⟨R, hR⟩ : ∃ R, (addT (a.t.map TW.q) (b.t.map TW.q)).map twOf = R := ⟨_, rfl⟩
 have hn1 : n ≤ 100000 := hT.1 ▸ hl
 have hn2 : n' ≤ 100000 := hT'.1 ▸ hl'
 have HP := hid hp
 have HTa := hid hT
 have HTb := hid hT'
 have HLa := hid hle.1
 have HLb := hid hle'.1
 have HR := hid hR
 clear hx hx0 hx' hx0' hT hT' hp hR hle hle'
 go_enter Tryz.func21, Tryz.ntmps21
 go_upto_region 1 with fail
 refine wp_world (F := fun W => (Bs W w.heap.size 36 [.int .i64 a.s, .slice T n m, .bool x.s, .slice x.A x.n x.c, .slice x.A' x.n' x.c'] ∧ Bs W (w.heap.size + 1) 36 [.int .i64 b.s, .slice T' n' m', .bool x'.s, .slice x'.A x'.n x'.c, .slice x'.A' x'.n' x'.c'] ∧ Bs W (w.heap.size + 2) 36 [.int .i64 0, .slice none 0 0, .bool false, .slice none 0 0, .slice none 0 0]) ∧ Below w.heap.size w W)
  ⟨⟨((Bs.new w _ _ _ rfl).alloc _).alloc _, (Bs.new _ _ _ _ (by simp)).alloc _, Bs.new _ _ _ _ (by simp)⟩, Pg.bel⟩ ?_
 rintro w1 ⟨⟨HA, HB, HZ⟩, hb1⟩
 refine draw_last [8, 9, 10, 11, 12, 13, 14, 15, 5] [.is (.pointer (some ⟨w.heap.size, 0, none⟩)), .is (.int .i64 a.s), .is (.pointer (some ⟨w.heap.size, 2, none⟩)), .is (.agg #[.bool x.s, .slice x.A x.n x.c, .slice x.A' x.n' x.c']), .is (.pointer (some ⟨w.heap.size + 1, 2, none⟩)), .is (.agg #[.bool x'.s, .slice x'.A x'.n x'.c, .slice x'.A' x'.n' x'.c']), .such (fun W v => ∃ (yX : RV), v = .agg #[.bool yX.s, .slice yX.A yX.n yX.c, .slice yX.A' yX.n' yX.c'] ∧ yX.at W (rwOf (p))), .such (fun W v => ∃ (y14_15 : RV), v = .agg #[.int .i64 a.s, .slice none 0 0, .bool y14_15.s, .slice y14_15.A y14_15.n y14_15.c, .slice y14_15.A' y14_15.n' y14_15.c'] ∧ y14_15.at W (rwOf (p))), .such (fun W v => ∃ (gX : Nat), v = .pointer (some ⟨gX, 0, none⟩) ∧ w1.heap.size ≤ gX ∧ Bs W gX 36 [.int .i64 0, .slice none 0 0, .bool false, .slice none 0 0, .slice none 0 0])]
  (by kernel_rfl) (by kernel_rfl) (by kernel_rfl) (by decide) (by kernel_rfl) (by kernel_rfl) (by kernel_rfl) rfl ?_ ?_
 ·refine ⟨?_, ?_, ?_, ?_, ?_, ?_, ?_, ?_, ?_, trivial⟩
  ·intro a w3 hA K hK
   have t2 := hA.old 2 _ rfl rfl
   go_simp
   exact hK _ _ Pg.fi_ (Below.refl _ _)
  ·intro a w3 hA K hK
   have t8 := bt_is hA 0 8
   have k0 := (HA.below hA.below).cell 0 rfl
   go_simp
   exact hK _ _ Pg.fi_ (Below.refl _ _)
  ·intro a w3 hA K hK
   have t2 := hA.old 2 _ rfl rfl
   go_simp
   exact hK _ _ Pg.fi_ (Below.refl _ _)
  ·intro a w3 hA K hK
   have t10 := bt_is hA 2 10
   have k0 := (HA.below hA.below).cell 2 rfl
   have k1 := (HA.below hA.below).cell 3 rfl
   have k2 := (HA.below hA.below).cell 4 rfl
   go_simp
   exact hK _ _ Pg.fi_ (Below.refl _ _)
  ·intro a w3 hA K hK
   have t3 := hA.old 3 _ rfl rfl
   go_simp
   exact hK _ _ Pg.fi_ (Below.refl _ _)
  ·intro a w3 hA K hK
   have t12 := bt_is hA 4 12
   have k0 := (HB.below hA.below).cell 2 rfl
   have k1 := (HB.below hA.below).cell 3 rfl
   have k2 := (HB.below hA.below).cell 4 rfl
   go_simp
   exact hK _ _ Pg.fi_ (Below.refl _ _)
  ·intro a w3 hA K hK
   have t11 := bt_is hA 3 11
   have t13 := bt_is hA 5 13
   have hC := HM.out _ (Below.then_ hb1 hA.below)
   go_simp
   refine hC.mono ?_
   rintro e w4 ⟨y, rfl, hy, hb⟩
   exact hK _ _ (fun W hW => ⟨_, rfl, hy.below hW⟩) hb
  ·intro a w3 hA K hK
   have t9 := bt_is hA 1 9
   obtain ⟨v14, t14, p14⟩ := bt_such hA 6 14
   obtain ⟨y14_15, rfl, hy14_15⟩ := p14 w3 (Below.refl _ _)
   have u9 := t9; rw [Array.getD_eq_getD_getElem?] at u9
   have u14 := t14; rw [Array.getD_eq_getD_getElem?] at u14
   go_simp
   exact hK _ _ (fun W hW => ⟨_, rfl, hy14_15.below hW⟩) (Below.refl _ _)
  ·intro a w3 hA K hK
   go_simp
   exact hK _ _ (fun W hW => ⟨_, rfl, hA.below.size, (Bs.new w3 _ _ _ rfl).below hW⟩) (Below.new_ (Below.refl _ _) _)
 rintro vs wv hV hbv act hact hold hnew K hK
 repeat (replace hV := hV.is_; obtain ⟨_, rfl, hV⟩ := hV)
 replace hV := hV.such_; obtain ⟨v14, _, rfl, p14, hV⟩ := hV
 replace hV := hV.such_; obtain ⟨v15, _, rfl, p15, hV⟩ := hV
 replace hV := hV.such_; obtain ⟨v5, _, rfl, p5, hV⟩ := hV
 obtain rfl := hV.nil_
 clear hV
 obtain ⟨y14, rfl, hy14⟩ := p14 wv (Below.refl _ _)
 clear p14
 obtain ⟨y14_15, rfl, hy14_15⟩ := p15 wv (Below.refl _ _)
 clear p15
 obtain ⟨g5, rfl, lg5, hg5⟩ := p5 wv (Below.refl _ _)
 clear p5
 simp only [puts] at hact
 have tq1 := hnew 8 5 _ rfl rfl
 have tq2 := hnew 7 15 _ rfl rfl
 clear hold hnew
 have Hact := hid hact
 clear hact
 clear hy14
 have f0 := hg5.frozen 0
 have f1 := hg5.frozen 1
 have f2 := hg5.frozen 2
 have f3 := hg5.frozen 3
 have f4 := hg5.frozen 4
 have c0 := hg5.cell 0 rfl
 have c1 := hg5.cell 1 rfl
 have c2 := hg5.cell 2 rfl
 have c3 := hg5.cell 3 rfl
 have c4 := hg5.cell 4 rfl
 go_simp
 refine hK _ _ ?_
 have hact := Hact.out
 clear Hact tq1 tq2
 subst hact
 go_simp
 go_upto_region 2 with fail
 refine wp_world (F := Stored wv g5 36 [.int .i64 a.s, .slice none 0 0, .bool y14_15.s, .slice y14_15.A y14_15.n y14_15.c, .slice y14_15.A' y14_15.n' y14_15.c']) (stored5 hg5) ?_
 rintro w2 ⟨HC, hk2, hs2⟩
 have HA2 := (HA.below hbv).grown hk2 (by have := HZ.lt; intro e; injection e with e; omega)
 have HB2 := (HB.below hbv).grown hk2 (by have := HZ.lt; intro e; injection e with e; omega)
 have HZ2 := (HZ.below hbv).grown hk2 (by have := HZ.lt; intro e; injection e with e; omega)
 have hy2 := RowsAt.kept hy14_15 hg5 conU0 hk2
 have hb2 : Below w.heap.size w w2 := Below.trans (Below.then_ hb1 hbv) (Below.kept hk2 (by have := hb1.size; omega) (by have := hb1.size; have := hbv.size; omega))
 have hgw : w.heap.size + 2 < g5 := by have := HZ.lt; omega
 clear hk2 hs2 hg5 lg5 hbv HA HB HZ hb1 c0 c1 c2 c3 c4 f0 f1 f2 f3 f4 hy14_15 HM
 go_wp2_with fail
 go_loopw [6, 7] (fun s6 s7 wr => ∃ (us : List TV) (S : Option Addr) (sc : Nat) (j1 j2 : Nat) (ts : List TW), s6 = .int .i64 (j1 : Int) ∧ s7 = .int .i64 (j2 : Int) ∧ j1 ≤ n ∧ j2 ≤ n' ∧ Hid (ts ++ (addT ((a.t.drop j1).map TW.q) ((b.t.drop j2).map TW.q)).map twOf = R) ∧ us.length ≤ j1 + j2 ∧ Hid (Bs wr w.heap.size 36 [.int .i64 a.s, .slice T n m, .bool x.s, .slice x.A x.n x.c, .slice x.A' x.n' x.c']) ∧ Hid (Bs wr (w.heap.size + 1) 36 [.int .i64 b.s, .slice T' n' m', .bool x'.s, .slice x'.A x'.n x'.c, .slice x'.A' x'.n' x'.c']) ∧ Hid (Bs wr (w.heap.size + 2) 36 [.int .i64 0, .slice none 0 0, .bool false, .slice none 0 0, .slice none 0 0]) ∧ Hid (Bs wr g5 36 [.int .i64 a.s, .slice S us.length sc, .bool y14_15.s, .slice y14_15.A y14_15.n y14_15.c, .slice y14_15.A' y14_15.n' y14_15.c']) ∧ Hid (OwnZ wr (g5 + 1) 65 4 (.slice S us.length sc) us.length (us.flatMap TV.cells)) ∧ Hid (TRead wr us ts) ∧ Hid (y14_15.at wr (rwOf p)) ∧ Below w.heap.size w wr) (fun s6 s7 _ => n + n' - ((intOf s6).toNat + (intOf s7).toNat))
 case atStart => exact ⟨[], none, 0, 0, 0, [], rfl, rfl, Nat.zero_le _, Nat.zero_le _, hid HR.out, Nat.zero_le _, hid HA2, hid HB2, hid HZ2, hid HC, hid (OwnZ.nil _ _ _ _), hid trivial, hid hy2, hb2⟩
 case round =>
  obtain ⟨us, S, sc, j1, j2, ts, rfl, rfl, hj1, hj2, HE, hul, HA, HB, HZ, HC, HO, HRd, HY, hb⟩ := hrel
  clear HA2 HB2 HZ2 hy2 hb2
  have a1 := HA.out.cell 1 rfl
  have b1 := HB.out.cell 1 rfl
  have hne : ∀ k, k ≤ g5 → some k ≠ Value.ownBlock (.slice S us.length sc) := fun k hk e => by have := (HO.out.own.lt _ e.symm).1; omega
  by_cases hL : j1 < n
  ·have dL0 : ((j1 : Int) == (n : Int)) = false := beq_eq_false_iff_ne.2 (by omega)
   have dLi : decide ((j1 : Int) < (n : Int)) = true := decide_eq_true (by omega)
   by_cases hM : j2 < n'
   ·have dM0 : ((j2 : Int) == (n' : Int)) = false := beq_eq_false_iff_ne.2 (by omega)
    obtain ⟨e1L, _, _, _, _, e6L⟩ := HTa.out
    obtain ⟨bL, oL, rfl, hbL, hxL⟩ := e6L (by omega)
    obtain ⟨tL, htL⟩ : ∃ t, a.t[j1]? = some t := ⟨a.t[j1]'(by omega), List.getElem?_eq_getElem _⟩
    obtain ⟨x0L, x1L, x2L, hcL, hu0L⟩ := termAt_stays _ _ _ _ _ hbL (hxL j1 tL htL) hb
    obtain ⟨uL, rfl, rfl, rfl, huL⟩ := rows_rv hu0L
    have HCL := hid hcL
    have HUL := hid huL
    have HleL := HLa.out tL (List.mem_of_getElem? htL)
    have hdL := hid (drop_cons htL)
    have ltL : bL < wr.heap.size := Nat.lt_of_lt_of_le hbL hb.size
    have kL0 : wr.cell? ⟨bL, oL + j1 * 4, none⟩ = some (.int .i64 tL.v) := hcL.at_ 0 rfl
    have iL0 : (0 : Int) ≤ (j1 : Int) := Int.natCast_nonneg _
    have iL1 : (j1 : Int) < (n : Int) := by omega
    clear e1L e6L hxL htL hcL hu0L huL
    obtain ⟨e1M, _, _, _, _, e6M⟩ := HTb.out
    obtain ⟨bM, oM, rfl, hbM, hxM⟩ := e6M (by omega)
    obtain ⟨tM, htM⟩ : ∃ t, b.t[j2]? = some t := ⟨b.t[j2]'(by omega), List.getElem?_eq_getElem _⟩
    obtain ⟨x0M, x1M, x2M, hcM, hu0M⟩ := termAt_stays _ _ _ _ _ hbM (hxM j2 tM htM) hb
    obtain ⟨uM, rfl, rfl, rfl, huM⟩ := rows_rv hu0M
    have HCM := hid hcM
    have HUM := hid huM
    have HleM := HLb.out tM (List.mem_of_getElem? htM)
    have hdM := hid (drop_cons htM)
    have ltM : bM < wr.heap.size := Nat.lt_of_lt_of_le hbM hb.size
    have kM0 : wr.cell? ⟨bM, oM + j2 * 4, none⟩ = some (.int .i64 tM.v) := hcM.at_ 0 rfl
    have iM0 : (0 : Int) ≤ (j2 : Int) := Int.natCast_nonneg _
    have iM1 : (j2 : Int) < (n' : Int) := by omega
    clear e1M e6M hxM htM hcM hu0M huM
    by_cases h1 : tL.v < tM.v
    ·have hd1 := decide_eq_true h1
     go_upto_region 7 with fail
     go_quiet (fail)
     go_upto_region 8 with fail
     refine wp_world (F := fun W => Below wr.heap.size wr W) ⟨rfl, rfl, rfl, Nat.le_refl _, fun _ _ => rfl⟩ ?_
     rintro w4 hb4
     replace HA := hid (HA.out.below hb4)
     replace HB := hid (HB.out.below hb4)
     replace HZ := hid (HZ.out.below hb4)
     replace HC := hid (HC.out.below hb4)
     replace HO := hid (HO.out.below hb4)
     replace HRd := hid (HRd.out.below hb4)
     replace HY := hid (HY.out.below hb4)
     replace HCL := hid (HCL.out.below ltL hb4)
     replace HUL := hid (HUL.out.below hb4)
     replace ltL := Nat.lt_of_lt_of_le ltL hb4.size
     replace HCM := hid (HCM.out.below ltM hb4)
     replace HUM := hid (HUM.out.below hb4)
     replace ltM := Nat.lt_of_lt_of_le ltM hb4.size
     replace hb := Below.then_ hb hb4
     have hgr : g5 < w4.heap.size := HC.out.lt
     clear hb4 a1 b1 kL0 kM0
     refine draw_app2 (Value.ownBlock (.slice S us.length sc)) 14 [83, 84, 85, 86, 87, 88, 89, 90, 91, 92, 93, 94, 95, 96, 97, 98] [.is (.pointer (some ⟨g5, 1, none⟩)), .is (.slice S us.length sc), .is (.pointer (some ⟨w.heap.size, 1, none⟩)), .is (.slice (some ⟨bL, oL, none⟩) n m), .is (.int .i64 (j1 : Int)), .is (.pointer (some ⟨bL, oL + j1 * 4, none⟩)), .is (.pointer (some ⟨bL, oL + j1 * 4, none⟩)), .is (.int .i64 tL.v), .is (.pointer (some ⟨w.heap.size, 1, none⟩)), .is (.slice (some ⟨bL, oL, none⟩) n m), .is (.int .i64 (j1 : Int)), .is (.pointer (some ⟨bL, oL + j1 * 4, none⟩)), .is (.pointer (some ⟨bL, oL + j1 * 4 + 1, none⟩)), .is (.agg #[.bool uL.s, .slice uL.A uL.n uL.c, .slice uL.A' uL.n' uL.c']), .own (fun W v => ∃ (usX : List TV) (SX : Option Addr) (scX : Nat), v = .slice SX usX.length scX ∧ OwnZ W (g5 + 1) 65 4 (.slice SX usX.length scX) usX.length (usX.flatMap TV.cells) ∧ TRead W usX (ts ++ if tL.r.q = 0 then [] else [⟨tL.v, rwOf tL.r.q⟩])), .is (.pointer (some ⟨g5, 1, none⟩))]
      (by kernel_rfl) (by kernel_rfl) (by kernel_rfl) (by decide) (by decide) (by kernel_rfl) (by kernel_rfl) (by kernel_rfl) rfl (by rfl) (fun g hg => (HO.out.own.lt g hg).2) (fun q W1 W2 v hm => by simp at hm) ?_ ?_
     ·refine ⟨?_, ?_, ?_, ?_, ?_, ?_, ?_, ?_, ?_, ?_, ?_, ?_, ?_, ?_, ?_, ?_, trivial⟩
      ·intro a w3 hA hbl K hK
       have t5 := hA.old 5 _ rfl rfl
       go_simp
       exact hK _ _ Pg.fi_ (Below.refl _ _)
      ·intro a w3 hA hbl K hK
       have t83 := bw_is hA 0 83
       have k0 := (HC.out.grown hA.grown (hne _ (by omega))).cell 1 rfl
       go_simp
       exact hK _ _ Pg.fi_ (Below.refl _ _)
      ·intro a w3 hA hbl K hK
       have t2 := hA.old 2 _ rfl rfl
       go_simp
       exact hK _ _ Pg.fi_ (Below.refl _ _)
      ·intro a w3 hA hbl K hK
       have t85 := bw_is hA 2 85
       have k0 := (HA.out.grown hA.grown (hne _ (by omega))).cell 1 rfl
       go_simp
       exact hK _ _ Pg.fi_ (Below.refl _ _)
      ·intro a w3 hA hbl K hK
       have t6 := hA.old 6 _ rfl rfl
       go_simp
       exact hK _ _ Pg.fi_ (Below.refl _ _)
      ·intro a w3 hA hbl K hK
       have t86 := bw_is hA 3 86
       have t87 := bw_is hA 4 87
       go_simp
       exact hK _ _ Pg.fi_ (Below.refl _ _)
      ·intro a w3 hA hbl K hK
       have t88 := bw_is hA 5 88
       go_simp
       exact hK _ _ Pg.fi_ (Below.refl _ _)
      ·intro a w3 hA hbl K hK
       have t89 := bw_is hA 6 89
       have k0 : w3.cell? ⟨bL, oL + j1 * 4, none⟩ = some (.int .i64 tL.v) := (HCL.out.gr ltL hA.grown (hne _ (by omega))).at_ 0 rfl
       go_simp
       exact hK _ _ Pg.fi_ (Below.refl _ _)
      ·intro a w3 hA hbl K hK
       have t2 := hA.old 2 _ rfl rfl
       go_simp
       exact hK _ _ Pg.fi_ (Below.refl _ _)
      ·intro a w3 hA hbl K hK
       have t91 := bw_is hA 8 91
       have k0 := (HA.out.grown hA.grown (hne _ (by omega))).cell 1 rfl
       go_simp
       exact hK _ _ Pg.fi_ (Below.refl _ _)
      ·intro a w3 hA hbl K hK
       have t6 := hA.old 6 _ rfl rfl
       go_simp
       exact hK _ _ Pg.fi_ (Below.refl _ _)
      ·intro a w3 hA hbl K hK
       have t92 := bw_is hA 9 92
       have t93 := bw_is hA 10 93
       go_simp
       exact hK _ _ Pg.fi_ (Below.refl _ _)
      ·intro a w3 hA hbl K hK
       have t94 := bw_is hA 11 94
       go_simp
       exact hK _ _ Pg.fi_ (Below.refl _ _)
      ·intro a w3 hA hbl K hK
       have t95 := bw_is hA 12 95
       have k0 := (HCL.out.gr ltL hA.grown (hne _ (by omega))).at_ 1 rfl
       have k1 := (HCL.out.gr ltL hA.grown (hne _ (by omega))).at_ 2 rfl
       have k2 := (HCL.out.gr ltL hA.grown (hne _ (by omega))).at_ 3 rfl
       go_simp
       exact hK _ _ Pg.fi_ (Below.refl _ _)
      ·intro a w3 hA hbl K hK
       have t84 := bw_is hA 1 84
       have t90 := bw_is hA 7 90
       have t96 := bw_is hA 13 96
       have hC := lay_C (v := tL.v) w3 (HO.out.below hbl) (HRd.out.below hbl) (HUL.out.below hbl) HleL (by omega) hk1 (by have := hbl.size; omega) (by omega)
       go_simp
       refine hC.mono ?_
       rintro e w4 ⟨us', S7, sc7, rfl, hO7, hR7, hk7⟩
       exact hK _ _ (fun W hW => ⟨_, _, _, rfl, hO7.below hW, hR7.below hW⟩) hk7
      ·intro a w3 hA hbl K hK
       have t5 := hA.old 5 _ rfl rfl
       go_simp
       exact hK _ _ Pg.fi_ (Below.refl _ _)
     rintro vs wv hV hgv act hact hold hnew K hK
     repeat (replace hV := hV.is_; obtain ⟨_, rfl, hV⟩ := hV)
     replace hV := hV.own_; obtain ⟨v97, _, rfl, p97, hV⟩ := hV
     replace hV := hV.is_; obtain ⟨_, rfl, hV⟩ := hV
     obtain rfl := hV.nil_
     clear hV
     obtain ⟨us97, S97, sc97, rfl, hO97, hR97⟩ := p97 wv (Below.refl _ _)
     clear p97
     simp only [puts] at hact
     have tq1 := hnew 15 98 _ rfl rfl
     have tq2 := hnew 14 97 _ rfl rfl
     clear hold hnew
     have Hact := hid hact
     clear hact
     have HC7 := HC.out.grown hgv (hne _ (Nat.le_refl _))
     have f1 := HC7.frozen 1
     have c1 := HC7.cell 1 rfl
     go_simp
     refine hK _ _ ?_
     have hact := Hact.out
     clear Hact tq1 tq2
     subst hact
     go_simp
     go_upto_region 9 with fail
     refine wp_at1 (ds := [.int .i64 a.s, .slice S97 us97.length sc97, .bool y14_15.s, .slice y14_15.A y14_15.n y14_15.c, .slice y14_15.A' y14_15.n' y14_15.c']) HC7 rfl ?_
     rintro w8 ⟨HC8, hk8, hs8⟩
     have kp : Kp g5 w4 w8 := (Kp.ownZ HO.out hgv (by omega) (by omega)).trans (Kp.stored HC7 conU hk8 (Nat.le_refl _))
     have k8 := Kp.stored (B := 0) HC7 conU hk8 (Nat.zero_le _)
     have hul8 : us97.length ≤ us.length + 1 := by rw [hR97.len, HRd.out.len, List.length_append]; split <;> simp
     clear hgv HC7 f1 c1
     go_wp2_with fail
     refine ⟨⟨us97, S97, sc97, j1 + 1, j2, _, by go_num, by go_num, by omega, by omega, hid (by rw [List.append_assoc, ← HE.out, hdL.out, hdM.out, keep_split]; exact congrArg (ts ++ ·) (congrArg (List.map twOf) (addT_keepC (a := tL.q) (b := tM.q) h1))), by omega, hid (HA.out.kp kp (by omega)), hid (HB.out.kp kp (by omega)), hid (HZ.out.kp kp (by omega)), hid HC8, hid (hO97.grown hk8 (hO97.apart (by omega))), hid (hR97.kp k8), hid (HY.out.kp kp), hb.trans (kp.below.mono (by omega))⟩, ?_⟩
     simp [intOf]; omega
    ·have hd1 := decide_eq_false h1
     by_cases h2 : tM.v < tL.v
     ·have hd2 := decide_eq_true h2
      go_upto_region 7 with fail
      go_quiet (fail)
      go_upto_region 10 with fail
      go_quiet (fail)
      go_upto_region 11 with fail
      refine wp_world (F := fun W => Below wr.heap.size wr W) ⟨rfl, rfl, rfl, Nat.le_refl _, fun _ _ => rfl⟩ ?_
      rintro w4 hb4
      replace HA := hid (HA.out.below hb4)
      replace HB := hid (HB.out.below hb4)
      replace HZ := hid (HZ.out.below hb4)
      replace HC := hid (HC.out.below hb4)
      replace HO := hid (HO.out.below hb4)
      replace HRd := hid (HRd.out.below hb4)
      replace HY := hid (HY.out.below hb4)
      replace HCL := hid (HCL.out.below ltL hb4)
      replace HUL := hid (HUL.out.below hb4)
      replace ltL := Nat.lt_of_lt_of_le ltL hb4.size
      replace HCM := hid (HCM.out.below ltM hb4)
      replace HUM := hid (HUM.out.below hb4)
      replace ltM := Nat.lt_of_lt_of_le ltM hb4.size
      replace hb := Below.then_ hb hb4
      have hgr : g5 < w4.heap.size := HC.out.lt
      clear hb4 a1 b1 kL0 kM0
      refine draw_app2 (Value.ownBlock (.slice S us.length sc)) 14 [122, 123, 124, 125, 126, 127, 128, 129, 130, 131, 132, 133, 134, 135, 136, 137] [.is (.pointer (some ⟨g5, 1, none⟩)), .is (.slice S us.length sc), .is (.pointer (some ⟨w.heap.size + 1, 1, none⟩)), .is (.slice (some ⟨bM, oM, none⟩) n' m'), .is (.int .i64 (j2 : Int)), .is (.pointer (some ⟨bM, oM + j2 * 4, none⟩)), .is (.pointer (some ⟨bM, oM + j2 * 4, none⟩)), .is (.int .i64 tM.v), .is (.pointer (some ⟨w.heap.size + 1, 1, none⟩)), .is (.slice (some ⟨bM, oM, none⟩) n' m'), .is (.int .i64 (j2 : Int)), .is (.pointer (some ⟨bM, oM + j2 * 4, none⟩)), .is (.pointer (some ⟨bM, oM + j2 * 4 + 1, none⟩)), .is (.agg #[.bool uM.s, .slice uM.A uM.n uM.c, .slice uM.A' uM.n' uM.c']), .own (fun W v => ∃ (usX : List TV) (SX : Option Addr) (scX : Nat), v = .slice SX usX.length scX ∧ OwnZ W (g5 + 1) 65 4 (.slice SX usX.length scX) usX.length (usX.flatMap TV.cells) ∧ TRead W usX (ts ++ if tM.r.q = 0 then [] else [⟨tM.v, rwOf tM.r.q⟩])), .is (.pointer (some ⟨g5, 1, none⟩))]
       (by kernel_rfl) (by kernel_rfl) (by kernel_rfl) (by decide) (by decide) (by kernel_rfl) (by kernel_rfl) (by kernel_rfl) rfl (by rfl) (fun g hg => (HO.out.own.lt g hg).2) (fun q W1 W2 v hm => by simp at hm) ?_ ?_
      ·refine ⟨?_, ?_, ?_, ?_, ?_, ?_, ?_, ?_, ?_, ?_, ?_, ?_, ?_, ?_, ?_, ?_, trivial⟩
       ·intro a w3 hA hbl K hK
        have t5 := hA.old 5 _ rfl rfl
        go_simp
        exact hK _ _ Pg.fi_ (Below.refl _ _)
       ·intro a w3 hA hbl K hK
        have t122 := bw_is hA 0 122
        have k0 := (HC.out.grown hA.grown (hne _ (by omega))).cell 1 rfl
        go_simp
        exact hK _ _ Pg.fi_ (Below.refl _ _)
       ·intro a w3 hA hbl K hK
        have t3 := hA.old 3 _ rfl rfl
        go_simp
        exact hK _ _ Pg.fi_ (Below.refl _ _)
       ·intro a w3 hA hbl K hK
        have t124 := bw_is hA 2 124
        have k0 := (HB.out.grown hA.grown (hne _ (by omega))).cell 1 rfl
        go_simp
        exact hK _ _ Pg.fi_ (Below.refl _ _)
       ·intro a w3 hA hbl K hK
        have t7 := hA.old 7 _ rfl rfl
        go_simp
        exact hK _ _ Pg.fi_ (Below.refl _ _)
       ·intro a w3 hA hbl K hK
        have t125 := bw_is hA 3 125
        have t126 := bw_is hA 4 126
        go_simp
        exact hK _ _ Pg.fi_ (Below.refl _ _)
       ·intro a w3 hA hbl K hK
        have t127 := bw_is hA 5 127
        go_simp
        exact hK _ _ Pg.fi_ (Below.refl _ _)
       ·intro a w3 hA hbl K hK
        have t128 := bw_is hA 6 128
        have k0 : w3.cell? ⟨bM, oM + j2 * 4, none⟩ = some (.int .i64 tM.v) := (HCM.out.gr ltM hA.grown (hne _ (by omega))).at_ 0 rfl
        go_simp
        exact hK _ _ Pg.fi_ (Below.refl _ _)
       ·intro a w3 hA hbl K hK
        have t3 := hA.old 3 _ rfl rfl
        go_simp
        exact hK _ _ Pg.fi_ (Below.refl _ _)
       ·intro a w3 hA hbl K hK
        have t130 := bw_is hA 8 130
        have k0 := (HB.out.grown hA.grown (hne _ (by omega))).cell 1 rfl
        go_simp
        exact hK _ _ Pg.fi_ (Below.refl _ _)
       ·intro a w3 hA hbl K hK
        have t7 := hA.old 7 _ rfl rfl
        go_simp
        exact hK _ _ Pg.fi_ (Below.refl _ _)
       ·intro a w3 hA hbl K hK
        have t131 := bw_is hA 9 131
        have t132 := bw_is hA 10 132
        go_simp
        exact hK _ _ Pg.fi_ (Below.refl _ _)
       ·intro a w3 hA hbl K hK
        have t133 := bw_is hA 11 133
        go_simp
        exact hK _ _ Pg.fi_ (Below.refl _ _)
       ·intro a w3 hA hbl K hK
        have t134 := bw_is hA 12 134
        have k0 := (HCM.out.gr ltM hA.grown (hne _ (by omega))).at_ 1 rfl
        have k1 := (HCM.out.gr ltM hA.grown (hne _ (by omega))).at_ 2 rfl
        have k2 := (HCM.out.gr ltM hA.grown (hne _ (by omega))).at_ 3 rfl
        go_simp
        exact hK _ _ Pg.fi_ (Below.refl _ _)
       ·intro a w3 hA hbl K hK
        have t123 := bw_is hA 1 123
        have t129 := bw_is hA 7 129
        have t135 := bw_is hA 13 135
        have hC := lay_C (v := tM.v) w3 (HO.out.below hbl) (HRd.out.below hbl) (HUM.out.below hbl) HleM (by omega) hk1 (by have := hbl.size; omega) (by omega)
        go_simp
        refine hC.mono ?_
        rintro e w4 ⟨us', S7, sc7, rfl, hO7, hR7, hk7⟩
        exact hK _ _ (fun W hW => ⟨_, _, _, rfl, hO7.below hW, hR7.below hW⟩) hk7
       ·intro a w3 hA hbl K hK
        have t5 := hA.old 5 _ rfl rfl
        go_simp
        exact hK _ _ Pg.fi_ (Below.refl _ _)
      rintro vs wv hV hgv act hact hold hnew K hK
      repeat (replace hV := hV.is_; obtain ⟨_, rfl, hV⟩ := hV)
      replace hV := hV.own_; obtain ⟨v136, _, rfl, p136, hV⟩ := hV
      replace hV := hV.is_; obtain ⟨_, rfl, hV⟩ := hV
      obtain rfl := hV.nil_
      clear hV
      obtain ⟨us136, S136, sc136, rfl, hO136, hR136⟩ := p136 wv (Below.refl _ _)
      clear p136
      simp only [puts] at hact
      have tq1 := hnew 15 137 _ rfl rfl
      have tq2 := hnew 14 136 _ rfl rfl
      clear hold hnew
      have Hact := hid hact
      clear hact
      have HC7 := HC.out.grown hgv (hne _ (Nat.le_refl _))
      have f1 := HC7.frozen 1
      have c1 := HC7.cell 1 rfl
      go_simp
      refine hK _ _ ?_
      have hact := Hact.out
      clear Hact tq1 tq2
      subst hact
      go_simp
      go_upto_region 12 with fail
      refine wp_at1 (ds := [.int .i64 a.s, .slice S136 us136.length sc136, .bool y14_15.s, .slice y14_15.A y14_15.n y14_15.c, .slice y14_15.A' y14_15.n' y14_15.c']) HC7 rfl ?_
      rintro w8 ⟨HC8, hk8, hs8⟩
      have kp : Kp g5 w4 w8 := (Kp.ownZ HO.out hgv (by omega) (by omega)).trans (Kp.stored HC7 conU hk8 (Nat.le_refl _))
      have k8 := Kp.stored (B := 0) HC7 conU hk8 (Nat.zero_le _)
      have hul8 : us136.length ≤ us.length + 1 := by rw [hR136.len, HRd.out.len, List.length_append]; split <;> simp
      clear hgv HC7 f1 c1
      go_wp2_with fail
      refine ⟨⟨us136, S136, sc136, j1, j2 + 1, _, by go_num, by go_num, by omega, by omega, hid (by rw [List.append_assoc, ← HE.out, hdL.out, hdM.out, keep_split]; exact congrArg (ts ++ ·) (congrArg (List.map twOf) (addT_keepD (a := tL.q) (b := tM.q) h2))), by omega, hid (HA.out.kp kp (by omega)), hid (HB.out.kp kp (by omega)), hid (HZ.out.kp kp (by omega)), hid HC8, hid (hO136.grown hk8 (hO136.apart (by omega))), hid (hR136.kp k8), hid (HY.out.kp kp), hb.trans (kp.below.mono (by omega))⟩, ?_⟩
      simp [intOf]; omega
     ·have hd2 := decide_eq_false h2
      go_upto_region 7 with fail
      go_quiet (fail)
      go_upto_region 10 with fail
      go_quiet (fail)
      go_upto_region 4 with fail
      refine wp_world (F := fun W => Below wr.heap.size wr W) ⟨rfl, rfl, rfl, Nat.le_refl _, fun _ _ => rfl⟩ ?_
      rintro w4 hb4
      replace HA := hid (HA.out.below hb4)
      replace HB := hid (HB.out.below hb4)
      replace HZ := hid (HZ.out.below hb4)
      replace HC := hid (HC.out.below hb4)
      replace HO := hid (HO.out.below hb4)
      replace HRd := hid (HRd.out.below hb4)
      replace HY := hid (HY.out.below hb4)
      replace HCL := hid (HCL.out.below ltL hb4)
      replace HUL := hid (HUL.out.below hb4)
      replace ltL := Nat.lt_of_lt_of_le ltL hb4.size
      replace HCM := hid (HCM.out.below ltM hb4)
      replace HUM := hid (HUM.out.below hb4)
      replace ltM := Nat.lt_of_lt_of_le ltM hb4.size
      replace hb := Below.then_ hb hb4
      have hgr : g5 < w4.heap.size := HC.out.lt
      clear hb4 a1 b1 kL0 kM0
      refine draw_app2 (Value.ownBlock (.slice S us.length sc)) 21 [28, 29, 30, 31, 32, 33, 34, 35, 36, 37, 38, 39, 40, 41, 42, 43, 44, 45, 46, 47, 48, 49, 50] [.is (.pointer (some ⟨g5, 1, none⟩)), .is (.slice S us.length sc), .is (.pointer (some ⟨w.heap.size, 1, none⟩)), .is (.slice (some ⟨bL, oL, none⟩) n m), .is (.int .i64 (j1 : Int)), .is (.pointer (some ⟨bL, oL + j1 * 4, none⟩)), .is (.pointer (some ⟨bL, oL + j1 * 4, none⟩)), .is (.int .i64 tL.v), .is (.pointer (some ⟨w.heap.size, 1, none⟩)), .is (.slice (some ⟨bL, oL, none⟩) n m), .is (.int .i64 (j1 : Int)), .is (.pointer (some ⟨bL, oL + j1 * 4, none⟩)), .is (.pointer (some ⟨bL, oL + j1 * 4 + 1, none⟩)), .is (.agg #[.bool uL.s, .slice uL.A uL.n uL.c, .slice uL.A' uL.n' uL.c']), .is (.pointer (some ⟨w.heap.size + 1, 1, none⟩)), .is (.slice (some ⟨bM, oM, none⟩) n' m'), .is (.int .i64 (j2 : Int)), .is (.pointer (some ⟨bM, oM + j2 * 4, none⟩)), .is (.pointer (some ⟨bM, oM + j2 * 4 + 1, none⟩)), .is (.agg #[.bool uM.s, .slice uM.A uM.n uM.c, .slice uM.A' uM.n' uM.c']), .such (fun W v => ∃ (yX : RV), v = .agg #[.bool yX.s, .slice yX.A yX.n yX.c, .slice yX.A' yX.n' yX.c'] ∧ yX.at W (rwOf ((tL.r.q + tM.r.q)))), .own (fun W v => ∃ (usX : List TV) (SX : Option Addr) (scX : Nat), v = .slice SX usX.length scX ∧ OwnZ W (g5 + 1) 65 4 (.slice SX usX.length scX) usX.length (usX.flatMap TV.cells) ∧ TRead W usX (ts ++ if (tL.r.q + tM.r.q) = 0 then [] else [⟨tL.v, rwOf (tL.r.q + tM.r.q)⟩])), .is (.pointer (some ⟨g5, 1, none⟩))]
       (by kernel_rfl) (by kernel_rfl) (by kernel_rfl) (by decide) (by decide) (by kernel_rfl) (by kernel_rfl) (by kernel_rfl) rfl (by rfl) (fun g hg => (HO.out.own.lt g hg).2) (fun q W1 W2 v hm hbw hk hq W hW => by simp at hm; subst hm; obtain ⟨y, rfl, hy⟩ := hq W1 (Below.refl _ _); exact ⟨y, rfl, (RV.at.ownZ hy (HO.out.below hbw) hk).below hW⟩) ?_ ?_
      ·refine ⟨?_, ?_, ?_, ?_, ?_, ?_, ?_, ?_, ?_, ?_, ?_, ?_, ?_, ?_, ?_, ?_, ?_, ?_, ?_, ?_, ?_, ?_, ?_, trivial⟩
       ·intro a w3 hA hbl K hK
        have t5 := hA.old 5 _ rfl rfl
        go_simp
        exact hK _ _ Pg.fi_ (Below.refl _ _)
       ·intro a w3 hA hbl K hK
        have t28 := bw_is hA 0 28
        have k0 := (HC.out.grown hA.grown (hne _ (by omega))).cell 1 rfl
        go_simp
        exact hK _ _ Pg.fi_ (Below.refl _ _)
       ·intro a w3 hA hbl K hK
        have t2 := hA.old 2 _ rfl rfl
        go_simp
        exact hK _ _ Pg.fi_ (Below.refl _ _)
       ·intro a w3 hA hbl K hK
        have t30 := bw_is hA 2 30
        have k0 := (HA.out.grown hA.grown (hne _ (by omega))).cell 1 rfl
        go_simp
        exact hK _ _ Pg.fi_ (Below.refl _ _)
       ·intro a w3 hA hbl K hK
        have t6 := hA.old 6 _ rfl rfl
        go_simp
        exact hK _ _ Pg.fi_ (Below.refl _ _)
       ·intro a w3 hA hbl K hK
        have t31 := bw_is hA 3 31
        have t32 := bw_is hA 4 32
        go_simp
        exact hK _ _ Pg.fi_ (Below.refl _ _)
       ·intro a w3 hA hbl K hK
        have t33 := bw_is hA 5 33
        go_simp
        exact hK _ _ Pg.fi_ (Below.refl _ _)
       ·intro a w3 hA hbl K hK
        have t34 := bw_is hA 6 34
        have k0 : w3.cell? ⟨bL, oL + j1 * 4, none⟩ = some (.int .i64 tL.v) := (HCL.out.gr ltL hA.grown (hne _ (by omega))).at_ 0 rfl
        go_simp
        exact hK _ _ Pg.fi_ (Below.refl _ _)
       ·intro a w3 hA hbl K hK
        have t2 := hA.old 2 _ rfl rfl
        go_simp
        exact hK _ _ Pg.fi_ (Below.refl _ _)
       ·intro a w3 hA hbl K hK
        have t36 := bw_is hA 8 36
        have k0 := (HA.out.grown hA.grown (hne _ (by omega))).cell 1 rfl
        go_simp
        exact hK _ _ Pg.fi_ (Below.refl _ _)
       ·intro a w3 hA hbl K hK
        have t6 := hA.old 6 _ rfl rfl
        go_simp
        exact hK _ _ Pg.fi_ (Below.refl _ _)
       ·intro a w3 hA hbl K hK
        have t37 := bw_is hA 9 37
        have t38 := bw_is hA 10 38
        go_simp
        exact hK _ _ Pg.fi_ (Below.refl _ _)
       ·intro a w3 hA hbl K hK
        have t39 := bw_is hA 11 39
        go_simp
        exact hK _ _ Pg.fi_ (Below.refl _ _)
       ·intro a w3 hA hbl K hK
        have t40 := bw_is hA 12 40
        have k0 := (HCL.out.gr ltL hA.grown (hne _ (by omega))).at_ 1 rfl
        have k1 := (HCL.out.gr ltL hA.grown (hne _ (by omega))).at_ 2 rfl
        have k2 := (HCL.out.gr ltL hA.grown (hne _ (by omega))).at_ 3 rfl
        go_simp
        exact hK _ _ Pg.fi_ (Below.refl _ _)
       ·intro a w3 hA hbl K hK
        have t3 := hA.old 3 _ rfl rfl
        go_simp
        exact hK _ _ Pg.fi_ (Below.refl _ _)
       ·intro a w3 hA hbl K hK
        have t42 := bw_is hA 14 42
        have k0 := (HB.out.grown hA.grown (hne _ (by omega))).cell 1 rfl
        go_simp
        exact hK _ _ Pg.fi_ (Below.refl _ _)
       ·intro a w3 hA hbl K hK
        have t7 := hA.old 7 _ rfl rfl
        go_simp
        exact hK _ _ Pg.fi_ (Below.refl _ _)
       ·intro a w3 hA hbl K hK
        have t43 := bw_is hA 15 43
        have t44 := bw_is hA 16 44
        go_simp
        exact hK _ _ Pg.fi_ (Below.refl _ _)
       ·intro a w3 hA hbl K hK
        have t45 := bw_is hA 17 45
        go_simp
        exact hK _ _ Pg.fi_ (Below.refl _ _)
       ·intro a w3 hA hbl K hK
        have t46 := bw_is hA 18 46
        have k0 := (HCM.out.gr ltM hA.grown (hne _ (by omega))).at_ 1 rfl
        have k1 := (HCM.out.gr ltM hA.grown (hne _ (by omega))).at_ 2 rfl
        have k2 := (HCM.out.gr ltM hA.grown (hne _ (by omega))).at_ 3 rfl
        go_simp
        exact hK _ _ Pg.fi_ (Below.refl _ _)
       ·intro a w3 hA hbl K hK
        have t41 := bw_is hA 13 41
        have t47 := bw_is hA 19 47
        have hC := r2Add_Q (q := (tL.r.q + tM.r.q)) _ (RV.at.ownZ HUL.out HO.out hA.grown) (RV.at.ownZ HUM.out HO.out hA.grown) HleL HleM (by omega) hk1 rfl
        go_simp
        refine hC.mono ?_
        rintro e w4 ⟨y, rfl, hy, hb⟩
        exact hK _ _ (fun W hW => ⟨_, rfl, hy.below hW⟩) hb
       ·intro a w3 hA hbl K hK
        have t29 := bw_is hA 1 29
        have t35 := bw_is hA 7 35
        obtain ⟨v48, t48, p48⟩ := bw_such hA 20 48
        obtain ⟨y48, rfl, hy48⟩ := p48 w3 (Below.refl _ _)
        have hC := lay_C (v := tL.v) w3 (HO.out.below hbl) (HRd.out.below hbl) hy48 (short_le (((RV.at.short HUL.out HleL hk1).add (RV.at.short HUM.out HleM hk1)))) (by omega) (by omega) (by have := hbl.size; omega) (by omega)
        go_simp
        refine hC.mono ?_
        rintro e w4 ⟨us', S7, sc7, rfl, hO7, hR7, hk7⟩
        exact hK _ _ (fun W hW => ⟨_, _, _, rfl, hO7.below hW, by rw [rwOf_q] at hR7; exact hR7.below hW⟩) hk7
       ·intro a w3 hA hbl K hK
        have t5 := hA.old 5 _ rfl rfl
        go_simp
        exact hK _ _ Pg.fi_ (Below.refl _ _)
      rintro vs wv hV hgv act hact hold hnew K hK
      repeat (replace hV := hV.is_; obtain ⟨_, rfl, hV⟩ := hV)
      replace hV := hV.such_; obtain ⟨v48, _, rfl, p48, hV⟩ := hV
      replace hV := hV.own_; obtain ⟨v49, _, rfl, p49, hV⟩ := hV
      replace hV := hV.is_; obtain ⟨_, rfl, hV⟩ := hV
      obtain rfl := hV.nil_
      clear hV
      obtain ⟨y48, rfl, hy48⟩ := p48 wv (Below.refl _ _)
      clear p48
      obtain ⟨us49, S49, sc49, rfl, hO49, hR49⟩ := p49 wv (Below.refl _ _)
      clear p49
      simp only [puts] at hact
      have tq1 := hnew 22 50 _ rfl rfl
      have tq2 := hnew 21 49 _ rfl rfl
      clear hold hnew
      have Hact := hid hact
      clear hact
      have HC7 := HC.out.grown hgv (hne _ (Nat.le_refl _))
      have f1 := HC7.frozen 1
      have c1 := HC7.cell 1 rfl
      go_simp
      refine hK _ _ ?_
      have hact := Hact.out
      clear Hact tq1 tq2
      subst hact
      go_simp
      go_upto_region 5 with fail
      refine wp_at1 (ds := [.int .i64 a.s, .slice S49 us49.length sc49, .bool y14_15.s, .slice y14_15.A y14_15.n y14_15.c, .slice y14_15.A' y14_15.n' y14_15.c']) HC7 rfl ?_
      rintro w8 ⟨HC8, hk8, hs8⟩
      have kp : Kp g5 w4 w8 := (Kp.ownZ HO.out hgv (by omega) (by omega)).trans (Kp.stored HC7 conU hk8 (Nat.le_refl _))
      have k8 := Kp.stored (B := 0) HC7 conU hk8 (Nat.zero_le _)
      have hul8 : us49.length ≤ us.length + 1 := by rw [hR49.len, HRd.out.len, List.length_append]; split <;> simp
      clear hgv HC7 f1 c1
      go_wp2_with fail
      refine ⟨⟨us49, S49, sc49, j1 + 1, j2 + 1, _, by go_num, by go_num, by omega, by omega, hid (by rw [List.append_assoc, ← HE.out, hdL.out, hdM.out, keep_split]; exact congrArg (ts ++ ·) (congrArg (List.map twOf) (addT_keepE (a := tL.q) (b := tM.q) (by show tL.v = tM.v; omega)))), by omega, hid (HA.out.kp kp (by omega)), hid (HB.out.kp kp (by omega)), hid (HZ.out.kp kp (by omega)), hid HC8, hid (hO49.grown hk8 (hO49.apart (by omega))), hid (hR49.kp k8), hid (HY.out.kp kp), hb.trans (kp.below.mono (by omega))⟩, ?_⟩
      simp [intOf]; omega
   ·have dM0 : ((j2 : Int) == (n' : Int)) = true := beq_iff_eq.2 (by omega)
    have hdM : Hid (b.t.drop j2 = []) := hid (List.drop_of_length_le (by have := HTb.out.1; omega))
    obtain ⟨e1L, _, _, _, _, e6L⟩ := HTa.out
    obtain ⟨bL, oL, rfl, hbL, hxL⟩ := e6L (by omega)
    obtain ⟨tL, htL⟩ : ∃ t, a.t[j1]? = some t := ⟨a.t[j1]'(by omega), List.getElem?_eq_getElem _⟩
    obtain ⟨x0L, x1L, x2L, hcL, hu0L⟩ := termAt_stays _ _ _ _ _ hbL (hxL j1 tL htL) hb
    obtain ⟨uL, rfl, rfl, rfl, huL⟩ := rows_rv hu0L
    have HCL := hid hcL
    have HUL := hid huL
    have HleL := HLa.out tL (List.mem_of_getElem? htL)
    have hdL := hid (drop_cons htL)
    have ltL : bL < wr.heap.size := Nat.lt_of_lt_of_le hbL hb.size
    have kL0 : wr.cell? ⟨bL, oL + j1 * 4, none⟩ = some (.int .i64 tL.v) := hcL.at_ 0 rfl
    have iL0 : (0 : Int) ≤ (j1 : Int) := Int.natCast_nonneg _
    have iL1 : (j1 : Int) < (n : Int) := by omega
    clear e1L e6L hxL htL hcL hu0L huL
    go_upto_region 7 with fail
    go_quiet (fail)
    go_upto_region 8 with fail
    refine wp_world (F := fun W => Below wr.heap.size wr W) ⟨rfl, rfl, rfl, Nat.le_refl _, fun _ _ => rfl⟩ ?_
    rintro w4 hb4
    replace HA := hid (HA.out.below hb4)
    replace HB := hid (HB.out.below hb4)
    replace HZ := hid (HZ.out.below hb4)
    replace HC := hid (HC.out.below hb4)
    replace HO := hid (HO.out.below hb4)
    replace HRd := hid (HRd.out.below hb4)
    replace HY := hid (HY.out.below hb4)
    replace HCL := hid (HCL.out.below ltL hb4)
    replace HUL := hid (HUL.out.below hb4)
    replace ltL := Nat.lt_of_lt_of_le ltL hb4.size
    replace hb := Below.then_ hb hb4
    have hgr : g5 < w4.heap.size := HC.out.lt
    clear hb4 a1 b1 kL0
    refine draw_app2 (Value.ownBlock (.slice S us.length sc)) 14 [83, 84, 85, 86, 87, 88, 89, 90, 91, 92, 93, 94, 95, 96, 97, 98] [.is (.pointer (some ⟨g5, 1, none⟩)), .is (.slice S us.length sc), .is (.pointer (some ⟨w.heap.size, 1, none⟩)), .is (.slice (some ⟨bL, oL, none⟩) n m), .is (.int .i64 (j1 : Int)), .is (.pointer (some ⟨bL, oL + j1 * 4, none⟩)), .is (.pointer (some ⟨bL, oL + j1 * 4, none⟩)), .is (.int .i64 tL.v), .is (.pointer (some ⟨w.heap.size, 1, none⟩)), .is (.slice (some ⟨bL, oL, none⟩) n m), .is (.int .i64 (j1 : Int)), .is (.pointer (some ⟨bL, oL + j1 * 4, none⟩)), .is (.pointer (some ⟨bL, oL + j1 * 4 + 1, none⟩)), .is (.agg #[.bool uL.s, .slice uL.A uL.n uL.c, .slice uL.A' uL.n' uL.c']), .own (fun W v => ∃ (usX : List TV) (SX : Option Addr) (scX : Nat), v = .slice SX usX.length scX ∧ OwnZ W (g5 + 1) 65 4 (.slice SX usX.length scX) usX.length (usX.flatMap TV.cells) ∧ TRead W usX (ts ++ if tL.r.q = 0 then [] else [⟨tL.v, rwOf tL.r.q⟩])), .is (.pointer (some ⟨g5, 1, none⟩))]
     (by kernel_rfl) (by kernel_rfl) (by kernel_rfl) (by decide) (by decide) (by kernel_rfl) (by kernel_rfl) (by kernel_rfl) rfl (by rfl) (fun g hg => (HO.out.own.lt g hg).2) (fun q W1 W2 v hm => by simp at hm) ?_ ?_
    ·refine ⟨?_, ?_, ?_, ?_, ?_, ?_, ?_, ?_, ?_, ?_, ?_, ?_, ?_, ?_, ?_, ?_, trivial⟩
     ·intro a w3 hA hbl K hK
      have t5 := hA.old 5 _ rfl rfl
      go_simp
      exact hK _ _ Pg.fi_ (Below.refl _ _)
     ·intro a w3 hA hbl K hK
      have t83 := bw_is hA 0 83
      have k0 := (HC.out.grown hA.grown (hne _ (by omega))).cell 1 rfl
      go_simp
      exact hK _ _ Pg.fi_ (Below.refl _ _)
     ·intro a w3 hA hbl K hK
      have t2 := hA.old 2 _ rfl rfl
      go_simp
      exact hK _ _ Pg.fi_ (Below.refl _ _)
     ·intro a w3 hA hbl K hK
      have t85 := bw_is hA 2 85
      have k0 := (HA.out.grown hA.grown (hne _ (by omega))).cell 1 rfl
      go_simp
      exact hK _ _ Pg.fi_ (Below.refl _ _)
     ·intro a w3 hA hbl K hK
      have t6 := hA.old 6 _ rfl rfl
      go_simp
      exact hK _ _ Pg.fi_ (Below.refl _ _)
     ·intro a w3 hA hbl K hK
      have t86 := bw_is hA 3 86
      have t87 := bw_is hA 4 87
      go_simp
      exact hK _ _ Pg.fi_ (Below.refl _ _)
     ·intro a w3 hA hbl K hK
      have t88 := bw_is hA 5 88
      go_simp
      exact hK _ _ Pg.fi_ (Below.refl _ _)
     ·intro a w3 hA hbl K hK
      have t89 := bw_is hA 6 89
      have k0 : w3.cell? ⟨bL, oL + j1 * 4, none⟩ = some (.int .i64 tL.v) := (HCL.out.gr ltL hA.grown (hne _ (by omega))).at_ 0 rfl
      go_simp
      exact hK _ _ Pg.fi_ (Below.refl _ _)
     ·intro a w3 hA hbl K hK
      have t2 := hA.old 2 _ rfl rfl
      go_simp
      exact hK _ _ Pg.fi_ (Below.refl _ _)
     ·intro a w3 hA hbl K hK
      have t91 := bw_is hA 8 91
      have k0 := (HA.out.grown hA.grown (hne _ (by omega))).cell 1 rfl
      go_simp
      exact hK _ _ Pg.fi_ (Below.refl _ _)
     ·intro a w3 hA hbl K hK
      have t6 := hA.old 6 _ rfl rfl
      go_simp
      exact hK _ _ Pg.fi_ (Below.refl _ _)
     ·intro a w3 hA hbl K hK
      have t92 := bw_is hA 9 92
      have t93 := bw_is hA 10 93
      go_simp
      exact hK _ _ Pg.fi_ (Below.refl _ _)
     ·intro a w3 hA hbl K hK
      have t94 := bw_is hA 11 94
      go_simp
      exact hK _ _ Pg.fi_ (Below.refl _ _)
     ·intro a w3 hA hbl K hK
      have t95 := bw_is hA 12 95
      have k0 := (HCL.out.gr ltL hA.grown (hne _ (by omega))).at_ 1 rfl
      have k1 := (HCL.out.gr ltL hA.grown (hne _ (by omega))).at_ 2 rfl
      have k2 := (HCL.out.gr ltL hA.grown (hne _ (by omega))).at_ 3 rfl
      go_simp
      exact hK _ _ Pg.fi_ (Below.refl _ _)
     ·intro a w3 hA hbl K hK
      have t84 := bw_is hA 1 84
      have t90 := bw_is hA 7 90
      have t96 := bw_is hA 13 96
      have hC := lay_C (v := tL.v) w3 (HO.out.below hbl) (HRd.out.below hbl) (HUL.out.below hbl) HleL (by omega) hk1 (by have := hbl.size; omega) (by omega)
      go_simp
      refine hC.mono ?_
      rintro e w4 ⟨us', S7, sc7, rfl, hO7, hR7, hk7⟩
      exact hK _ _ (fun W hW => ⟨_, _, _, rfl, hO7.below hW, hR7.below hW⟩) hk7
     ·intro a w3 hA hbl K hK
      have t5 := hA.old 5 _ rfl rfl
      go_simp
      exact hK _ _ Pg.fi_ (Below.refl _ _)
    rintro vs wv hV hgv act hact hold hnew K hK
    repeat (replace hV := hV.is_; obtain ⟨_, rfl, hV⟩ := hV)
    replace hV := hV.own_; obtain ⟨v97, _, rfl, p97, hV⟩ := hV
    replace hV := hV.is_; obtain ⟨_, rfl, hV⟩ := hV
    obtain rfl := hV.nil_
    clear hV
    obtain ⟨us97, S97, sc97, rfl, hO97, hR97⟩ := p97 wv (Below.refl _ _)
    clear p97
    simp only [puts] at hact
    have tq1 := hnew 15 98 _ rfl rfl
    have tq2 := hnew 14 97 _ rfl rfl
    clear hold hnew
    have Hact := hid hact
    clear hact
    have HC7 := HC.out.grown hgv (hne _ (Nat.le_refl _))
    have f1 := HC7.frozen 1
    have c1 := HC7.cell 1 rfl
    go_simp
    refine hK _ _ ?_
    have hact := Hact.out
    clear Hact tq1 tq2
    subst hact
    go_simp
    go_upto_region 9 with fail
    refine wp_at1 (ds := [.int .i64 a.s, .slice S97 us97.length sc97, .bool y14_15.s, .slice y14_15.A y14_15.n y14_15.c, .slice y14_15.A' y14_15.n' y14_15.c']) HC7 rfl ?_
    rintro w8 ⟨HC8, hk8, hs8⟩
    have kp : Kp g5 w4 w8 := (Kp.ownZ HO.out hgv (by omega) (by omega)).trans (Kp.stored HC7 conU hk8 (Nat.le_refl _))
    have k8 := Kp.stored (B := 0) HC7 conU hk8 (Nat.zero_le _)
    have hul8 : us97.length ≤ us.length + 1 := by rw [hR97.len, HRd.out.len, List.length_append]; split <;> simp
    clear hgv HC7 f1 c1
    go_wp2_with fail
    refine ⟨⟨us97, S97, sc97, j1 + 1, j2, _, by go_num, by go_num, by omega, by omega, hid (by rw [List.append_assoc, ← HE.out, hdL.out, hdM.out, keep_split]; exact congrArg (ts ++ ·) (congrArg (List.map twOf) (addT_keepL (a := tL.q)))), by omega, hid (HA.out.kp kp (by omega)), hid (HB.out.kp kp (by omega)), hid (HZ.out.kp kp (by omega)), hid HC8, hid (hO97.grown hk8 (hO97.apart (by omega))), hid (hR97.kp k8), hid (HY.out.kp kp), hb.trans (kp.below.mono (by omega))⟩, ?_⟩
    simp [intOf]; omega
  ·by_cases hM : j2 < n'
   ·have dM0 : ((j2 : Int) == (n' : Int)) = false := beq_eq_false_iff_ne.2 (by omega)
    have dL0 : ((j1 : Int) == (n : Int)) = true := beq_iff_eq.2 (by omega)
    have dLi : decide ((j1 : Int) < (n : Int)) = false := decide_eq_false (by omega)
    have dLn : decide (j1 < n) = false := decide_eq_false hL
    have hdL : Hid (a.t.drop j1 = []) := hid (List.drop_of_length_le (by have := HTa.out.1; omega))
    obtain ⟨e1M, _, _, _, _, e6M⟩ := HTb.out
    obtain ⟨bM, oM, rfl, hbM, hxM⟩ := e6M (by omega)
    obtain ⟨tM, htM⟩ : ∃ t, b.t[j2]? = some t := ⟨b.t[j2]'(by omega), List.getElem?_eq_getElem _⟩
    obtain ⟨x0M, x1M, x2M, hcM, hu0M⟩ := termAt_stays _ _ _ _ _ hbM (hxM j2 tM htM) hb
    obtain ⟨uM, rfl, rfl, rfl, huM⟩ := rows_rv hu0M
    have HCM := hid hcM
    have HUM := hid huM
    have HleM := HLb.out tM (List.mem_of_getElem? htM)
    have hdM := hid (drop_cons htM)
    have ltM : bM < wr.heap.size := Nat.lt_of_lt_of_le hbM hb.size
    have kM0 : wr.cell? ⟨bM, oM + j2 * 4, none⟩ = some (.int .i64 tM.v) := hcM.at_ 0 rfl
    have iM0 : (0 : Int) ≤ (j2 : Int) := Int.natCast_nonneg _
    have iM1 : (j2 : Int) < (n' : Int) := by omega
    clear e1M e6M hxM htM hcM hu0M huM
    go_upto_region 7 with fail
    go_quiet (fail)
    go_upto_region 10 with fail
    go_quiet (fail)
    go_upto_region 11 with fail
    refine wp_world (F := fun W => Below wr.heap.size wr W) ⟨rfl, rfl, rfl, Nat.le_refl _, fun _ _ => rfl⟩ ?_
    rintro w4 hb4
    replace HA := hid (HA.out.below hb4)
    replace HB := hid (HB.out.below hb4)
    replace HZ := hid (HZ.out.below hb4)
    replace HC := hid (HC.out.below hb4)
    replace HO := hid (HO.out.below hb4)
    replace HRd := hid (HRd.out.below hb4)
    replace HY := hid (HY.out.below hb4)
    replace HCM := hid (HCM.out.below ltM hb4)
    replace HUM := hid (HUM.out.below hb4)
    replace ltM := Nat.lt_of_lt_of_le ltM hb4.size
    replace hb := Below.then_ hb hb4
    have hgr : g5 < w4.heap.size := HC.out.lt
    clear hb4 a1 b1 kM0
    refine draw_app2 (Value.ownBlock (.slice S us.length sc)) 14 [122, 123, 124, 125, 126, 127, 128, 129, 130, 131, 132, 133, 134, 135, 136, 137] [.is (.pointer (some ⟨g5, 1, none⟩)), .is (.slice S us.length sc), .is (.pointer (some ⟨w.heap.size + 1, 1, none⟩)), .is (.slice (some ⟨bM, oM, none⟩) n' m'), .is (.int .i64 (j2 : Int)), .is (.pointer (some ⟨bM, oM + j2 * 4, none⟩)), .is (.pointer (some ⟨bM, oM + j2 * 4, none⟩)), .is (.int .i64 tM.v), .is (.pointer (some ⟨w.heap.size + 1, 1, none⟩)), .is (.slice (some ⟨bM, oM, none⟩) n' m'), .is (.int .i64 (j2 : Int)), .is (.pointer (some ⟨bM, oM + j2 * 4, none⟩)), .is (.pointer (some ⟨bM, oM + j2 * 4 + 1, none⟩)), .is (.agg #[.bool uM.s, .slice uM.A uM.n uM.c, .slice uM.A' uM.n' uM.c']), .own (fun W v => ∃ (usX : List TV) (SX : Option Addr) (scX : Nat), v = .slice SX usX.length scX ∧ OwnZ W (g5 + 1) 65 4 (.slice SX usX.length scX) usX.length (usX.flatMap TV.cells) ∧ TRead W usX (ts ++ if tM.r.q = 0 then [] else [⟨tM.v, rwOf tM.r.q⟩])), .is (.pointer (some ⟨g5, 1, none⟩))]
     (by kernel_rfl) (by kernel_rfl) (by kernel_rfl) (by decide) (by decide) (by kernel_rfl) (by kernel_rfl) (by kernel_rfl) rfl (by rfl) (fun g hg => (HO.out.own.lt g hg).2) (fun q W1 W2 v hm => by simp at hm) ?_ ?_
    ·refine ⟨?_, ?_, ?_, ?_, ?_, ?_, ?_, ?_, ?_, ?_, ?_, ?_, ?_, ?_, ?_, ?_, trivial⟩
     ·intro a w3 hA hbl K hK
      have t5 := hA.old 5 _ rfl rfl
      go_simp
      exact hK _ _ Pg.fi_ (Below.refl _ _)
     ·intro a w3 hA hbl K hK
      have t122 := bw_is hA 0 122
      have k0 := (HC.out.grown hA.grown (hne _ (by omega))).cell 1 rfl
      go_simp
      exact hK _ _ Pg.fi_ (Below.refl _ _)
     ·intro a w3 hA hbl K hK
      have t3 := hA.old 3 _ rfl rfl
      go_simp
      exact hK _ _ Pg.fi_ (Below.refl _ _)
     ·intro a w3 hA hbl K hK
      have t124 := bw_is hA 2 124
      have k0 := (HB.out.grown hA.grown (hne _ (by omega))).cell 1 rfl
      go_simp
      exact hK _ _ Pg.fi_ (Below.refl _ _)
     ·intro a w3 hA hbl K hK
      have t7 := hA.old 7 _ rfl rfl
      go_simp
      exact hK _ _ Pg.fi_ (Below.refl _ _)
     ·intro a w3 hA hbl K hK
      have t125 := bw_is hA 3 125
      have t126 := bw_is hA 4 126
      go_simp
      exact hK _ _ Pg.fi_ (Below.refl _ _)
     ·intro a w3 hA hbl K hK
      have t127 := bw_is hA 5 127
      go_simp
      exact hK _ _ Pg.fi_ (Below.refl _ _)
     ·intro a w3 hA hbl K hK
      have t128 := bw_is hA 6 128
      have k0 : w3.cell? ⟨bM, oM + j2 * 4, none⟩ = some (.int .i64 tM.v) := (HCM.out.gr ltM hA.grown (hne _ (by omega))).at_ 0 rfl
      go_simp
      exact hK _ _ Pg.fi_ (Below.refl _ _)
     ·intro a w3 hA hbl K hK
      have t3 := hA.old 3 _ rfl rfl
      go_simp
      exact hK _ _ Pg.fi_ (Below.refl _ _)
     ·intro a w3 hA hbl K hK
      have t130 := bw_is hA 8 130
      have k0 := (HB.out.grown hA.grown (hne _ (by omega))).cell 1 rfl
      go_simp
      exact hK _ _ Pg.fi_ (Below.refl _ _)
     ·intro a w3 hA hbl K hK
      have t7 := hA.old 7 _ rfl rfl
      go_simp
      exact hK _ _ Pg.fi_ (Below.refl _ _)
     ·intro a w3 hA hbl K hK
      have t131 := bw_is hA 9 131
      have t132 := bw_is hA 10 132
      go_simp
      exact hK _ _ Pg.fi_ (Below.refl _ _)
     ·intro a w3 hA hbl K hK
      have t133 := bw_is hA 11 133
      go_simp
      exact hK _ _ Pg.fi_ (Below.refl _ _)
     ·intro a w3 hA hbl K hK
      have t134 := bw_is hA 12 134
      have k0 := (HCM.out.gr ltM hA.grown (hne _ (by omega))).at_ 1 rfl
      have k1 := (HCM.out.gr ltM hA.grown (hne _ (by omega))).at_ 2 rfl
      have k2 := (HCM.out.gr ltM hA.grown (hne _ (by omega))).at_ 3 rfl
      go_simp
      exact hK _ _ Pg.fi_ (Below.refl _ _)
     ·intro a w3 hA hbl K hK
      have t123 := bw_is hA 1 123
      have t129 := bw_is hA 7 129
      have t135 := bw_is hA 13 135
      have hC := lay_C (v := tM.v) w3 (HO.out.below hbl) (HRd.out.below hbl) (HUM.out.below hbl) HleM (by omega) hk1 (by have := hbl.size; omega) (by omega)
      go_simp
      refine hC.mono ?_
      rintro e w4 ⟨us', S7, sc7, rfl, hO7, hR7, hk7⟩
      exact hK _ _ (fun W hW => ⟨_, _, _, rfl, hO7.below hW, hR7.below hW⟩) hk7
     ·intro a w3 hA hbl K hK
      have t5 := hA.old 5 _ rfl rfl
      go_simp
      exact hK _ _ Pg.fi_ (Below.refl _ _)
    rintro vs wv hV hgv act hact hold hnew K hK
    repeat (replace hV := hV.is_; obtain ⟨_, rfl, hV⟩ := hV)
    replace hV := hV.own_; obtain ⟨v136, _, rfl, p136, hV⟩ := hV
    replace hV := hV.is_; obtain ⟨_, rfl, hV⟩ := hV
    obtain rfl := hV.nil_
    clear hV
    obtain ⟨us136, S136, sc136, rfl, hO136, hR136⟩ := p136 wv (Below.refl _ _)
    clear p136
    simp only [puts] at hact
    have tq1 := hnew 15 137 _ rfl rfl
    have tq2 := hnew 14 136 _ rfl rfl
    clear hold hnew
    have Hact := hid hact
    clear hact
    have HC7 := HC.out.grown hgv (hne _ (Nat.le_refl _))
    have f1 := HC7.frozen 1
    have c1 := HC7.cell 1 rfl
    go_simp
    refine hK _ _ ?_
    have hact := Hact.out
    clear Hact tq1 tq2
    subst hact
    go_simp
    go_upto_region 12 with fail
    refine wp_at1 (ds := [.int .i64 a.s, .slice S136 us136.length sc136, .bool y14_15.s, .slice y14_15.A y14_15.n y14_15.c, .slice y14_15.A' y14_15.n' y14_15.c']) HC7 rfl ?_
    rintro w8 ⟨HC8, hk8, hs8⟩
    have kp : Kp g5 w4 w8 := (Kp.ownZ HO.out hgv (by omega) (by omega)).trans (Kp.stored HC7 conU hk8 (Nat.le_refl _))
    have k8 := Kp.stored (B := 0) HC7 conU hk8 (Nat.zero_le _)
    have hul8 : us136.length ≤ us.length + 1 := by rw [hR136.len, HRd.out.len, List.length_append]; split <;> simp
    clear hgv HC7 f1 c1
    go_wp2_with fail
    refine ⟨⟨us136, S136, sc136, j1, j2 + 1, _, by go_num, by go_num, by omega, by omega, hid (by rw [List.append_assoc, ← HE.out, hdL.out, hdM.out, keep_split]; exact congrArg (ts ++ ·) (congrArg (List.map twOf) (addT_keepM (b := tM.q)))), by omega, hid (HA.out.kp kp (by omega)), hid (HB.out.kp kp (by omega)), hid (HZ.out.kp kp (by omega)), hid HC8, hid (hO136.grown hk8 (hO136.apart (by omega))), hid (hR136.kp k8), hid (HY.out.kp kp), hb.trans (kp.below.mono (by omega))⟩, ?_⟩
    simp [intOf]; omega
   ·have hts : ts = R := by
     have := HE.out
     rw [List.drop_of_length_le (by have := HTa.out.1; omega), List.drop_of_length_le (by have := HTb.out.1; omega)] at this
     simpa [addT] using this
    subst hts
    have c0 := HC.out.cell 0 rfl
    have c1 := HC.out.cell 1 rfl
    have c2 := HC.out.cell 2 rfl
    have c3 := HC.out.cell 3 rfl
    have c4 := HC.out.cell 4 rfl
    have z0 := HZ.out.cell 0 rfl
    have z1 := HZ.out.cell 1 rfl
    have z2 := HZ.out.cell 2 rfl
    have z3 := HZ.out.cell 3 rfl
    have z4 := HZ.out.cell 4 rfl
    have f0 := HZ.out.frozen 0
    have f1 := HZ.out.frozen 1
    have f2 := HZ.out.frozen 2
    have f3 := HZ.out.frozen 3
    have f4 := HZ.out.frozen 4
    go_wp2_with fail
    refine bp_world (F := Stored wr (w.heap.size + 1 + 1) 36 [.int .i64 a.s, .slice S us.length sc, .bool y14_15.s, .slice y14_15.A y14_15.n y14_15.c, .slice y14_15.A' y14_15.n' y14_15.c']) (stored5 HZ.out) ?_
    rintro wz ⟨HS, ks, ss⟩
    have q0 := HS.cell 0 rfl
    have q1 := HS.cell 1 rfl
    have q2 := HS.cell 2 rfl
    have q3 := HS.cell 3 rfl
    have q4 := HS.cell 4 rfl
    refine bodyPost_ret (v := .agg #[.int .i64 a.s, .slice S us.length sc, .bool y14_15.s, .slice y14_15.A y14_15.n y14_15.c, .slice y14_15.A' y14_15.n' y14_15.c']) (by simp [results, Tryz.results21, go_sem, q0, q1, q2, q3, q4]) rfl ?_
    have kz : Kp w.heap.size wr wz := Kp.stored HZ.out conU0 ks (by omega)
    obtain ⟨A', c', e', hS⟩ := slTerm_of_own rfl (by omega) (HO.out.grown ks (HO.out.apart (by omega))) (HRd.out.kp kz)
    injection e' with e1 e2 e3
    subst e1 e3
    exact ⟨_, rfl, ⟨_, _, _, _, _, _, rfl, by rw [← HR.out] at hS; exact hS, by show RowsAt _ (rwOf (a.r.q + b.r.q)) _ _ _; rw [HP.out]; exact HY.out.kp kz⟩, hb.trans kz.below⟩
end Go.Proofs.YtahdlpkncemmaaaGreat
namespace Go.Proofs.YtahdlpkncemmaaaGreat
open Go.RowKit Pg
def isL (n : Int) : Int → List TW → Bool
 | _, [] => true
 | a, t :: l => decide (a ≤ t.v) && decide (t.v < n) && t.r.norm && !t.r.xs.isEmpty && isL n (t.v + 1) l
def isW (a : CW) (n : Int) : Bool := decide (0 ≤ a.s) && decide (a.s ≤ 4) && a.r.norm && isL n 0 a.t
theorem r2Is_Q {y : RV} {r : RW} {b : Bool} (w : World) (h : y.at w r) (hr : r.Le 262144) (hb : r.norm = b) :
  Calls Tryz.prog 38 #[.agg #[.bool y.s, .slice y.A y.n y.c, .slice y.A' y.n' y.c']] w fun e w' => e = .returned (.bool b) ∧ Below w.heap.size w w' := by
 subst hb; exact r2Is_any w h hr
theorem rvat_len {w : World} {y : RV} {r : RW} (h : y.at w r) : r.xs.length = y.n := by
 obtain ⟨A, n, c, A', n', c', _, e, _, h1, _⟩ := h
 injection e with e1 e2 e3
 rw [h1.len, e2]
end Go.Proofs.YtahdlpkncemmaaaGreat
