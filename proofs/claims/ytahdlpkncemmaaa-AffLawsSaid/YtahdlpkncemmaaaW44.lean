/- Walk. Conditions: those that each theorem names. -/
import Derived.Test.YtahdlpkncemmaaaW35
set_option maxRecDepth 100000
set_option maxHeartbeats 8000000
set_option linter.unusedSimpArgs false
set_option linter.unusedVariables false
namespace Go.Proofs.Ytahdlpkncemmaaa
open Go.RowKit Pg
theorem rIs_C {va : Value} {a : CW} {N : Int} (w : World) (ha : ConVal w va a) (hle : a.Le 35184372087808) {Q : Bool} (hQ : isW a N = Q) :
  Calls Try.prog 5 #[va, .int .i64 N] w fun e w' => e = .returned (.bool Q) ∧ Below w.heap.size w w' := by
 obtain ⟨T, n, m, x, rfl, hca⟩ := ha.cv
 obtain ⟨E, hE⟩ : ∃ E, a.r.norm = E := ⟨_, rfl⟩
 simp only [isW] at hQ
 rw [hE] at hQ
 have HI := hid fun W (hW : Below w.heap.size w W) => r2Is_Q W (hca.2.below hW) hle.2 hE
 have HTa := hid hca.1
 have HLa := hid hle.1
 have hna : a.t.length = n := hca.1.1
 have hnb : n ≤ 140737488355328 := by have := hca.1; have h1 := this.2.1; have h2 := this.2.2.1; omega
 clear ha hle hca hE
 go_enter Try.func5, Try.ntmps5
 go_upto_region 1 with fail
 refine wp_world (F := fun W => Bs W w.heap.size 27 [.int .i64 a.s, .slice T n m, .bool x.s, .slice x.A x.n x.c, .slice x.A' x.n' x.c'] ∧ Below w.heap.size w W)
  ⟨Bs.new w _ _ _ rfl, Pg.bel⟩ ?_
 rintro w1 ⟨HA1, hb1⟩
 have a0 := HA1.cell 0 rfl
 have a1 := HA1.cell 1 rfl
 have a2 := HA1.cell 2 rfl
 have a3 := HA1.cell 3 rfl
 have a4 := HA1.cell 4 rfl
 have HA := hid HA1
 by_cases s1 : a.s < 0
 ·have s1' := decide_eq_true s1
  obtain rfl : Q = false := by rw [← hQ, decide_eq_false (show ¬ 0 ≤ a.s by omega)]; simp
  clear hQ
  go_wp2_with fail
  go_ret
  exact ⟨rfl, hb1⟩
 by_cases s2 : 4 < a.s
 ·have s2' := decide_eq_true s2
  obtain rfl : Q = false := by rw [← hQ, decide_eq_false (show ¬ a.s ≤ 4 by omega)]; simp
  clear hQ
  go_wp2_with fail
  go_ret
  exact ⟨rfl, hb1⟩
 rw [decide_eq_true (show 0 ≤ a.s by omega), decide_eq_true (show a.s ≤ 4 by omega)] at hQ
 rcases E with _ | _
 ·obtain rfl : Q = false := by rw [← hQ]; simp
  clear hQ
  go_wp2_with (go_at_call 12; (with_reducible refine (HI.out _ hb1).mono ?_); rintro e w5 ⟨rfl, hb5⟩)
  go_ret
  exact ⟨rfl, Below.then_ hb1 hb5⟩
 have HQ : Hid (isL N 0 a.t = Q) := hid (by rw [← hQ]; simp)
 clear hQ
 go_wp2_with (go_at_call 12; (with_reducible refine (HI.out _ hb1).mono ?_); rintro e w5 ⟨rfl, hb5⟩; have HA5 := hid (HA.out.below hb5); have hbw := Below.then_ hb1 hb5; clear a0 a1 a2 a3 a4 hb5 HA1)
 go_loopw [5] (fun i wr => ∃ (j : Nat) (q : Int), j ≤ n ∧ i = .int .i64 (j : Int) ∧ Hid (isL N q (a.t.drop j) = Q) ∧ (j = 0 → q = 0) ∧ (0 < j → Hid (∃ tp, a.t[j - 1]? = some tp ∧ q = tp.v + 1 ∧ 0 ≤ tp.v)) ∧ Hid (Bs wr w.heap.size 27 [.int .i64 a.s, .slice T n m, .bool x.s, .slice x.A x.n x.c, .slice x.A' x.n' x.c']) ∧ Below w.heap.size w wr) (fun i _ => n - (intOf i).toNat)
 case atStart => exact ⟨0, 0, Nat.zero_le _, rfl, hid HQ.out, fun _ => rfl, fun h => absurd h (by omega), HA5, hbw⟩
 case round =>
  obtain ⟨j, q, hj, rfl, HQ, hq0, hq1, HA, hb⟩ := hrel
  clear HA5 hbw hb1
  have a0 := HA.out.cell 0 rfl
  have a1 := HA.out.cell 1 rfl
  have a2 := HA.out.cell 2 rfl
  have a3 := HA.out.cell 3 rfl
  have a4 := HA.out.cell 4 rfl
  by_cases hlt : j < n
  ·rcases Nat.eq_zero_or_pos j with h0 | h0
   ·have hq := hq0 h0
    have g1 : ¬ ((0 : Int) < (j : Int)) := by omega
    have g5 : decide (0 < j) = false := decide_eq_false (by omega)
    clear hq0 hq1
    obtain ⟨e1, _, _, _, _, e6⟩ := HTa.out
    obtain ⟨b, o, rfl, hbb, hx⟩ := e6 (by omega)
    obtain ⟨t, ht⟩ : ∃ t, a.t[j]? = some t := ⟨a.t[j]'(by omega), List.getElem?_eq_getElem _⟩
    obtain ⟨x0, x1, x2, hc, hu0⟩ := termAt_stays _ _ _ _ _ hbb (hx (j) t ht) hb
    obtain ⟨u, rfl, rfl, rfl, hu⟩ := rows_rv hu0
    have HU := hid hu
    have hul := rvat_len hu
    have Hle := HLa.out t (List.mem_of_getElem? ht)
    have ltw : b < wr.heap.size := Nat.lt_of_lt_of_le hbb hb.size
    have i1 : ((j : Nat) : Int) < (n : Int) := by omega
    have i0 : (0 : Int) ≤ ((j : Nat) : Int) := by omega
    have hl := HQ.out
    rw [drop_cons ht] at hl
    simp only [isL] at hl
    have HTn := hid ht
    have z0 : wr.cell? ⟨b, o + (j) * 4, none⟩ = some (.int .i64 t.v) := hc.at_ 0 rfl
    have z1 := hc.at_ 1 rfl
    have z2 := hc.at_ 2 rfl
    have z3 := hc.at_ 3 rfl
    clear e1 ht hc hu0 hu
    by_cases v1 : t.v < 0
    ·have HF : Hid (Q = false) := hid (by rw [← hl, decide_eq_false (show ¬ q ≤ t.v by omega)]; simp)
     have v1' : decide (t.v < 0) = true := decide_eq_true v1
     clear hl e6 hx h0 hq
     go_upto_region 7 with fail
     refine wp_world (F := NewBs wr 38 [.int .i64 t.v, .bool u.s, .slice u.A u.n u.c, .slice u.A' u.n' u.c']) (made_new _ _ _) ?_
     rintro w2 ⟨HT, hb2, hs2⟩
     have HA2 := HA.out.below hb2
     have HU2 := hid (HU.out.below hb2)
     clear a0 a1 a2 a3 a4
     refine draw_G (fun _ _ => False) (fun W => Below w2.heap.size w2 W) 38 none [some 33, some 34, some 35, some 36, some 37, some 38, some 39, some 40, some 41, some 42, some 43, some 44, some 45, some 46, some 47, some 48, some 49, some 50, some 51, some 52, some 53, some 54, some 55, some 56, some 57, some 58, some 59, some 60, some 61, some 62, some 63, some 64, some 65, some 66, some 67, some 68, some 69, some 70] [.is (.pointer (some ⟨wr.heap.size, 0, none⟩)), .is (.int .i64 t.v), .is (.bool true), .is (.bool true), .is (undef), .is (undef), .is (undef), .is (undef), .is (.bool true), .is (.bool true), .is (undef), .is (undef), .is (undef), .is (undef), .is (undef), .is (undef), .is (undef), .is (undef), .is (undef), .is (undef), .is (undef), .is (undef), .is (undef), .is (undef), .is (.bool true), .is (.bool true), .is (undef), .is (undef), .is (undef), .is (undef), .is (.bool true), .is (.bool true), .is (undef), .is (undef), .is (undef), .is (undef), .is (undef), .is (.bool true)]
      (by kernel_rfl) (by kernel_rfl) (by kernel_rfl) (by kernel_rfl) rfl (by kernel_rfl) (fun _ h => h) (fun _ _ h hb => Below.then_ h hb) (fun _ _ _ h => h.elim) (fun _ _ _ _ _ _ h => h.elim) ?_ ?_
     ·refine ⟨?_, ?_, ?_, ?_, ?_, ?_, ?_, ?_, ?_, ?_, ?_, ?_, ?_, ?_, ?_, ?_, ?_, ?_, ?_, ?_, ?_, ?_, ?_, ?_, ?_, ?_, ?_, ?_, ?_, ?_, ?_, ?_, ?_, ?_, ?_, ?_, ?_, ?_, trivial⟩
      ·intro a w3 hA K hK
       have t6 := hA.old 6 _ rfl rfl
       go_simp
       exact hK _ _ rfl (Below.refl _ _)
      ·intro a w3 hA K hK
       have t33 := bg_is hA 0 33
       have k0 := (HT.below hA.grown).cell 0 rfl
       go_simp
       exact hK _ _ rfl (Below.refl _ _)
      ·intro a w3 hA K hK
       have t34 := bg_is hA 1 34
       go_simp
       exact hK _ _ Pg.fi_ (Below.refl _ _)
      ·intro a w3 hA K hK
       have t35 := bg_is hA 2 35
       go_simp
       exact hK _ _ rfl (Below.refl _ _)
      ·exact rfl
      ·exact rfl
      ·exact rfl
      ·exact rfl
      ·intro a w3 hA K hK
       have t36 := bg_is hA 3 36
       have t40 := bg_is hA 7 40
       go_simp
       exact hK _ _ Pg.fi_ (Below.refl _ _)
      ·intro a w3 hA K hK
       have t41 := bg_is hA 8 41
       go_simp
       exact hK _ _ rfl (Below.refl _ _)
      ·exact rfl
      ·exact rfl
      ·exact rfl
      ·exact rfl
      ·exact rfl
      ·exact rfl
      ·exact rfl
      ·exact rfl
      ·exact rfl
      ·exact rfl
      ·exact rfl
      ·exact rfl
      ·exact rfl
      ·exact rfl
      ·intro a w3 hA K hK
       have t42 := bg_is hA 9 42
       have t56 := bg_is hA 23 56
       go_simp
       exact hK _ _ Pg.fi_ (Below.refl _ _)
      ·intro a w3 hA K hK
       have t57 := bg_is hA 24 57
       go_simp
       exact hK _ _ rfl (Below.refl _ _)
      ·exact rfl
      ·exact rfl
      ·exact rfl
      ·exact rfl
      ·intro a w3 hA K hK
       have t58 := bg_is hA 25 58
       have t62 := bg_is hA 29 62
       go_simp
       exact hK _ _ Pg.fi_ (Below.refl _ _)
      ·intro a w3 hA K hK
       have t63 := bg_is hA 30 63
       go_simp
       exact hK _ _ rfl (Below.refl _ _)
      ·exact rfl
      ·exact rfl
      ·exact rfl
      ·exact rfl
      ·exact rfl
      ·intro a w3 hA K hK
       have t64 := bg_is hA 31 64
       have t69 := bg_is hA 36 69
       go_simp
       exact hK _ _ Pg.fi_ (Below.refl _ _)
     rintro vs w4 hV hb4 hlk act hact
     repeat (replace hV := hV.is_; obtain ⟨_, rfl, hV⟩ := hV)
     obtain rfl := hV.nil_
     clear hV
     clear hlk
     simp only [putsO] at hact
     subst hact
     go_simp
     have hbz := hb.trans ((Below.then_ hb2 hb4).mono hb.size)
     go_wp2_with fail
     go_ret
     exact ⟨by rw [HF.out]; rfl, hbz⟩
    have v1' : decide (t.v < 0) = false := decide_eq_false v1
    by_cases v2 : N ≤ t.v
    ·have HF : Hid (Q = false) := hid (by rw [← hl, decide_eq_false (show ¬ t.v < N by omega)]; simp)
     have v2' : decide (N ≤ t.v) = true := decide_eq_true v2
     clear hl e6 hx h0 hq
     go_upto_region 7 with fail
     refine wp_world (F := NewBs wr 38 [.int .i64 t.v, .bool u.s, .slice u.A u.n u.c, .slice u.A' u.n' u.c']) (made_new _ _ _) ?_
     rintro w2 ⟨HT, hb2, hs2⟩
     have HA2 := HA.out.below hb2
     have HU2 := hid (HU.out.below hb2)
     clear a0 a1 a2 a3 a4
     refine draw_G (fun _ _ => False) (fun W => Below w2.heap.size w2 W) 38 none [some 33, some 34, some 35, some 36, some 37, some 38, some 39, some 40, some 41, some 42, some 43, some 44, some 45, some 46, some 47, some 48, some 49, some 50, some 51, some 52, some 53, some 54, some 55, some 56, some 57, some 58, some 59, some 60, some 61, some 62, some 63, some 64, some 65, some 66, some 67, some 68, some 69, some 70] [.is (.pointer (some ⟨wr.heap.size, 0, none⟩)), .is (.int .i64 t.v), .is (.bool false), .is (.bool false), .is (.pointer (some ⟨wr.heap.size, 0, none⟩)), .is (.int .i64 t.v), .is (.int .i64 N), .is (.bool true), .is (.bool true), .is (.bool true), .is (undef), .is (undef), .is (undef), .is (undef), .is (undef), .is (undef), .is (undef), .is (undef), .is (undef), .is (undef), .is (undef), .is (undef), .is (undef), .is (undef), .is (.bool true), .is (.bool true), .is (undef), .is (undef), .is (undef), .is (undef), .is (.bool true), .is (.bool true), .is (undef), .is (undef), .is (undef), .is (undef), .is (undef), .is (.bool true)]
      (by kernel_rfl) (by kernel_rfl) (by kernel_rfl) (by kernel_rfl) rfl (by kernel_rfl) (fun _ h => h) (fun _ _ h hb => Below.then_ h hb) (fun _ _ _ h => h.elim) (fun _ _ _ _ _ _ h => h.elim) ?_ ?_
     ·refine ⟨?_, ?_, ?_, ?_, ?_, ?_, ?_, ?_, ?_, ?_, ?_, ?_, ?_, ?_, ?_, ?_, ?_, ?_, ?_, ?_, ?_, ?_, ?_, ?_, ?_, ?_, ?_, ?_, ?_, ?_, ?_, ?_, ?_, ?_, ?_, ?_, ?_, ?_, trivial⟩
      ·intro a w3 hA K hK
       have t6 := hA.old 6 _ rfl rfl
       go_simp
       exact hK _ _ rfl (Below.refl _ _)
      ·intro a w3 hA K hK
       have t33 := bg_is hA 0 33
       have k0 := (HT.below hA.grown).cell 0 rfl
       go_simp
       exact hK _ _ rfl (Below.refl _ _)
      ·intro a w3 hA K hK
       have t34 := bg_is hA 1 34
       go_simp
       exact hK _ _ Pg.fi_ (Below.refl _ _)
      ·intro a w3 hA K hK
       have t35 := bg_is hA 2 35
       go_simp
       exact hK _ _ rfl (Below.refl _ _)
      ·intro a w3 hA K hK
       have t6 := hA.old 6 _ rfl rfl
       go_simp
       exact hK _ _ rfl (Below.refl _ _)
      ·intro a w3 hA K hK
       have t37 := bg_is hA 4 37
       have k0 := (HT.below hA.grown).cell 0 rfl
       go_simp
       exact hK _ _ rfl (Below.refl _ _)
      ·intro a w3 hA K hK
       have t1 := hA.old 1 _ rfl rfl
       go_simp
       exact hK _ _ rfl (Below.refl _ _)
      ·intro a w3 hA K hK
       have t38 := bg_is hA 5 38
       have t39 := bg_is hA 6 39
       go_simp
       exact hK _ _ Pg.fi_ (Below.refl _ _)
      ·intro a w3 hA K hK
       have t36 := bg_is hA 3 36
       have t40 := bg_is hA 7 40
       go_simp
       exact hK _ _ Pg.fi_ (Below.refl _ _)
      ·intro a w3 hA K hK
       have t41 := bg_is hA 8 41
       go_simp
       exact hK _ _ rfl (Below.refl _ _)
      ·exact rfl
      ·exact rfl
      ·exact rfl
      ·exact rfl
      ·exact rfl
      ·exact rfl
      ·exact rfl
      ·exact rfl
      ·exact rfl
      ·exact rfl
      ·exact rfl
      ·exact rfl
      ·exact rfl
      ·exact rfl
      ·intro a w3 hA K hK
       have t42 := bg_is hA 9 42
       have t56 := bg_is hA 23 56
       go_simp
       exact hK _ _ Pg.fi_ (Below.refl _ _)
      ·intro a w3 hA K hK
       have t57 := bg_is hA 24 57
       go_simp
       exact hK _ _ rfl (Below.refl _ _)
      ·exact rfl
      ·exact rfl
      ·exact rfl
      ·exact rfl
      ·intro a w3 hA K hK
       have t58 := bg_is hA 25 58
       have t62 := bg_is hA 29 62
       go_simp
       exact hK _ _ Pg.fi_ (Below.refl _ _)
      ·intro a w3 hA K hK
       have t63 := bg_is hA 30 63
       go_simp
       exact hK _ _ rfl (Below.refl _ _)
      ·exact rfl
      ·exact rfl
      ·exact rfl
      ·exact rfl
      ·exact rfl
      ·intro a w3 hA K hK
       have t64 := bg_is hA 31 64
       have t69 := bg_is hA 36 69
       go_simp
       exact hK _ _ Pg.fi_ (Below.refl _ _)
     rintro vs w4 hV hb4 hlk act hact
     repeat (replace hV := hV.is_; obtain ⟨_, rfl, hV⟩ := hV)
     obtain rfl := hV.nil_
     clear hV
     clear hlk
     simp only [putsO] at hact
     subst hact
     go_simp
     have hbz := hb.trans ((Below.then_ hb2 hb4).mono hb.size)
     go_wp2_with fail
     go_ret
     exact ⟨by rw [HF.out]; rfl, hbz⟩
    have v2' : decide (N ≤ t.v) = false := decide_eq_false v2
    obtain ⟨D, hD⟩ : ∃ D, t.r.norm = D := ⟨_, rfl⟩
    rcases D with _ | _
    ·have HF : Hid (Q = false) := hid (by rw [← hl, hD]; simp)
     have hnf := hD
     clear hl e6 hx h0 hq
     go_upto_region 7 with fail
     refine wp_world (F := NewBs wr 38 [.int .i64 t.v, .bool u.s, .slice u.A u.n u.c, .slice u.A' u.n' u.c']) (made_new _ _ _) ?_
     rintro w2 ⟨HT, hb2, hs2⟩
     have HA2 := HA.out.below hb2
     have HU2 := hid (HU.out.below hb2)
     clear a0 a1 a2 a3 a4
     refine draw_G (fun _ _ => False) (fun W => Below w2.heap.size w2 W) 38 none [some 33, some 34, some 35, some 36, some 37, some 38, some 39, some 40, some 41, some 42, some 43, some 44, some 45, some 46, some 47, some 48, some 49, some 50, some 51, some 52, some 53, some 54, some 55, some 56, some 57, some 58, some 59, some 60, some 61, some 62, some 63, some 64, some 65, some 66, some 67, some 68, some 69, some 70] [.is (.pointer (some ⟨wr.heap.size, 0, none⟩)), .is (.int .i64 t.v), .is (.bool false), .is (.bool false), .is (.pointer (some ⟨wr.heap.size, 0, none⟩)), .is (.int .i64 t.v), .is (.int .i64 N), .is (.bool false), .is (.bool false), .is (.bool false), .is (.int .i64 (j : Int)), .is (.bool false), .is (.bool false), .is (undef), .is (undef), .is (undef), .is (undef), .is (undef), .is (undef), .is (undef), .is (undef), .is (undef), .is (undef), .is (.bool false), .is (.bool false), .is (.bool false), .is (.pointer (some ⟨wr.heap.size, 1, none⟩)), .is (.agg #[.bool u.s, .slice u.A u.n u.c, .slice u.A' u.n' u.c']), .is (.bool false), .is (.bool true), .is (.bool true), .is (.bool true), .is (undef), .is (undef), .is (undef), .is (undef), .is (undef), .is (.bool true)]
      (by kernel_rfl) (by kernel_rfl) (by kernel_rfl) (by kernel_rfl) rfl (by kernel_rfl) (fun _ h => h) (fun _ _ h hb => Below.then_ h hb) (fun _ _ _ h => h.elim) (fun _ _ _ _ _ _ h => h.elim) ?_ ?_
     ·refine ⟨?_, ?_, ?_, ?_, ?_, ?_, ?_, ?_, ?_, ?_, ?_, ?_, ?_, ?_, ?_, ?_, ?_, ?_, ?_, ?_, ?_, ?_, ?_, ?_, ?_, ?_, ?_, ?_, ?_, ?_, ?_, ?_, ?_, ?_, ?_, ?_, ?_, ?_, trivial⟩
      ·intro a w3 hA K hK
       have t6 := hA.old 6 _ rfl rfl
       go_simp
       exact hK _ _ rfl (Below.refl _ _)
      ·intro a w3 hA K hK
       have t33 := bg_is hA 0 33
       have k0 := (HT.below hA.grown).cell 0 rfl
       go_simp
       exact hK _ _ rfl (Below.refl _ _)
      ·intro a w3 hA K hK
       have t34 := bg_is hA 1 34
       go_simp
       exact hK _ _ Pg.fi_ (Below.refl _ _)
      ·intro a w3 hA K hK
       have t35 := bg_is hA 2 35
       go_simp
       exact hK _ _ rfl (Below.refl _ _)
      ·intro a w3 hA K hK
       have t6 := hA.old 6 _ rfl rfl
       go_simp
       exact hK _ _ rfl (Below.refl _ _)
      ·intro a w3 hA K hK
       have t37 := bg_is hA 4 37
       have k0 := (HT.below hA.grown).cell 0 rfl
       go_simp
       exact hK _ _ rfl (Below.refl _ _)
      ·intro a w3 hA K hK
       have t1 := hA.old 1 _ rfl rfl
       go_simp
       exact hK _ _ rfl (Below.refl _ _)
      ·intro a w3 hA K hK
       have t38 := bg_is hA 5 38
       have t39 := bg_is hA 6 39
       go_simp
       exact hK _ _ Pg.fi_ (Below.refl _ _)
      ·intro a w3 hA K hK
       have t36 := bg_is hA 3 36
       have t40 := bg_is hA 7 40
       go_simp
       exact hK _ _ Pg.fi_ (Below.refl _ _)
      ·intro a w3 hA K hK
       have t41 := bg_is hA 8 41
       go_simp
       exact hK _ _ rfl (Below.refl _ _)
      ·intro a w3 hA K hK
       have t5 := hA.old 5 _ rfl rfl
       go_simp
       exact hK _ _ rfl (Below.refl _ _)
      ·intro a w3 hA K hK
       have t43 := bg_is hA 10 43
       go_simp
       exact hK _ _ Pg.fi_ (Below.refl _ _)
      ·intro a w3 hA K hK
       have t44 := bg_is hA 11 44
       go_simp
       exact hK _ _ rfl (Below.refl _ _)
      ·exact rfl
      ·exact rfl
      ·exact rfl
      ·exact rfl
      ·exact rfl
      ·exact rfl
      ·exact rfl
      ·exact rfl
      ·exact rfl
      ·exact rfl
      ·intro a w3 hA K hK
       have t45 := bg_is hA 12 45
       have t55 := bg_is hA 22 55
       go_simp
       exact hK _ _ Pg.fi_ (Below.refl _ _)
      ·intro a w3 hA K hK
       have t42 := bg_is hA 9 42
       have t56 := bg_is hA 23 56
       go_simp
       exact hK _ _ Pg.fi_ (Below.refl _ _)
      ·intro a w3 hA K hK
       have t57 := bg_is hA 24 57
       go_simp
       exact hK _ _ rfl (Below.refl _ _)
      ·intro a w3 hA K hK
       have t6 := hA.old 6 _ rfl rfl
       go_simp
       exact hK _ _ rfl (Below.refl _ _)
      ·intro a w3 hA K hK
       have t59 := bg_is hA 26 59
       have k0 := (HT.below hA.grown).cell 1 rfl
       have k1 := (HT.below hA.grown).cell 2 rfl
       have k2 := (HT.below hA.grown).cell 3 rfl
       go_simp
       exact hK _ _ rfl (Below.refl _ _)
      ·intro a w3 hA K hK
       have t60 := bg_is hA 27 60
       have hC := r2Is_Q w3 (HU2.out.below hA.grown) Hle hnf
       go_simp
       refine hC.mono ?_
       rintro e w4 ⟨rfl, hb⟩
       exact hK _ _ rfl hb
      ·intro a w3 hA K hK
       have t61 := bg_is hA 28 61
       go_simp
       exact hK _ _ Pg.fi_ (Below.refl _ _)
      ·intro a w3 hA K hK
       have t58 := bg_is hA 25 58
       have t62 := bg_is hA 29 62
       go_simp
       exact hK _ _ Pg.fi_ (Below.refl _ _)
      ·intro a w3 hA K hK
       have t63 := bg_is hA 30 63
       go_simp
       exact hK _ _ rfl (Below.refl _ _)
      ·exact rfl
      ·exact rfl
      ·exact rfl
      ·exact rfl
      ·exact rfl
      ·intro a w3 hA K hK
       have t64 := bg_is hA 31 64
       have t69 := bg_is hA 36 69
       go_simp
       exact hK _ _ Pg.fi_ (Below.refl _ _)
     rintro vs w4 hV hb4 hlk act hact
     repeat (replace hV := hV.is_; obtain ⟨_, rfl, hV⟩ := hV)
     obtain rfl := hV.nil_
     clear hV
     clear hlk
     simp only [putsO] at hact
     subst hact
     go_simp
     have hbz := hb.trans ((Below.then_ hb2 hb4).mono hb.size)
     go_wp2_with fail
     go_ret
     exact ⟨by rw [HF.out]; rfl, hbz⟩
    have hnm := hD
    by_cases v5 : t.r.xs = []
    ·have HF : Hid (Q = false) := hid (by rw [← hl, v5]; simp)
     have hz : ((u.n : Int) == 0) = true := by rw [← hul, v5]; rfl
     clear hl e6 hx h0 hq v5
     go_upto_region 7 with fail
     refine wp_world (F := NewBs wr 38 [.int .i64 t.v, .bool u.s, .slice u.A u.n u.c, .slice u.A' u.n' u.c']) (made_new _ _ _) ?_
     rintro w2 ⟨HT, hb2, hs2⟩
     have HA2 := HA.out.below hb2
     have HU2 := hid (HU.out.below hb2)
     clear a0 a1 a2 a3 a4
     refine draw_G (fun _ _ => False) (fun W => Below w2.heap.size w2 W) 38 none [some 33, some 34, some 35, some 36, some 37, some 38, some 39, some 40, some 41, some 42, some 43, some 44, some 45, some 46, some 47, some 48, some 49, some 50, some 51, some 52, some 53, some 54, some 55, some 56, some 57, some 58, some 59, some 60, some 61, some 62, some 63, some 64, some 65, some 66, some 67, some 68, some 69, some 70] [.is (.pointer (some ⟨wr.heap.size, 0, none⟩)), .is (.int .i64 t.v), .is (.bool false), .is (.bool false), .is (.pointer (some ⟨wr.heap.size, 0, none⟩)), .is (.int .i64 t.v), .is (.int .i64 N), .is (.bool false), .is (.bool false), .is (.bool false), .is (.int .i64 (j : Int)), .is (.bool false), .is (.bool false), .is (undef), .is (undef), .is (undef), .is (undef), .is (undef), .is (undef), .is (undef), .is (undef), .is (undef), .is (undef), .is (.bool false), .is (.bool false), .is (.bool false), .is (.pointer (some ⟨wr.heap.size, 1, none⟩)), .is (.agg #[.bool u.s, .slice u.A u.n u.c, .slice u.A' u.n' u.c']), .is (.bool true), .is (.bool false), .is (.bool false), .is (.bool false), .is (.pointer (some ⟨wr.heap.size, 1, none⟩)), .is (.pointer (some ⟨wr.heap.size, 2, none⟩)), .is (.slice u.A u.n u.c), .is (.int .i64 (u.n : Int)), .is (.bool true), .is (.bool true)]
      (by kernel_rfl) (by kernel_rfl) (by kernel_rfl) (by kernel_rfl) rfl (by kernel_rfl) (fun _ h => h) (fun _ _ h hb => Below.then_ h hb) (fun _ _ _ h => h.elim) (fun _ _ _ _ _ _ h => h.elim) ?_ ?_
     ·refine ⟨?_, ?_, ?_, ?_, ?_, ?_, ?_, ?_, ?_, ?_, ?_, ?_, ?_, ?_, ?_, ?_, ?_, ?_, ?_, ?_, ?_, ?_, ?_, ?_, ?_, ?_, ?_, ?_, ?_, ?_, ?_, ?_, ?_, ?_, ?_, ?_, ?_, ?_, trivial⟩
      ·intro a w3 hA K hK
       have t6 := hA.old 6 _ rfl rfl
       go_simp
       exact hK _ _ rfl (Below.refl _ _)
      ·intro a w3 hA K hK
       have t33 := bg_is hA 0 33
       have k0 := (HT.below hA.grown).cell 0 rfl
       go_simp
       exact hK _ _ rfl (Below.refl _ _)
      ·intro a w3 hA K hK
       have t34 := bg_is hA 1 34
       go_simp
       exact hK _ _ Pg.fi_ (Below.refl _ _)
      ·intro a w3 hA K hK
       have t35 := bg_is hA 2 35
       go_simp
       exact hK _ _ rfl (Below.refl _ _)
      ·intro a w3 hA K hK
       have t6 := hA.old 6 _ rfl rfl
       go_simp
       exact hK _ _ rfl (Below.refl _ _)
      ·intro a w3 hA K hK
       have t37 := bg_is hA 4 37
       have k0 := (HT.below hA.grown).cell 0 rfl
       go_simp
       exact hK _ _ rfl (Below.refl _ _)
      ·intro a w3 hA K hK
       have t1 := hA.old 1 _ rfl rfl
       go_simp
       exact hK _ _ rfl (Below.refl _ _)
      ·intro a w3 hA K hK
       have t38 := bg_is hA 5 38
       have t39 := bg_is hA 6 39
       go_simp
       exact hK _ _ Pg.fi_ (Below.refl _ _)
      ·intro a w3 hA K hK
       have t36 := bg_is hA 3 36
       have t40 := bg_is hA 7 40
       go_simp
       exact hK _ _ Pg.fi_ (Below.refl _ _)
      ·intro a w3 hA K hK
       have t41 := bg_is hA 8 41
       go_simp
       exact hK _ _ rfl (Below.refl _ _)
      ·intro a w3 hA K hK
       have t5 := hA.old 5 _ rfl rfl
       go_simp
       exact hK _ _ rfl (Below.refl _ _)
      ·intro a w3 hA K hK
       have t43 := bg_is hA 10 43
       go_simp
       exact hK _ _ Pg.fi_ (Below.refl _ _)
      ·intro a w3 hA K hK
       have t44 := bg_is hA 11 44
       go_simp
       exact hK _ _ rfl (Below.refl _ _)
      ·exact rfl
      ·exact rfl
      ·exact rfl
      ·exact rfl
      ·exact rfl
      ·exact rfl
      ·exact rfl
      ·exact rfl
      ·exact rfl
      ·exact rfl
      ·intro a w3 hA K hK
       have t45 := bg_is hA 12 45
       have t55 := bg_is hA 22 55
       go_simp
       exact hK _ _ Pg.fi_ (Below.refl _ _)
      ·intro a w3 hA K hK
       have t42 := bg_is hA 9 42
       have t56 := bg_is hA 23 56
       go_simp
       exact hK _ _ Pg.fi_ (Below.refl _ _)
      ·intro a w3 hA K hK
       have t57 := bg_is hA 24 57
       go_simp
       exact hK _ _ rfl (Below.refl _ _)
      ·intro a w3 hA K hK
       have t6 := hA.old 6 _ rfl rfl
       go_simp
       exact hK _ _ rfl (Below.refl _ _)
      ·intro a w3 hA K hK
       have t59 := bg_is hA 26 59
       have k0 := (HT.below hA.grown).cell 1 rfl
       have k1 := (HT.below hA.grown).cell 2 rfl
       have k2 := (HT.below hA.grown).cell 3 rfl
       go_simp
       exact hK _ _ rfl (Below.refl _ _)
      ·intro a w3 hA K hK
       have t60 := bg_is hA 27 60
       have hC := r2Is_Q w3 (HU2.out.below hA.grown) Hle hnm
       go_simp
       refine hC.mono ?_
       rintro e w4 ⟨rfl, hb⟩
       exact hK _ _ rfl hb
      ·intro a w3 hA K hK
       have t61 := bg_is hA 28 61
       go_simp
       exact hK _ _ Pg.fi_ (Below.refl _ _)
      ·intro a w3 hA K hK
       have t58 := bg_is hA 25 58
       have t62 := bg_is hA 29 62
       go_simp
       exact hK _ _ Pg.fi_ (Below.refl _ _)
      ·intro a w3 hA K hK
       have t63 := bg_is hA 30 63
       go_simp
       exact hK _ _ rfl (Below.refl _ _)
      ·intro a w3 hA K hK
       have t6 := hA.old 6 _ rfl rfl
       go_simp
       exact hK _ _ rfl (Below.refl _ _)
      ·intro a w3 hA K hK
       have t65 := bg_is hA 32 65
       go_simp
       exact hK _ _ rfl (Below.refl _ _)
      ·intro a w3 hA K hK
       have t66 := bg_is hA 33 66
       have k0 := (HT.below hA.grown).cell 2 rfl
       go_simp
       exact hK _ _ rfl (Below.refl _ _)
      ·intro a w3 hA K hK
       have t67 := bg_is hA 34 67
       go_simp
       exact hK _ _ Pg.fi_ (Below.refl _ _)
      ·intro a w3 hA K hK
       have t68 := bg_is hA 35 68
       go_simp
       exact hK _ _ Pg.fi_ (Below.refl _ _)
      ·intro a w3 hA K hK
       have t64 := bg_is hA 31 64
       have t69 := bg_is hA 36 69
       go_simp
       exact hK _ _ Pg.fi_ (Below.refl _ _)
     rintro vs w4 hV hb4 hlk act hact
     repeat (replace hV := hV.is_; obtain ⟨_, rfl, hV⟩ := hV)
     obtain rfl := hV.nil_
     clear hV
     clear hlk
     simp only [putsO] at hact
     subst hact
     go_simp
     have hbz := hb.trans ((Below.then_ hb2 hb4).mono hb.size)
     go_wp2_with fail
     go_ret
     exact ⟨by rw [HF.out]; rfl, hbz⟩
    have hz : ((u.n : Int) == 0) = false := by have h2 := List.length_pos_iff.2 v5; exact beq_eq_false_iff_ne.2 (by omega)
    have HL5 : Hid (isL N (t.v + 1) (a.t.drop (j + 1)) = Q) := hid (by rw [← hl, decide_eq_true (show q ≤ t.v by omega), decide_eq_true (show t.v < N by omega), hD, List.isEmpty_eq_false_iff.2 v5]; simp)
    have HPN : Hid (∃ tp, a.t[j + 1 - 1]? = some tp ∧ t.v + 1 = tp.v + 1 ∧ 0 ≤ tp.v) := hid ⟨t, by rw [Nat.add_sub_cancel]; exact HTn.out, rfl, by omega⟩
    clear hl e6 hx h0 hq v5
    go_upto_region 7 with fail
    refine wp_world (F := NewBs wr 38 [.int .i64 t.v, .bool u.s, .slice u.A u.n u.c, .slice u.A' u.n' u.c']) (made_new _ _ _) ?_
    rintro w2 ⟨HT, hb2, hs2⟩
    have HA2 := HA.out.below hb2
    have HU2 := hid (HU.out.below hb2)
    clear a0 a1 a2 a3 a4
    refine draw_G (fun _ _ => False) (fun W => Below w2.heap.size w2 W) 38 none [some 33, some 34, some 35, some 36, some 37, some 38, some 39, some 40, some 41, some 42, some 43, some 44, some 45, some 46, some 47, some 48, some 49, some 50, some 51, some 52, some 53, some 54, some 55, some 56, some 57, some 58, some 59, some 60, some 61, some 62, some 63, some 64, some 65, some 66, some 67, some 68, some 69, some 70] [.is (.pointer (some ⟨wr.heap.size, 0, none⟩)), .is (.int .i64 t.v), .is (.bool false), .is (.bool false), .is (.pointer (some ⟨wr.heap.size, 0, none⟩)), .is (.int .i64 t.v), .is (.int .i64 N), .is (.bool false), .is (.bool false), .is (.bool false), .is (.int .i64 (j : Int)), .is (.bool false), .is (.bool false), .is (undef), .is (undef), .is (undef), .is (undef), .is (undef), .is (undef), .is (undef), .is (undef), .is (undef), .is (undef), .is (.bool false), .is (.bool false), .is (.bool false), .is (.pointer (some ⟨wr.heap.size, 1, none⟩)), .is (.agg #[.bool u.s, .slice u.A u.n u.c, .slice u.A' u.n' u.c']), .is (.bool true), .is (.bool false), .is (.bool false), .is (.bool false), .is (.pointer (some ⟨wr.heap.size, 1, none⟩)), .is (.pointer (some ⟨wr.heap.size, 2, none⟩)), .is (.slice u.A u.n u.c), .is (.int .i64 (u.n : Int)), .is (.bool false), .is (.bool false)]
     (by kernel_rfl) (by kernel_rfl) (by kernel_rfl) (by kernel_rfl) rfl (by kernel_rfl) (fun _ h => h) (fun _ _ h hb => Below.then_ h hb) (fun _ _ _ h => h.elim) (fun _ _ _ _ _ _ h => h.elim) ?_ ?_
    ·refine ⟨?_, ?_, ?_, ?_, ?_, ?_, ?_, ?_, ?_, ?_, ?_, ?_, ?_, ?_, ?_, ?_, ?_, ?_, ?_, ?_, ?_, ?_, ?_, ?_, ?_, ?_, ?_, ?_, ?_, ?_, ?_, ?_, ?_, ?_, ?_, ?_, ?_, ?_, trivial⟩
     ·intro a w3 hA K hK
      have t6 := hA.old 6 _ rfl rfl
      go_simp
      exact hK _ _ rfl (Below.refl _ _)
     ·intro a w3 hA K hK
      have t33 := bg_is hA 0 33
      have k0 := (HT.below hA.grown).cell 0 rfl
      go_simp
      exact hK _ _ rfl (Below.refl _ _)
     ·intro a w3 hA K hK
      have t34 := bg_is hA 1 34
      go_simp
      exact hK _ _ Pg.fi_ (Below.refl _ _)
     ·intro a w3 hA K hK
      have t35 := bg_is hA 2 35
      go_simp
      exact hK _ _ rfl (Below.refl _ _)
     ·intro a w3 hA K hK
      have t6 := hA.old 6 _ rfl rfl
      go_simp
      exact hK _ _ rfl (Below.refl _ _)
     ·intro a w3 hA K hK
      have t37 := bg_is hA 4 37
      have k0 := (HT.below hA.grown).cell 0 rfl
      go_simp
      exact hK _ _ rfl (Below.refl _ _)
     ·intro a w3 hA K hK
      have t1 := hA.old 1 _ rfl rfl
      go_simp
      exact hK _ _ rfl (Below.refl _ _)
     ·intro a w3 hA K hK
      have t38 := bg_is hA 5 38
      have t39 := bg_is hA 6 39
      go_simp
      exact hK _ _ Pg.fi_ (Below.refl _ _)
     ·intro a w3 hA K hK
      have t36 := bg_is hA 3 36
      have t40 := bg_is hA 7 40
      go_simp
      exact hK _ _ Pg.fi_ (Below.refl _ _)
     ·intro a w3 hA K hK
      have t41 := bg_is hA 8 41
      go_simp
      exact hK _ _ rfl (Below.refl _ _)
     ·intro a w3 hA K hK
      have t5 := hA.old 5 _ rfl rfl
      go_simp
      exact hK _ _ rfl (Below.refl _ _)
     ·intro a w3 hA K hK
      have t43 := bg_is hA 10 43
      go_simp
      exact hK _ _ Pg.fi_ (Below.refl _ _)
     ·intro a w3 hA K hK
      have t44 := bg_is hA 11 44
      go_simp
      exact hK _ _ rfl (Below.refl _ _)
     ·exact rfl
     ·exact rfl
     ·exact rfl
     ·exact rfl
     ·exact rfl
     ·exact rfl
     ·exact rfl
     ·exact rfl
     ·exact rfl
     ·exact rfl
     ·intro a w3 hA K hK
      have t45 := bg_is hA 12 45
      have t55 := bg_is hA 22 55
      go_simp
      exact hK _ _ Pg.fi_ (Below.refl _ _)
     ·intro a w3 hA K hK
      have t42 := bg_is hA 9 42
      have t56 := bg_is hA 23 56
      go_simp
      exact hK _ _ Pg.fi_ (Below.refl _ _)
     ·intro a w3 hA K hK
      have t57 := bg_is hA 24 57
      go_simp
      exact hK _ _ rfl (Below.refl _ _)
     ·intro a w3 hA K hK
      have t6 := hA.old 6 _ rfl rfl
      go_simp
      exact hK _ _ rfl (Below.refl _ _)
     ·intro a w3 hA K hK
      have t59 := bg_is hA 26 59
      have k0 := (HT.below hA.grown).cell 1 rfl
      have k1 := (HT.below hA.grown).cell 2 rfl
      have k2 := (HT.below hA.grown).cell 3 rfl
      go_simp
      exact hK _ _ rfl (Below.refl _ _)
     ·intro a w3 hA K hK
      have t60 := bg_is hA 27 60
      have hC := r2Is_Q w3 (HU2.out.below hA.grown) Hle hnm
      go_simp
      refine hC.mono ?_
      rintro e w4 ⟨rfl, hb⟩
      exact hK _ _ rfl hb
     ·intro a w3 hA K hK
      have t61 := bg_is hA 28 61
      go_simp
      exact hK _ _ Pg.fi_ (Below.refl _ _)
     ·intro a w3 hA K hK
      have t58 := bg_is hA 25 58
      have t62 := bg_is hA 29 62
      go_simp
      exact hK _ _ Pg.fi_ (Below.refl _ _)
     ·intro a w3 hA K hK
      have t63 := bg_is hA 30 63
      go_simp
      exact hK _ _ rfl (Below.refl _ _)
     ·intro a w3 hA K hK
      have t6 := hA.old 6 _ rfl rfl
      go_simp
      exact hK _ _ rfl (Below.refl _ _)
     ·intro a w3 hA K hK
      have t65 := bg_is hA 32 65
      go_simp
      exact hK _ _ rfl (Below.refl _ _)
     ·intro a w3 hA K hK
      have t66 := bg_is hA 33 66
      have k0 := (HT.below hA.grown).cell 2 rfl
      go_simp
      exact hK _ _ rfl (Below.refl _ _)
     ·intro a w3 hA K hK
      have t67 := bg_is hA 34 67
      go_simp
      exact hK _ _ Pg.fi_ (Below.refl _ _)
     ·intro a w3 hA K hK
      have t68 := bg_is hA 35 68
      go_simp
      exact hK _ _ Pg.fi_ (Below.refl _ _)
     ·intro a w3 hA K hK
      have t64 := bg_is hA 31 64
      have t69 := bg_is hA 36 69
      go_simp
      exact hK _ _ Pg.fi_ (Below.refl _ _)
    rintro vs w4 hV hb4 hlk act hact
    repeat (replace hV := hV.is_; obtain ⟨_, rfl, hV⟩ := hV)
    obtain rfl := hV.nil_
    clear hV
    clear hlk
    simp only [putsO] at hact
    subst hact
    go_simp
    have hbz := hb.trans ((Below.then_ hb2 hb4).mono hb.size)
    have HA4 := hid (HA2.below hb4)
    go_wp2_with fail
    refine ⟨⟨j + 1, t.v + 1, by omega, by go_num, HL5, fun h => absurd h (by omega), fun _ => HPN, HA4, hbz⟩, ?_⟩
    simp [intOf]; omega
   ·obtain ⟨tp, htp, hqe, hv0⟩ := (hq1 h0).out
    obtain ⟨p, rfl⟩ : ∃ p, j = p + 1 := ⟨j - 1, by omega⟩
    rw [Nat.add_sub_cancel] at htp
    have g1 : (0 : Int) < ((p + 1 : Nat) : Int) := by omega
    clear hq0 hq1
    obtain ⟨e1, _, _, _, _, e6⟩ := HTa.out
    obtain ⟨b, o, rfl, hbb, hx⟩ := e6 (by omega)
    obtain ⟨t, ht⟩ : ∃ t, a.t[p + 1]? = some t := ⟨a.t[p + 1]'(by omega), List.getElem?_eq_getElem _⟩
    obtain ⟨x0, x1, x2, hc, hu0⟩ := termAt_stays _ _ _ _ _ hbb (hx (p + 1) t ht) hb
    obtain ⟨u, rfl, rfl, rfl, hu⟩ := rows_rv hu0
    have HU := hid hu
    have hul := rvat_len hu
    have Hle := HLa.out t (List.mem_of_getElem? ht)
    have ltw : b < wr.heap.size := Nat.lt_of_lt_of_le hbb hb.size
    have i1 : ((p + 1 : Nat) : Int) < (n : Int) := by omega
    have i0 : (0 : Int) ≤ ((p + 1 : Nat) : Int) := by omega
    have hl := HQ.out
    rw [drop_cons ht] at hl
    simp only [isL] at hl
    have HTn := hid ht
    have z0 : wr.cell? ⟨b, o + (p + 1) * 4, none⟩ = some (.int .i64 t.v) := hc.at_ 0 rfl
    have z1 := hc.at_ 1 rfl
    have z2 := hc.at_ 2 rfl
    have z3 := hc.at_ 3 rfl
    clear e1 ht hc hu0 hu
    obtain ⟨_, _, _, hcp, hup⟩ := termAt_stays _ _ _ _ _ hbb (hx p tp htp) hb
    obtain ⟨up, rfl, rfl, rfl, _⟩ := rows_rv hup
    have HP := hid hcp
    have k0 : (0 : Int) ≤ (p : Int) := by omega
    have k1 : (p : Int) < (n : Int) := by omega
    by_cases v1 : t.v < 0
    ·have HF : Hid (Q = false) := hid (by rw [← hl, decide_eq_false (show ¬ q ≤ t.v by omega)]; simp)
     have v1' : decide (t.v < 0) = true := decide_eq_true v1
     clear hl e6 hx h0 htp hqe hv0 hup hcp
     go_upto_region 7 with fail
     refine wp_world (F := NewBs wr 38 [.int .i64 t.v, .bool u.s, .slice u.A u.n u.c, .slice u.A' u.n' u.c']) (made_new _ _ _) ?_
     rintro w2 ⟨HT, hb2, hs2⟩
     have HA2 := HA.out.below hb2
     have HU2 := hid (HU.out.below hb2)
     clear a0 a1 a2 a3 a4
     refine draw_G (fun _ _ => False) (fun W => Below w2.heap.size w2 W) 38 none [some 33, some 34, some 35, some 36, some 37, some 38, some 39, some 40, some 41, some 42, some 43, some 44, some 45, some 46, some 47, some 48, some 49, some 50, some 51, some 52, some 53, some 54, some 55, some 56, some 57, some 58, some 59, some 60, some 61, some 62, some 63, some 64, some 65, some 66, some 67, some 68, some 69, some 70] [.is (.pointer (some ⟨wr.heap.size, 0, none⟩)), .is (.int .i64 t.v), .is (.bool true), .is (.bool true), .is (undef), .is (undef), .is (undef), .is (undef), .is (.bool true), .is (.bool true), .is (undef), .is (undef), .is (undef), .is (undef), .is (undef), .is (undef), .is (undef), .is (undef), .is (undef), .is (undef), .is (undef), .is (undef), .is (undef), .is (undef), .is (.bool true), .is (.bool true), .is (undef), .is (undef), .is (undef), .is (undef), .is (.bool true), .is (.bool true), .is (undef), .is (undef), .is (undef), .is (undef), .is (undef), .is (.bool true)]
      (by kernel_rfl) (by kernel_rfl) (by kernel_rfl) (by kernel_rfl) rfl (by kernel_rfl) (fun _ h => h) (fun _ _ h hb => Below.then_ h hb) (fun _ _ _ h => h.elim) (fun _ _ _ _ _ _ h => h.elim) ?_ ?_
     ·refine ⟨?_, ?_, ?_, ?_, ?_, ?_, ?_, ?_, ?_, ?_, ?_, ?_, ?_, ?_, ?_, ?_, ?_, ?_, ?_, ?_, ?_, ?_, ?_, ?_, ?_, ?_, ?_, ?_, ?_, ?_, ?_, ?_, ?_, ?_, ?_, ?_, ?_, ?_, trivial⟩
      ·intro a w3 hA K hK
       have t6 := hA.old 6 _ rfl rfl
       go_simp
       exact hK _ _ rfl (Below.refl _ _)
      ·intro a w3 hA K hK
       have t33 := bg_is hA 0 33
       have k0 := (HT.below hA.grown).cell 0 rfl
       go_simp
       exact hK _ _ rfl (Below.refl _ _)
      ·intro a w3 hA K hK
       have t34 := bg_is hA 1 34
       go_simp
       exact hK _ _ Pg.fi_ (Below.refl _ _)
      ·intro a w3 hA K hK
       have t35 := bg_is hA 2 35
       go_simp
       exact hK _ _ rfl (Below.refl _ _)
      ·exact rfl
      ·exact rfl
      ·exact rfl
      ·exact rfl
      ·intro a w3 hA K hK
       have t36 := bg_is hA 3 36
       have t40 := bg_is hA 7 40
       go_simp
       exact hK _ _ Pg.fi_ (Below.refl _ _)
      ·intro a w3 hA K hK
       have t41 := bg_is hA 8 41
       go_simp
       exact hK _ _ rfl (Below.refl _ _)
      ·exact rfl
      ·exact rfl
      ·exact rfl
      ·exact rfl
      ·exact rfl
      ·exact rfl
      ·exact rfl
      ·exact rfl
      ·exact rfl
      ·exact rfl
      ·exact rfl
      ·exact rfl
      ·exact rfl
      ·exact rfl
      ·intro a w3 hA K hK
       have t42 := bg_is hA 9 42
       have t56 := bg_is hA 23 56
       go_simp
       exact hK _ _ Pg.fi_ (Below.refl _ _)
      ·intro a w3 hA K hK
       have t57 := bg_is hA 24 57
       go_simp
       exact hK _ _ rfl (Below.refl _ _)
      ·exact rfl
      ·exact rfl
      ·exact rfl
      ·exact rfl
      ·intro a w3 hA K hK
       have t58 := bg_is hA 25 58
       have t62 := bg_is hA 29 62
       go_simp
       exact hK _ _ Pg.fi_ (Below.refl _ _)
      ·intro a w3 hA K hK
       have t63 := bg_is hA 30 63
       go_simp
       exact hK _ _ rfl (Below.refl _ _)
      ·exact rfl
      ·exact rfl
      ·exact rfl
      ·exact rfl
      ·exact rfl
      ·intro a w3 hA K hK
       have t64 := bg_is hA 31 64
       have t69 := bg_is hA 36 69
       go_simp
       exact hK _ _ Pg.fi_ (Below.refl _ _)
     rintro vs w4 hV hb4 hlk act hact
     repeat (replace hV := hV.is_; obtain ⟨_, rfl, hV⟩ := hV)
     obtain rfl := hV.nil_
     clear hV
     clear hlk
     simp only [putsO] at hact
     subst hact
     go_simp
     have hbz := hb.trans ((Below.then_ hb2 hb4).mono hb.size)
     go_wp2_with fail
     go_ret
     exact ⟨by rw [HF.out]; rfl, hbz⟩
    have v1' : decide (t.v < 0) = false := decide_eq_false v1
    by_cases v2 : N ≤ t.v
    ·have HF : Hid (Q = false) := hid (by rw [← hl, decide_eq_false (show ¬ t.v < N by omega)]; simp)
     have v2' : decide (N ≤ t.v) = true := decide_eq_true v2
     clear hl e6 hx h0 htp hqe hv0 hup hcp
     go_upto_region 7 with fail
     refine wp_world (F := NewBs wr 38 [.int .i64 t.v, .bool u.s, .slice u.A u.n u.c, .slice u.A' u.n' u.c']) (made_new _ _ _) ?_
     rintro w2 ⟨HT, hb2, hs2⟩
     have HA2 := HA.out.below hb2
     have HU2 := hid (HU.out.below hb2)
     clear a0 a1 a2 a3 a4
     refine draw_G (fun _ _ => False) (fun W => Below w2.heap.size w2 W) 38 none [some 33, some 34, some 35, some 36, some 37, some 38, some 39, some 40, some 41, some 42, some 43, some 44, some 45, some 46, some 47, some 48, some 49, some 50, some 51, some 52, some 53, some 54, some 55, some 56, some 57, some 58, some 59, some 60, some 61, some 62, some 63, some 64, some 65, some 66, some 67, some 68, some 69, some 70] [.is (.pointer (some ⟨wr.heap.size, 0, none⟩)), .is (.int .i64 t.v), .is (.bool false), .is (.bool false), .is (.pointer (some ⟨wr.heap.size, 0, none⟩)), .is (.int .i64 t.v), .is (.int .i64 N), .is (.bool true), .is (.bool true), .is (.bool true), .is (undef), .is (undef), .is (undef), .is (undef), .is (undef), .is (undef), .is (undef), .is (undef), .is (undef), .is (undef), .is (undef), .is (undef), .is (undef), .is (undef), .is (.bool true), .is (.bool true), .is (undef), .is (undef), .is (undef), .is (undef), .is (.bool true), .is (.bool true), .is (undef), .is (undef), .is (undef), .is (undef), .is (undef), .is (.bool true)]
      (by kernel_rfl) (by kernel_rfl) (by kernel_rfl) (by kernel_rfl) rfl (by kernel_rfl) (fun _ h => h) (fun _ _ h hb => Below.then_ h hb) (fun _ _ _ h => h.elim) (fun _ _ _ _ _ _ h => h.elim) ?_ ?_
     ·refine ⟨?_, ?_, ?_, ?_, ?_, ?_, ?_, ?_, ?_, ?_, ?_, ?_, ?_, ?_, ?_, ?_, ?_, ?_, ?_, ?_, ?_, ?_, ?_, ?_, ?_, ?_, ?_, ?_, ?_, ?_, ?_, ?_, ?_, ?_, ?_, ?_, ?_, ?_, trivial⟩
      ·intro a w3 hA K hK
       have t6 := hA.old 6 _ rfl rfl
       go_simp
       exact hK _ _ rfl (Below.refl _ _)
      ·intro a w3 hA K hK
       have t33 := bg_is hA 0 33
       have k0 := (HT.below hA.grown).cell 0 rfl
       go_simp
       exact hK _ _ rfl (Below.refl _ _)
      ·intro a w3 hA K hK
       have t34 := bg_is hA 1 34
       go_simp
       exact hK _ _ Pg.fi_ (Below.refl _ _)
      ·intro a w3 hA K hK
       have t35 := bg_is hA 2 35
       go_simp
       exact hK _ _ rfl (Below.refl _ _)
      ·intro a w3 hA K hK
       have t6 := hA.old 6 _ rfl rfl
       go_simp
       exact hK _ _ rfl (Below.refl _ _)
      ·intro a w3 hA K hK
       have t37 := bg_is hA 4 37
       have k0 := (HT.below hA.grown).cell 0 rfl
       go_simp
       exact hK _ _ rfl (Below.refl _ _)
      ·intro a w3 hA K hK
       have t1 := hA.old 1 _ rfl rfl
       go_simp
       exact hK _ _ rfl (Below.refl _ _)
      ·intro a w3 hA K hK
       have t38 := bg_is hA 5 38
       have t39 := bg_is hA 6 39
       go_simp
       exact hK _ _ Pg.fi_ (Below.refl _ _)
      ·intro a w3 hA K hK
       have t36 := bg_is hA 3 36
       have t40 := bg_is hA 7 40
       go_simp
       exact hK _ _ Pg.fi_ (Below.refl _ _)
      ·intro a w3 hA K hK
       have t41 := bg_is hA 8 41
       go_simp
       exact hK _ _ rfl (Below.refl _ _)
      ·exact rfl
      ·exact rfl
      ·exact rfl
      ·exact rfl
      ·exact rfl
      ·exact rfl
      ·exact rfl
      ·exact rfl
      ·exact rfl
      ·exact rfl
      ·exact rfl
      ·exact rfl
      ·exact rfl
      ·exact rfl
      ·intro a w3 hA K hK
       have t42 := bg_is hA 9 42
       have t56 := bg_is hA 23 56
       go_simp
       exact hK _ _ Pg.fi_ (Below.refl _ _)
      ·intro a w3 hA K hK
       have t57 := bg_is hA 24 57
       go_simp
       exact hK _ _ rfl (Below.refl _ _)
      ·exact rfl
      ·exact rfl
      ·exact rfl
      ·exact rfl
      ·intro a w3 hA K hK
       have t58 := bg_is hA 25 58
       have t62 := bg_is hA 29 62
       go_simp
       exact hK _ _ Pg.fi_ (Below.refl _ _)
      ·intro a w3 hA K hK
       have t63 := bg_is hA 30 63
       go_simp
       exact hK _ _ rfl (Below.refl _ _)
      ·exact rfl
      ·exact rfl
      ·exact rfl
      ·exact rfl
      ·exact rfl
      ·intro a w3 hA K hK
       have t64 := bg_is hA 31 64
       have t69 := bg_is hA 36 69
       go_simp
       exact hK _ _ Pg.fi_ (Below.refl _ _)
     rintro vs w4 hV hb4 hlk act hact
     repeat (replace hV := hV.is_; obtain ⟨_, rfl, hV⟩ := hV)
     obtain rfl := hV.nil_
     clear hV
     clear hlk
     simp only [putsO] at hact
     subst hact
     go_simp
     have hbz := hb.trans ((Below.then_ hb2 hb4).mono hb.size)
     go_wp2_with fail
     go_ret
     exact ⟨by rw [HF.out]; rfl, hbz⟩
    have v2' : decide (N ≤ t.v) = false := decide_eq_false v2
    by_cases v3 : t.v ≤ tp.v
    ·have HF : Hid (Q = false) := hid (by rw [← hl, decide_eq_false (show ¬ q ≤ t.v by omega)]; simp)
     have v3' : decide (t.v ≤ tp.v) = true := decide_eq_true v3
     clear hl e6 hx h0 htp hqe hv0 hup hcp
     go_upto_region 7 with fail
     refine wp_world (F := NewBs wr 38 [.int .i64 t.v, .bool u.s, .slice u.A u.n u.c, .slice u.A' u.n' u.c']) (made_new _ _ _) ?_
     rintro w2 ⟨HT, hb2, hs2⟩
     have HA2 := HA.out.below hb2
     have HU2 := hid (HU.out.below hb2)
     have HCP := hid (HP.out.below ltw hb2)
     have ltp : b < w2.heap.size := Nat.lt_of_lt_of_le ltw hb2.size
     clear a0 a1 a2 a3 a4
     refine draw_G (fun _ _ => False) (fun W => Below w2.heap.size w2 W) 38 none [some 33, some 34, some 35, some 36, some 37, some 38, some 39, some 40, some 41, some 42, some 43, some 44, some 45, some 46, some 47, some 48, some 49, some 50, some 51, some 52, some 53, some 54, some 55, some 56, some 57, some 58, some 59, some 60, some 61, some 62, some 63, some 64, some 65, some 66, some 67, some 68, some 69, some 70] [.is (.pointer (some ⟨wr.heap.size, 0, none⟩)), .is (.int .i64 t.v), .is (.bool false), .is (.bool false), .is (.pointer (some ⟨wr.heap.size, 0, none⟩)), .is (.int .i64 t.v), .is (.int .i64 N), .is (.bool false), .is (.bool false), .is (.bool false), .is (.int .i64 ((p + 1 : Nat) : Int)), .is (.bool true), .is (.bool true), .is (.pointer (some ⟨w.heap.size, 1, none⟩)), .is (.slice (some ⟨b, o, none⟩) n m), .is (.int .i64 ((p + 1 : Nat) : Int)), .is (.int .i64 (p : Int)), .is (.pointer (some ⟨b, o + p * 4, none⟩)), .is (.pointer (some ⟨b, o + p * 4, none⟩)), .is (.int .i64 tp.v), .is (.pointer (some ⟨wr.heap.size, 0, none⟩)), .is (.int .i64 t.v), .is (.bool true), .is (.bool true), .is (.bool true), .is (.bool true), .is (undef), .is (undef), .is (undef), .is (undef), .is (.bool true), .is (.bool true), .is (undef), .is (undef), .is (undef), .is (undef), .is (undef), .is (.bool true)]
      (by kernel_rfl) (by kernel_rfl) (by kernel_rfl) (by kernel_rfl) rfl (by kernel_rfl) (fun _ h => h) (fun _ _ h hb => Below.then_ h hb) (fun _ _ _ h => h.elim) (fun _ _ _ _ _ _ h => h.elim) ?_ ?_
     ·refine ⟨?_, ?_, ?_, ?_, ?_, ?_, ?_, ?_, ?_, ?_, ?_, ?_, ?_, ?_, ?_, ?_, ?_, ?_, ?_, ?_, ?_, ?_, ?_, ?_, ?_, ?_, ?_, ?_, ?_, ?_, ?_, ?_, ?_, ?_, ?_, ?_, ?_, ?_, trivial⟩
      ·intro a w3 hA K hK
       have t6 := hA.old 6 _ rfl rfl
       go_simp
       exact hK _ _ rfl (Below.refl _ _)
      ·intro a w3 hA K hK
       have t33 := bg_is hA 0 33
       have k0 := (HT.below hA.grown).cell 0 rfl
       go_simp
       exact hK _ _ rfl (Below.refl _ _)
      ·intro a w3 hA K hK
       have t34 := bg_is hA 1 34
       go_simp
       exact hK _ _ Pg.fi_ (Below.refl _ _)
      ·intro a w3 hA K hK
       have t35 := bg_is hA 2 35
       go_simp
       exact hK _ _ rfl (Below.refl _ _)
      ·intro a w3 hA K hK
       have t6 := hA.old 6 _ rfl rfl
       go_simp
       exact hK _ _ rfl (Below.refl _ _)
      ·intro a w3 hA K hK
       have t37 := bg_is hA 4 37
       have k0 := (HT.below hA.grown).cell 0 rfl
       go_simp
       exact hK _ _ rfl (Below.refl _ _)
      ·intro a w3 hA K hK
       have t1 := hA.old 1 _ rfl rfl
       go_simp
       exact hK _ _ rfl (Below.refl _ _)
      ·intro a w3 hA K hK
       have t38 := bg_is hA 5 38
       have t39 := bg_is hA 6 39
       go_simp
       exact hK _ _ Pg.fi_ (Below.refl _ _)
      ·intro a w3 hA K hK
       have t36 := bg_is hA 3 36
       have t40 := bg_is hA 7 40
       go_simp
       exact hK _ _ Pg.fi_ (Below.refl _ _)
      ·intro a w3 hA K hK
       have t41 := bg_is hA 8 41
       go_simp
       exact hK _ _ rfl (Below.refl _ _)
      ·intro a w3 hA K hK
       have t5 := hA.old 5 _ rfl rfl
       go_simp
       exact hK _ _ rfl (Below.refl _ _)
      ·intro a w3 hA K hK
       have t43 := bg_is hA 10 43
       go_simp
       exact hK _ _ Pg.fi_ (Below.refl _ _)
      ·intro a w3 hA K hK
       have t44 := bg_is hA 11 44
       go_simp
       exact hK _ _ rfl (Below.refl _ _)
      ·intro a w3 hA K hK
       have t2 := hA.old 2 _ rfl rfl
       go_simp
       exact hK _ _ rfl (Below.refl _ _)
      ·intro a w3 hA K hK
       have t46 := bg_is hA 13 46
       have k0 := (HA2.below hA.grown).cell 1 rfl
       go_simp
       exact hK _ _ rfl (Below.refl _ _)
      ·intro a w3 hA K hK
       have t5 := hA.old 5 _ rfl rfl
       go_simp
       exact hK _ _ rfl (Below.refl _ _)
      ·intro a w3 hA K hK
       have t48 := bg_is hA 15 48
       go_simp
       exact hK _ _ Pg.fi_ (Below.refl _ _)
      ·intro a w3 hA K hK
       have t47 := bg_is hA 14 47
       have t49 := bg_is hA 16 49
       go_simp
       exact hK _ _ Pg.fi_ (Below.refl _ _)
      ·intro a w3 hA K hK
       have t50 := bg_is hA 17 50
       go_simp
       exact hK _ _ rfl (Below.refl _ _)
      ·intro a w3 hA K hK
       have t51 := bg_is hA 18 51
       have k0 : w3.cell? ⟨b, o + p * 4, none⟩ = some (.int .i64 tp.v) := (HCP.out.below ltp hA.grown).at_ 0 rfl
       go_simp
       exact hK _ _ rfl (Below.refl _ _)
      ·intro a w3 hA K hK
       have t6 := hA.old 6 _ rfl rfl
       go_simp
       exact hK _ _ rfl (Below.refl _ _)
      ·intro a w3 hA K hK
       have t53 := bg_is hA 20 53
       have k0 := (HT.below hA.grown).cell 0 rfl
       go_simp
       exact hK _ _ rfl (Below.refl _ _)
      ·intro a w3 hA K hK
       have t52 := bg_is hA 19 52
       have t54 := bg_is hA 21 54
       go_simp
       exact hK _ _ Pg.fi_ (Below.refl _ _)
      ·intro a w3 hA K hK
       have t45 := bg_is hA 12 45
       have t55 := bg_is hA 22 55
       go_simp
       exact hK _ _ Pg.fi_ (Below.refl _ _)
      ·intro a w3 hA K hK
       have t42 := bg_is hA 9 42
       have t56 := bg_is hA 23 56
       go_simp
       exact hK _ _ Pg.fi_ (Below.refl _ _)
      ·intro a w3 hA K hK
       have t57 := bg_is hA 24 57
       go_simp
       exact hK _ _ rfl (Below.refl _ _)
      ·exact rfl
      ·exact rfl
      ·exact rfl
      ·exact rfl
      ·intro a w3 hA K hK
       have t58 := bg_is hA 25 58
       have t62 := bg_is hA 29 62
       go_simp
       exact hK _ _ Pg.fi_ (Below.refl _ _)
      ·intro a w3 hA K hK
       have t63 := bg_is hA 30 63
       go_simp
       exact hK _ _ rfl (Below.refl _ _)
      ·exact rfl
      ·exact rfl
      ·exact rfl
      ·exact rfl
      ·exact rfl
      ·intro a w3 hA K hK
       have t64 := bg_is hA 31 64
       have t69 := bg_is hA 36 69
       go_simp
       exact hK _ _ Pg.fi_ (Below.refl _ _)
     rintro vs w4 hV hb4 hlk act hact
     repeat (replace hV := hV.is_; obtain ⟨_, rfl, hV⟩ := hV)
     obtain rfl := hV.nil_
     clear hV
     clear hlk
     simp only [putsO] at hact
     subst hact
     go_simp
     have hbz := hb.trans ((Below.then_ hb2 hb4).mono hb.size)
     go_wp2_with fail
     go_ret
     exact ⟨by rw [HF.out]; rfl, hbz⟩
    have v3' : decide (t.v ≤ tp.v) = false := decide_eq_false v3
    obtain ⟨D, hD⟩ : ∃ D, t.r.norm = D := ⟨_, rfl⟩
    rcases D with _ | _
    ·have HF : Hid (Q = false) := hid (by rw [← hl, hD]; simp)
     have hnf := hD
     clear hl e6 hx h0 htp hqe hv0 hup hcp
     go_upto_region 7 with fail
     refine wp_world (F := NewBs wr 38 [.int .i64 t.v, .bool u.s, .slice u.A u.n u.c, .slice u.A' u.n' u.c']) (made_new _ _ _) ?_
     rintro w2 ⟨HT, hb2, hs2⟩
     have HA2 := HA.out.below hb2
     have HU2 := hid (HU.out.below hb2)
     have HCP := hid (HP.out.below ltw hb2)
     have ltp : b < w2.heap.size := Nat.lt_of_lt_of_le ltw hb2.size
     clear a0 a1 a2 a3 a4
     refine draw_G (fun _ _ => False) (fun W => Below w2.heap.size w2 W) 38 none [some 33, some 34, some 35, some 36, some 37, some 38, some 39, some 40, some 41, some 42, some 43, some 44, some 45, some 46, some 47, some 48, some 49, some 50, some 51, some 52, some 53, some 54, some 55, some 56, some 57, some 58, some 59, some 60, some 61, some 62, some 63, some 64, some 65, some 66, some 67, some 68, some 69, some 70] [.is (.pointer (some ⟨wr.heap.size, 0, none⟩)), .is (.int .i64 t.v), .is (.bool false), .is (.bool false), .is (.pointer (some ⟨wr.heap.size, 0, none⟩)), .is (.int .i64 t.v), .is (.int .i64 N), .is (.bool false), .is (.bool false), .is (.bool false), .is (.int .i64 ((p + 1 : Nat) : Int)), .is (.bool true), .is (.bool true), .is (.pointer (some ⟨w.heap.size, 1, none⟩)), .is (.slice (some ⟨b, o, none⟩) n m), .is (.int .i64 ((p + 1 : Nat) : Int)), .is (.int .i64 (p : Int)), .is (.pointer (some ⟨b, o + p * 4, none⟩)), .is (.pointer (some ⟨b, o + p * 4, none⟩)), .is (.int .i64 tp.v), .is (.pointer (some ⟨wr.heap.size, 0, none⟩)), .is (.int .i64 t.v), .is (.bool false), .is (.bool false), .is (.bool false), .is (.bool false), .is (.pointer (some ⟨wr.heap.size, 1, none⟩)), .is (.agg #[.bool u.s, .slice u.A u.n u.c, .slice u.A' u.n' u.c']), .is (.bool false), .is (.bool true), .is (.bool true), .is (.bool true), .is (undef), .is (undef), .is (undef), .is (undef), .is (undef), .is (.bool true)]
      (by kernel_rfl) (by kernel_rfl) (by kernel_rfl) (by kernel_rfl) rfl (by kernel_rfl) (fun _ h => h) (fun _ _ h hb => Below.then_ h hb) (fun _ _ _ h => h.elim) (fun _ _ _ _ _ _ h => h.elim) ?_ ?_
     ·refine ⟨?_, ?_, ?_, ?_, ?_, ?_, ?_, ?_, ?_, ?_, ?_, ?_, ?_, ?_, ?_, ?_, ?_, ?_, ?_, ?_, ?_, ?_, ?_, ?_, ?_, ?_, ?_, ?_, ?_, ?_, ?_, ?_, ?_, ?_, ?_, ?_, ?_, ?_, trivial⟩
      ·intro a w3 hA K hK
       have t6 := hA.old 6 _ rfl rfl
       go_simp
       exact hK _ _ rfl (Below.refl _ _)
      ·intro a w3 hA K hK
       have t33 := bg_is hA 0 33
       have k0 := (HT.below hA.grown).cell 0 rfl
       go_simp
       exact hK _ _ rfl (Below.refl _ _)
      ·intro a w3 hA K hK
       have t34 := bg_is hA 1 34
       go_simp
       exact hK _ _ Pg.fi_ (Below.refl _ _)
      ·intro a w3 hA K hK
       have t35 := bg_is hA 2 35
       go_simp
       exact hK _ _ rfl (Below.refl _ _)
      ·intro a w3 hA K hK
       have t6 := hA.old 6 _ rfl rfl
       go_simp
       exact hK _ _ rfl (Below.refl _ _)
      ·intro a w3 hA K hK
       have t37 := bg_is hA 4 37
       have k0 := (HT.below hA.grown).cell 0 rfl
       go_simp
       exact hK _ _ rfl (Below.refl _ _)
      ·intro a w3 hA K hK
       have t1 := hA.old 1 _ rfl rfl
       go_simp
       exact hK _ _ rfl (Below.refl _ _)
      ·intro a w3 hA K hK
       have t38 := bg_is hA 5 38
       have t39 := bg_is hA 6 39
       go_simp
       exact hK _ _ Pg.fi_ (Below.refl _ _)
      ·intro a w3 hA K hK
       have t36 := bg_is hA 3 36
       have t40 := bg_is hA 7 40
       go_simp
       exact hK _ _ Pg.fi_ (Below.refl _ _)
      ·intro a w3 hA K hK
       have t41 := bg_is hA 8 41
       go_simp
       exact hK _ _ rfl (Below.refl _ _)
      ·intro a w3 hA K hK
       have t5 := hA.old 5 _ rfl rfl
       go_simp
       exact hK _ _ rfl (Below.refl _ _)
      ·intro a w3 hA K hK
       have t43 := bg_is hA 10 43
       go_simp
       exact hK _ _ Pg.fi_ (Below.refl _ _)
      ·intro a w3 hA K hK
       have t44 := bg_is hA 11 44
       go_simp
       exact hK _ _ rfl (Below.refl _ _)
      ·intro a w3 hA K hK
       have t2 := hA.old 2 _ rfl rfl
       go_simp
       exact hK _ _ rfl (Below.refl _ _)
      ·intro a w3 hA K hK
       have t46 := bg_is hA 13 46
       have k0 := (HA2.below hA.grown).cell 1 rfl
       go_simp
       exact hK _ _ rfl (Below.refl _ _)
      ·intro a w3 hA K hK
       have t5 := hA.old 5 _ rfl rfl
       go_simp
       exact hK _ _ rfl (Below.refl _ _)
      ·intro a w3 hA K hK
       have t48 := bg_is hA 15 48
       go_simp
       exact hK _ _ Pg.fi_ (Below.refl _ _)
      ·intro a w3 hA K hK
       have t47 := bg_is hA 14 47
       have t49 := bg_is hA 16 49
       go_simp
       exact hK _ _ Pg.fi_ (Below.refl _ _)
      ·intro a w3 hA K hK
       have t50 := bg_is hA 17 50
       go_simp
       exact hK _ _ rfl (Below.refl _ _)
      ·intro a w3 hA K hK
       have t51 := bg_is hA 18 51
       have k0 : w3.cell? ⟨b, o + p * 4, none⟩ = some (.int .i64 tp.v) := (HCP.out.below ltp hA.grown).at_ 0 rfl
       go_simp
       exact hK _ _ rfl (Below.refl _ _)
      ·intro a w3 hA K hK
       have t6 := hA.old 6 _ rfl rfl
       go_simp
       exact hK _ _ rfl (Below.refl _ _)
      ·intro a w3 hA K hK
       have t53 := bg_is hA 20 53
       have k0 := (HT.below hA.grown).cell 0 rfl
       go_simp
       exact hK _ _ rfl (Below.refl _ _)
      ·intro a w3 hA K hK
       have t52 := bg_is hA 19 52
       have t54 := bg_is hA 21 54
       go_simp
       exact hK _ _ Pg.fi_ (Below.refl _ _)
      ·intro a w3 hA K hK
       have t45 := bg_is hA 12 45
       have t55 := bg_is hA 22 55
       go_simp
       exact hK _ _ Pg.fi_ (Below.refl _ _)
      ·intro a w3 hA K hK
       have t42 := bg_is hA 9 42
       have t56 := bg_is hA 23 56
       go_simp
       exact hK _ _ Pg.fi_ (Below.refl _ _)
      ·intro a w3 hA K hK
       have t57 := bg_is hA 24 57
       go_simp
       exact hK _ _ rfl (Below.refl _ _)
      ·intro a w3 hA K hK
       have t6 := hA.old 6 _ rfl rfl
       go_simp
       exact hK _ _ rfl (Below.refl _ _)
      ·intro a w3 hA K hK
       have t59 := bg_is hA 26 59
       have k0 := (HT.below hA.grown).cell 1 rfl
       have k1 := (HT.below hA.grown).cell 2 rfl
       have k2 := (HT.below hA.grown).cell 3 rfl
       go_simp
       exact hK _ _ rfl (Below.refl _ _)
      ·intro a w3 hA K hK
       have t60 := bg_is hA 27 60
       have hC := r2Is_Q w3 (HU2.out.below hA.grown) Hle hnf
       go_simp
       refine hC.mono ?_
       rintro e w4 ⟨rfl, hb⟩
       exact hK _ _ rfl hb
      ·intro a w3 hA K hK
       have t61 := bg_is hA 28 61
       go_simp
       exact hK _ _ Pg.fi_ (Below.refl _ _)
      ·intro a w3 hA K hK
       have t58 := bg_is hA 25 58
       have t62 := bg_is hA 29 62
       go_simp
       exact hK _ _ Pg.fi_ (Below.refl _ _)
      ·intro a w3 hA K hK
       have t63 := bg_is hA 30 63
       go_simp
       exact hK _ _ rfl (Below.refl _ _)
      ·exact rfl
      ·exact rfl
      ·exact rfl
      ·exact rfl
      ·exact rfl
      ·intro a w3 hA K hK
       have t64 := bg_is hA 31 64
       have t69 := bg_is hA 36 69
       go_simp
       exact hK _ _ Pg.fi_ (Below.refl _ _)
     rintro vs w4 hV hb4 hlk act hact
     repeat (replace hV := hV.is_; obtain ⟨_, rfl, hV⟩ := hV)
     obtain rfl := hV.nil_
     clear hV
     clear hlk
     simp only [putsO] at hact
     subst hact
     go_simp
     have hbz := hb.trans ((Below.then_ hb2 hb4).mono hb.size)
     go_wp2_with fail
     go_ret
     exact ⟨by rw [HF.out]; rfl, hbz⟩
    have hnm := hD
    by_cases v5 : t.r.xs = []
    ·have HF : Hid (Q = false) := hid (by rw [← hl, v5]; simp)
     have hz : ((u.n : Int) == 0) = true := by rw [← hul, v5]; rfl
     clear hl e6 hx h0 htp hqe hv0 hup hcp v5
     go_upto_region 7 with fail
     refine wp_world (F := NewBs wr 38 [.int .i64 t.v, .bool u.s, .slice u.A u.n u.c, .slice u.A' u.n' u.c']) (made_new _ _ _) ?_
     rintro w2 ⟨HT, hb2, hs2⟩
     have HA2 := HA.out.below hb2
     have HU2 := hid (HU.out.below hb2)
     have HCP := hid (HP.out.below ltw hb2)
     have ltp : b < w2.heap.size := Nat.lt_of_lt_of_le ltw hb2.size
     clear a0 a1 a2 a3 a4
     refine draw_G (fun _ _ => False) (fun W => Below w2.heap.size w2 W) 38 none [some 33, some 34, some 35, some 36, some 37, some 38, some 39, some 40, some 41, some 42, some 43, some 44, some 45, some 46, some 47, some 48, some 49, some 50, some 51, some 52, some 53, some 54, some 55, some 56, some 57, some 58, some 59, some 60, some 61, some 62, some 63, some 64, some 65, some 66, some 67, some 68, some 69, some 70] [.is (.pointer (some ⟨wr.heap.size, 0, none⟩)), .is (.int .i64 t.v), .is (.bool false), .is (.bool false), .is (.pointer (some ⟨wr.heap.size, 0, none⟩)), .is (.int .i64 t.v), .is (.int .i64 N), .is (.bool false), .is (.bool false), .is (.bool false), .is (.int .i64 ((p + 1 : Nat) : Int)), .is (.bool true), .is (.bool true), .is (.pointer (some ⟨w.heap.size, 1, none⟩)), .is (.slice (some ⟨b, o, none⟩) n m), .is (.int .i64 ((p + 1 : Nat) : Int)), .is (.int .i64 (p : Int)), .is (.pointer (some ⟨b, o + p * 4, none⟩)), .is (.pointer (some ⟨b, o + p * 4, none⟩)), .is (.int .i64 tp.v), .is (.pointer (some ⟨wr.heap.size, 0, none⟩)), .is (.int .i64 t.v), .is (.bool false), .is (.bool false), .is (.bool false), .is (.bool false), .is (.pointer (some ⟨wr.heap.size, 1, none⟩)), .is (.agg #[.bool u.s, .slice u.A u.n u.c, .slice u.A' u.n' u.c']), .is (.bool true), .is (.bool false), .is (.bool false), .is (.bool false), .is (.pointer (some ⟨wr.heap.size, 1, none⟩)), .is (.pointer (some ⟨wr.heap.size, 2, none⟩)), .is (.slice u.A u.n u.c), .is (.int .i64 (u.n : Int)), .is (.bool true), .is (.bool true)]
      (by kernel_rfl) (by kernel_rfl) (by kernel_rfl) (by kernel_rfl) rfl (by kernel_rfl) (fun _ h => h) (fun _ _ h hb => Below.then_ h hb) (fun _ _ _ h => h.elim) (fun _ _ _ _ _ _ h => h.elim) ?_ ?_
     ·refine ⟨?_, ?_, ?_, ?_, ?_, ?_, ?_, ?_, ?_, ?_, ?_, ?_, ?_, ?_, ?_, ?_, ?_, ?_, ?_, ?_, ?_, ?_, ?_, ?_, ?_, ?_, ?_, ?_, ?_, ?_, ?_, ?_, ?_, ?_, ?_, ?_, ?_, ?_, trivial⟩
      ·intro a w3 hA K hK
       have t6 := hA.old 6 _ rfl rfl
       go_simp
       exact hK _ _ rfl (Below.refl _ _)
      ·intro a w3 hA K hK
       have t33 := bg_is hA 0 33
       have k0 := (HT.below hA.grown).cell 0 rfl
       go_simp
       exact hK _ _ rfl (Below.refl _ _)
      ·intro a w3 hA K hK
       have t34 := bg_is hA 1 34
       go_simp
       exact hK _ _ Pg.fi_ (Below.refl _ _)
      ·intro a w3 hA K hK
       have t35 := bg_is hA 2 35
       go_simp
       exact hK _ _ rfl (Below.refl _ _)
      ·intro a w3 hA K hK
       have t6 := hA.old 6 _ rfl rfl
       go_simp
       exact hK _ _ rfl (Below.refl _ _)
      ·intro a w3 hA K hK
       have t37 := bg_is hA 4 37
       have k0 := (HT.below hA.grown).cell 0 rfl
       go_simp
       exact hK _ _ rfl (Below.refl _ _)
      ·intro a w3 hA K hK
       have t1 := hA.old 1 _ rfl rfl
       go_simp
       exact hK _ _ rfl (Below.refl _ _)
      ·intro a w3 hA K hK
       have t38 := bg_is hA 5 38
       have t39 := bg_is hA 6 39
       go_simp
       exact hK _ _ Pg.fi_ (Below.refl _ _)
      ·intro a w3 hA K hK
       have t36 := bg_is hA 3 36
       have t40 := bg_is hA 7 40
       go_simp
       exact hK _ _ Pg.fi_ (Below.refl _ _)
      ·intro a w3 hA K hK
       have t41 := bg_is hA 8 41
       go_simp
       exact hK _ _ rfl (Below.refl _ _)
      ·intro a w3 hA K hK
       have t5 := hA.old 5 _ rfl rfl
       go_simp
       exact hK _ _ rfl (Below.refl _ _)
      ·intro a w3 hA K hK
       have t43 := bg_is hA 10 43
       go_simp
       exact hK _ _ Pg.fi_ (Below.refl _ _)
      ·intro a w3 hA K hK
       have t44 := bg_is hA 11 44
       go_simp
       exact hK _ _ rfl (Below.refl _ _)
      ·intro a w3 hA K hK
       have t2 := hA.old 2 _ rfl rfl
       go_simp
       exact hK _ _ rfl (Below.refl _ _)
      ·intro a w3 hA K hK
       have t46 := bg_is hA 13 46
       have k0 := (HA2.below hA.grown).cell 1 rfl
       go_simp
       exact hK _ _ rfl (Below.refl _ _)
      ·intro a w3 hA K hK
       have t5 := hA.old 5 _ rfl rfl
       go_simp
       exact hK _ _ rfl (Below.refl _ _)
      ·intro a w3 hA K hK
       have t48 := bg_is hA 15 48
       go_simp
       exact hK _ _ Pg.fi_ (Below.refl _ _)
      ·intro a w3 hA K hK
       have t47 := bg_is hA 14 47
       have t49 := bg_is hA 16 49
       go_simp
       exact hK _ _ Pg.fi_ (Below.refl _ _)
      ·intro a w3 hA K hK
       have t50 := bg_is hA 17 50
       go_simp
       exact hK _ _ rfl (Below.refl _ _)
      ·intro a w3 hA K hK
       have t51 := bg_is hA 18 51
       have k0 : w3.cell? ⟨b, o + p * 4, none⟩ = some (.int .i64 tp.v) := (HCP.out.below ltp hA.grown).at_ 0 rfl
       go_simp
       exact hK _ _ rfl (Below.refl _ _)
      ·intro a w3 hA K hK
       have t6 := hA.old 6 _ rfl rfl
       go_simp
       exact hK _ _ rfl (Below.refl _ _)
      ·intro a w3 hA K hK
       have t53 := bg_is hA 20 53
       have k0 := (HT.below hA.grown).cell 0 rfl
       go_simp
       exact hK _ _ rfl (Below.refl _ _)
      ·intro a w3 hA K hK
       have t52 := bg_is hA 19 52
       have t54 := bg_is hA 21 54
       go_simp
       exact hK _ _ Pg.fi_ (Below.refl _ _)
      ·intro a w3 hA K hK
       have t45 := bg_is hA 12 45
       have t55 := bg_is hA 22 55
       go_simp
       exact hK _ _ Pg.fi_ (Below.refl _ _)
      ·intro a w3 hA K hK
       have t42 := bg_is hA 9 42
       have t56 := bg_is hA 23 56
       go_simp
       exact hK _ _ Pg.fi_ (Below.refl _ _)
      ·intro a w3 hA K hK
       have t57 := bg_is hA 24 57
       go_simp
       exact hK _ _ rfl (Below.refl _ _)
      ·intro a w3 hA K hK
       have t6 := hA.old 6 _ rfl rfl
       go_simp
       exact hK _ _ rfl (Below.refl _ _)
      ·intro a w3 hA K hK
       have t59 := bg_is hA 26 59
       have k0 := (HT.below hA.grown).cell 1 rfl
       have k1 := (HT.below hA.grown).cell 2 rfl
       have k2 := (HT.below hA.grown).cell 3 rfl
       go_simp
       exact hK _ _ rfl (Below.refl _ _)
      ·intro a w3 hA K hK
       have t60 := bg_is hA 27 60
       have hC := r2Is_Q w3 (HU2.out.below hA.grown) Hle hnm
       go_simp
       refine hC.mono ?_
       rintro e w4 ⟨rfl, hb⟩
       exact hK _ _ rfl hb
      ·intro a w3 hA K hK
       have t61 := bg_is hA 28 61
       go_simp
       exact hK _ _ Pg.fi_ (Below.refl _ _)
      ·intro a w3 hA K hK
       have t58 := bg_is hA 25 58
       have t62 := bg_is hA 29 62
       go_simp
       exact hK _ _ Pg.fi_ (Below.refl _ _)
      ·intro a w3 hA K hK
       have t63 := bg_is hA 30 63
       go_simp
       exact hK _ _ rfl (Below.refl _ _)
      ·intro a w3 hA K hK
       have t6 := hA.old 6 _ rfl rfl
       go_simp
       exact hK _ _ rfl (Below.refl _ _)
      ·intro a w3 hA K hK
       have t65 := bg_is hA 32 65
       go_simp
       exact hK _ _ rfl (Below.refl _ _)
      ·intro a w3 hA K hK
       have t66 := bg_is hA 33 66
       have k0 := (HT.below hA.grown).cell 2 rfl
       go_simp
       exact hK _ _ rfl (Below.refl _ _)
      ·intro a w3 hA K hK
       have t67 := bg_is hA 34 67
       go_simp
       exact hK _ _ Pg.fi_ (Below.refl _ _)
      ·intro a w3 hA K hK
       have t68 := bg_is hA 35 68
       go_simp
       exact hK _ _ Pg.fi_ (Below.refl _ _)
      ·intro a w3 hA K hK
       have t64 := bg_is hA 31 64
       have t69 := bg_is hA 36 69
       go_simp
       exact hK _ _ Pg.fi_ (Below.refl _ _)
     rintro vs w4 hV hb4 hlk act hact
     repeat (replace hV := hV.is_; obtain ⟨_, rfl, hV⟩ := hV)
     obtain rfl := hV.nil_
     clear hV
     clear hlk
     simp only [putsO] at hact
     subst hact
     go_simp
     have hbz := hb.trans ((Below.then_ hb2 hb4).mono hb.size)
     go_wp2_with fail
     go_ret
     exact ⟨by rw [HF.out]; rfl, hbz⟩
    have hz : ((u.n : Int) == 0) = false := by have h2 := List.length_pos_iff.2 v5; exact beq_eq_false_iff_ne.2 (by omega)
    have HL5 : Hid (isL N (t.v + 1) (a.t.drop (p + 1 + 1)) = Q) := hid (by rw [← hl, decide_eq_true (show q ≤ t.v by omega), decide_eq_true (show t.v < N by omega), hD, List.isEmpty_eq_false_iff.2 v5]; simp)
    have HPN : Hid (∃ tp, a.t[p + 1 + 1 - 1]? = some tp ∧ t.v + 1 = tp.v + 1 ∧ 0 ≤ tp.v) := hid ⟨t, by rw [Nat.add_sub_cancel]; exact HTn.out, rfl, by omega⟩
    clear hl e6 hx h0 htp hqe hv0 hup hcp v5
    go_upto_region 7 with fail
    refine wp_world (F := NewBs wr 38 [.int .i64 t.v, .bool u.s, .slice u.A u.n u.c, .slice u.A' u.n' u.c']) (made_new _ _ _) ?_
    rintro w2 ⟨HT, hb2, hs2⟩
    have HA2 := HA.out.below hb2
    have HU2 := hid (HU.out.below hb2)
    have HCP := hid (HP.out.below ltw hb2)
    have ltp : b < w2.heap.size := Nat.lt_of_lt_of_le ltw hb2.size
    clear a0 a1 a2 a3 a4
    refine draw_G (fun _ _ => False) (fun W => Below w2.heap.size w2 W) 38 none [some 33, some 34, some 35, some 36, some 37, some 38, some 39, some 40, some 41, some 42, some 43, some 44, some 45, some 46, some 47, some 48, some 49, some 50, some 51, some 52, some 53, some 54, some 55, some 56, some 57, some 58, some 59, some 60, some 61, some 62, some 63, some 64, some 65, some 66, some 67, some 68, some 69, some 70] [.is (.pointer (some ⟨wr.heap.size, 0, none⟩)), .is (.int .i64 t.v), .is (.bool false), .is (.bool false), .is (.pointer (some ⟨wr.heap.size, 0, none⟩)), .is (.int .i64 t.v), .is (.int .i64 N), .is (.bool false), .is (.bool false), .is (.bool false), .is (.int .i64 ((p + 1 : Nat) : Int)), .is (.bool true), .is (.bool true), .is (.pointer (some ⟨w.heap.size, 1, none⟩)), .is (.slice (some ⟨b, o, none⟩) n m), .is (.int .i64 ((p + 1 : Nat) : Int)), .is (.int .i64 (p : Int)), .is (.pointer (some ⟨b, o + p * 4, none⟩)), .is (.pointer (some ⟨b, o + p * 4, none⟩)), .is (.int .i64 tp.v), .is (.pointer (some ⟨wr.heap.size, 0, none⟩)), .is (.int .i64 t.v), .is (.bool false), .is (.bool false), .is (.bool false), .is (.bool false), .is (.pointer (some ⟨wr.heap.size, 1, none⟩)), .is (.agg #[.bool u.s, .slice u.A u.n u.c, .slice u.A' u.n' u.c']), .is (.bool true), .is (.bool false), .is (.bool false), .is (.bool false), .is (.pointer (some ⟨wr.heap.size, 1, none⟩)), .is (.pointer (some ⟨wr.heap.size, 2, none⟩)), .is (.slice u.A u.n u.c), .is (.int .i64 (u.n : Int)), .is (.bool false), .is (.bool false)]
     (by kernel_rfl) (by kernel_rfl) (by kernel_rfl) (by kernel_rfl) rfl (by kernel_rfl) (fun _ h => h) (fun _ _ h hb => Below.then_ h hb) (fun _ _ _ h => h.elim) (fun _ _ _ _ _ _ h => h.elim) ?_ ?_
    ·refine ⟨?_, ?_, ?_, ?_, ?_, ?_, ?_, ?_, ?_, ?_, ?_, ?_, ?_, ?_, ?_, ?_, ?_, ?_, ?_, ?_, ?_, ?_, ?_, ?_, ?_, ?_, ?_, ?_, ?_, ?_, ?_, ?_, ?_, ?_, ?_, ?_, ?_, ?_, trivial⟩
     ·intro a w3 hA K hK
      have t6 := hA.old 6 _ rfl rfl
      go_simp
      exact hK _ _ rfl (Below.refl _ _)
     ·intro a w3 hA K hK
      have t33 := bg_is hA 0 33
      have k0 := (HT.below hA.grown).cell 0 rfl
      go_simp
      exact hK _ _ rfl (Below.refl _ _)
     ·intro a w3 hA K hK
      have t34 := bg_is hA 1 34
      go_simp
      exact hK _ _ Pg.fi_ (Below.refl _ _)
     ·intro a w3 hA K hK
      have t35 := bg_is hA 2 35
      go_simp
      exact hK _ _ rfl (Below.refl _ _)
     ·intro a w3 hA K hK
      have t6 := hA.old 6 _ rfl rfl
      go_simp
      exact hK _ _ rfl (Below.refl _ _)
     ·intro a w3 hA K hK
      have t37 := bg_is hA 4 37
      have k0 := (HT.below hA.grown).cell 0 rfl
      go_simp
      exact hK _ _ rfl (Below.refl _ _)
     ·intro a w3 hA K hK
      have t1 := hA.old 1 _ rfl rfl
      go_simp
      exact hK _ _ rfl (Below.refl _ _)
     ·intro a w3 hA K hK
      have t38 := bg_is hA 5 38
      have t39 := bg_is hA 6 39
      go_simp
      exact hK _ _ Pg.fi_ (Below.refl _ _)
     ·intro a w3 hA K hK
      have t36 := bg_is hA 3 36
      have t40 := bg_is hA 7 40
      go_simp
      exact hK _ _ Pg.fi_ (Below.refl _ _)
     ·intro a w3 hA K hK
      have t41 := bg_is hA 8 41
      go_simp
      exact hK _ _ rfl (Below.refl _ _)
     ·intro a w3 hA K hK
      have t5 := hA.old 5 _ rfl rfl
      go_simp
      exact hK _ _ rfl (Below.refl _ _)
     ·intro a w3 hA K hK
      have t43 := bg_is hA 10 43
      go_simp
      exact hK _ _ Pg.fi_ (Below.refl _ _)
     ·intro a w3 hA K hK
      have t44 := bg_is hA 11 44
      go_simp
      exact hK _ _ rfl (Below.refl _ _)
     ·intro a w3 hA K hK
      have t2 := hA.old 2 _ rfl rfl
      go_simp
      exact hK _ _ rfl (Below.refl _ _)
     ·intro a w3 hA K hK
      have t46 := bg_is hA 13 46
      have k0 := (HA2.below hA.grown).cell 1 rfl
      go_simp
      exact hK _ _ rfl (Below.refl _ _)
     ·intro a w3 hA K hK
      have t5 := hA.old 5 _ rfl rfl
      go_simp
      exact hK _ _ rfl (Below.refl _ _)
     ·intro a w3 hA K hK
      have t48 := bg_is hA 15 48
      go_simp
      exact hK _ _ Pg.fi_ (Below.refl _ _)
     ·intro a w3 hA K hK
      have t47 := bg_is hA 14 47
      have t49 := bg_is hA 16 49
      go_simp
      exact hK _ _ Pg.fi_ (Below.refl _ _)
     ·intro a w3 hA K hK
      have t50 := bg_is hA 17 50
      go_simp
      exact hK _ _ rfl (Below.refl _ _)
     ·intro a w3 hA K hK
      have t51 := bg_is hA 18 51
      have k0 : w3.cell? ⟨b, o + p * 4, none⟩ = some (.int .i64 tp.v) := (HCP.out.below ltp hA.grown).at_ 0 rfl
      go_simp
      exact hK _ _ rfl (Below.refl _ _)
     ·intro a w3 hA K hK
      have t6 := hA.old 6 _ rfl rfl
      go_simp
      exact hK _ _ rfl (Below.refl _ _)
     ·intro a w3 hA K hK
      have t53 := bg_is hA 20 53
      have k0 := (HT.below hA.grown).cell 0 rfl
      go_simp
      exact hK _ _ rfl (Below.refl _ _)
     ·intro a w3 hA K hK
      have t52 := bg_is hA 19 52
      have t54 := bg_is hA 21 54
      go_simp
      exact hK _ _ Pg.fi_ (Below.refl _ _)
     ·intro a w3 hA K hK
      have t45 := bg_is hA 12 45
      have t55 := bg_is hA 22 55
      go_simp
      exact hK _ _ Pg.fi_ (Below.refl _ _)
     ·intro a w3 hA K hK
      have t42 := bg_is hA 9 42
      have t56 := bg_is hA 23 56
      go_simp
      exact hK _ _ Pg.fi_ (Below.refl _ _)
     ·intro a w3 hA K hK
      have t57 := bg_is hA 24 57
      go_simp
      exact hK _ _ rfl (Below.refl _ _)
     ·intro a w3 hA K hK
      have t6 := hA.old 6 _ rfl rfl
      go_simp
      exact hK _ _ rfl (Below.refl _ _)
     ·intro a w3 hA K hK
      have t59 := bg_is hA 26 59
      have k0 := (HT.below hA.grown).cell 1 rfl
      have k1 := (HT.below hA.grown).cell 2 rfl
      have k2 := (HT.below hA.grown).cell 3 rfl
      go_simp
      exact hK _ _ rfl (Below.refl _ _)
     ·intro a w3 hA K hK
      have t60 := bg_is hA 27 60
      have hC := r2Is_Q w3 (HU2.out.below hA.grown) Hle hnm
      go_simp
      refine hC.mono ?_
      rintro e w4 ⟨rfl, hb⟩
      exact hK _ _ rfl hb
     ·intro a w3 hA K hK
      have t61 := bg_is hA 28 61
      go_simp
      exact hK _ _ Pg.fi_ (Below.refl _ _)
     ·intro a w3 hA K hK
      have t58 := bg_is hA 25 58
      have t62 := bg_is hA 29 62
      go_simp
      exact hK _ _ Pg.fi_ (Below.refl _ _)
     ·intro a w3 hA K hK
      have t63 := bg_is hA 30 63
      go_simp
      exact hK _ _ rfl (Below.refl _ _)
     ·intro a w3 hA K hK
      have t6 := hA.old 6 _ rfl rfl
      go_simp
      exact hK _ _ rfl (Below.refl _ _)
     ·intro a w3 hA K hK
      have t65 := bg_is hA 32 65
      go_simp
      exact hK _ _ rfl (Below.refl _ _)
     ·intro a w3 hA K hK
      have t66 := bg_is hA 33 66
      have k0 := (HT.below hA.grown).cell 2 rfl
      go_simp
      exact hK _ _ rfl (Below.refl _ _)
     ·intro a w3 hA K hK
      have t67 := bg_is hA 34 67
      go_simp
      exact hK _ _ Pg.fi_ (Below.refl _ _)
     ·intro a w3 hA K hK
      have t68 := bg_is hA 35 68
      go_simp
      exact hK _ _ Pg.fi_ (Below.refl _ _)
     ·intro a w3 hA K hK
      have t64 := bg_is hA 31 64
      have t69 := bg_is hA 36 69
      go_simp
      exact hK _ _ Pg.fi_ (Below.refl _ _)
    rintro vs w4 hV hb4 hlk act hact
    repeat (replace hV := hV.is_; obtain ⟨_, rfl, hV⟩ := hV)
    obtain rfl := hV.nil_
    clear hV
    clear hlk
    simp only [putsO] at hact
    subst hact
    go_simp
    have hbz := hb.trans ((Below.then_ hb2 hb4).mono hb.size)
    have HA4 := hid (HA2.below hb4)
    go_wp2_with fail
    refine ⟨⟨p + 1 + 1, t.v + 1, by omega, by go_num, HL5, fun h => absurd h (by omega), fun _ => HPN, HA4, hbz⟩, ?_⟩
    simp [intOf]; omega
  ·obtain rfl : Q = true := by
    have h := HQ.out
    rw [List.drop_of_length_le (by omega)] at h
    rw [← h]; rfl
   go_wp2_with fail
   go_ret
   exact ⟨rfl, hb⟩
end Go.Proofs.Ytahdlpkncemmaaa
