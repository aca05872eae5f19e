/- Walk · Walk · Walk. Conditions: those that each theorem names. -/
import Derived.Test.YtahdlpkncemmaaaGreatX38
import Derived.Test.YtahdlpkncemmaaaGreatX31
set_option maxRecDepth 100000
set_option maxHeartbeats 8000000
set_option linter.unusedSimpArgs false
set_option linter.unusedVariables false
namespace Pg
open Go Go.RowKit
def w64 (S : Nat) : Int := IntKind.i64.wrap (S : Int)
theorem w64_add (S k : Nat) : IntKind.i64.wrap (w64 S + (k : Int)) = w64 (S + k) := by
 unfold w64
 simp only [IntKind.wrap_i64]
 omega
theorem w64_small {S : Nat} (h : S < 9223372036854775808) : w64 S = S := by
 unfold w64
 rw [IntKind.wrap_i64]
 omega
def termsW : List TW → Nat
 | [] => 0
 | t :: l => 1 + t.r.xs.length + t.r.ys.length + termsW l
def conW (c : CW) : Nat := 2 + c.r.xs.length + c.r.ys.length + termsW c.t
def sumW : List CW → Nat
 | [] => 0
 | c :: l => conW c + sumW l
theorem termsW_take {l : List TW} {k : Nat} {t : TW} (h : l[k]? = some t) : termsW (l.take (k + 1)) = termsW (l.take k) + 1 + t.r.xs.length + t.r.ys.length := by
 induction l generalizing k with
 | nil => simp at h
 | cons e l ih =>
  cases k with
  | zero => simp at h; subst h; simp [termsW]
  | succ k =>
   rw [List.getElem?_cons_succ] at h
   rw [List.take_succ_cons, List.take_succ_cons]
   unfold termsW
   rw [ih h]; omega
theorem sumW_take {l : List CW} {k : Nat} {c : CW} (h : l[k]? = some c) : sumW (l.take (k + 1)) = sumW (l.take k) + conW c := by
 induction l generalizing k with
 | nil => simp at h
 | cons e l ih =>
  cases k with
  | zero => simp at h; subst h; simp [sumW]
  | succ k =>
   rw [List.getElem?_cons_succ] at h
   rw [List.take_succ_cons, List.take_succ_cons]
   unfold sumW
   rw [ih h]; omega
theorem termsW_len : ∀ l : List TW, l.length ≤ termsW l ∧ ∀ t ∈ l, t.r.Le (termsW l)
 | [] => ⟨Nat.zero_le _, fun t h => by simp at h⟩
 | t :: l => by
  have h := termsW_len l
  unfold termsW
  refine ⟨by rw [List.length_cons]; omega, fun x hx => ?_⟩
  rcases List.mem_cons.1 hx with rfl | hx
  ·exact ⟨by omega, by omega⟩
  ·have := h.2 x hx
   exact ⟨Nat.le_trans this.1 (by omega), Nat.le_trans this.2 (by omega)⟩
theorem conW_le (c : CW) : c.Le (conW c) ∧ c.t.length ≤ conW c := by
 have h := termsW_len c.t
 unfold conW
 exact ⟨⟨fun t ht => ⟨Nat.le_trans (h.2 t ht).1 (by omega), Nat.le_trans (h.2 t ht).2 (by omega)⟩, by omega, by omega⟩, by omega⟩
end Pg
namespace Go.Proofs.YtahdlpkncemmaaaGreat
open Go.RowKit Pg
def ConAt (w : World) (b o : Nat) (c : CW) : Prop := ∃ T n m v0 v1 v2, CellsAt w b o [.int .i64 c.s, .slice T n m, v0, v1, v2] ∧ SlAt 4 TermAt w T n m c.t ∧ RowsAt w c.r v0 v1 v2
theorem rvat_len2 {w : World} {y : RV} {r : RW} (h : y.at w r) : r.xs.length = y.n ∧ r.ys.length = y.n' := by
 obtain ⟨A, n, c, A', n', c', _, e, e', h1, h2, _⟩ := h
 injection e with e1 e2 e3
 injection e' with e1' e2' e3'
 exact ⟨by rw [h1.len, e2], by rw [h2.len, e2']⟩
theorem heavy_C {A : Option Addr} {N C : Nat} {l : List CW} (w : World) (hS : SlAt 5 ConAt w A N C l) :
  Calls Tryz.prog 15 #[.slice A N C] w (ManyRet w (sumW l < 9223372036854775808 → sumW l ≤ 150)) := by
 have HS := hid hS
 obtain ⟨h1, h2, h3, _, _, _⟩ := hS
 go_enter Tryz.func15, Tryz.ntmps15
 go_wp2_with fail
 go_loopw [3, 4] (fun s i wr => ∃ j S : Nat, j ≤ N ∧ i = .int .i64 (j : Int) ∧ s = .int .i64 (w64 S) ∧ Hid (S = sumW (l.take j) ∧ (0 < j → w64 S ≤ 150)) ∧ Below w.heap.size w wr) (fun _ i _ => N - (intOf i).toNat)
 case atStart => exact ⟨0, 0, Nat.zero_le _, rfl, rfl, hid ⟨by simp [sumW], fun h => absurd h (by omega)⟩, Below.refl _ _⟩
 case round =>
  obtain ⟨j, S0, hj, rfl, rfl, HQ, hb⟩ := hrel
  by_cases hlt : j < N
  ·obtain ⟨_, _, _, _, _, e6⟩ := HS.out
   obtain ⟨b, o, rfl, hbb, hxs⟩ := e6 (by omega)
   obtain ⟨c, hc⟩ : ∃ c, l[j]? = some c := ⟨l[j]'(by omega), List.getElem?_eq_getElem _⟩
   obtain ⟨T, n, m, v0, v1, v2, hE, hT, hr⟩ := hxs j c hc
   obtain ⟨u, rfl, rfl, rfl, hu⟩ := rows_rv hr
   have hul := rvat_len2 hu
   have HU := hid hul
   have HCc := hid hc
   have HTT := hid hT
   have hnt : c.t.length = n := hT.1
   have hn47 : n ≤ 140737488355328 := by have := hT.2.1; have := hT.2.2.1; omega
   have HE0 := hid fun W (hW : Below w.heap.size w W) => hE.below hbb hW
   have hE1 := hE.below hbb hb
   have k1 := hE1.at_ 1 rfl
   have HE := hid hE1
   have ltb : b < wr.heap.size := Nat.lt_of_lt_of_le hbb hb.size
   have i0 : (0 : Int) ≤ (j : Int) := Int.natCast_nonneg _
   have i1 : (j : Int) < (N : Int) := by omega
   obtain ⟨S, hS⟩ : ∃ S, S0 = S := ⟨_, rfl⟩
   rw [hS]
   have HSS := hid hS
   have e1 : IntKind.i64.wrap (w64 S + 2) = w64 (S + 2) := w64_add S 2
   have e2 := w64_add (S + 2) u.n
   have e3 := w64_add (S + 2 + u.n) u.n'
   clear e6 hxs hc hE hT hr hu hE1 hul hS
   go_upto_region 5 with fail
   refine draw_G (fun _ _ => False) (fun W => Below wr.heap.size wr W) 19 none [some 12, some 13, some 14, some 15, some 16, some 17, some 18, some 19, some 20, some 21, some 22, some 23, some 24, some 25, some 26, some 27, some 28, some 29, some 3] [.is (.int .i64 (w64 (S))), .is (.int .i64 (w64 (S + 2))), .is (.slice (some ⟨b, o, none⟩) N C), .is (.int .i64 (j : Int)), .is (.pointer (some ⟨b, o + j * 5, none⟩)), .is (.pointer (some ⟨b, o + j * 5 + 2, none⟩)), .is (.pointer (some ⟨b, o + j * 5 + 3, none⟩)), .is (.slice u.A u.n u.c), .is (.int .i64 (u.n : Int)), .is (.int .i64 (w64 (S + 2 + u.n))), .is (.slice (some ⟨b, o, none⟩) N C), .is (.int .i64 (j : Int)), .is (.pointer (some ⟨b, o + j * 5, none⟩)), .is (.pointer (some ⟨b, o + j * 5 + 2, none⟩)), .is (.pointer (some ⟨b, o + j * 5 + 4, none⟩)), .is (.slice u.A' u.n' u.c'), .is (.int .i64 (u.n' : Int)), .is (.int .i64 (w64 (S + 2 + u.n + u.n'))), .is (.int .i64 (w64 (S + 2 + u.n + u.n')))]
    (by kernel_rfl) (by kernel_rfl) (by kernel_rfl) (by kernel_rfl) rfl (by kernel_rfl) (fun _ h => h) (fun _ _ h hb => Below.then_ h hb) (fun _ _ _ h => h.elim) (fun _ _ _ _ _ _ h => h.elim) ?_ ?_
   ·refine ⟨?_, ?_, ?_, ?_, ?_, ?_, ?_, ?_, ?_, ?_, ?_, ?_, ?_, ?_, ?_, ?_, ?_, ?_, ?_, trivial⟩
    ·intro a w3 hA K hK
     have t3 := hA.own 18 3 _ rfl (by kernel_rfl) rfl
     go_simp
     exact hK _ _ rfl (Below.refl _ _)
    ·intro a w3 hA K hK
     have t12 := bg_is hA 0 12
     go_simp
     exact hK _ _ Pg.fi_ (Below.refl _ _)
    ·intro a w3 hA K hK
     have t0 := hA.old 0 _ rfl rfl
     go_simp
     exact hK _ _ rfl (Below.refl _ _)
    ·intro a w3 hA K hK
     have t4 := hA.old 4 _ rfl rfl
     go_simp
     exact hK _ _ rfl (Below.refl _ _)
    ·intro a w3 hA K hK
     have t14 := bg_is hA 2 14
     have t15 := bg_is hA 3 15
     go_simp
     exact hK _ _ Pg.fi_ (Below.refl _ _)
    ·intro a w3 hA K hK
     have t16 := bg_is hA 4 16
     go_simp
     exact hK _ _ rfl (Below.refl _ _)
    ·intro a w3 hA K hK
     have t17 := bg_is hA 5 17
     go_simp
     exact hK _ _ rfl (Below.refl _ _)
    ·intro a w3 hA K hK
     have t18 := bg_is hA 6 18
     have k0 := (HE.out.below ltb hA.grown).at_ 3 rfl
     go_simp
     exact hK _ _ rfl (Below.refl _ _)
    ·intro a w3 hA K hK
     have t19 := bg_is hA 7 19
     go_simp
     exact hK _ _ Pg.fi_ (Below.refl _ _)
    ·intro a w3 hA K hK
     have t13 := bg_is hA 1 13
     have t20 := bg_is hA 8 20
     go_simp
     exact hK _ _ Pg.fi_ (Below.refl _ _)
    ·intro a w3 hA K hK
     have t0 := hA.old 0 _ rfl rfl
     go_simp
     exact hK _ _ rfl (Below.refl _ _)
    ·intro a w3 hA K hK
     have t4 := hA.old 4 _ rfl rfl
     go_simp
     exact hK _ _ rfl (Below.refl _ _)
    ·intro a w3 hA K hK
     have t22 := bg_is hA 10 22
     have t23 := bg_is hA 11 23
     go_simp
     exact hK _ _ Pg.fi_ (Below.refl _ _)
    ·intro a w3 hA K hK
     have t24 := bg_is hA 12 24
     go_simp
     exact hK _ _ rfl (Below.refl _ _)
    ·intro a w3 hA K hK
     have t25 := bg_is hA 13 25
     go_simp
     exact hK _ _ rfl (Below.refl _ _)
    ·intro a w3 hA K hK
     have t26 := bg_is hA 14 26
     have k0 := (HE.out.below ltb hA.grown).at_ 4 rfl
     go_simp
     exact hK _ _ rfl (Below.refl _ _)
    ·intro a w3 hA K hK
     have t27 := bg_is hA 15 27
     go_simp
     exact hK _ _ Pg.fi_ (Below.refl _ _)
    ·intro a w3 hA K hK
     have t21 := bg_is hA 9 21
     have t28 := bg_is hA 16 28
     go_simp
     exact hK _ _ Pg.fi_ (Below.refl _ _)
    ·intro a w3 hA K hK
     have t29 := bg_is hA 17 29
     go_simp
     exact hK _ _ Pg.fi_ (Below.refl _ _)
   rintro vs w5 hV hb5 hlk act hact
   repeat (replace hV := hV.is_; obtain ⟨_, rfl, hV⟩ := hV)
   obtain rfl := hV.nil_
   clear hV
   clear hlk
   simp only [putsO] at hact
   subst hact
   go_simp
   clear e1 e2 e3 k1
   have hw5 := Below.then_ hb hb5
   have k1 := (HE0.out _ hw5).at_ 1 rfl
   go_wp2_with fail
   go_loopw [3, 5] (fun s k wr => ∃ q S1 : Nat, q ≤ n ∧ k = .int .i64 (q : Int) ∧ s = .int .i64 (w64 S1) ∧ Hid (S1 = S + 2 + u.n + u.n' + termsW (c.t.take q)) ∧ Below w.heap.size w wr) (fun _ k _ => n - (intOf k).toNat)
   case atStart => exact ⟨0, S + 2 + u.n + u.n', Nat.zero_le _, rfl, rfl, hid (by simp [termsW]), hw5⟩
   case round =>
    clear k1 hb hb5 hw5 HE ltb
    obtain ⟨q, S2, hq, rfl, rfl, HQ2, hb⟩ := hrel
    have hE1 := HE0.out _ hb
    have ltb : b < wr.heap.size := Nat.lt_of_lt_of_le hbb hb.size
    have k1 := hE1.at_ 1 rfl
    by_cases hqt : q < n
    ·obtain ⟨_, _, _, _, _, e6⟩ := HTT.out
     obtain ⟨b2, o2, rfl, hb2, hxt⟩ := e6 (by omega)
     obtain ⟨t, ht⟩ : ∃ t, c.t[q]? = some t := ⟨c.t[q]'(by omega), List.getElem?_eq_getElem _⟩
     obtain ⟨_, _, _, hct, hrt⟩ := termAt_stays _ _ _ _ _ hb2 (hxt q t ht) hb
     obtain ⟨u2, rfl, rfl, rfl, hu2⟩ := rows_rv hrt
     have HU2 := hid (rvat_len2 hu2)
     have HTc := hid ht
     have HT := hid hct
     have lt2 : b2 < wr.heap.size := Nat.lt_of_lt_of_le hb2 hb.size
     have HE := hid hE1
     have i2 : (0 : Int) ≤ (q : Int) := Int.natCast_nonneg _
     have i3 : (q : Int) < (n : Int) := by omega
     obtain ⟨S, hS⟩ : ∃ S, S2 = S := ⟨_, rfl⟩
     rw [hS]
     have HS2 := hid hS
     have e1 : IntKind.i64.wrap (w64 S + 1) = w64 (S + 1) := w64_add S 1
     have e2 := w64_add (S + 1) u2.n
     have e3 := w64_add (S + 1 + u2.n) u2.n'
     clear e6 hxt ht hct hrt hu2 hE1 hS
     go_upto_region 9 with fail
     refine draw_G (fun _ _ => False) (fun W => Below wr.heap.size wr W) 27 none [some 40, some 41, some 42, some 43, some 44, some 45, some 46, some 47, some 48, some 49, some 50, some 51, some 52, some 53, some 54, some 55, some 56, some 57, some 58, some 59, some 60, some 61, some 62, some 63, some 64, some 65, some 3] [.is (.int .i64 (w64 (S))), .is (.int .i64 (w64 (S + 1))), .is (.slice (some ⟨b, o, none⟩) N C), .is (.int .i64 (j : Int)), .is (.pointer (some ⟨b, o + j * 5, none⟩)), .is (.pointer (some ⟨b, o + j * 5 + 1, none⟩)), .is (.slice (some ⟨b2, o2, none⟩) n m), .is (.int .i64 (q : Int)), .is (.pointer (some ⟨b2, o2 + q * 4, none⟩)), .is (.pointer (some ⟨b2, o2 + q * 4 + 1, none⟩)), .is (.pointer (some ⟨b2, o2 + q * 4 + 2, none⟩)), .is (.slice u2.A u2.n u2.c), .is (.int .i64 (u2.n : Int)), .is (.int .i64 (w64 (S + 1 + u2.n))), .is (.slice (some ⟨b, o, none⟩) N C), .is (.int .i64 (j : Int)), .is (.pointer (some ⟨b, o + j * 5, none⟩)), .is (.pointer (some ⟨b, o + j * 5 + 1, none⟩)), .is (.slice (some ⟨b2, o2, none⟩) n m), .is (.int .i64 (q : Int)), .is (.pointer (some ⟨b2, o2 + q * 4, none⟩)), .is (.pointer (some ⟨b2, o2 + q * 4 + 1, none⟩)), .is (.pointer (some ⟨b2, o2 + q * 4 + 3, none⟩)), .is (.slice u2.A' u2.n' u2.c'), .is (.int .i64 (u2.n' : Int)), .is (.int .i64 (w64 (S + 1 + u2.n + u2.n'))), .is (.int .i64 (w64 (S + 1 + u2.n + u2.n')))]
      (by kernel_rfl) (by kernel_rfl) (by kernel_rfl) (by kernel_rfl) rfl (by kernel_rfl) (fun _ h => h) (fun _ _ h hb => Below.then_ h hb) (fun _ _ _ h => h.elim) (fun _ _ _ _ _ _ h => h.elim) ?_ ?_
     ·refine ⟨?_, ?_, ?_, ?_, ?_, ?_, ?_, ?_, ?_, ?_, ?_, ?_, ?_, ?_, ?_, ?_, ?_, ?_, ?_, ?_, ?_, ?_, ?_, ?_, ?_, ?_, ?_, trivial⟩
      ·intro a w3 hA K hK
       have t3 := hA.own 26 3 _ rfl (by kernel_rfl) rfl
       go_simp
       exact hK _ _ rfl (Below.refl _ _)
      ·intro a w3 hA K hK
       have t40 := bg_is hA 0 40
       go_simp
       exact hK _ _ Pg.fi_ (Below.refl _ _)
      ·intro a w3 hA K hK
       have t0 := hA.old 0 _ rfl rfl
       go_simp
       exact hK _ _ rfl (Below.refl _ _)
      ·intro a w3 hA K hK
       have t4 := hA.old 4 _ rfl rfl
       go_simp
       exact hK _ _ rfl (Below.refl _ _)
      ·intro a w3 hA K hK
       have t42 := bg_is hA 2 42
       have t43 := bg_is hA 3 43
       go_simp
       exact hK _ _ Pg.fi_ (Below.refl _ _)
      ·intro a w3 hA K hK
       have t44 := bg_is hA 4 44
       go_simp
       exact hK _ _ rfl (Below.refl _ _)
      ·intro a w3 hA K hK
       have t45 := bg_is hA 5 45
       have k0 := (HE.out.below ltb hA.grown).at_ 1 rfl
       go_simp
       exact hK _ _ rfl (Below.refl _ _)
      ·intro a w3 hA K hK
       have t5 := hA.old 5 _ rfl rfl
       go_simp
       exact hK _ _ rfl (Below.refl _ _)
      ·intro a w3 hA K hK
       have t46 := bg_is hA 6 46
       have t47 := bg_is hA 7 47
       go_simp
       exact hK _ _ Pg.fi_ (Below.refl _ _)
      ·intro a w3 hA K hK
       have t48 := bg_is hA 8 48
       go_simp
       exact hK _ _ rfl (Below.refl _ _)
      ·intro a w3 hA K hK
       have t49 := bg_is hA 9 49
       go_simp
       exact hK _ _ rfl (Below.refl _ _)
      ·intro a w3 hA K hK
       have t50 := bg_is hA 10 50
       have k0 := (HT.out.below lt2 hA.grown).at_ 2 rfl
       go_simp
       exact hK _ _ rfl (Below.refl _ _)
      ·intro a w3 hA K hK
       have t51 := bg_is hA 11 51
       go_simp
       exact hK _ _ Pg.fi_ (Below.refl _ _)
      ·intro a w3 hA K hK
       have t41 := bg_is hA 1 41
       have t52 := bg_is hA 12 52
       go_simp
       exact hK _ _ Pg.fi_ (Below.refl _ _)
      ·intro a w3 hA K hK
       have t0 := hA.old 0 _ rfl rfl
       go_simp
       exact hK _ _ rfl (Below.refl _ _)
      ·intro a w3 hA K hK
       have t4 := hA.old 4 _ rfl rfl
       go_simp
       exact hK _ _ rfl (Below.refl _ _)
      ·intro a w3 hA K hK
       have t54 := bg_is hA 14 54
       have t55 := bg_is hA 15 55
       go_simp
       exact hK _ _ Pg.fi_ (Below.refl _ _)
      ·intro a w3 hA K hK
       have t56 := bg_is hA 16 56
       go_simp
       exact hK _ _ rfl (Below.refl _ _)
      ·intro a w3 hA K hK
       have t57 := bg_is hA 17 57
       have k0 := (HE.out.below ltb hA.grown).at_ 1 rfl
       go_simp
       exact hK _ _ rfl (Below.refl _ _)
      ·intro a w3 hA K hK
       have t5 := hA.old 5 _ rfl rfl
       go_simp
       exact hK _ _ rfl (Below.refl _ _)
      ·intro a w3 hA K hK
       have t58 := bg_is hA 18 58
       have t59 := bg_is hA 19 59
       go_simp
       exact hK _ _ Pg.fi_ (Below.refl _ _)
      ·intro a w3 hA K hK
       have t60 := bg_is hA 20 60
       go_simp
       exact hK _ _ rfl (Below.refl _ _)
      ·intro a w3 hA K hK
       have t61 := bg_is hA 21 61
       go_simp
       exact hK _ _ rfl (Below.refl _ _)
      ·intro a w3 hA K hK
       have t62 := bg_is hA 22 62
       have k0 := (HT.out.below lt2 hA.grown).at_ 3 rfl
       go_simp
       exact hK _ _ rfl (Below.refl _ _)
      ·intro a w3 hA K hK
       have t63 := bg_is hA 23 63
       go_simp
       exact hK _ _ Pg.fi_ (Below.refl _ _)
      ·intro a w3 hA K hK
       have t53 := bg_is hA 13 53
       have t64 := bg_is hA 24 64
       go_simp
       exact hK _ _ Pg.fi_ (Below.refl _ _)
      ·intro a w3 hA K hK
       have t65 := bg_is hA 25 65
       go_simp
       exact hK _ _ Pg.fi_ (Below.refl _ _)
     rintro vs w9 hV hb9 hlk act hact
     repeat (replace hV := hV.is_; obtain ⟨_, rfl, hV⟩ := hV)
     obtain rfl := hV.nil_
     clear hV
     clear hlk
     simp only [putsO] at hact
     subst hact
     go_simp
     go_wp2_with fail
     refine ⟨⟨q + 1, _, by omega, by go_num, rfl, hid ?_, Below.then_ hb hb9⟩, ?_⟩
     ·have h1 := termsW_take HTc.out
      have h2 := HQ2.out
      have h3 := HU2.out
      have h4 := HS2.out
      omega
     ·simp [intOf]; omega
    ·obtain rfl : q = n := by omega
     have hS1 : S2 = sumW (l.take (j + 1)) := by
      have h1 := sumW_take HCc.out
      have h2 := HQ2.out
      rw [List.take_of_length_le (by omega)] at h2
      have h3 := HU.out
      have h4 := HQ.out.1
      have h5 := HSS.out
      unfold conW at h1
      omega
     have HS1 := hid hS1
     clear hS1
     obtain ⟨D, hD⟩ : ∃ D, decide (150 < w64 S2) = D := ⟨_, rfl⟩
     have HD := hid hD
     rcases D with _ | _
     ·go_wp2_with fail
      refine ⟨⟨j + 1, S2, hlt, by go_num, rfl, hid ⟨HS1.out, fun _ => by have := of_decide_eq_false HD.out; omega⟩, hb⟩, ?_⟩
      simp [intOf]; omega
     ·go_wp2_with fail
      go_ret
      exact ⟨true, rfl, (fun h => by cases h), hb⟩
  ·go_wp2_with fail
   go_ret
   refine ⟨false, rfl, fun _ hlt63 => ?_, hb⟩
   have h := HQ.out
   rw [List.take_of_length_le (by omega)] at h
   rcases Nat.eq_zero_or_pos j with h0 | h0
   ·have : l = [] := List.length_eq_zero_iff.1 (by omega)
    subst this
    simp [sumW]
   ·have h5 := h.2 h0
    rw [w64_small (by rw [h.1]; exact hlt63)] at h5
    omega
end Go.Proofs.YtahdlpkncemmaaaGreat
namespace Go.Proofs.YtahdlpkncemmaaaGreat
open Go.RowKit Pg
theorem rIs_C {va : Value} {a : CW} {N : Int} (w : World) (ha : ConVal w va a) (hle : a.Le 262144) {Q : Bool} (hQ : isW a N = Q) :
  Calls Tryz.prog 19 #[va, .int .i64 N] w fun e w' => e = .returned (.bool Q) ∧ Below w.heap.size w w' := by
 obtain ⟨T, n, m, x, rfl, hca⟩ := ha.cv
 obtain ⟨E, hE⟩ : ∃ E, a.r.norm = E := ⟨_, rfl⟩
 simp only [isW] at hQ
 rw [hE] at hQ
 have HI := hid fun W (hW : Below w.heap.size w W) => r2Is_Q W (hca.2.below hW) hle.2 hE
 have HTa := hid hca.1
 have HLa := hid hle.1
 have hna : a.t.length = n := hca.1.1
 have hnb : n ≤ 140737488355328 := by have := hca.1; have h1 := this.2.1; have h2 := this.2.2.1; omega
 clear ha hle hca hE
 go_enter Tryz.func19, Tryz.ntmps19
 go_upto_region 1 with fail
 refine wp_world (F := fun W => Bs W w.heap.size 36 [.int .i64 a.s, .slice T n m, .bool x.s, .slice x.A x.n x.c, .slice x.A' x.n' x.c'] ∧ Below w.heap.size w W)
  ⟨Bs.new w _ _ _ rfl, Pg.bel⟩ ?_
 rintro w1 ⟨HA1, hb1⟩
 have a0 := HA1.cell 0 rfl
 have a1 := HA1.cell 1 rfl
 have a2 := HA1.cell 2 rfl
 have a3 := HA1.cell 3 rfl
 have a4 := HA1.cell 4 rfl
 have HA := hid HA1
 by_cases s1 : a.s < 0
 ·have s1' := decide_eq_true s1
  obtain rfl : Q = false := by rw [← hQ, decide_eq_false (show ¬ 0 ≤ a.s by omega)]; simp
  clear hQ
  go_wp2_with fail
  go_ret
  exact ⟨rfl, hb1⟩
 by_cases s2 : 4 < a.s
 ·have s2' := decide_eq_true s2
  obtain rfl : Q = false := by rw [← hQ, decide_eq_false (show ¬ a.s ≤ 4 by omega)]; simp
  clear hQ
  go_wp2_with fail
  go_ret
  exact ⟨rfl, hb1⟩
 rw [decide_eq_true (show 0 ≤ a.s by omega), decide_eq_true (show a.s ≤ 4 by omega)] at hQ
 rcases E with _ | _
 ·obtain rfl : Q = false := by rw [← hQ]; simp
  clear hQ
  go_wp2_with (go_at_call 38; (with_reducible refine (HI.out _ hb1).mono ?_); rintro e w5 ⟨rfl, hb5⟩)
  go_ret
  exact ⟨rfl, Below.then_ hb1 hb5⟩
 have HQ : Hid (isL N 0 a.t = Q) := hid (by rw [← hQ]; simp)
 clear hQ
 go_wp2_with (go_at_call 38; (with_reducible refine (HI.out _ hb1).mono ?_); rintro e w5 ⟨rfl, hb5⟩; have HA5 := hid (HA.out.below hb5); have hbw := Below.then_ hb1 hb5; clear a0 a1 a2 a3 a4 hb5 HA1)
 go_loopw [5] (fun i wr => ∃ (j : Nat) (q : Int), j ≤ n ∧ i = .int .i64 (j : Int) ∧ Hid (isL N q (a.t.drop j) = Q) ∧ (j = 0 → q = 0) ∧ (0 < j → Hid (∃ tp, a.t[j - 1]? = some tp ∧ q = tp.v + 1 ∧ 0 ≤ tp.v)) ∧ Hid (Bs wr w.heap.size 36 [.int .i64 a.s, .slice T n m, .bool x.s, .slice x.A x.n x.c, .slice x.A' x.n' x.c']) ∧ Below w.heap.size w wr) (fun i _ => n - (intOf i).toNat)
 case atStart => exact ⟨0, 0, Nat.zero_le _, rfl, hid HQ.out, fun _ => rfl, fun h => absurd h (by omega), HA5, hbw⟩
 case round =>
  obtain ⟨j, q, hj, rfl, HQ, hq0, hq1, HA, hb⟩ := hrel
  clear HA5 hbw hb1
  have a0 := HA.out.cell 0 rfl
  have a1 := HA.out.cell 1 rfl
  have a2 := HA.out.cell 2 rfl
  have a3 := HA.out.cell 3 rfl
  have a4 := HA.out.cell 4 rfl
  by_cases hlt : j < n
  ·rcases Nat.eq_zero_or_pos j with h0 | h0
   ·have hq := hq0 h0
    have g1 : ¬ ((0 : Int) < (j : Int)) := by omega
    have g5 : decide (0 < j) = false := decide_eq_false (by omega)
    clear hq0 hq1
    obtain ⟨e1, _, _, _, _, e6⟩ := HTa.out
    obtain ⟨b, o, rfl, hbb, hx⟩ := e6 (by omega)
    obtain ⟨t, ht⟩ : ∃ t, a.t[j]? = some t := ⟨a.t[j]'(by omega), List.getElem?_eq_getElem _⟩
    obtain ⟨x0, x1, x2, hc, hu0⟩ := termAt_stays _ _ _ _ _ hbb (hx (j) t ht) hb
    obtain ⟨u, rfl, rfl, rfl, hu⟩ := rows_rv hu0
    have HU := hid hu
    have hul := rvat_len hu
    have Hle := HLa.out t (List.mem_of_getElem? ht)
    have ltw : b < wr.heap.size := Nat.lt_of_lt_of_le hbb hb.size
    have i1 : ((j : Nat) : Int) < (n : Int) := by omega
    have i0 : (0 : Int) ≤ ((j : Nat) : Int) := by omega
    have hl := HQ.out
    rw [drop_cons ht] at hl
    simp only [isL] at hl
    have HTn := hid ht
    have z0 : wr.cell? ⟨b, o + (j) * 4, none⟩ = some (.int .i64 t.v) := hc.at_ 0 rfl
    have z1 := hc.at_ 1 rfl
    have z2 := hc.at_ 2 rfl
    have z3 := hc.at_ 3 rfl
    clear e1 ht hc hu0 hu
    by_cases v1 : t.v < 0
    ·have HF : Hid (Q = false) := hid (by rw [← hl, decide_eq_false (show ¬ q ≤ t.v by omega)]; simp)
     have v1' : decide (t.v < 0) = true := decide_eq_true v1
     clear hl e6 hx h0 hq
     go_upto_region 7 with fail
     refine wp_world (F := NewBs wr 65 [.int .i64 t.v, .bool u.s, .slice u.A u.n u.c, .slice u.A' u.n' u.c']) (made_new _ _ _) ?_
     rintro w2 ⟨HT, hb2, hs2⟩
     have HA2 := HA.out.below hb2
     have HU2 := hid (HU.out.below hb2)
     clear a0 a1 a2 a3 a4
     refine draw_G (fun _ _ => False) (fun W => Below w2.heap.size w2 W) 38 none [some 33, some 34, some 35, some 36, some 37, some 38, some 39, some 40, some 41, some 42, some 43, some 44, some 45, some 46, some 47, some 48, some 49, some 50, some 51, some 52, some 53, some 54, some 55, some 56, some 57, some 58, some 59, some 60, some 61, some 62, some 63, some 64, some 65, some 66, some 67, some 68, some 69, some 70] [.is (.pointer (some ⟨wr.heap.size, 0, none⟩)), .is (.int .i64 t.v), .is (.bool true), .is (.bool true), .is (undef), .is (undef), .is (undef), .is (undef), .is (.bool true), .is (.bool true), .is (undef), .is (undef), .is (undef), .is (undef), .is (undef), .is (undef), .is (undef), .is (undef), .is (undef), .is (undef), .is (undef), .is (undef), .is (undef), .is (undef), .is (.bool true), .is (.bool true), .is (undef), .is (undef), .is (undef), .is (undef), .is (.bool true), .is (.bool true), .is (undef), .is (undef), .is (undef), .is (undef), .is (undef), .is (.bool true)]
      (by kernel_rfl) (by kernel_rfl) (by kernel_rfl) (by kernel_rfl) rfl (by kernel_rfl) (fun _ h => h) (fun _ _ h hb => Below.then_ h hb) (fun _ _ _ h => h.elim) (fun _ _ _ _ _ _ h => h.elim) ?_ ?_
     ·refine ⟨?_, ?_, ?_, ?_, ?_, ?_, ?_, ?_, ?_, ?_, ?_, ?_, ?_, ?_, ?_, ?_, ?_, ?_, ?_, ?_, ?_, ?_, ?_, ?_, ?_, ?_, ?_, ?_, ?_, ?_, ?_, ?_, ?_, ?_, ?_, ?_, ?_, ?_, trivial⟩
      ·intro a w3 hA K hK
       have t6 := hA.old 6 _ rfl rfl
       go_simp
       exact hK _ _ rfl (Below.refl _ _)
      ·intro a w3 hA K hK
       have t33 := bg_is hA 0 33
       have k0 := (HT.below hA.grown).cell 0 rfl
       go_simp
       exact hK _ _ rfl (Below.refl _ _)
      ·intro a w3 hA K hK
       have t34 := bg_is hA 1 34
       go_simp
       exact hK _ _ Pg.fi_ (Below.refl _ _)
      ·intro a w3 hA K hK
       have t35 := bg_is hA 2 35
       go_simp
       exact hK _ _ rfl (Below.refl _ _)
      ·exact rfl
      ·exact rfl
      ·exact rfl
      ·exact rfl
      ·intro a w3 hA K hK
       have t36 := bg_is hA 3 36
       have t40 := bg_is hA 7 40
       go_simp
       exact hK _ _ Pg.fi_ (Below.refl _ _)
      ·intro a w3 hA K hK
       have t41 := bg_is hA 8 41
       go_simp
       exact hK _ _ rfl (Below.refl _ _)
      ·exact rfl
      ·exact rfl
      ·exact rfl
      ·exact rfl
      ·exact rfl
      ·exact rfl
      ·exact rfl
      ·exact rfl
      ·exact rfl
      ·exact rfl
      ·exact rfl
      ·exact rfl
      ·exact rfl
      ·exact rfl
      ·intro a w3 hA K hK
       have t42 := bg_is hA 9 42
       have t56 := bg_is hA 23 56
       go_simp
       exact hK _ _ Pg.fi_ (Below.refl _ _)
      ·intro a w3 hA K hK
       have t57 := bg_is hA 24 57
       go_simp
       exact hK _ _ rfl (Below.refl _ _)
      ·exact rfl
      ·exact rfl
      ·exact rfl
      ·exact rfl
      ·intro a w3 hA K hK
       have t58 := bg_is hA 25 58
       have t62 := bg_is hA 29 62
       go_simp
       exact hK _ _ Pg.fi_ (Below.refl _ _)
      ·intro a w3 hA K hK
       have t63 := bg_is hA 30 63
       go_simp
       exact hK _ _ rfl (Below.refl _ _)
      ·exact rfl
      ·exact rfl
      ·exact rfl
      ·exact rfl
      ·exact rfl
      ·intro a w3 hA K hK
       have t64 := bg_is hA 31 64
       have t69 := bg_is hA 36 69
       go_simp
       exact hK _ _ Pg.fi_ (Below.refl _ _)
     rintro vs w4 hV hb4 hlk act hact
     repeat (replace hV := hV.is_; obtain ⟨_, rfl, hV⟩ := hV)
     obtain rfl := hV.nil_
     clear hV
     clear hlk
     simp only [putsO] at hact
     subst hact
     go_simp
     have hbz := hb.trans ((Below.then_ hb2 hb4).mono hb.size)
     go_wp2_with fail
     go_ret
     exact ⟨by rw [HF.out]; rfl, hbz⟩
    have v1' : decide (t.v < 0) = false := decide_eq_false v1
    by_cases v2 : N ≤ t.v
    ·have HF : Hid (Q = false) := hid (by rw [← hl, decide_eq_false (show ¬ t.v < N by omega)]; simp)
     have v2' : decide (N ≤ t.v) = true := decide_eq_true v2
     clear hl e6 hx h0 hq
     go_upto_region 7 with fail
     refine wp_world (F := NewBs wr 65 [.int .i64 t.v, .bool u.s, .slice u.A u.n u.c, .slice u.A' u.n' u.c']) (made_new _ _ _) ?_
     rintro w2 ⟨HT, hb2, hs2⟩
     have HA2 := HA.out.below hb2
     have HU2 := hid (HU.out.below hb2)
     clear a0 a1 a2 a3 a4
     refine draw_G (fun _ _ => False) (fun W => Below w2.heap.size w2 W) 38 none [some 33, some 34, some 35, some 36, some 37, some 38, some 39, some 40, some 41, some 42, some 43, some 44, some 45, some 46, some 47, some 48, some 49, some 50, some 51, some 52, some 53, some 54, some 55, some 56, some 57, some 58, some 59, some 60, some 61, some 62, some 63, some 64, some 65, some 66, some 67, some 68, some 69, some 70] [.is (.pointer (some ⟨wr.heap.size, 0, none⟩)), .is (.int .i64 t.v), .is (.bool false), .is (.bool false), .is (.pointer (some ⟨wr.heap.size, 0, none⟩)), .is (.int .i64 t.v), .is (.int .i64 N), .is (.bool true), .is (.bool true), .is (.bool true), .is (undef), .is (undef), .is (undef), .is (undef), .is (undef), .is (undef), .is (undef), .is (undef), .is (undef), .is (undef), .is (undef), .is (undef), .is (undef), .is (undef), .is (.bool true), .is (.bool true), .is (undef), .is (undef), .is (undef), .is (undef), .is (.bool true), .is (.bool true), .is (undef), .is (undef), .is (undef), .is (undef), .is (undef), .is (.bool true)]
      (by kernel_rfl) (by kernel_rfl) (by kernel_rfl) (by kernel_rfl) rfl (by kernel_rfl) (fun _ h => h) (fun _ _ h hb => Below.then_ h hb) (fun _ _ _ h => h.elim) (fun _ _ _ _ _ _ h => h.elim) ?_ ?_
     ·refine ⟨?_, ?_, ?_, ?_, ?_, ?_, ?_, ?_, ?_, ?_, ?_, ?_, ?_, ?_, ?_, ?_, ?_, ?_, ?_, ?_, ?_, ?_, ?_, ?_, ?_, ?_, ?_, ?_, ?_, ?_, ?_, ?_, ?_, ?_, ?_, ?_, ?_, ?_, trivial⟩
      ·intro a w3 hA K hK
       have t6 := hA.old 6 _ rfl rfl
       go_simp
       exact hK _ _ rfl (Below.refl _ _)
      ·intro a w3 hA K hK
       have t33 := bg_is hA 0 33
       have k0 := (HT.below hA.grown).cell 0 rfl
       go_simp
       exact hK _ _ rfl (Below.refl _ _)
      ·intro a w3 hA K hK
       have t34 := bg_is hA 1 34
       go_simp
       exact hK _ _ Pg.fi_ (Below.refl _ _)
      ·intro a w3 hA K hK
       have t35 := bg_is hA 2 35
       go_simp
       exact hK _ _ rfl (Below.refl _ _)
      ·intro a w3 hA K hK
       have t6 := hA.old 6 _ rfl rfl
       go_simp
       exact hK _ _ rfl (Below.refl _ _)
      ·intro a w3 hA K hK
       have t37 := bg_is hA 4 37
       have k0 := (HT.below hA.grown).cell 0 rfl
       go_simp
       exact hK _ _ rfl (Below.refl _ _)
      ·intro a w3 hA K hK
       have t1 := hA.old 1 _ rfl rfl
       go_simp
       exact hK _ _ rfl (Below.refl _ _)
      ·intro a w3 hA K hK
       have t38 := bg_is hA 5 38
       have t39 := bg_is hA 6 39
       go_simp
       exact hK _ _ Pg.fi_ (Below.refl _ _)
      ·intro a w3 hA K hK
       have t36 := bg_is hA 3 36
       have t40 := bg_is hA 7 40
       go_simp
       exact hK _ _ Pg.fi_ (Below.refl _ _)
      ·intro a w3 hA K hK
       have t41 := bg_is hA 8 41
       go_simp
       exact hK _ _ rfl (Below.refl _ _)
      ·exact rfl
      ·exact rfl
      ·exact rfl
      ·exact rfl
      ·exact rfl
      ·exact rfl
      ·exact rfl
      ·exact rfl
      ·exact rfl
      ·exact rfl
      ·exact rfl
      ·exact rfl
      ·exact rfl
      ·exact rfl
      ·intro a w3 hA K hK
       have t42 := bg_is hA 9 42
       have t56 := bg_is hA 23 56
       go_simp
       exact hK _ _ Pg.fi_ (Below.refl _ _)
      ·intro a w3 hA K hK
       have t57 := bg_is hA 24 57
       go_simp
       exact hK _ _ rfl (Below.refl _ _)
      ·exact rfl
      ·exact rfl
      ·exact rfl
      ·exact rfl
      ·intro a w3 hA K hK
       have t58 := bg_is hA 25 58
       have t62 := bg_is hA 29 62
       go_simp
       exact hK _ _ Pg.fi_ (Below.refl _ _)
      ·intro a w3 hA K hK
       have t63 := bg_is hA 30 63
       go_simp
       exact hK _ _ rfl (Below.refl _ _)
      ·exact rfl
      ·exact rfl
      ·exact rfl
      ·exact rfl
      ·exact rfl
      ·intro a w3 hA K hK
       have t64 := bg_is hA 31 64
       have t69 := bg_is hA 36 69
       go_simp
       exact hK _ _ Pg.fi_ (Below.refl _ _)
     rintro vs w4 hV hb4 hlk act hact
     repeat (replace hV := hV.is_; obtain ⟨_, rfl, hV⟩ := hV)
     obtain rfl := hV.nil_
     clear hV
     clear hlk
     simp only [putsO] at hact
     subst hact
     go_simp
     have hbz := hb.trans ((Below.then_ hb2 hb4).mono hb.size)
     go_wp2_with fail
     go_ret
     exact ⟨by rw [HF.out]; rfl, hbz⟩
    have v2' : decide (N ≤ t.v) = false := decide_eq_false v2
    obtain ⟨D, hD⟩ : ∃ D, t.r.norm = D := ⟨_, rfl⟩
    rcases D with _ | _
    ·have HF : Hid (Q = false) := hid (by rw [← hl, hD]; simp)
     have hnf := hD
     clear hl e6 hx h0 hq
     go_upto_region 7 with fail
     refine wp_world (F := NewBs wr 65 [.int .i64 t.v, .bool u.s, .slice u.A u.n u.c, .slice u.A' u.n' u.c']) (made_new _ _ _) ?_
     rintro w2 ⟨HT, hb2, hs2⟩
     have HA2 := HA.out.below hb2
     have HU2 := hid (HU.out.below hb2)
     clear a0 a1 a2 a3 a4
     refine draw_G (fun _ _ => False) (fun W => Below w2.heap.size w2 W) 38 none [some 33, some 34, some 35, some 36, some 37, some 38, some 39, some 40, some 41, some 42, some 43, some 44, some 45, some 46, some 47, some 48, some 49, some 50, some 51, some 52, some 53, some 54, some 55, some 56, some 57, some 58, some 59, some 60, some 61, some 62, some 63, some 64, some 65, some 66, some 67, some 68, some 69, some 70] [.is (.pointer (some ⟨wr.heap.size, 0, none⟩)), .is (.int .i64 t.v), .is (.bool false), .is (.bool false), .is (.pointer (some ⟨wr.heap.size, 0, none⟩)), .is (.int .i64 t.v), .is (.int .i64 N), .is (.bool false), .is (.bool false), .is (.bool false), .is (.int .i64 (j : Int)), .is (.bool false), .is (.bool false), .is (undef), .is (undef), .is (undef), .is (undef), .is (undef), .is (undef), .is (undef), .is (undef), .is (undef), .is (undef), .is (.bool false), .is (.bool false), .is (.bool false), .is (.pointer (some ⟨wr.heap.size, 1, none⟩)), .is (.agg #[.bool u.s, .slice u.A u.n u.c, .slice u.A' u.n' u.c']), .is (.bool false), .is (.bool true), .is (.bool true), .is (.bool true), .is (undef), .is (undef), .is (undef), .is (undef), .is (undef), .is (.bool true)]
      (by kernel_rfl) (by kernel_rfl) (by kernel_rfl) (by kernel_rfl) rfl (by kernel_rfl) (fun _ h => h) (fun _ _ h hb => Below.then_ h hb) (fun _ _ _ h => h.elim) (fun _ _ _ _ _ _ h => h.elim) ?_ ?_
     ·refine ⟨?_, ?_, ?_, ?_, ?_, ?_, ?_, ?_, ?_, ?_, ?_, ?_, ?_, ?_, ?_, ?_, ?_, ?_, ?_, ?_, ?_, ?_, ?_, ?_, ?_, ?_, ?_, ?_, ?_, ?_, ?_, ?_, ?_, ?_, ?_, ?_, ?_, ?_, trivial⟩
      ·intro a w3 hA K hK
       have t6 := hA.old 6 _ rfl rfl
       go_simp
       exact hK _ _ rfl (Below.refl _ _)
      ·intro a w3 hA K hK
       have t33 := bg_is hA 0 33
       have k0 := (HT.below hA.grown).cell 0 rfl
       go_simp
       exact hK _ _ rfl (Below.refl _ _)
      ·intro a w3 hA K hK
       have t34 := bg_is hA 1 34
       go_simp
       exact hK _ _ Pg.fi_ (Below.refl _ _)
      ·intro a w3 hA K hK
       have t35 := bg_is hA 2 35
       go_simp
       exact hK _ _ rfl (Below.refl _ _)
      ·intro a w3 hA K hK
       have t6 := hA.old 6 _ rfl rfl
       go_simp
       exact hK _ _ rfl (Below.refl _ _)
      ·intro a w3 hA K hK
       have t37 := bg_is hA 4 37
       have k0 := (HT.below hA.grown).cell 0 rfl
       go_simp
       exact hK _ _ rfl (Below.refl _ _)
      ·intro a w3 hA K hK
       have t1 := hA.old 1 _ rfl rfl
       go_simp
       exact hK _ _ rfl (Below.refl _ _)
      ·intro a w3 hA K hK
       have t38 := bg_is hA 5 38
       have t39 := bg_is hA 6 39
       go_simp
       exact hK _ _ Pg.fi_ (Below.refl _ _)
      ·intro a w3 hA K hK
       have t36 := bg_is hA 3 36
       have t40 := bg_is hA 7 40
       go_simp
       exact hK _ _ Pg.fi_ (Below.refl _ _)
      ·intro a w3 hA K hK
       have t41 := bg_is hA 8 41
       go_simp
       exact hK _ _ rfl (Below.refl _ _)
      ·intro a w3 hA K hK
       have t5 := hA.old 5 _ rfl rfl
       go_simp
       exact hK _ _ rfl (Below.refl _ _)
      ·intro a w3 hA K hK
       have t43 := bg_is hA 10 43
       go_simp
       exact hK _ _ Pg.fi_ (Below.refl _ _)
      ·intro a w3 hA K hK
       have t44 := bg_is hA 11 44
       go_simp
       exact hK _ _ rfl (Below.refl _ _)
      ·exact rfl
      ·exact rfl
      ·exact rfl
      ·exact rfl
      ·exact rfl
      ·exact rfl
      ·exact rfl
      ·exact rfl
      ·exact rfl
      ·exact rfl
      ·intro a w3 hA K hK
       have t45 := bg_is hA 12 45
       have t55 := bg_is hA 22 55
       go_simp
       exact hK _ _ Pg.fi_ (Below.refl _ _)
      ·intro a w3 hA K hK
       have t42 := bg_is hA 9 42
       have t56 := bg_is hA 23 56
       go_simp
       exact hK _ _ Pg.fi_ (Below.refl _ _)
      ·intro a w3 hA K hK
       have t57 := bg_is hA 24 57
       go_simp
       exact hK _ _ rfl (Below.refl _ _)
      ·intro a w3 hA K hK
       have t6 := hA.old 6 _ rfl rfl
       go_simp
       exact hK _ _ rfl (Below.refl _ _)
      ·intro a w3 hA K hK
       have t59 := bg_is hA 26 59
       have k0 := (HT.below hA.grown).cell 1 rfl
       have k1 := (HT.below hA.grown).cell 2 rfl
       have k2 := (HT.below hA.grown).cell 3 rfl
       go_simp
       exact hK _ _ rfl (Below.refl _ _)
      ·intro a w3 hA K hK
       have t60 := bg_is hA 27 60
       have hC := r2Is_Q w3 (HU2.out.below hA.grown) Hle hnf
       go_simp
       refine hC.mono ?_
       rintro e w4 ⟨rfl, hb⟩
       exact hK _ _ rfl hb
      ·intro a w3 hA K hK
       have t61 := bg_is hA 28 61
       go_simp
       exact hK _ _ Pg.fi_ (Below.refl _ _)
      ·intro a w3 hA K hK
       have t58 := bg_is hA 25 58
       have t62 := bg_is hA 29 62
       go_simp
       exact hK _ _ Pg.fi_ (Below.refl _ _)
      ·intro a w3 hA K hK
       have t63 := bg_is hA 30 63
       go_simp
       exact hK _ _ rfl (Below.refl _ _)
      ·exact rfl
      ·exact rfl
      ·exact rfl
      ·exact rfl
      ·exact rfl
      ·intro a w3 hA K hK
       have t64 := bg_is hA 31 64
       have t69 := bg_is hA 36 69
       go_simp
       exact hK _ _ Pg.fi_ (Below.refl _ _)
     rintro vs w4 hV hb4 hlk act hact
     repeat (replace hV := hV.is_; obtain ⟨_, rfl, hV⟩ := hV)
     obtain rfl := hV.nil_
     clear hV
     clear hlk
     simp only [putsO] at hact
     subst hact
     go_simp
     have hbz := hb.trans ((Below.then_ hb2 hb4).mono hb.size)
     go_wp2_with fail
     go_ret
     exact ⟨by rw [HF.out]; rfl, hbz⟩
    have hnm := hD
    by_cases v5 : t.r.xs = []
    ·have HF : Hid (Q = false) := hid (by rw [← hl, v5]; simp)
     have hz : ((u.n : Int) == 0) = true := by rw [← hul, v5]; rfl
     clear hl e6 hx h0 hq v5
     go_upto_region 7 with fail
     refine wp_world (F := NewBs wr 65 [.int .i64 t.v, .bool u.s, .slice u.A u.n u.c, .slice u.A' u.n' u.c']) (made_new _ _ _) ?_
     rintro w2 ⟨HT, hb2, hs2⟩
     have HA2 := HA.out.below hb2
     have HU2 := hid (HU.out.below hb2)
     clear a0 a1 a2 a3 a4
     refine draw_G (fun _ _ => False) (fun W => Below w2.heap.size w2 W) 38 none [some 33, some 34, some 35, some 36, some 37, some 38, some 39, some 40, some 41, some 42, some 43, some 44, some 45, some 46, some 47, some 48, some 49, some 50, some 51, some 52, some 53, some 54, some 55, some 56, some 57, some 58, some 59, some 60, some 61, some 62, some 63, some 64, some 65, some 66, some 67, some 68, some 69, some 70] [.is (.pointer (some ⟨wr.heap.size, 0, none⟩)), .is (.int .i64 t.v), .is (.bool false), .is (.bool false), .is (.pointer (some ⟨wr.heap.size, 0, none⟩)), .is (.int .i64 t.v), .is (.int .i64 N), .is (.bool false), .is (.bool false), .is (.bool false), .is (.int .i64 (j : Int)), .is (.bool false), .is (.bool false), .is (undef), .is (undef), .is (undef), .is (undef), .is (undef), .is (undef), .is (undef), .is (undef), .is (undef), .is (undef), .is (.bool false), .is (.bool false), .is (.bool false), .is (.pointer (some ⟨wr.heap.size, 1, none⟩)), .is (.agg #[.bool u.s, .slice u.A u.n u.c, .slice u.A' u.n' u.c']), .is (.bool true), .is (.bool false), .is (.bool false), .is (.bool false), .is (.pointer (some ⟨wr.heap.size, 1, none⟩)), .is (.pointer (some ⟨wr.heap.size, 2, none⟩)), .is (.slice u.A u.n u.c), .is (.int .i64 (u.n : Int)), .is (.bool true), .is (.bool true)]
      (by kernel_rfl) (by kernel_rfl) (by kernel_rfl) (by kernel_rfl) rfl (by kernel_rfl) (fun _ h => h) (fun _ _ h hb => Below.then_ h hb) (fun _ _ _ h => h.elim) (fun _ _ _ _ _ _ h => h.elim) ?_ ?_
     ·refine ⟨?_, ?_, ?_, ?_, ?_, ?_, ?_, ?_, ?_, ?_, ?_, ?_, ?_, ?_, ?_, ?_, ?_, ?_, ?_, ?_, ?_, ?_, ?_, ?_, ?_, ?_, ?_, ?_, ?_, ?_, ?_, ?_, ?_, ?_, ?_, ?_, ?_, ?_, trivial⟩
      ·intro a w3 hA K hK
       have t6 := hA.old 6 _ rfl rfl
       go_simp
       exact hK _ _ rfl (Below.refl _ _)
      ·intro a w3 hA K hK
       have t33 := bg_is hA 0 33
       have k0 := (HT.below hA.grown).cell 0 rfl
       go_simp
       exact hK _ _ rfl (Below.refl _ _)
      ·intro a w3 hA K hK
       have t34 := bg_is hA 1 34
       go_simp
       exact hK _ _ Pg.fi_ (Below.refl _ _)
      ·intro a w3 hA K hK
       have t35 := bg_is hA 2 35
       go_simp
       exact hK _ _ rfl (Below.refl _ _)
      ·intro a w3 hA K hK
       have t6 := hA.old 6 _ rfl rfl
       go_simp
       exact hK _ _ rfl (Below.refl _ _)
      ·intro a w3 hA K hK
       have t37 := bg_is hA 4 37
       have k0 := (HT.below hA.grown).cell 0 rfl
       go_simp
       exact hK _ _ rfl (Below.refl _ _)
      ·intro a w3 hA K hK
       have t1 := hA.old 1 _ rfl rfl
       go_simp
       exact hK _ _ rfl (Below.refl _ _)
      ·intro a w3 hA K hK
       have t38 := bg_is hA 5 38
       have t39 := bg_is hA 6 39
       go_simp
       exact hK _ _ Pg.fi_ (Below.refl _ _)
      ·intro a w3 hA K hK
       have t36 := bg_is hA 3 36
       have t40 := bg_is hA 7 40
       go_simp
       exact hK _ _ Pg.fi_ (Below.refl _ _)
      ·intro a w3 hA K hK
       have t41 := bg_is hA 8 41
       go_simp
       exact hK _ _ rfl (Below.refl _ _)
      ·intro a w3 hA K hK
       have t5 := hA.old 5 _ rfl rfl
       go_simp
       exact hK _ _ rfl (Below.refl _ _)
      ·intro a w3 hA K hK
       have t43 := bg_is hA 10 43
       go_simp
       exact hK _ _ Pg.fi_ (Below.refl _ _)
      ·intro a w3 hA K hK
       have t44 := bg_is hA 11 44
       go_simp
       exact hK _ _ rfl (Below.refl _ _)
      ·exact rfl
      ·exact rfl
      ·exact rfl
      ·exact rfl
      ·exact rfl
      ·exact rfl
      ·exact rfl
      ·exact rfl
      ·exact rfl
      ·exact rfl
      ·intro a w3 hA K hK
       have t45 := bg_is hA 12 45
       have t55 := bg_is hA 22 55
       go_simp
       exact hK _ _ Pg.fi_ (Below.refl _ _)
      ·intro a w3 hA K hK
       have t42 := bg_is hA 9 42
       have t56 := bg_is hA 23 56
       go_simp
       exact hK _ _ Pg.fi_ (Below.refl _ _)
      ·intro a w3 hA K hK
       have t57 := bg_is hA 24 57
       go_simp
       exact hK _ _ rfl (Below.refl _ _)
      ·intro a w3 hA K hK
       have t6 := hA.old 6 _ rfl rfl
       go_simp
       exact hK _ _ rfl (Below.refl _ _)
      ·intro a w3 hA K hK
       have t59 := bg_is hA 26 59
       have k0 := (HT.below hA.grown).cell 1 rfl
       have k1 := (HT.below hA.grown).cell 2 rfl
       have k2 := (HT.below hA.grown).cell 3 rfl
       go_simp
       exact hK _ _ rfl (Below.refl _ _)
      ·intro a w3 hA K hK
       have t60 := bg_is hA 27 60
       have hC := r2Is_Q w3 (HU2.out.below hA.grown) Hle hnm
       go_simp
       refine hC.mono ?_
       rintro e w4 ⟨rfl, hb⟩
       exact hK _ _ rfl hb
      ·intro a w3 hA K hK
       have t61 := bg_is hA 28 61
       go_simp
       exact hK _ _ Pg.fi_ (Below.refl _ _)
      ·intro a w3 hA K hK
       have t58 := bg_is hA 25 58
       have t62 := bg_is hA 29 62
       go_simp
       exact hK _ _ Pg.fi_ (Below.refl _ _)
      ·intro a w3 hA K hK
       have t63 := bg_is hA 30 63
       go_simp
       exact hK _ _ rfl (Below.refl _ _)
      ·intro a w3 hA K hK
       have t6 := hA.old 6 _ rfl rfl
       go_simp
       exact hK _ _ rfl (Below.refl _ _)
      ·intro a w3 hA K hK
       have t65 := bg_is hA 32 65
       go_simp
       exact hK _ _ rfl (Below.refl _ _)
      ·intro a w3 hA K hK
       have t66 := bg_is hA 33 66
       have k0 := (HT.below hA.grown).cell 2 rfl
       go_simp
       exact hK _ _ rfl (Below.refl _ _)
      ·intro a w3 hA K hK
       have t67 := bg_is hA 34 67
       go_simp
       exact hK _ _ Pg.fi_ (Below.refl _ _)
      ·intro a w3 hA K hK
       have t68 := bg_is hA 35 68
       go_simp
       exact hK _ _ Pg.fi_ (Below.refl _ _)
      ·intro a w3 hA K hK
       have t64 := bg_is hA 31 64
       have t69 := bg_is hA 36 69
       go_simp
       exact hK _ _ Pg.fi_ (Below.refl _ _)
     rintro vs w4 hV hb4 hlk act hact
     repeat (replace hV := hV.is_; obtain ⟨_, rfl, hV⟩ := hV)
     obtain rfl := hV.nil_
     clear hV
     clear hlk
     simp only [putsO] at hact
     subst hact
     go_simp
     have hbz := hb.trans ((Below.then_ hb2 hb4).mono hb.size)
     go_wp2_with fail
     go_ret
     exact ⟨by rw [HF.out]; rfl, hbz⟩
    have hz : ((u.n : Int) == 0) = false := by have h2 := List.length_pos_iff.2 v5; exact beq_eq_false_iff_ne.2 (by omega)
    have HL5 : Hid (isL N (t.v + 1) (a.t.drop (j + 1)) = Q) := hid (by rw [← hl, decide_eq_true (show q ≤ t.v by omega), decide_eq_true (show t.v < N by omega), hD, List.isEmpty_eq_false_iff.2 v5]; simp)
    have HPN : Hid (∃ tp, a.t[j + 1 - 1]? = some tp ∧ t.v + 1 = tp.v + 1 ∧ 0 ≤ tp.v) := hid ⟨t, by rw [Nat.add_sub_cancel]; exact HTn.out, rfl, by omega⟩
    clear hl e6 hx h0 hq v5
    go_upto_region 7 with fail
    refine wp_world (F := NewBs wr 65 [.int .i64 t.v, .bool u.s, .slice u.A u.n u.c, .slice u.A' u.n' u.c']) (made_new _ _ _) ?_
    rintro w2 ⟨HT, hb2, hs2⟩
    have HA2 := HA.out.below hb2
    have HU2 := hid (HU.out.below hb2)
    clear a0 a1 a2 a3 a4
    refine draw_G (fun _ _ => False) (fun W => Below w2.heap.size w2 W) 38 none [some 33, some 34, some 35, some 36, some 37, some 38, some 39, some 40, some 41, some 42, some 43, some 44, some 45, some 46, some 47, some 48, some 49, some 50, some 51, some 52, some 53, some 54, some 55, some 56, some 57, some 58, some 59, some 60, some 61, some 62, some 63, some 64, some 65, some 66, some 67, some 68, some 69, some 70] [.is (.pointer (some ⟨wr.heap.size, 0, none⟩)), .is (.int .i64 t.v), .is (.bool false), .is (.bool false), .is (.pointer (some ⟨wr.heap.size, 0, none⟩)), .is (.int .i64 t.v), .is (.int .i64 N), .is (.bool false), .is (.bool false), .is (.bool false), .is (.int .i64 (j : Int)), .is (.bool false), .is (.bool false), .is (undef), .is (undef), .is (undef), .is (undef), .is (undef), .is (undef), .is (undef), .is (undef), .is (undef), .is (undef), .is (.bool false), .is (.bool false), .is (.bool false), .is (.pointer (some ⟨wr.heap.size, 1, none⟩)), .is (.agg #[.bool u.s, .slice u.A u.n u.c, .slice u.A' u.n' u.c']), .is (.bool true), .is (.bool false), .is (.bool false), .is (.bool false), .is (.pointer (some ⟨wr.heap.size, 1, none⟩)), .is (.pointer (some ⟨wr.heap.size, 2, none⟩)), .is (.slice u.A u.n u.c), .is (.int .i64 (u.n : Int)), .is (.bool false), .is (.bool false)]
     (by kernel_rfl) (by kernel_rfl) (by kernel_rfl) (by kernel_rfl) rfl (by kernel_rfl) (fun _ h => h) (fun _ _ h hb => Below.then_ h hb) (fun _ _ _ h => h.elim) (fun _ _ _ _ _ _ h => h.elim) ?_ ?_
    ·refine ⟨?_, ?_, ?_, ?_, ?_, ?_, ?_, ?_, ?_, ?_, ?_, ?_, ?_, ?_, ?_, ?_, ?_, ?_, ?_, ?_, ?_, ?_, ?_, ?_, ?_, ?_, ?_, ?_, ?_, ?_, ?_, ?_, ?_, ?_, ?_, ?_, ?_, ?_, trivial⟩
     ·intro a w3 hA K hK
      have t6 := hA.old 6 _ rfl rfl
      go_simp
      exact hK _ _ rfl (Below.refl _ _)
     ·intro a w3 hA K hK
      have t33 := bg_is hA 0 33
      have k0 := (HT.below hA.grown).cell 0 rfl
      go_simp
      exact hK _ _ rfl (Below.refl _ _)
     ·intro a w3 hA K hK
      have t34 := bg_is hA 1 34
      go_simp
      exact hK _ _ Pg.fi_ (Below.refl _ _)
     ·intro a w3 hA K hK
      have t35 := bg_is hA 2 35
      go_simp
      exact hK _ _ rfl (Below.refl _ _)
     ·intro a w3 hA K hK
      have t6 := hA.old 6 _ rfl rfl
      go_simp
      exact hK _ _ rfl (Below.refl _ _)
     ·intro a w3 hA K hK
      have t37 := bg_is hA 4 37
      have k0 := (HT.below hA.grown).cell 0 rfl
      go_simp
      exact hK _ _ rfl (Below.refl _ _)
     ·intro a w3 hA K hK
      have t1 := hA.old 1 _ rfl rfl
      go_simp
      exact hK _ _ rfl (Below.refl _ _)
     ·intro a w3 hA K hK
      have t38 := bg_is hA 5 38
      have t39 := bg_is hA 6 39
      go_simp
      exact hK _ _ Pg.fi_ (Below.refl _ _)
     ·intro a w3 hA K hK
      have t36 := bg_is hA 3 36
      have t40 := bg_is hA 7 40
      go_simp
      exact hK _ _ Pg.fi_ (Below.refl _ _)
     ·intro a w3 hA K hK
      have t41 := bg_is hA 8 41
      go_simp
      exact hK _ _ rfl (Below.refl _ _)
     ·intro a w3 hA K hK
      have t5 := hA.old 5 _ rfl rfl
      go_simp
      exact hK _ _ rfl (Below.refl _ _)
     ·intro a w3 hA K hK
      have t43 := bg_is hA 10 43
      go_simp
      exact hK _ _ Pg.fi_ (Below.refl _ _)
     ·intro a w3 hA K hK
      have t44 := bg_is hA 11 44
      go_simp
      exact hK _ _ rfl (Below.refl _ _)
     ·exact rfl
     ·exact rfl
     ·exact rfl
     ·exact rfl
     ·exact rfl
     ·exact rfl
     ·exact rfl
     ·exact rfl
     ·exact rfl
     ·exact rfl
     ·intro a w3 hA K hK
      have t45 := bg_is hA 12 45
      have t55 := bg_is hA 22 55
      go_simp
      exact hK _ _ Pg.fi_ (Below.refl _ _)
     ·intro a w3 hA K hK
      have t42 := bg_is hA 9 42
      have t56 := bg_is hA 23 56
      go_simp
      exact hK _ _ Pg.fi_ (Below.refl _ _)
     ·intro a w3 hA K hK
      have t57 := bg_is hA 24 57
      go_simp
      exact hK _ _ rfl (Below.refl _ _)
     ·intro a w3 hA K hK
      have t6 := hA.old 6 _ rfl rfl
      go_simp
      exact hK _ _ rfl (Below.refl _ _)
     ·intro a w3 hA K hK
      have t59 := bg_is hA 26 59
      have k0 := (HT.below hA.grown).cell 1 rfl
      have k1 := (HT.below hA.grown).cell 2 rfl
      have k2 := (HT.below hA.grown).cell 3 rfl
      go_simp
      exact hK _ _ rfl (Below.refl _ _)
     ·intro a w3 hA K hK
      have t60 := bg_is hA 27 60
      have hC := r2Is_Q w3 (HU2.out.below hA.grown) Hle hnm
      go_simp
      refine hC.mono ?_
      rintro e w4 ⟨rfl, hb⟩
      exact hK _ _ rfl hb
     ·intro a w3 hA K hK
      have t61 := bg_is hA 28 61
      go_simp
      exact hK _ _ Pg.fi_ (Below.refl _ _)
     ·intro a w3 hA K hK
      have t58 := bg_is hA 25 58
      have t62 := bg_is hA 29 62
      go_simp
      exact hK _ _ Pg.fi_ (Below.refl _ _)
     ·intro a w3 hA K hK
      have t63 := bg_is hA 30 63
      go_simp
      exact hK _ _ rfl (Below.refl _ _)
     ·intro a w3 hA K hK
      have t6 := hA.old 6 _ rfl rfl
      go_simp
      exact hK _ _ rfl (Below.refl _ _)
     ·intro a w3 hA K hK
      have t65 := bg_is hA 32 65
      go_simp
      exact hK _ _ rfl (Below.refl _ _)
     ·intro a w3 hA K hK
      have t66 := bg_is hA 33 66
      have k0 := (HT.below hA.grown).cell 2 rfl
      go_simp
      exact hK _ _ rfl (Below.refl _ _)
     ·intro a w3 hA K hK
      have t67 := bg_is hA 34 67
      go_simp
      exact hK _ _ Pg.fi_ (Below.refl _ _)
     ·intro a w3 hA K hK
      have t68 := bg_is hA 35 68
      go_simp
      exact hK _ _ Pg.fi_ (Below.refl _ _)
     ·intro a w3 hA K hK
      have t64 := bg_is hA 31 64
      have t69 := bg_is hA 36 69
      go_simp
      exact hK _ _ Pg.fi_ (Below.refl _ _)
    rintro vs w4 hV hb4 hlk act hact
    repeat (replace hV := hV.is_; obtain ⟨_, rfl, hV⟩ := hV)
    obtain rfl := hV.nil_
    clear hV
    clear hlk
    simp only [putsO] at hact
    subst hact
    go_simp
    have hbz := hb.trans ((Below.then_ hb2 hb4).mono hb.size)
    have HA4 := hid (HA2.below hb4)
    go_wp2_with fail
    refine ⟨⟨j + 1, t.v + 1, by omega, by go_num, HL5, fun h => absurd h (by omega), fun _ => HPN, HA4, hbz⟩, ?_⟩
    simp [intOf]; omega
   ·obtain ⟨tp, htp, hqe, hv0⟩ := (hq1 h0).out
    obtain ⟨p, rfl⟩ : ∃ p, j = p + 1 := ⟨j - 1, by omega⟩
    rw [Nat.add_sub_cancel] at htp
    have g1 : (0 : Int) < ((p + 1 : Nat) : Int) := by omega
    clear hq0 hq1
    obtain ⟨e1, _, _, _, _, e6⟩ := HTa.out
    obtain ⟨b, o, rfl, hbb, hx⟩ := e6 (by omega)
    obtain ⟨t, ht⟩ : ∃ t, a.t[p + 1]? = some t := ⟨a.t[p + 1]'(by omega), List.getElem?_eq_getElem _⟩
    obtain ⟨x0, x1, x2, hc, hu0⟩ := termAt_stays _ _ _ _ _ hbb (hx (p + 1) t ht) hb
    obtain ⟨u, rfl, rfl, rfl, hu⟩ := rows_rv hu0
    have HU := hid hu
    have hul := rvat_len hu
    have Hle := HLa.out t (List.mem_of_getElem? ht)
    have ltw : b < wr.heap.size := Nat.lt_of_lt_of_le hbb hb.size
    have i1 : ((p + 1 : Nat) : Int) < (n : Int) := by omega
    have i0 : (0 : Int) ≤ ((p + 1 : Nat) : Int) := by omega
    have hl := HQ.out
    rw [drop_cons ht] at hl
    simp only [isL] at hl
    have HTn := hid ht
    have z0 : wr.cell? ⟨b, o + (p + 1) * 4, none⟩ = some (.int .i64 t.v) := hc.at_ 0 rfl
    have z1 := hc.at_ 1 rfl
    have z2 := hc.at_ 2 rfl
    have z3 := hc.at_ 3 rfl
    clear e1 ht hc hu0 hu
    obtain ⟨_, _, _, hcp, hup⟩ := termAt_stays _ _ _ _ _ hbb (hx p tp htp) hb
    obtain ⟨up, rfl, rfl, rfl, _⟩ := rows_rv hup
    have HP := hid hcp
    have k0 : (0 : Int) ≤ (p : Int) := by omega
    have k1 : (p : Int) < (n : Int) := by omega
    by_cases v1 : t.v < 0
    ·have HF : Hid (Q = false) := hid (by rw [← hl, decide_eq_false (show ¬ q ≤ t.v by omega)]; simp)
     have v1' : decide (t.v < 0) = true := decide_eq_true v1
     clear hl e6 hx h0 htp hqe hv0 hup hcp
     go_upto_region 7 with fail
     refine wp_world (F := NewBs wr 65 [.int .i64 t.v, .bool u.s, .slice u.A u.n u.c, .slice u.A' u.n' u.c']) (made_new _ _ _) ?_
     rintro w2 ⟨HT, hb2, hs2⟩
     have HA2 := HA.out.below hb2
     have HU2 := hid (HU.out.below hb2)
     clear a0 a1 a2 a3 a4
     refine draw_G (fun _ _ => False) (fun W => Below w2.heap.size w2 W) 38 none [some 33, some 34, some 35, some 36, some 37, some 38, some 39, some 40, some 41, some 42, some 43, some 44, some 45, some 46, some 47, some 48, some 49, some 50, some 51, some 52, some 53, some 54, some 55, some 56, some 57, some 58, some 59, some 60, some 61, some 62, some 63, some 64, some 65, some 66, some 67, some 68, some 69, some 70] [.is (.pointer (some ⟨wr.heap.size, 0, none⟩)), .is (.int .i64 t.v), .is (.bool true), .is (.bool true), .is (undef), .is (undef), .is (undef), .is (undef), .is (.bool true), .is (.bool true), .is (undef), .is (undef), .is (undef), .is (undef), .is (undef), .is (undef), .is (undef), .is (undef), .is (undef), .is (undef), .is (undef), .is (undef), .is (undef), .is (undef), .is (.bool true), .is (.bool true), .is (undef), .is (undef), .is (undef), .is (undef), .is (.bool true), .is (.bool true), .is (undef), .is (undef), .is (undef), .is (undef), .is (undef), .is (.bool true)]
      (by kernel_rfl) (by kernel_rfl) (by kernel_rfl) (by kernel_rfl) rfl (by kernel_rfl) (fun _ h => h) (fun _ _ h hb => Below.then_ h hb) (fun _ _ _ h => h.elim) (fun _ _ _ _ _ _ h => h.elim) ?_ ?_
     ·refine ⟨?_, ?_, ?_, ?_, ?_, ?_, ?_, ?_, ?_, ?_, ?_, ?_, ?_, ?_, ?_, ?_, ?_, ?_, ?_, ?_, ?_, ?_, ?_, ?_, ?_, ?_, ?_, ?_, ?_, ?_, ?_, ?_, ?_, ?_, ?_, ?_, ?_, ?_, trivial⟩
      ·intro a w3 hA K hK
       have t6 := hA.old 6 _ rfl rfl
       go_simp
       exact hK _ _ rfl (Below.refl _ _)
      ·intro a w3 hA K hK
       have t33 := bg_is hA 0 33
       have k0 := (HT.below hA.grown).cell 0 rfl
       go_simp
       exact hK _ _ rfl (Below.refl _ _)
      ·intro a w3 hA K hK
       have t34 := bg_is hA 1 34
       go_simp
       exact hK _ _ Pg.fi_ (Below.refl _ _)
      ·intro a w3 hA K hK
       have t35 := bg_is hA 2 35
       go_simp
       exact hK _ _ rfl (Below.refl _ _)
      ·exact rfl
      ·exact rfl
      ·exact rfl
      ·exact rfl
      ·intro a w3 hA K hK
       have t36 := bg_is hA 3 36
       have t40 := bg_is hA 7 40
       go_simp
       exact hK _ _ Pg.fi_ (Below.refl _ _)
      ·intro a w3 hA K hK
       have t41 := bg_is hA 8 41
       go_simp
       exact hK _ _ rfl (Below.refl _ _)
      ·exact rfl
      ·exact rfl
      ·exact rfl
      ·exact rfl
      ·exact rfl
      ·exact rfl
      ·exact rfl
      ·exact rfl
      ·exact rfl
      ·exact rfl
      ·exact rfl
      ·exact rfl
      ·exact rfl
      ·exact rfl
      ·intro a w3 hA K hK
       have t42 := bg_is hA 9 42
       have t56 := bg_is hA 23 56
       go_simp
       exact hK _ _ Pg.fi_ (Below.refl _ _)
      ·intro a w3 hA K hK
       have t57 := bg_is hA 24 57
       go_simp
       exact hK _ _ rfl (Below.refl _ _)
      ·exact rfl
      ·exact rfl
      ·exact rfl
      ·exact rfl
      ·intro a w3 hA K hK
       have t58 := bg_is hA 25 58
       have t62 := bg_is hA 29 62
       go_simp
       exact hK _ _ Pg.fi_ (Below.refl _ _)
      ·intro a w3 hA K hK
       have t63 := bg_is hA 30 63
       go_simp
       exact hK _ _ rfl (Below.refl _ _)
      ·exact rfl
      ·exact rfl
      ·exact rfl
      ·exact rfl
      ·exact rfl
      ·intro a w3 hA K hK
       have t64 := bg_is hA 31 64
       have t69 := bg_is hA 36 69
       go_simp
       exact hK _ _ Pg.fi_ (Below.refl _ _)
     rintro vs w4 hV hb4 hlk act hact
     repeat (replace hV := hV.is_; obtain ⟨_, rfl, hV⟩ := hV)
     obtain rfl := hV.nil_
     clear hV
     clear hlk
     simp only [putsO] at hact
     subst hact
     go_simp
     have hbz := hb.trans ((Below.then_ hb2 hb4).mono hb.size)
     go_wp2_with fail
     go_ret
     exact ⟨by rw [HF.out]; rfl, hbz⟩
    have v1' : decide (t.v < 0) = false := decide_eq_false v1
    by_cases v2 : N ≤ t.v
    ·have HF : Hid (Q = false) := hid (by rw [← hl, decide_eq_false (show ¬ t.v < N by omega)]; simp)
     have v2' : decide (N ≤ t.v) = true := decide_eq_true v2
     clear hl e6 hx h0 htp hqe hv0 hup hcp
     go_upto_region 7 with fail
     refine wp_world (F := NewBs wr 65 [.int .i64 t.v, .bool u.s, .slice u.A u.n u.c, .slice u.A' u.n' u.c']) (made_new _ _ _) ?_
     rintro w2 ⟨HT, hb2, hs2⟩
     have HA2 := HA.out.below hb2
     have HU2 := hid (HU.out.below hb2)
     clear a0 a1 a2 a3 a4
     refine draw_G (fun _ _ => False) (fun W => Below w2.heap.size w2 W) 38 none [some 33, some 34, some 35, some 36, some 37, some 38, some 39, some 40, some 41, some 42, some 43, some 44, some 45, some 46, some 47, some 48, some 49, some 50, some 51, some 52, some 53, some 54, some 55, some 56, some 57, some 58, some 59, some 60, some 61, some 62, some 63, some 64, some 65, some 66, some 67, some 68, some 69, some 70] [.is (.pointer (some ⟨wr.heap.size, 0, none⟩)), .is (.int .i64 t.v), .is (.bool false), .is (.bool false), .is (.pointer (some ⟨wr.heap.size, 0, none⟩)), .is (.int .i64 t.v), .is (.int .i64 N), .is (.bool true), .is (.bool true), .is (.bool true), .is (undef), .is (undef), .is (undef), .is (undef), .is (undef), .is (undef), .is (undef), .is (undef), .is (undef), .is (undef), .is (undef), .is (undef), .is (undef), .is (undef), .is (.bool true), .is (.bool true), .is (undef), .is (undef), .is (undef), .is (undef), .is (.bool true), .is (.bool true), .is (undef), .is (undef), .is (undef), .is (undef), .is (undef), .is (.bool true)]
      (by kernel_rfl) (by kernel_rfl) (by kernel_rfl) (by kernel_rfl) rfl (by kernel_rfl) (fun _ h => h) (fun _ _ h hb => Below.then_ h hb) (fun _ _ _ h => h.elim) (fun _ _ _ _ _ _ h => h.elim) ?_ ?_
     ·refine ⟨?_, ?_, ?_, ?_, ?_, ?_, ?_, ?_, ?_, ?_, ?_, ?_, ?_, ?_, ?_, ?_, ?_, ?_, ?_, ?_, ?_, ?_, ?_, ?_, ?_, ?_, ?_, ?_, ?_, ?_, ?_, ?_, ?_, ?_, ?_, ?_, ?_, ?_, trivial⟩
      ·intro a w3 hA K hK
       have t6 := hA.old 6 _ rfl rfl
       go_simp
       exact hK _ _ rfl (Below.refl _ _)
      ·intro a w3 hA K hK
       have t33 := bg_is hA 0 33
       have k0 := (HT.below hA.grown).cell 0 rfl
       go_simp
       exact hK _ _ rfl (Below.refl _ _)
      ·intro a w3 hA K hK
       have t34 := bg_is hA 1 34
       go_simp
       exact hK _ _ Pg.fi_ (Below.refl _ _)
      ·intro a w3 hA K hK
       have t35 := bg_is hA 2 35
       go_simp
       exact hK _ _ rfl (Below.refl _ _)
      ·intro a w3 hA K hK
       have t6 := hA.old 6 _ rfl rfl
       go_simp
       exact hK _ _ rfl (Below.refl _ _)
      ·intro a w3 hA K hK
       have t37 := bg_is hA 4 37
       have k0 := (HT.below hA.grown).cell 0 rfl
       go_simp
       exact hK _ _ rfl (Below.refl _ _)
      ·intro a w3 hA K hK
       have t1 := hA.old 1 _ rfl rfl
       go_simp
       exact hK _ _ rfl (Below.refl _ _)
      ·intro a w3 hA K hK
       have t38 := bg_is hA 5 38
       have t39 := bg_is hA 6 39
       go_simp
       exact hK _ _ Pg.fi_ (Below.refl _ _)
      ·intro a w3 hA K hK
       have t36 := bg_is hA 3 36
       have t40 := bg_is hA 7 40
       go_simp
       exact hK _ _ Pg.fi_ (Below.refl _ _)
      ·intro a w3 hA K hK
       have t41 := bg_is hA 8 41
       go_simp
       exact hK _ _ rfl (Below.refl _ _)
      ·exact rfl
      ·exact rfl
      ·exact rfl
      ·exact rfl
      ·exact rfl
      ·exact rfl
      ·exact rfl
      ·exact rfl
      ·exact rfl
      ·exact rfl
      ·exact rfl
      ·exact rfl
      ·exact rfl
      ·exact rfl
      ·intro a w3 hA K hK
       have t42 := bg_is hA 9 42
       have t56 := bg_is hA 23 56
       go_simp
       exact hK _ _ Pg.fi_ (Below.refl _ _)
      ·intro a w3 hA K hK
       have t57 := bg_is hA 24 57
       go_simp
       exact hK _ _ rfl (Below.refl _ _)
      ·exact rfl
      ·exact rfl
      ·exact rfl
      ·exact rfl
      ·intro a w3 hA K hK
       have t58 := bg_is hA 25 58
       have t62 := bg_is hA 29 62
       go_simp
       exact hK _ _ Pg.fi_ (Below.refl _ _)
      ·intro a w3 hA K hK
       have t63 := bg_is hA 30 63
       go_simp
       exact hK _ _ rfl (Below.refl _ _)
      ·exact rfl
      ·exact rfl
      ·exact rfl
      ·exact rfl
      ·exact rfl
      ·intro a w3 hA K hK
       have t64 := bg_is hA 31 64
       have t69 := bg_is hA 36 69
       go_simp
       exact hK _ _ Pg.fi_ (Below.refl _ _)
     rintro vs w4 hV hb4 hlk act hact
     repeat (replace hV := hV.is_; obtain ⟨_, rfl, hV⟩ := hV)
     obtain rfl := hV.nil_
     clear hV
     clear hlk
     simp only [putsO] at hact
     subst hact
     go_simp
     have hbz := hb.trans ((Below.then_ hb2 hb4).mono hb.size)
     go_wp2_with fail
     go_ret
     exact ⟨by rw [HF.out]; rfl, hbz⟩
    have v2' : decide (N ≤ t.v) = false := decide_eq_false v2
    by_cases v3 : t.v ≤ tp.v
    ·have HF : Hid (Q = false) := hid (by rw [← hl, decide_eq_false (show ¬ q ≤ t.v by omega)]; simp)
     have v3' : decide (t.v ≤ tp.v) = true := decide_eq_true v3
     clear hl e6 hx h0 htp hqe hv0 hup hcp
     go_upto_region 7 with fail
     refine wp_world (F := NewBs wr 65 [.int .i64 t.v, .bool u.s, .slice u.A u.n u.c, .slice u.A' u.n' u.c']) (made_new _ _ _) ?_
     rintro w2 ⟨HT, hb2, hs2⟩
     have HA2 := HA.out.below hb2
     have HU2 := hid (HU.out.below hb2)
     have HCP := hid (HP.out.below ltw hb2)
     have ltp : b < w2.heap.size := Nat.lt_of_lt_of_le ltw hb2.size
     clear a0 a1 a2 a3 a4
     refine draw_G (fun _ _ => False) (fun W => Below w2.heap.size w2 W) 38 none [some 33, some 34, some 35, some 36, some 37, some 38, some 39, some 40, some 41, some 42, some 43, some 44, some 45, some 46, some 47, some 48, some 49, some 50, some 51, some 52, some 53, some 54, some 55, some 56, some 57, some 58, some 59, some 60, some 61, some 62, some 63, some 64, some 65, some 66, some 67, some 68, some 69, some 70] [.is (.pointer (some ⟨wr.heap.size, 0, none⟩)), .is (.int .i64 t.v), .is (.bool false), .is (.bool false), .is (.pointer (some ⟨wr.heap.size, 0, none⟩)), .is (.int .i64 t.v), .is (.int .i64 N), .is (.bool false), .is (.bool false), .is (.bool false), .is (.int .i64 ((p + 1 : Nat) : Int)), .is (.bool true), .is (.bool true), .is (.pointer (some ⟨w.heap.size, 1, none⟩)), .is (.slice (some ⟨b, o, none⟩) n m), .is (.int .i64 ((p + 1 : Nat) : Int)), .is (.int .i64 (p : Int)), .is (.pointer (some ⟨b, o + p * 4, none⟩)), .is (.pointer (some ⟨b, o + p * 4, none⟩)), .is (.int .i64 tp.v), .is (.pointer (some ⟨wr.heap.size, 0, none⟩)), .is (.int .i64 t.v), .is (.bool true), .is (.bool true), .is (.bool true), .is (.bool true), .is (undef), .is (undef), .is (undef), .is (undef), .is (.bool true), .is (.bool true), .is (undef), .is (undef), .is (undef), .is (undef), .is (undef), .is (.bool true)]
      (by kernel_rfl) (by kernel_rfl) (by kernel_rfl) (by kernel_rfl) rfl (by kernel_rfl) (fun _ h => h) (fun _ _ h hb => Below.then_ h hb) (fun _ _ _ h => h.elim) (fun _ _ _ _ _ _ h => h.elim) ?_ ?_
     ·refine ⟨?_, ?_, ?_, ?_, ?_, ?_, ?_, ?_, ?_, ?_, ?_, ?_, ?_, ?_, ?_, ?_, ?_, ?_, ?_, ?_, ?_, ?_, ?_, ?_, ?_, ?_, ?_, ?_, ?_, ?_, ?_, ?_, ?_, ?_, ?_, ?_, ?_, ?_, trivial⟩
      ·intro a w3 hA K hK
       have t6 := hA.old 6 _ rfl rfl
       go_simp
       exact hK _ _ rfl (Below.refl _ _)
      ·intro a w3 hA K hK
       have t33 := bg_is hA 0 33
       have k0 := (HT.below hA.grown).cell 0 rfl
       go_simp
       exact hK _ _ rfl (Below.refl _ _)
      ·intro a w3 hA K hK
       have t34 := bg_is hA 1 34
       go_simp
       exact hK _ _ Pg.fi_ (Below.refl _ _)
      ·intro a w3 hA K hK
       have t35 := bg_is hA 2 35
       go_simp
       exact hK _ _ rfl (Below.refl _ _)
      ·intro a w3 hA K hK
       have t6 := hA.old 6 _ rfl rfl
       go_simp
       exact hK _ _ rfl (Below.refl _ _)
      ·intro a w3 hA K hK
       have t37 := bg_is hA 4 37
       have k0 := (HT.below hA.grown).cell 0 rfl
       go_simp
       exact hK _ _ rfl (Below.refl _ _)
      ·intro a w3 hA K hK
       have t1 := hA.old 1 _ rfl rfl
       go_simp
       exact hK _ _ rfl (Below.refl _ _)
      ·intro a w3 hA K hK
       have t38 := bg_is hA 5 38
       have t39 := bg_is hA 6 39
       go_simp
       exact hK _ _ Pg.fi_ (Below.refl _ _)
      ·intro a w3 hA K hK
       have t36 := bg_is hA 3 36
       have t40 := bg_is hA 7 40
       go_simp
       exact hK _ _ Pg.fi_ (Below.refl _ _)
      ·intro a w3 hA K hK
       have t41 := bg_is hA 8 41
       go_simp
       exact hK _ _ rfl (Below.refl _ _)
      ·intro a w3 hA K hK
       have t5 := hA.old 5 _ rfl rfl
       go_simp
       exact hK _ _ rfl (Below.refl _ _)
      ·intro a w3 hA K hK
       have t43 := bg_is hA 10 43
       go_simp
       exact hK _ _ Pg.fi_ (Below.refl _ _)
      ·intro a w3 hA K hK
       have t44 := bg_is hA 11 44
       go_simp
       exact hK _ _ rfl (Below.refl _ _)
      ·intro a w3 hA K hK
       have t2 := hA.old 2 _ rfl rfl
       go_simp
       exact hK _ _ rfl (Below.refl _ _)
      ·intro a w3 hA K hK
       have t46 := bg_is hA 13 46
       have k0 := (HA2.below hA.grown).cell 1 rfl
       go_simp
       exact hK _ _ rfl (Below.refl _ _)
      ·intro a w3 hA K hK
       have t5 := hA.old 5 _ rfl rfl
       go_simp
       exact hK _ _ rfl (Below.refl _ _)
      ·intro a w3 hA K hK
       have t48 := bg_is hA 15 48
       go_simp
       exact hK _ _ Pg.fi_ (Below.refl _ _)
      ·intro a w3 hA K hK
       have t47 := bg_is hA 14 47
       have t49 := bg_is hA 16 49
       go_simp
       exact hK _ _ Pg.fi_ (Below.refl _ _)
      ·intro a w3 hA K hK
       have t50 := bg_is hA 17 50
       go_simp
       exact hK _ _ rfl (Below.refl _ _)
      ·intro a w3 hA K hK
       have t51 := bg_is hA 18 51
       have k0 : w3.cell? ⟨b, o + p * 4, none⟩ = some (.int .i64 tp.v) := (HCP.out.below ltp hA.grown).at_ 0 rfl
       go_simp
       exact hK _ _ rfl (Below.refl _ _)
      ·intro a w3 hA K hK
       have t6 := hA.old 6 _ rfl rfl
       go_simp
       exact hK _ _ rfl (Below.refl _ _)
      ·intro a w3 hA K hK
       have t53 := bg_is hA 20 53
       have k0 := (HT.below hA.grown).cell 0 rfl
       go_simp
       exact hK _ _ rfl (Below.refl _ _)
      ·intro a w3 hA K hK
       have t52 := bg_is hA 19 52
       have t54 := bg_is hA 21 54
       go_simp
       exact hK _ _ Pg.fi_ (Below.refl _ _)
      ·intro a w3 hA K hK
       have t45 := bg_is hA 12 45
       have t55 := bg_is hA 22 55
       go_simp
       exact hK _ _ Pg.fi_ (Below.refl _ _)
      ·intro a w3 hA K hK
       have t42 := bg_is hA 9 42
       have t56 := bg_is hA 23 56
       go_simp
       exact hK _ _ Pg.fi_ (Below.refl _ _)
      ·intro a w3 hA K hK
       have t57 := bg_is hA 24 57
       go_simp
       exact hK _ _ rfl (Below.refl _ _)
      ·exact rfl
      ·exact rfl
      ·exact rfl
      ·exact rfl
      ·intro a w3 hA K hK
       have t58 := bg_is hA 25 58
       have t62 := bg_is hA 29 62
       go_simp
       exact hK _ _ Pg.fi_ (Below.refl _ _)
      ·intro a w3 hA K hK
       have t63 := bg_is hA 30 63
       go_simp
       exact hK _ _ rfl (Below.refl _ _)
      ·exact rfl
      ·exact rfl
      ·exact rfl
      ·exact rfl
      ·exact rfl
      ·intro a w3 hA K hK
       have t64 := bg_is hA 31 64
       have t69 := bg_is hA 36 69
       go_simp
       exact hK _ _ Pg.fi_ (Below.refl _ _)
     rintro vs w4 hV hb4 hlk act hact
     repeat (replace hV := hV.is_; obtain ⟨_, rfl, hV⟩ := hV)
     obtain rfl := hV.nil_
     clear hV
     clear hlk
     simp only [putsO] at hact
     subst hact
     go_simp
     have hbz := hb.trans ((Below.then_ hb2 hb4).mono hb.size)
     go_wp2_with fail
     go_ret
     exact ⟨by rw [HF.out]; rfl, hbz⟩
    have v3' : decide (t.v ≤ tp.v) = false := decide_eq_false v3
    obtain ⟨D, hD⟩ : ∃ D, t.r.norm = D := ⟨_, rfl⟩
    rcases D with _ | _
    ·have HF : Hid (Q = false) := hid (by rw [← hl, hD]; simp)
     have hnf := hD
     clear hl e6 hx h0 htp hqe hv0 hup hcp
     go_upto_region 7 with fail
     refine wp_world (F := NewBs wr 65 [.int .i64 t.v, .bool u.s, .slice u.A u.n u.c, .slice u.A' u.n' u.c']) (made_new _ _ _) ?_
     rintro w2 ⟨HT, hb2, hs2⟩
     have HA2 := HA.out.below hb2
     have HU2 := hid (HU.out.below hb2)
     have HCP := hid (HP.out.below ltw hb2)
     have ltp : b < w2.heap.size := Nat.lt_of_lt_of_le ltw hb2.size
     clear a0 a1 a2 a3 a4
     refine draw_G (fun _ _ => False) (fun W => Below w2.heap.size w2 W) 38 none [some 33, some 34, some 35, some 36, some 37, some 38, some 39, some 40, some 41, some 42, some 43, some 44, some 45, some 46, some 47, some 48, some 49, some 50, some 51, some 52, some 53, some 54, some 55, some 56, some 57, some 58, some 59, some 60, some 61, some 62, some 63, some 64, some 65, some 66, some 67, some 68, some 69, some 70] [.is (.pointer (some ⟨wr.heap.size, 0, none⟩)), .is (.int .i64 t.v), .is (.bool false), .is (.bool false), .is (.pointer (some ⟨wr.heap.size, 0, none⟩)), .is (.int .i64 t.v), .is (.int .i64 N), .is (.bool false), .is (.bool false), .is (.bool false), .is (.int .i64 ((p + 1 : Nat) : Int)), .is (.bool true), .is (.bool true), .is (.pointer (some ⟨w.heap.size, 1, none⟩)), .is (.slice (some ⟨b, o, none⟩) n m), .is (.int .i64 ((p + 1 : Nat) : Int)), .is (.int .i64 (p : Int)), .is (.pointer (some ⟨b, o + p * 4, none⟩)), .is (.pointer (some ⟨b, o + p * 4, none⟩)), .is (.int .i64 tp.v), .is (.pointer (some ⟨wr.heap.size, 0, none⟩)), .is (.int .i64 t.v), .is (.bool false), .is (.bool false), .is (.bool false), .is (.bool false), .is (.pointer (some ⟨wr.heap.size, 1, none⟩)), .is (.agg #[.bool u.s, .slice u.A u.n u.c, .slice u.A' u.n' u.c']), .is (.bool false), .is (.bool true), .is (.bool true), .is (.bool true), .is (undef), .is (undef), .is (undef), .is (undef), .is (undef), .is (.bool true)]
      (by kernel_rfl) (by kernel_rfl) (by kernel_rfl) (by kernel_rfl) rfl (by kernel_rfl) (fun _ h => h) (fun _ _ h hb => Below.then_ h hb) (fun _ _ _ h => h.elim) (fun _ _ _ _ _ _ h => h.elim) ?_ ?_
     ·refine ⟨?_, ?_, ?_, ?_, ?_, ?_, ?_, ?_, ?_, ?_, ?_, ?_, ?_, ?_, ?_, ?_, ?_, ?_, ?_, ?_, ?_, ?_, ?_, ?_, ?_, ?_, ?_, ?_, ?_, ?_, ?_, ?_, ?_, ?_, ?_, ?_, ?_, ?_, trivial⟩
      ·intro a w3 hA K hK
       have t6 := hA.old 6 _ rfl rfl
       go_simp
       exact hK _ _ rfl (Below.refl _ _)
      ·intro a w3 hA K hK
       have t33 := bg_is hA 0 33
       have k0 := (HT.below hA.grown).cell 0 rfl
       go_simp
       exact hK _ _ rfl (Below.refl _ _)
      ·intro a w3 hA K hK
       have t34 := bg_is hA 1 34
       go_simp
       exact hK _ _ Pg.fi_ (Below.refl _ _)
      ·intro a w3 hA K hK
       have t35 := bg_is hA 2 35
       go_simp
       exact hK _ _ rfl (Below.refl _ _)
      ·intro a w3 hA K hK
       have t6 := hA.old 6 _ rfl rfl
       go_simp
       exact hK _ _ rfl (Below.refl _ _)
      ·intro a w3 hA K hK
       have t37 := bg_is hA 4 37
       have k0 := (HT.below hA.grown).cell 0 rfl
       go_simp
       exact hK _ _ rfl (Below.refl _ _)
      ·intro a w3 hA K hK
       have t1 := hA.old 1 _ rfl rfl
       go_simp
       exact hK _ _ rfl (Below.refl _ _)
      ·intro a w3 hA K hK
       have t38 := bg_is hA 5 38
       have t39 := bg_is hA 6 39
       go_simp
       exact hK _ _ Pg.fi_ (Below.refl _ _)
      ·intro a w3 hA K hK
       have t36 := bg_is hA 3 36
       have t40 := bg_is hA 7 40
       go_simp
       exact hK _ _ Pg.fi_ (Below.refl _ _)
      ·intro a w3 hA K hK
       have t41 := bg_is hA 8 41
       go_simp
       exact hK _ _ rfl (Below.refl _ _)
      ·intro a w3 hA K hK
       have t5 := hA.old 5 _ rfl rfl
       go_simp
       exact hK _ _ rfl (Below.refl _ _)
      ·intro a w3 hA K hK
       have t43 := bg_is hA 10 43
       go_simp
       exact hK _ _ Pg.fi_ (Below.refl _ _)
      ·intro a w3 hA K hK
       have t44 := bg_is hA 11 44
       go_simp
       exact hK _ _ rfl (Below.refl _ _)
      ·intro a w3 hA K hK
       have t2 := hA.old 2 _ rfl rfl
       go_simp
       exact hK _ _ rfl (Below.refl _ _)
      ·intro a w3 hA K hK
       have t46 := bg_is hA 13 46
       have k0 := (HA2.below hA.grown).cell 1 rfl
       go_simp
       exact hK _ _ rfl (Below.refl _ _)
      ·intro a w3 hA K hK
       have t5 := hA.old 5 _ rfl rfl
       go_simp
       exact hK _ _ rfl (Below.refl _ _)
      ·intro a w3 hA K hK
       have t48 := bg_is hA 15 48
       go_simp
       exact hK _ _ Pg.fi_ (Below.refl _ _)
      ·intro a w3 hA K hK
       have t47 := bg_is hA 14 47
       have t49 := bg_is hA 16 49
       go_simp
       exact hK _ _ Pg.fi_ (Below.refl _ _)
      ·intro a w3 hA K hK
       have t50 := bg_is hA 17 50
       go_simp
       exact hK _ _ rfl (Below.refl _ _)
      ·intro a w3 hA K hK
       have t51 := bg_is hA 18 51
       have k0 : w3.cell? ⟨b, o + p * 4, none⟩ = some (.int .i64 tp.v) := (HCP.out.below ltp hA.grown).at_ 0 rfl
       go_simp
       exact hK _ _ rfl (Below.refl _ _)
      ·intro a w3 hA K hK
       have t6 := hA.old 6 _ rfl rfl
       go_simp
       exact hK _ _ rfl (Below.refl _ _)
      ·intro a w3 hA K hK
       have t53 := bg_is hA 20 53
       have k0 := (HT.below hA.grown).cell 0 rfl
       go_simp
       exact hK _ _ rfl (Below.refl _ _)
      ·intro a w3 hA K hK
       have t52 := bg_is hA 19 52
       have t54 := bg_is hA 21 54
       go_simp
       exact hK _ _ Pg.fi_ (Below.refl _ _)
      ·intro a w3 hA K hK
       have t45 := bg_is hA 12 45
       have t55 := bg_is hA 22 55
       go_simp
       exact hK _ _ Pg.fi_ (Below.refl _ _)
      ·intro a w3 hA K hK
       have t42 := bg_is hA 9 42
       have t56 := bg_is hA 23 56
       go_simp
       exact hK _ _ Pg.fi_ (Below.refl _ _)
      ·intro a w3 hA K hK
       have t57 := bg_is hA 24 57
       go_simp
       exact hK _ _ rfl (Below.refl _ _)
      ·intro a w3 hA K hK
       have t6 := hA.old 6 _ rfl rfl
       go_simp
       exact hK _ _ rfl (Below.refl _ _)
      ·intro a w3 hA K hK
       have t59 := bg_is hA 26 59
       have k0 := (HT.below hA.grown).cell 1 rfl
       have k1 := (HT.below hA.grown).cell 2 rfl
       have k2 := (HT.below hA.grown).cell 3 rfl
       go_simp
       exact hK _ _ rfl (Below.refl _ _)
      ·intro a w3 hA K hK
       have t60 := bg_is hA 27 60
       have hC := r2Is_Q w3 (HU2.out.below hA.grown) Hle hnf
       go_simp
       refine hC.mono ?_
       rintro e w4 ⟨rfl, hb⟩
       exact hK _ _ rfl hb
      ·intro a w3 hA K hK
       have t61 := bg_is hA 28 61
       go_simp
       exact hK _ _ Pg.fi_ (Below.refl _ _)
      ·intro a w3 hA K hK
       have t58 := bg_is hA 25 58
       have t62 := bg_is hA 29 62
       go_simp
       exact hK _ _ Pg.fi_ (Below.refl _ _)
      ·intro a w3 hA K hK
       have t63 := bg_is hA 30 63
       go_simp
       exact hK _ _ rfl (Below.refl _ _)
      ·exact rfl
      ·exact rfl
      ·exact rfl
      ·exact rfl
      ·exact rfl
      ·intro a w3 hA K hK
       have t64 := bg_is hA 31 64
       have t69 := bg_is hA 36 69
       go_simp
       exact hK _ _ Pg.fi_ (Below.refl _ _)
     rintro vs w4 hV hb4 hlk act hact
     repeat (replace hV := hV.is_; obtain ⟨_, rfl, hV⟩ := hV)
     obtain rfl := hV.nil_
     clear hV
     clear hlk
     simp only [putsO] at hact
     subst hact
     go_simp
     have hbz := hb.trans ((Below.then_ hb2 hb4).mono hb.size)
     go_wp2_with fail
     go_ret
     exact ⟨by rw [HF.out]; rfl, hbz⟩
    have hnm := hD
    by_cases v5 : t.r.xs = []
    ·have HF : Hid (Q = false) := hid (by rw [← hl, v5]; simp)
     have hz : ((u.n : Int) == 0) = true := by rw [← hul, v5]; rfl
     clear hl e6 hx h0 htp hqe hv0 hup hcp v5
     go_upto_region 7 with fail
     refine wp_world (F := NewBs wr 65 [.int .i64 t.v, .bool u.s, .slice u.A u.n u.c, .slice u.A' u.n' u.c']) (made_new _ _ _) ?_
     rintro w2 ⟨HT, hb2, hs2⟩
     have HA2 := HA.out.below hb2
     have HU2 := hid (HU.out.below hb2)
     have HCP := hid (HP.out.below ltw hb2)
     have ltp : b < w2.heap.size := Nat.lt_of_lt_of_le ltw hb2.size
     clear a0 a1 a2 a3 a4
     refine draw_G (fun _ _ => False) (fun W => Below w2.heap.size w2 W) 38 none [some 33, some 34, some 35, some 36, some 37, some 38, some 39, some 40, some 41, some 42, some 43, some 44, some 45, some 46, some 47, some 48, some 49, some 50, some 51, some 52, some 53, some 54, some 55, some 56, some 57, some 58, some 59, some 60, some 61, some 62, some 63, some 64, some 65, some 66, some 67, some 68, some 69, some 70] [.is (.pointer (some ⟨wr.heap.size, 0, none⟩)), .is (.int .i64 t.v), .is (.bool false), .is (.bool false), .is (.pointer (some ⟨wr.heap.size, 0, none⟩)), .is (.int .i64 t.v), .is (.int .i64 N), .is (.bool false), .is (.bool false), .is (.bool false), .is (.int .i64 ((p + 1 : Nat) : Int)), .is (.bool true), .is (.bool true), .is (.pointer (some ⟨w.heap.size, 1, none⟩)), .is (.slice (some ⟨b, o, none⟩) n m), .is (.int .i64 ((p + 1 : Nat) : Int)), .is (.int .i64 (p : Int)), .is (.pointer (some ⟨b, o + p * 4, none⟩)), .is (.pointer (some ⟨b, o + p * 4, none⟩)), .is (.int .i64 tp.v), .is (.pointer (some ⟨wr.heap.size, 0, none⟩)), .is (.int .i64 t.v), .is (.bool false), .is (.bool false), .is (.bool false), .is (.bool false), .is (.pointer (some ⟨wr.heap.size, 1, none⟩)), .is (.agg #[.bool u.s, .slice u.A u.n u.c, .slice u.A' u.n' u.c']), .is (.bool true), .is (.bool false), .is (.bool false), .is (.bool false), .is (.pointer (some ⟨wr.heap.size, 1, none⟩)), .is (.pointer (some ⟨wr.heap.size, 2, none⟩)), .is (.slice u.A u.n u.c), .is (.int .i64 (u.n : Int)), .is (.bool true), .is (.bool true)]
      (by kernel_rfl) (by kernel_rfl) (by kernel_rfl) (by kernel_rfl) rfl (by kernel_rfl) (fun _ h => h) (fun _ _ h hb => Below.then_ h hb) (fun _ _ _ h => h.elim) (fun _ _ _ _ _ _ h => h.elim) ?_ ?_
     ·refine ⟨?_, ?_, ?_, ?_, ?_, ?_, ?_, ?_, ?_, ?_, ?_, ?_, ?_, ?_, ?_, ?_, ?_, ?_, ?_, ?_, ?_, ?_, ?_, ?_, ?_, ?_, ?_, ?_, ?_, ?_, ?_, ?_, ?_, ?_, ?_, ?_, ?_, ?_, trivial⟩
      ·intro a w3 hA K hK
       have t6 := hA.old 6 _ rfl rfl
       go_simp
       exact hK _ _ rfl (Below.refl _ _)
      ·intro a w3 hA K hK
       have t33 := bg_is hA 0 33
       have k0 := (HT.below hA.grown).cell 0 rfl
       go_simp
       exact hK _ _ rfl (Below.refl _ _)
      ·intro a w3 hA K hK
       have t34 := bg_is hA 1 34
       go_simp
       exact hK _ _ Pg.fi_ (Below.refl _ _)
      ·intro a w3 hA K hK
       have t35 := bg_is hA 2 35
       go_simp
       exact hK _ _ rfl (Below.refl _ _)
      ·intro a w3 hA K hK
       have t6 := hA.old 6 _ rfl rfl
       go_simp
       exact hK _ _ rfl (Below.refl _ _)
      ·intro a w3 hA K hK
       have t37 := bg_is hA 4 37
       have k0 := (HT.below hA.grown).cell 0 rfl
       go_simp
       exact hK _ _ rfl (Below.refl _ _)
      ·intro a w3 hA K hK
       have t1 := hA.old 1 _ rfl rfl
       go_simp
       exact hK _ _ rfl (Below.refl _ _)
      ·intro a w3 hA K hK
       have t38 := bg_is hA 5 38
       have t39 := bg_is hA 6 39
       go_simp
       exact hK _ _ Pg.fi_ (Below.refl _ _)
      ·intro a w3 hA K hK
       have t36 := bg_is hA 3 36
       have t40 := bg_is hA 7 40
       go_simp
       exact hK _ _ Pg.fi_ (Below.refl _ _)
      ·intro a w3 hA K hK
       have t41 := bg_is hA 8 41
       go_simp
       exact hK _ _ rfl (Below.refl _ _)
      ·intro a w3 hA K hK
       have t5 := hA.old 5 _ rfl rfl
       go_simp
       exact hK _ _ rfl (Below.refl _ _)
      ·intro a w3 hA K hK
       have t43 := bg_is hA 10 43
       go_simp
       exact hK _ _ Pg.fi_ (Below.refl _ _)
      ·intro a w3 hA K hK
       have t44 := bg_is hA 11 44
       go_simp
       exact hK _ _ rfl (Below.refl _ _)
      ·intro a w3 hA K hK
       have t2 := hA.old 2 _ rfl rfl
       go_simp
       exact hK _ _ rfl (Below.refl _ _)
      ·intro a w3 hA K hK
       have t46 := bg_is hA 13 46
       have k0 := (HA2.below hA.grown).cell 1 rfl
       go_simp
       exact hK _ _ rfl (Below.refl _ _)
      ·intro a w3 hA K hK
       have t5 := hA.old 5 _ rfl rfl
       go_simp
       exact hK _ _ rfl (Below.refl _ _)
      ·intro a w3 hA K hK
       have t48 := bg_is hA 15 48
       go_simp
       exact hK _ _ Pg.fi_ (Below.refl _ _)
      ·intro a w3 hA K hK
       have t47 := bg_is hA 14 47
       have t49 := bg_is hA 16 49
       go_simp
       exact hK _ _ Pg.fi_ (Below.refl _ _)
      ·intro a w3 hA K hK
       have t50 := bg_is hA 17 50
       go_simp
       exact hK _ _ rfl (Below.refl _ _)
      ·intro a w3 hA K hK
       have t51 := bg_is hA 18 51
       have k0 : w3.cell? ⟨b, o + p * 4, none⟩ = some (.int .i64 tp.v) := (HCP.out.below ltp hA.grown).at_ 0 rfl
       go_simp
       exact hK _ _ rfl (Below.refl _ _)
      ·intro a w3 hA K hK
       have t6 := hA.old 6 _ rfl rfl
       go_simp
       exact hK _ _ rfl (Below.refl _ _)
      ·intro a w3 hA K hK
       have t53 := bg_is hA 20 53
       have k0 := (HT.below hA.grown).cell 0 rfl
       go_simp
       exact hK _ _ rfl (Below.refl _ _)
      ·intro a w3 hA K hK
       have t52 := bg_is hA 19 52
       have t54 := bg_is hA 21 54
       go_simp
       exact hK _ _ Pg.fi_ (Below.refl _ _)
      ·intro a w3 hA K hK
       have t45 := bg_is hA 12 45
       have t55 := bg_is hA 22 55
       go_simp
       exact hK _ _ Pg.fi_ (Below.refl _ _)
      ·intro a w3 hA K hK
       have t42 := bg_is hA 9 42
       have t56 := bg_is hA 23 56
       go_simp
       exact hK _ _ Pg.fi_ (Below.refl _ _)
      ·intro a w3 hA K hK
       have t57 := bg_is hA 24 57
       go_simp
       exact hK _ _ rfl (Below.refl _ _)
      ·intro a w3 hA K hK
       have t6 := hA.old 6 _ rfl rfl
       go_simp
       exact hK _ _ rfl (Below.refl _ _)
      ·intro a w3 hA K hK
       have t59 := bg_is hA 26 59
       have k0 := (HT.below hA.grown).cell 1 rfl
       have k1 := (HT.below hA.grown).cell 2 rfl
       have k2 := (HT.below hA.grown).cell 3 rfl
       go_simp
       exact hK _ _ rfl (Below.refl _ _)
      ·intro a w3 hA K hK
       have t60 := bg_is hA 27 60
       have hC := r2Is_Q w3 (HU2.out.below hA.grown) Hle hnm
       go_simp
       refine hC.mono ?_
       rintro e w4 ⟨rfl, hb⟩
       exact hK _ _ rfl hb
      ·intro a w3 hA K hK
       have t61 := bg_is hA 28 61
       go_simp
       exact hK _ _ Pg.fi_ (Below.refl _ _)
      ·intro a w3 hA K hK
       have t58 := bg_is hA 25 58
       have t62 := bg_is hA 29 62
       go_simp
       exact hK _ _ Pg.fi_ (Below.refl _ _)
      ·intro a w3 hA K hK
       have t63 := bg_is hA 30 63
       go_simp
       exact hK _ _ rfl (Below.refl _ _)
      ·intro a w3 hA K hK
       have t6 := hA.old 6 _ rfl rfl
       go_simp
       exact hK _ _ rfl (Below.refl _ _)
      ·intro a w3 hA K hK
       have t65 := bg_is hA 32 65
       go_simp
       exact hK _ _ rfl (Below.refl _ _)
      ·intro a w3 hA K hK
       have t66 := bg_is hA 33 66
       have k0 := (HT.below hA.grown).cell 2 rfl
       go_simp
       exact hK _ _ rfl (Below.refl _ _)
      ·intro a w3 hA K hK
       have t67 := bg_is hA 34 67
       go_simp
       exact hK _ _ Pg.fi_ (Below.refl _ _)
      ·intro a w3 hA K hK
       have t68 := bg_is hA 35 68
       go_simp
       exact hK _ _ Pg.fi_ (Below.refl _ _)
      ·intro a w3 hA K hK
       have t64 := bg_is hA 31 64
       have t69 := bg_is hA 36 69
       go_simp
       exact hK _ _ Pg.fi_ (Below.refl _ _)
     rintro vs w4 hV hb4 hlk act hact
     repeat (replace hV := hV.is_; obtain ⟨_, rfl, hV⟩ := hV)
     obtain rfl := hV.nil_
     clear hV
     clear hlk
     simp only [putsO] at hact
     subst hact
     go_simp
     have hbz := hb.trans ((Below.then_ hb2 hb4).mono hb.size)
     go_wp2_with fail
     go_ret
     exact ⟨by rw [HF.out]; rfl, hbz⟩
    have hz : ((u.n : Int) == 0) = false := by have h2 := List.length_pos_iff.2 v5; exact beq_eq_false_iff_ne.2 (by omega)
    have HL5 : Hid (isL N (t.v + 1) (a.t.drop (p + 1 + 1)) = Q) := hid (by rw [← hl, decide_eq_true (show q ≤ t.v by omega), decide_eq_true (show t.v < N by omega), hD, List.isEmpty_eq_false_iff.2 v5]; simp)
    have HPN : Hid (∃ tp, a.t[p + 1 + 1 - 1]? = some tp ∧ t.v + 1 = tp.v + 1 ∧ 0 ≤ tp.v) := hid ⟨t, by rw [Nat.add_sub_cancel]; exact HTn.out, rfl, by omega⟩
    clear hl e6 hx h0 htp hqe hv0 hup hcp v5
    go_upto_region 7 with fail
    refine wp_world (F := NewBs wr 65 [.int .i64 t.v, .bool u.s, .slice u.A u.n u.c, .slice u.A' u.n' u.c']) (made_new _ _ _) ?_
    rintro w2 ⟨HT, hb2, hs2⟩
    have HA2 := HA.out.below hb2
    have HU2 := hid (HU.out.below hb2)
    have HCP := hid (HP.out.below ltw hb2)
    have ltp : b < w2.heap.size := Nat.lt_of_lt_of_le ltw hb2.size
    clear a0 a1 a2 a3 a4
    refine draw_G (fun _ _ => False) (fun W => Below w2.heap.size w2 W) 38 none [some 33, some 34, some 35, some 36, some 37, some 38, some 39, some 40, some 41, some 42, some 43, some 44, some 45, some 46, some 47, some 48, some 49, some 50, some 51, some 52, some 53, some 54, some 55, some 56, some 57, some 58, some 59, some 60, some 61, some 62, some 63, some 64, some 65, some 66, some 67, some 68, some 69, some 70] [.is (.pointer (some ⟨wr.heap.size, 0, none⟩)), .is (.int .i64 t.v), .is (.bool false), .is (.bool false), .is (.pointer (some ⟨wr.heap.size, 0, none⟩)), .is (.int .i64 t.v), .is (.int .i64 N), .is (.bool false), .is (.bool false), .is (.bool false), .is (.int .i64 ((p + 1 : Nat) : Int)), .is (.bool true), .is (.bool true), .is (.pointer (some ⟨w.heap.size, 1, none⟩)), .is (.slice (some ⟨b, o, none⟩) n m), .is (.int .i64 ((p + 1 : Nat) : Int)), .is (.int .i64 (p : Int)), .is (.pointer (some ⟨b, o + p * 4, none⟩)), .is (.pointer (some ⟨b, o + p * 4, none⟩)), .is (.int .i64 tp.v), .is (.pointer (some ⟨wr.heap.size, 0, none⟩)), .is (.int .i64 t.v), .is (.bool false), .is (.bool false), .is (.bool false), .is (.bool false), .is (.pointer (some ⟨wr.heap.size, 1, none⟩)), .is (.agg #[.bool u.s, .slice u.A u.n u.c, .slice u.A' u.n' u.c']), .is (.bool true), .is (.bool false), .is (.bool false), .is (.bool false), .is (.pointer (some ⟨wr.heap.size, 1, none⟩)), .is (.pointer (some ⟨wr.heap.size, 2, none⟩)), .is (.slice u.A u.n u.c), .is (.int .i64 (u.n : Int)), .is (.bool false), .is (.bool false)]
     (by kernel_rfl) (by kernel_rfl) (by kernel_rfl) (by kernel_rfl) rfl (by kernel_rfl) (fun _ h => h) (fun _ _ h hb => Below.then_ h hb) (fun _ _ _ h => h.elim) (fun _ _ _ _ _ _ h => h.elim) ?_ ?_
    ·refine ⟨?_, ?_, ?_, ?_, ?_, ?_, ?_, ?_, ?_, ?_, ?_, ?_, ?_, ?_, ?_, ?_, ?_, ?_, ?_, ?_, ?_, ?_, ?_, ?_, ?_, ?_, ?_, ?_, ?_, ?_, ?_, ?_, ?_, ?_, ?_, ?_, ?_, ?_, trivial⟩
     ·intro a w3 hA K hK
      have t6 := hA.old 6 _ rfl rfl
      go_simp
      exact hK _ _ rfl (Below.refl _ _)
     ·intro a w3 hA K hK
      have t33 := bg_is hA 0 33
      have k0 := (HT.below hA.grown).cell 0 rfl
      go_simp
      exact hK _ _ rfl (Below.refl _ _)
     ·intro a w3 hA K hK
      have t34 := bg_is hA 1 34
      go_simp
      exact hK _ _ Pg.fi_ (Below.refl _ _)
     ·intro a w3 hA K hK
      have t35 := bg_is hA 2 35
      go_simp
      exact hK _ _ rfl (Below.refl _ _)
     ·intro a w3 hA K hK
      have t6 := hA.old 6 _ rfl rfl
      go_simp
      exact hK _ _ rfl (Below.refl _ _)
     ·intro a w3 hA K hK
      have t37 := bg_is hA 4 37
      have k0 := (HT.below hA.grown).cell 0 rfl
      go_simp
      exact hK _ _ rfl (Below.refl _ _)
     ·intro a w3 hA K hK
      have t1 := hA.old 1 _ rfl rfl
      go_simp
      exact hK _ _ rfl (Below.refl _ _)
     ·intro a w3 hA K hK
      have t38 := bg_is hA 5 38
      have t39 := bg_is hA 6 39
      go_simp
      exact hK _ _ Pg.fi_ (Below.refl _ _)
     ·intro a w3 hA K hK
      have t36 := bg_is hA 3 36
      have t40 := bg_is hA 7 40
      go_simp
      exact hK _ _ Pg.fi_ (Below.refl _ _)
     ·intro a w3 hA K hK
      have t41 := bg_is hA 8 41
      go_simp
      exact hK _ _ rfl (Below.refl _ _)
     ·intro a w3 hA K hK
      have t5 := hA.old 5 _ rfl rfl
      go_simp
      exact hK _ _ rfl (Below.refl _ _)
     ·intro a w3 hA K hK
      have t43 := bg_is hA 10 43
      go_simp
      exact hK _ _ Pg.fi_ (Below.refl _ _)
     ·intro a w3 hA K hK
      have t44 := bg_is hA 11 44
      go_simp
      exact hK _ _ rfl (Below.refl _ _)
     ·intro a w3 hA K hK
      have t2 := hA.old 2 _ rfl rfl
      go_simp
      exact hK _ _ rfl (Below.refl _ _)
     ·intro a w3 hA K hK
      have t46 := bg_is hA 13 46
      have k0 := (HA2.below hA.grown).cell 1 rfl
      go_simp
      exact hK _ _ rfl (Below.refl _ _)
     ·intro a w3 hA K hK
      have t5 := hA.old 5 _ rfl rfl
      go_simp
      exact hK _ _ rfl (Below.refl _ _)
     ·intro a w3 hA K hK
      have t48 := bg_is hA 15 48
      go_simp
      exact hK _ _ Pg.fi_ (Below.refl _ _)
     ·intro a w3 hA K hK
      have t47 := bg_is hA 14 47
      have t49 := bg_is hA 16 49
      go_simp
      exact hK _ _ Pg.fi_ (Below.refl _ _)
     ·intro a w3 hA K hK
      have t50 := bg_is hA 17 50
      go_simp
      exact hK _ _ rfl (Below.refl _ _)
     ·intro a w3 hA K hK
      have t51 := bg_is hA 18 51
      have k0 : w3.cell? ⟨b, o + p * 4, none⟩ = some (.int .i64 tp.v) := (HCP.out.below ltp hA.grown).at_ 0 rfl
      go_simp
      exact hK _ _ rfl (Below.refl _ _)
     ·intro a w3 hA K hK
      have t6 := hA.old 6 _ rfl rfl
      go_simp
      exact hK _ _ rfl (Below.refl _ _)
     ·intro a w3 hA K hK
      have t53 := bg_is hA 20 53
      have k0 := (HT.below hA.grown).cell 0 rfl
      go_simp
      exact hK _ _ rfl (Below.refl _ _)
     ·intro a w3 hA K hK
      have t52 := bg_is hA 19 52
      have t54 := bg_is hA 21 54
      go_simp
      exact hK _ _ Pg.fi_ (Below.refl _ _)
     ·intro a w3 hA K hK
      have t45 := bg_is hA 12 45
      have t55 := bg_is hA 22 55
      go_simp
      exact hK _ _ Pg.fi_ (Below.refl _ _)
     ·intro a w3 hA K hK
      have t42 := bg_is hA 9 42
      have t56 := bg_is hA 23 56
      go_simp
      exact hK _ _ Pg.fi_ (Below.refl _ _)
     ·intro a w3 hA K hK
      have t57 := bg_is hA 24 57
      go_simp
      exact hK _ _ rfl (Below.refl _ _)
     ·intro a w3 hA K hK
      have t6 := hA.old 6 _ rfl rfl
      go_simp
      exact hK _ _ rfl (Below.refl _ _)
     ·intro a w3 hA K hK
      have t59 := bg_is hA 26 59
      have k0 := (HT.below hA.grown).cell 1 rfl
      have k1 := (HT.below hA.grown).cell 2 rfl
      have k2 := (HT.below hA.grown).cell 3 rfl
      go_simp
      exact hK _ _ rfl (Below.refl _ _)
     ·intro a w3 hA K hK
      have t60 := bg_is hA 27 60
      have hC := r2Is_Q w3 (HU2.out.below hA.grown) Hle hnm
      go_simp
      refine hC.mono ?_
      rintro e w4 ⟨rfl, hb⟩
      exact hK _ _ rfl hb
     ·intro a w3 hA K hK
      have t61 := bg_is hA 28 61
      go_simp
      exact hK _ _ Pg.fi_ (Below.refl _ _)
     ·intro a w3 hA K hK
      have t58 := bg_is hA 25 58
      have t62 := bg_is hA 29 62
      go_simp
      exact hK _ _ Pg.fi_ (Below.refl _ _)
     ·intro a w3 hA K hK
      have t63 := bg_is hA 30 63
      go_simp
      exact hK _ _ rfl (Below.refl _ _)
     ·intro a w3 hA K hK
      have t6 := hA.old 6 _ rfl rfl
      go_simp
      exact hK _ _ rfl (Below.refl _ _)
     ·intro a w3 hA K hK
      have t65 := bg_is hA 32 65
      go_simp
      exact hK _ _ rfl (Below.refl _ _)
     ·intro a w3 hA K hK
      have t66 := bg_is hA 33 66
      have k0 := (HT.below hA.grown).cell 2 rfl
      go_simp
      exact hK _ _ rfl (Below.refl _ _)
     ·intro a w3 hA K hK
      have t67 := bg_is hA 34 67
      go_simp
      exact hK _ _ Pg.fi_ (Below.refl _ _)
     ·intro a w3 hA K hK
      have t68 := bg_is hA 35 68
      go_simp
      exact hK _ _ Pg.fi_ (Below.refl _ _)
     ·intro a w3 hA K hK
      have t64 := bg_is hA 31 64
      have t69 := bg_is hA 36 69
      go_simp
      exact hK _ _ Pg.fi_ (Below.refl _ _)
    rintro vs w4 hV hb4 hlk act hact
    repeat (replace hV := hV.is_; obtain ⟨_, rfl, hV⟩ := hV)
    obtain rfl := hV.nil_
    clear hV
    clear hlk
    simp only [putsO] at hact
    subst hact
    go_simp
    have hbz := hb.trans ((Below.then_ hb2 hb4).mono hb.size)
    have HA4 := hid (HA2.below hb4)
    go_wp2_with fail
    refine ⟨⟨p + 1 + 1, t.v + 1, by omega, by go_num, HL5, fun h => absurd h (by omega), fun _ => HPN, HA4, hbz⟩, ?_⟩
    simp [intOf]; omega
  ·obtain rfl : Q = true := by
    have h := HQ.out
    rw [List.drop_of_length_le (by omega)] at h
    rw [← h]; rfl
   go_wp2_with fail
   go_ret
   exact ⟨rfl, hb⟩
end Go.Proofs.YtahdlpkncemmaaaGreat
namespace Go.Proofs.YtahdlpkncemmaaaGreat
open Go.RowKit Pg
theorem rise_C {va : Value} {c : CW} (w : World) (ha : ConVal w va c) :
  Calls Tryz.prog 17 #[va] w fun e w' => ∃ b, e = .returned (.bool b) ∧ Below w.heap.size w w' := by
 obtain ⟨T, n, m, x, rfl, hca⟩ := ha.cv
 have HTa := hid hca.1
 have hna : c.t.length = n := hca.1.1
 have hnb : n ≤ 140737488355328 := by have := hca.1; have h1 := this.2.1; have h2 := this.2.2.1; omega
 clear ha hca
 go_enter Tryz.func17, Tryz.ntmps17
 go_upto_region 1 with fail
 refine wp_world (F := fun W => Bs W w.heap.size 36 [.int .i64 c.s, .slice T n m, .bool x.s, .slice x.A x.n x.c, .slice x.A' x.n' x.c'] ∧ Below w.heap.size w W) ⟨Bs.new w _ _ _ rfl, Pg.bel⟩ ?_
 rintro w1 ⟨HA1, hb1⟩
 have HA := hid HA1
 go_wp2_with fail
 go_loopw [3] (fun i wr => ∃ p : Nat, (p ≤ n) ∧ i = .int .i64 ((p + 1 : Nat) : Int) ∧ Hid (Bs wr w.heap.size 36 [.int .i64 c.s, .slice T n m, .bool x.s, .slice x.A x.n x.c, .slice x.A' x.n' x.c']) ∧ Below w.heap.size w wr) (fun i _ => n + 1 - (intOf i).toNat)
 case atStart => exact ⟨0, Nat.zero_le _, rfl, HA, hb1⟩
 case round =>
  clear HA1 HA
  obtain ⟨p, hp, rfl, HA, hb⟩ := hrel
  have a0 := HA.out.cell 0 rfl
  have a1 := HA.out.cell 1 rfl
  have a2 := HA.out.cell 2 rfl
  have a3 := HA.out.cell 3 rfl
  have a4 := HA.out.cell 4 rfl
  by_cases hlt : p + 1 < n
  ·obtain ⟨_, _, _, _, _, e6⟩ := HTa.out
   obtain ⟨b, o, rfl, hbb, hx⟩ := e6 (by omega)
   obtain ⟨t, ht⟩ : ∃ t, c.t[p + 1]? = some t := ⟨c.t[p + 1]'(by omega), List.getElem?_eq_getElem _⟩
   obtain ⟨tp, htp⟩ : ∃ t, c.t[p]? = some t := ⟨c.t[p]'(by omega), List.getElem?_eq_getElem _⟩
   obtain ⟨_, _, _, hc, hu⟩ := termAt_stays _ _ _ _ _ hbb (hx (p + 1) t ht) hb
   obtain ⟨_, _, _, hcp, hup⟩ := termAt_stays _ _ _ _ _ hbb (hx p tp htp) hb
   obtain ⟨u, rfl, rfl, rfl, _⟩ := rows_rv hu
   obtain ⟨up, rfl, rfl, rfl, _⟩ := rows_rv hup
   have HC := hid hc
   have HP := hid hcp
   have ltw : b < wr.heap.size := Nat.lt_of_lt_of_le hbb hb.size
   have i0 : (0 : Int) ≤ ((p + 1 : Nat) : Int) := by omega
   have i1 : ((p + 1 : Nat) : Int) < (n : Int) := by omega
   have k0 : (0 : Int) ≤ (p : Int) := by omega
   have k1 : (p : Int) < (n : Int) := by omega
   obtain ⟨D, hD⟩ : ∃ D, decide (t.v ≤ tp.v) = D := ⟨_, rfl⟩
   clear e6 hx ht htp hc hcp hu hup
   go_upto_region 4 with fail
   refine draw_G (fun _ _ => False) (fun W => Below wr.heap.size wr W) 14 none [some 11, some 12, some 13, some 14, some 15, some 16, some 17, some 18, some 19, some 20, some 21, some 22, some 23, some 24] [.is (.pointer (some ⟨w.heap.size, 1, none⟩)), .is (.slice (some ⟨b, o, none⟩) n m), .is (.int .i64 ((p + 1 : Nat) : Int)), .is (.int .i64 (p : Int)), .is (.pointer (some ⟨b, o + p * 4, none⟩)), .is (.pointer (some ⟨b, o + p * 4, none⟩)), .is (.int .i64 tp.v), .is (.pointer (some ⟨w.heap.size, 1, none⟩)), .is (.slice (some ⟨b, o, none⟩) n m), .is (.int .i64 ((p + 1 : Nat) : Int)), .is (.pointer (some ⟨b, o + (p + 1) * 4, none⟩)), .is (.pointer (some ⟨b, o + (p + 1) * 4, none⟩)), .is (.int .i64 t.v), .is (.bool D)]
    (by kernel_rfl) (by kernel_rfl) (by kernel_rfl) (by kernel_rfl) rfl (by kernel_rfl) (fun _ h => h) (fun _ _ h hb => Below.then_ h hb) (fun _ _ _ h => h.elim) (fun _ _ _ _ _ _ h => h.elim) ?_ ?_
   ·refine ⟨?_, ?_, ?_, ?_, ?_, ?_, ?_, ?_, ?_, ?_, ?_, ?_, ?_, ?_, trivial⟩
    ·intro a w3 hA K hK
     have t1 := hA.old 1 _ rfl rfl
     go_simp
     exact hK _ _ rfl (Below.refl _ _)
    ·intro a w3 hA K hK
     have t11 := bg_is hA 0 11
     have k0 := (HA.out.below hA.grown).cell 1 rfl
     go_simp
     exact hK _ _ rfl (Below.refl _ _)
    ·intro a w3 hA K hK
     have t3 := hA.old 3 _ rfl rfl
     go_simp
     exact hK _ _ rfl (Below.refl _ _)
    ·intro a w3 hA K hK
     have t13 := bg_is hA 2 13
     go_simp
     exact hK _ _ Pg.fi_ (Below.refl _ _)
    ·intro a w3 hA K hK
     have t12 := bg_is hA 1 12
     have t14 := bg_is hA 3 14
     go_simp
     exact hK _ _ Pg.fi_ (Below.refl _ _)
    ·intro a w3 hA K hK
     have t15 := bg_is hA 4 15
     go_simp
     exact hK _ _ rfl (Below.refl _ _)
    ·intro a w3 hA K hK
     have t16 := bg_is hA 5 16
     have k0 : w3.cell? ⟨b, o + p * 4, none⟩ = some (.int .i64 tp.v) := (HP.out.below ltw hA.grown).at_ 0 rfl
     go_simp
     exact hK _ _ rfl (Below.refl _ _)
    ·intro a w3 hA K hK
     have t1 := hA.old 1 _ rfl rfl
     go_simp
     exact hK _ _ rfl (Below.refl _ _)
    ·intro a w3 hA K hK
     have t18 := bg_is hA 7 18
     have k0 := (HA.out.below hA.grown).cell 1 rfl
     go_simp
     exact hK _ _ rfl (Below.refl _ _)
    ·intro a w3 hA K hK
     have t3 := hA.old 3 _ rfl rfl
     go_simp
     exact hK _ _ rfl (Below.refl _ _)
    ·intro a w3 hA K hK
     have t19 := bg_is hA 8 19
     have t20 := bg_is hA 9 20
     go_simp
     exact hK _ _ Pg.fi_ (Below.refl _ _)
    ·intro a w3 hA K hK
     have t21 := bg_is hA 10 21
     go_simp
     exact hK _ _ rfl (Below.refl _ _)
    ·intro a w3 hA K hK
     have t22 := bg_is hA 11 22
     have k0 : w3.cell? ⟨b, o + (p + 1) * 4, none⟩ = some (.int .i64 t.v) := (HC.out.below ltw hA.grown).at_ 0 rfl
     go_simp
     exact hK _ _ rfl (Below.refl _ _)
    ·intro a w3 hA K hK
     have t17 := bg_is hA 6 17
     have t23 := bg_is hA 12 23
     go_simp
     exact hK _ _ Pg.fi_ (Below.refl _ _)
   rintro vs w4 hV hb4 hlk act hact
   repeat (replace hV := hV.is_; obtain ⟨_, rfl, hV⟩ := hV)
   obtain rfl := hV.nil_
   clear hV
   clear hlk
   simp only [putsO] at hact
   subst hact
   go_simp
   have HA4 := hid (HA.out.below hb4)
   have hbz := Below.then_ hb hb4
   clear a0 a1 a2 a3 a4
   rcases D with _ | _
   ·go_wp2_with fail
    refine ⟨⟨p + 1, by omega, by go_num, HA4, hbz⟩, ?_⟩
    simp [intOf]; omega
   ·go_wp2_with fail
    go_ret
    exact ⟨false, rfl, hbz⟩
  ·go_wp2_with fail
   go_ret
   exact ⟨true, rfl, hb⟩
end Go.Proofs.YtahdlpkncemmaaaGreat
namespace Go.Proofs.YtahdlpkncemmaaaGreat
open Go.RowKit Pg
theorem pIs_Q {y : RV} {r : RW} {b : Bool} (w : World) (h : y.at w r) (hr : r.Le 262144) (hb : r.norm = b) :
  Calls Tryz.prog 37 #[.agg #[.bool y.s, .slice y.A y.n y.c, .slice y.A' y.n' y.c']] w fun e w' => e = .returned (.bool b) ∧ Below w.heap.size w w' := by
 subst hb; exact rIs_any w h hr
theorem Is_C {va : Value} {a : CW} {N : Int} (w : World) (ha : ConVal w va a) (hle : a.Le 262144) (hN : N ≤ 9223372036854775807) {Q : Bool} (hQ : isW a N = Q) :
  Calls Tryz.prog 18 #[va, .int .i64 N] w fun e w' => e = .returned (.bool Q) ∧ Below w.heap.size w w' := by
 obtain ⟨T, n, m, x, rfl, hca⟩ := ha.cv
 obtain ⟨E, hE⟩ : ∃ E, a.r.norm = E := ⟨_, rfl⟩
 simp only [isW] at hQ
 rw [hE] at hQ
 have HI := hid fun W (hW : Below w.heap.size w W) => rIs_any W (hca.2.below hW) hle.2
 rw [hE] at HI
 have HTa := hid hca.1
 have HLa := hid hle.1
 have hna : a.t.length = n := hca.1.1
 have hnb : n ≤ 140737488355328 := by have := hca.1; have h1 := this.2.1; have h2 := this.2.2.1; omega
 clear ha hle hca hE
 go_enter Tryz.func18, Tryz.ntmps18
 go_upto_region 1 with fail
 refine wp_world (F := fun W => Bs W w.heap.size 36 [.int .i64 a.s, .slice T n m, .bool x.s, .slice x.A x.n x.c, .slice x.A' x.n' x.c'] ∧ Below w.heap.size w W)
  ⟨Bs.new w _ _ _ rfl, Pg.bel⟩ ?_
 rintro w1 ⟨HA1, hb1⟩
 have a0 := HA1.cell 0 rfl
 have a1 := HA1.cell 1 rfl
 have a2 := HA1.cell 2 rfl
 have a3 := HA1.cell 3 rfl
 have a4 := HA1.cell 4 rfl
 have HA := hid HA1
 by_cases s1 : a.s < 0
 ·have s1' := decide_eq_true s1
  obtain rfl : Q = false := by rw [← hQ, decide_eq_false (show ¬ 0 ≤ a.s by omega)]; simp
  clear hQ
  go_wp2_with fail
  go_ret
  exact ⟨rfl, hb1⟩
 by_cases s2 : 4 < a.s
 ·have s2' := decide_eq_true s2
  obtain rfl : Q = false := by rw [← hQ, decide_eq_false (show ¬ a.s ≤ 4 by omega)]; simp
  clear hQ
  go_wp2_with fail
  go_ret
  exact ⟨rfl, hb1⟩
 rw [decide_eq_true (show 0 ≤ a.s by omega), decide_eq_true (show a.s ≤ 4 by omega)] at hQ
 rcases E with _ | _
 ·obtain rfl : Q = false := by rw [← hQ]; simp
  clear hQ
  go_wp2_with (go_at_call 37; (with_reducible refine (HI.out _ hb1).mono ?_); rintro e w5 ⟨rfl, hb5⟩)
  go_ret
  exact ⟨rfl, Below.then_ hb1 hb5⟩
 have HQ : Hid (isL N 0 a.t = Q) := hid (by rw [← hQ]; simp)
 clear hQ
 go_wp2_with (go_at_call 37; (with_reducible refine (HI.out _ hb1).mono ?_); rintro e w5 ⟨rfl, hb5⟩; have HA5 := hid (HA.out.below hb5); have hbw := Below.then_ hb1 hb5; clear a0 a1 a2 a3 a4 hb5 HA1; have a0 := HA5.out.cell 0 rfl; have a1 := HA5.out.cell 1 rfl; have a2 := HA5.out.cell 2 rfl; have a3 := HA5.out.cell 3 rfl; have a4 := HA5.out.cell 4 rfl)
 go_loopw [5, 25] (fun q i wr => ∃ (j : Nat) (q' : Int), j ≤ n ∧ i = .int .i64 (j : Int) ∧ q = .int .i64 q' ∧ 0 ≤ q' ∧ Hid (isL N q' (a.t.drop j) = Q) ∧ Below w.heap.size w wr) (fun _ i _ => n - (intOf i).toNat)
 case atStart => exact ⟨0, 0, Nat.zero_le _, rfl, rfl, by omega, hid HQ.out, hbw⟩
 case round =>
  clear hbw hb1 a0 a1 a2 a3 a4 HA HA5 HI
  obtain ⟨j, q, hj, rfl, rfl, hq0, HQ, hb⟩ := hrel
  by_cases hlt : j < n
  ·obtain ⟨_, _, _, _, _, e6⟩ := HTa.out
   obtain ⟨b, o, rfl, hbb, hx⟩ := e6 (by omega)
   obtain ⟨t, ht⟩ : ∃ t, a.t[j]? = some t := ⟨a.t[j]'(by omega), List.getElem?_eq_getElem _⟩
   obtain ⟨_, _, _, hc, hu0⟩ := termAt_stays _ _ _ _ _ hbb (hx j t ht) hb
   obtain ⟨u, rfl, rfl, rfl, hu⟩ := rows_rv hu0
   have hul := rvat_len hu
   have HL := hid (HLa.out t (List.mem_of_getElem? ht))
   have i1 : (j : Int) < (n : Int) := by omega
   have i0 : (0 : Int) ≤ (j : Int) := by omega
   have hl := HQ.out
   rw [drop_cons ht] at hl
   simp only [isL] at hl
   have y0 : wr.cell? ⟨b, o + j * 4, none⟩ = some (.int .i64 t.v) := hc.at_ 0 rfl
   have y1 := hc.at_ 1 rfl
   have y2 := hc.at_ 2 rfl
   have y3 := hc.at_ 3 rfl
   go_upto_region 7 with fail
   refine wp_world (F := NewBs wr 65 [.int .i64 t.v, .bool u.s, .slice u.A u.n u.c, .slice u.A' u.n' u.c']) (made_new _ _ _) ?_
   rintro w3 ⟨HT3, hb3, _⟩
   have HU3 := hid (hu.below hb3)
   have hw3 := Below.then_ hb hb3
   have z0 := HT3.cell 0 rfl
   have z1 := HT3.cell 1 rfl
   have z2 := HT3.cell 2 rfl
   have z3 := HT3.cell 3 rfl
   replace HT3 := hid HT3
   clear e6 hx ht hc hu0 hu y0 y1 y2 y3
   by_cases v1 : t.v < q
   ·have HF : Hid (Q = false) := hid (by rw [← hl, decide_eq_false (show ¬ q ≤ t.v by omega)]; simp)
    have v1' := decide_eq_true v1
    clear hl
    go_wp2_with fail
    go_ret
    exact ⟨by rw [HF.out]; rfl, hw3⟩
   have v1' := decide_eq_false v1
   by_cases v2 : N ≤ t.v
   ·have HF : Hid (Q = false) := hid (by rw [← hl, decide_eq_false (show ¬ t.v < N by omega)]; simp)
    have v2' := decide_eq_true v2
    clear hl
    go_wp2_with fail
    go_ret
    exact ⟨by rw [HF.out]; rfl, hw3⟩
   have v2' := decide_eq_false v2
   obtain ⟨D, hD⟩ : ∃ D, t.r.norm = D := ⟨_, rfl⟩
   rcases D with _ | _
   ·have HF : Hid (Q = false) := hid (by rw [← hl, hD]; simp)
    clear hl
    go_wp2_with (go_at_call 37; (with_reducible refine (pIs_Q _ HU3.out HL.out hD).mono ?_); rintro e w4 ⟨rfl, hb4⟩; have HT4 := hid (HT3.out.below hb4); have hbz := Below.then_ hw3 hb4; clear z0 z1 z2 z3; have y0 := HT4.out.cell 0 rfl; have y1 := HT4.out.cell 1 rfl; have y2 := HT4.out.cell 2 rfl; have y3 := HT4.out.cell 3 rfl)
    go_ret
    exact ⟨by rw [HF.out]; rfl, hbz⟩
   by_cases v5 : t.r.xs = []
   ·have HF : Hid (Q = false) := hid (by rw [← hl, v5]; simp)
    have hz : ((u.n : Int) == 0) = true := by rw [← hul, v5]; rfl
    clear hl v5
    go_wp2_with (go_at_call 37; (with_reducible refine (pIs_Q _ HU3.out HL.out hD).mono ?_); rintro e w4 ⟨rfl, hb4⟩; have HT4 := hid (HT3.out.below hb4); have hbz := Below.then_ hw3 hb4; clear z0 z1 z2 z3; have y0 := HT4.out.cell 0 rfl; have y1 := HT4.out.cell 1 rfl; have y2 := HT4.out.cell 2 rfl; have y3 := HT4.out.cell 3 rfl)
    go_ret
    exact ⟨by rw [HF.out]; rfl, hbz⟩
   have hz : ((u.n : Int) == 0) = false := by have h2 := List.length_pos_iff.2 v5; exact beq_eq_false_iff_ne.2 (by omega)
   have HL5 : Hid (isL N (t.v + 1) (a.t.drop (j + 1)) = Q) := hid (by rw [← hl, decide_eq_true (show q ≤ t.v by omega), decide_eq_true (show t.v < N by omega), hD, List.isEmpty_eq_false_iff.2 v5]; simp)
   have e1 : IntKind.i64.wrap (t.v + 1) = t.v + 1 := by rw [IntKind.wrap_i64]; omega
   clear hl v5
   go_wp2_with (go_at_call 37; (with_reducible refine (pIs_Q _ HU3.out HL.out hD).mono ?_); rintro e w4 ⟨rfl, hb4⟩; have HT4 := hid (HT3.out.below hb4); have hbz := Below.then_ hw3 hb4; clear z0 z1 z2 z3; have y0 := HT4.out.cell 0 rfl; have y1 := HT4.out.cell 1 rfl; have y2 := HT4.out.cell 2 rfl; have y3 := HT4.out.cell 3 rfl)
   refine ⟨⟨j + 1, t.v + 1, by omega, by go_num, by first | rfl | rw [e1], by omega, HL5, hbz⟩, ?_⟩
   simp [intOf]; omega
  ·obtain rfl : Q = true := by
    have h := HQ.out
    rw [List.drop_of_length_le (by omega)] at h
    rw [← h]; rfl
   go_wp2_with fail
   go_ret
   exact ⟨rfl, hb⟩
end Go.Proofs.YtahdlpkncemmaaaGreat
