/- Walk · Walk. Conditions: those that each theorem names. -/
import Derived.Test.YtahdlpkncemmaaaGreatX38
import Derived.Test.YtahdlpkncemmaaaGreatX31
set_option maxRecDepth 100000
set_option maxHeartbeats 8000000
set_option linter.unusedSimpArgs false
set_option linter.unusedVariables false
namespace Go.Proofs.YtahdlpkncemmaaaGreat
open Go.RowKit Pg
def sameT : List TW → List TW → Bool
 | t :: l, u :: m => decide (t.v = u.v) && eqQ t.r.q u.r.q && sameT l m
 | _, _ => true
def sameW (a b : CW) : Bool := decide (a.s = b.s) && decide (a.t.length = b.t.length) && eqQ a.r.q b.r.q && sameT a.t b.t
theorem sameT_refl : ∀ l : List TW, sameT l l = true
 | [] => rfl
 | t :: l => by simp [sameT, eqQ, sameT_refl l]
theorem sameW_refl (a : CW) : sameW a a = true := by simp [sameW, eqQ, sameT_refl]
theorem rSame_C {va vb : Value} {a b : CW} {k : Nat} (w : World) (ha : ConVal w va a) (hb : ConVal w vb b) (hla : a.Le k) (hlb : b.Le k) (hk : k ≤ 262144) {Q : Bool} (hQ : sameW a b = Q) :
  Calls Tryz.prog 13 #[va, vb] w fun e w' => e = .returned (.bool Q) ∧ Below w.heap.size w w' := by
 obtain ⟨T, n, m, x, rfl, hca⟩ := ha.cv
 obtain ⟨T', n', m', x', rfl, hcb⟩ := hb.cv
 obtain ⟨E, hE⟩ : ∃ E, eqQ a.r.q b.r.q = E := ⟨_, rfl⟩
 have HS := hid fun W (hW : Below w.heap.size w W) => r2Same_Q W (hca.2.below hW) (hcb.2.below hW) hla.2 hlb.2 hk hE
 have HTa := hid hca.1
 have HTb := hid hcb.1
 have HLa := hid hla.1
 have HLb := hid hlb.1
 have hna : a.t.length = n := hca.1.1
 have hnb : b.t.length = n' := hcb.1.1
 have hQ' : Q = (decide (a.s = b.s) && decide (n = n') && E && sameT a.t b.t) := by rw [← hQ, sameW, hna, hnb, hE]
 clear ha hb hla hlb hQ hca hcb
 go_enter Tryz.func13, Tryz.ntmps13
 go_upto_region 1 with fail
 refine wp_world (F := fun W => (Bs W w.heap.size 36 [.int .i64 a.s, .slice T n m, .bool x.s, .slice x.A x.n x.c, .slice x.A' x.n' x.c'] ∧ Bs W (w.heap.size + 1) 36 [.int .i64 b.s, .slice T' n' m', .bool x'.s, .slice x'.A x'.n x'.c, .slice x'.A' x'.n' x'.c']) ∧ Below w.heap.size w W)
  ⟨⟨(Bs.new w _ _ _ rfl).alloc _, Bs.new _ _ _ _ (by simp)⟩, Pg.bel⟩ ?_
 rintro w1 ⟨⟨HA1, HB1⟩, hb1⟩
 have a0 := HA1.cell 0 rfl
 have a1 := HA1.cell 1 rfl
 have a2 := HA1.cell 2 rfl
 have a3 := HA1.cell 3 rfl
 have a4 := HA1.cell 4 rfl
 have b0 := HB1.cell 0 rfl
 have b1 := HB1.cell 1 rfl
 have b2 := HB1.cell 2 rfl
 have b3 := HB1.cell 3 rfl
 have b4 := HB1.cell 4 rfl
 by_cases hs : a.s = b.s
 ·have s1 : (a.s != b.s) = false := by rw [hs]; simp
  by_cases hn : n = n'
  ·have s2 : ((n : Int) != (n' : Int)) = false := by rw [hn]; simp
   rcases E with _ | _
   ·obtain rfl : Q = false := by rw [hQ']; simp
    clear hQ' hs hn
    go_wp2_with (go_at_call 24; (with_reducible refine (HS.out _ hb1).mono ?_); rintro e w5 ⟨rfl, hb5⟩)
    go_ret
    exact ⟨rfl, Below.then_ hb1 hb5⟩
   ·have HQ := hid (show sameT a.t b.t = Q by rw [hQ', hs, hn]; simp)
    have hz0 : ((0 : Int) ≤ 0) := by omega
    have hn1 : n ≤ n' := by omega
    have hn2 : n' ≤ n := by omega
    clear hQ' hs hn
    have HA := hid HA1
    have HB := hid HB1
    go_wp2_with (go_at_call 24; (with_reducible refine (HS.out _ hb1).mono ?_); rintro e w5 ⟨rfl, hb5⟩; have HA5 := hid (HA.out.below hb5); have HB5 := hid (HB.out.below hb5); have hbw := Below.then_ hb1 hb5; clear a0 a1 a2 a3 a4 b0 b1 b2 b3 b4 hb5 HA1 HB1)
    go_loopw [5] (fun i wr => ∃ j : Nat, j ≤ n ∧ i = .int .i64 (j : Int) ∧ Hid (sameT (a.t.drop j) (b.t.drop j) = Q) ∧ Hid (Bs wr w.heap.size 36 [.int .i64 a.s, .slice T n m, .bool x.s, .slice x.A x.n x.c, .slice x.A' x.n' x.c']) ∧ Hid (Bs wr (w.heap.size + 1) 36 [.int .i64 b.s, .slice T' n' m', .bool x'.s, .slice x'.A x'.n x'.c, .slice x'.A' x'.n' x'.c']) ∧ Below w.heap.size w wr) (fun i _ => n - (intOf i).toNat)
    case atStart => exact ⟨0, Nat.zero_le _, rfl, hid HQ.out, HA5, HB5, hbw⟩
    case round =>
     obtain ⟨j, hj, rfl, HQ, HA, HB, hb⟩ := hrel
     clear HA5 HB5 hbw hb1
     have a0 := HA.out.cell 0 rfl
     have a1 := HA.out.cell 1 rfl
     have a2 := HA.out.cell 2 rfl
     have a3 := HA.out.cell 3 rfl
     have a4 := HA.out.cell 4 rfl
     have b0 := HB.out.cell 0 rfl
     have b1 := HB.out.cell 1 rfl
     have b2 := HB.out.cell 2 rfl
     have b3 := HB.out.cell 3 rfl
     have b4 := HB.out.cell 4 rfl
     by_cases hlt : j < n
     ·have hlt' : j < n' := by omega
      obtain ⟨e1L, _, _, _, _, e6L⟩ := HTa.out
      obtain ⟨bL, oL, rfl, hbL, hxL⟩ := e6L (by omega)
      obtain ⟨tL, htL⟩ : ∃ t, a.t[j]? = some t := ⟨a.t[j]'(by omega), List.getElem?_eq_getElem _⟩
      obtain ⟨x0L, x1L, x2L, hcL, hu0L⟩ := termAt_stays _ _ _ _ _ hbL (hxL j tL htL) hb
      obtain ⟨uL, rfl, rfl, rfl, huL⟩ := rows_rv hu0L
      have HCL := hid hcL
      have HUL := hid huL
      have HleL := HLa.out tL (List.mem_of_getElem? htL)
      have hdL := hid (drop_cons htL)
      have ltL : bL < wr.heap.size := Nat.lt_of_lt_of_le hbL hb.size
      have iL1 : (j : Int) < (n : Int) := by omega
      clear e1L e6L hxL htL hcL hu0L huL
      obtain ⟨e1M, _, _, _, _, e6M⟩ := HTb.out
      obtain ⟨bM, oM, rfl, hbM, hxM⟩ := e6M (by omega)
      obtain ⟨tM, htM⟩ : ∃ t, b.t[j]? = some t := ⟨b.t[j]'(by omega), List.getElem?_eq_getElem _⟩
      obtain ⟨x0M, x1M, x2M, hcM, hu0M⟩ := termAt_stays _ _ _ _ _ hbM (hxM j tM htM) hb
      obtain ⟨uM, rfl, rfl, rfl, huM⟩ := rows_rv hu0M
      have HCM := hid hcM
      have HUM := hid huM
      have HleM := HLb.out tM (List.mem_of_getElem? htM)
      have hdM := hid (drop_cons htM)
      have ltM : bM < wr.heap.size := Nat.lt_of_lt_of_le hbM hb.size
      have iM1 : (j : Int) < (n' : Int) := by omega
      clear e1M e6M hxM htM hcM hu0M huM
      replace HQ := HQ.out
      rw [hdL.out, hdM.out] at HQ
      simp only [sameT] at HQ
      replace HQ := hid HQ
      by_cases hv : tL.v = tM.v
      ·have v1 : (tL.v != tM.v) = false := by rw [hv]; simp
       obtain ⟨E, hE⟩ : ∃ E, eqQ tL.r.q tM.r.q = E := ⟨_, rfl⟩
       replace HQ := HQ.out
       rw [hE, decide_eq_true hv] at HQ
       replace HQ := hid HQ
       clear hv
       rcases E with _ | _
       ·obtain rfl : false = Q := HQ.out
        go_upto_region 6 with fail
        refine draw_G (fun _ _ => False) (fun W => Below wr.heap.size wr W) 29 none [some 35, some 36, some 37, some 38, some 39, some 40, some 41, some 42, some 43, some 44, some 45, some 46, some 47, some 48, some 49, some 50, some 51, some 52, some 53, some 54, some 55, some 56, some 57, some 58, some 59, some 60, some 61, some 62, some 63] [.is (.pointer (some ⟨w.heap.size, 1, none⟩)), .is (.slice (some ⟨bL, oL, none⟩) n m), .is (.int .i64 (j : Int)), .is (.pointer (some ⟨bL, oL + j * 4, none⟩)), .is (.pointer (some ⟨bL, oL + j * 4, none⟩)), .is (.int .i64 tL.v), .is (.pointer (some ⟨w.heap.size + 1, 1, none⟩)), .is (.slice (some ⟨bM, oM, none⟩) n' m'), .is (.int .i64 (j : Int)), .is (.pointer (some ⟨bM, oM + j * 4, none⟩)), .is (.pointer (some ⟨bM, oM + j * 4, none⟩)), .is (.int .i64 tM.v), .is (.bool false), .is (.bool false), .is (.pointer (some ⟨w.heap.size, 1, none⟩)), .is (.slice (some ⟨bL, oL, none⟩) n m), .is (.int .i64 (j : Int)), .is (.pointer (some ⟨bL, oL + j * 4, none⟩)), .is (.pointer (some ⟨bL, oL + j * 4 + 1, none⟩)), .is (.agg #[.bool uL.s, .slice uL.A uL.n uL.c, .slice uL.A' uL.n' uL.c']), .is (.pointer (some ⟨w.heap.size + 1, 1, none⟩)), .is (.slice (some ⟨bM, oM, none⟩) n' m'), .is (.int .i64 (j : Int)), .is (.pointer (some ⟨bM, oM + j * 4, none⟩)), .is (.pointer (some ⟨bM, oM + j * 4 + 1, none⟩)), .is (.agg #[.bool uM.s, .slice uM.A uM.n uM.c, .slice uM.A' uM.n' uM.c']), .is (.bool false), .is (.bool true), .is (.bool true)]
         (by kernel_rfl) (by kernel_rfl) (by kernel_rfl) (by kernel_rfl) rfl (by kernel_rfl) (fun _ h => h) (fun _ _ h hb => Below.then_ h hb) (fun _ _ _ h => h.elim) (fun _ _ _ _ _ _ h => h.elim) ?_ ?_
        ·refine ⟨?_, ?_, ?_, ?_, ?_, ?_, ?_, ?_, ?_, ?_, ?_, ?_, ?_, ?_, ?_, ?_, ?_, ?_, ?_, ?_, ?_, ?_, ?_, ?_, ?_, ?_, ?_, ?_, ?_, trivial⟩
         ·intro a w3 hA K hK
          have t2 := hA.old 2 _ rfl rfl
          go_simp
          exact hK _ _ rfl (Below.refl _ _)
         ·intro a w3 hA K hK
          have t35 := bg_is hA 0 35
          have k0 := (HA.out.below hA.grown).cell 1 rfl
          go_simp
          exact hK _ _ rfl (Below.refl _ _)
         ·intro a w3 hA K hK
          have t5 := hA.old 5 _ rfl rfl
          go_simp
          exact hK _ _ rfl (Below.refl _ _)
         ·intro a w3 hA K hK
          have t36 := bg_is hA 1 36
          have t37 := bg_is hA 2 37
          go_simp
          exact hK _ _ Pg.fi_ (Below.refl _ _)
         ·intro a w3 hA K hK
          have t38 := bg_is hA 3 38
          go_simp
          exact hK _ _ rfl (Below.refl _ _)
         ·intro a w3 hA K hK
          have t39 := bg_is hA 4 39
          have k0 : w3.cell? ⟨bL, oL + j * 4, none⟩ = some (.int .i64 tL.v) := (HCL.out.below ltL hA.grown).at_ 0 rfl
          go_simp
          exact hK _ _ rfl (Below.refl _ _)
         ·intro a w3 hA K hK
          have t3 := hA.old 3 _ rfl rfl
          go_simp
          exact hK _ _ rfl (Below.refl _ _)
         ·intro a w3 hA K hK
          have t41 := bg_is hA 6 41
          have k0 := (HB.out.below hA.grown).cell 1 rfl
          go_simp
          exact hK _ _ rfl (Below.refl _ _)
         ·intro a w3 hA K hK
          have t5 := hA.old 5 _ rfl rfl
          go_simp
          exact hK _ _ rfl (Below.refl _ _)
         ·intro a w3 hA K hK
          have t42 := bg_is hA 7 42
          have t43 := bg_is hA 8 43
          go_simp
          exact hK _ _ Pg.fi_ (Below.refl _ _)
         ·intro a w3 hA K hK
          have t44 := bg_is hA 9 44
          go_simp
          exact hK _ _ rfl (Below.refl _ _)
         ·intro a w3 hA K hK
          have t45 := bg_is hA 10 45
          have k0 : w3.cell? ⟨bM, oM + j * 4, none⟩ = some (.int .i64 tM.v) := (HCM.out.below ltM hA.grown).at_ 0 rfl
          go_simp
          exact hK _ _ rfl (Below.refl _ _)
         ·intro a w3 hA K hK
          have t40 := bg_is hA 5 40
          have t46 := bg_is hA 11 46
          go_simp
          exact hK _ _ Pg.fi_ (Below.refl _ _)
         ·intro a w3 hA K hK
          have t47 := bg_is hA 12 47
          go_simp
          exact hK _ _ rfl (Below.refl _ _)
         ·intro a w3 hA K hK
          have t2 := hA.old 2 _ rfl rfl
          go_simp
          exact hK _ _ rfl (Below.refl _ _)
         ·intro a w3 hA K hK
          have t49 := bg_is hA 14 49
          have k0 := (HA.out.below hA.grown).cell 1 rfl
          go_simp
          exact hK _ _ rfl (Below.refl _ _)
         ·intro a w3 hA K hK
          have t5 := hA.old 5 _ rfl rfl
          go_simp
          exact hK _ _ rfl (Below.refl _ _)
         ·intro a w3 hA K hK
          have t50 := bg_is hA 15 50
          have t51 := bg_is hA 16 51
          go_simp
          exact hK _ _ Pg.fi_ (Below.refl _ _)
         ·intro a w3 hA K hK
          have t52 := bg_is hA 17 52
          go_simp
          exact hK _ _ rfl (Below.refl _ _)
         ·intro a w3 hA K hK
          have t53 := bg_is hA 18 53
          have k0 := (HCL.out.below ltL hA.grown).at_ 1 rfl
          have k1 := (HCL.out.below ltL hA.grown).at_ 2 rfl
          have k2 := (HCL.out.below ltL hA.grown).at_ 3 rfl
          go_simp
          exact hK _ _ rfl (Below.refl _ _)
         ·intro a w3 hA K hK
          have t3 := hA.old 3 _ rfl rfl
          go_simp
          exact hK _ _ rfl (Below.refl _ _)
         ·intro a w3 hA K hK
          have t55 := bg_is hA 20 55
          have k0 := (HB.out.below hA.grown).cell 1 rfl
          go_simp
          exact hK _ _ rfl (Below.refl _ _)
         ·intro a w3 hA K hK
          have t5 := hA.old 5 _ rfl rfl
          go_simp
          exact hK _ _ rfl (Below.refl _ _)
         ·intro a w3 hA K hK
          have t56 := bg_is hA 21 56
          have t57 := bg_is hA 22 57
          go_simp
          exact hK _ _ Pg.fi_ (Below.refl _ _)
         ·intro a w3 hA K hK
          have t58 := bg_is hA 23 58
          go_simp
          exact hK _ _ rfl (Below.refl _ _)
         ·intro a w3 hA K hK
          have t59 := bg_is hA 24 59
          have k0 := (HCM.out.below ltM hA.grown).at_ 1 rfl
          have k1 := (HCM.out.below ltM hA.grown).at_ 2 rfl
          have k2 := (HCM.out.below ltM hA.grown).at_ 3 rfl
          go_simp
          exact hK _ _ rfl (Below.refl _ _)
         ·intro a w3 hA K hK
          have t54 := bg_is hA 19 54
          have t60 := bg_is hA 25 60
          have hC := r2Same_Q w3 (HUL.out.below hA.grown) (HUM.out.below hA.grown) HleL HleM hk hE
          go_simp
          refine hC.mono ?_
          rintro e w4 ⟨rfl, hb⟩
          exact hK _ _ rfl hb
         ·intro a w3 hA K hK
          have t61 := bg_is hA 26 61
          go_simp
          exact hK _ _ Pg.fi_ (Below.refl _ _)
         ·intro a w3 hA K hK
          have t48 := bg_is hA 13 48
          have t62 := bg_is hA 27 62
          go_simp
          exact hK _ _ Pg.fi_ (Below.refl _ _)
        rintro vs w4 hV hb4 hlk act hact
        repeat (replace hV := hV.is_; obtain ⟨_, rfl, hV⟩ := hV)
        obtain rfl := hV.nil_
        clear hV
        clear hlk
        simp only [putsO] at hact
        subst hact
        go_simp
        have hbz := Below.then_ hb hb4
        go_wp2_with fail
        go_ret
        exact ⟨rfl, hbz⟩
       ·have HQ' := hid (show sameT (a.t.drop (j + 1)) (b.t.drop (j + 1)) = Q by rw [← HQ.out]; simp)
        go_upto_region 6 with fail
        refine draw_G (fun _ _ => False) (fun W => Below wr.heap.size wr W) 29 none [some 35, some 36, some 37, some 38, some 39, some 40, some 41, some 42, some 43, some 44, some 45, some 46, some 47, some 48, some 49, some 50, some 51, some 52, some 53, some 54, some 55, some 56, some 57, some 58, some 59, some 60, some 61, some 62, some 63] [.is (.pointer (some ⟨w.heap.size, 1, none⟩)), .is (.slice (some ⟨bL, oL, none⟩) n m), .is (.int .i64 (j : Int)), .is (.pointer (some ⟨bL, oL + j * 4, none⟩)), .is (.pointer (some ⟨bL, oL + j * 4, none⟩)), .is (.int .i64 tL.v), .is (.pointer (some ⟨w.heap.size + 1, 1, none⟩)), .is (.slice (some ⟨bM, oM, none⟩) n' m'), .is (.int .i64 (j : Int)), .is (.pointer (some ⟨bM, oM + j * 4, none⟩)), .is (.pointer (some ⟨bM, oM + j * 4, none⟩)), .is (.int .i64 tM.v), .is (.bool false), .is (.bool false), .is (.pointer (some ⟨w.heap.size, 1, none⟩)), .is (.slice (some ⟨bL, oL, none⟩) n m), .is (.int .i64 (j : Int)), .is (.pointer (some ⟨bL, oL + j * 4, none⟩)), .is (.pointer (some ⟨bL, oL + j * 4 + 1, none⟩)), .is (.agg #[.bool uL.s, .slice uL.A uL.n uL.c, .slice uL.A' uL.n' uL.c']), .is (.pointer (some ⟨w.heap.size + 1, 1, none⟩)), .is (.slice (some ⟨bM, oM, none⟩) n' m'), .is (.int .i64 (j : Int)), .is (.pointer (some ⟨bM, oM + j * 4, none⟩)), .is (.pointer (some ⟨bM, oM + j * 4 + 1, none⟩)), .is (.agg #[.bool uM.s, .slice uM.A uM.n uM.c, .slice uM.A' uM.n' uM.c']), .is (.bool true), .is (.bool false), .is (.bool false)]
         (by kernel_rfl) (by kernel_rfl) (by kernel_rfl) (by kernel_rfl) rfl (by kernel_rfl) (fun _ h => h) (fun _ _ h hb => Below.then_ h hb) (fun _ _ _ h => h.elim) (fun _ _ _ _ _ _ h => h.elim) ?_ ?_
        ·refine ⟨?_, ?_, ?_, ?_, ?_, ?_, ?_, ?_, ?_, ?_, ?_, ?_, ?_, ?_, ?_, ?_, ?_, ?_, ?_, ?_, ?_, ?_, ?_, ?_, ?_, ?_, ?_, ?_, ?_, trivial⟩
         ·intro a w3 hA K hK
          have t2 := hA.old 2 _ rfl rfl
          go_simp
          exact hK _ _ rfl (Below.refl _ _)
         ·intro a w3 hA K hK
          have t35 := bg_is hA 0 35
          have k0 := (HA.out.below hA.grown).cell 1 rfl
          go_simp
          exact hK _ _ rfl (Below.refl _ _)
         ·intro a w3 hA K hK
          have t5 := hA.old 5 _ rfl rfl
          go_simp
          exact hK _ _ rfl (Below.refl _ _)
         ·intro a w3 hA K hK
          have t36 := bg_is hA 1 36
          have t37 := bg_is hA 2 37
          go_simp
          exact hK _ _ Pg.fi_ (Below.refl _ _)
         ·intro a w3 hA K hK
          have t38 := bg_is hA 3 38
          go_simp
          exact hK _ _ rfl (Below.refl _ _)
         ·intro a w3 hA K hK
          have t39 := bg_is hA 4 39
          have k0 : w3.cell? ⟨bL, oL + j * 4, none⟩ = some (.int .i64 tL.v) := (HCL.out.below ltL hA.grown).at_ 0 rfl
          go_simp
          exact hK _ _ rfl (Below.refl _ _)
         ·intro a w3 hA K hK
          have t3 := hA.old 3 _ rfl rfl
          go_simp
          exact hK _ _ rfl (Below.refl _ _)
         ·intro a w3 hA K hK
          have t41 := bg_is hA 6 41
          have k0 := (HB.out.below hA.grown).cell 1 rfl
          go_simp
          exact hK _ _ rfl (Below.refl _ _)
         ·intro a w3 hA K hK
          have t5 := hA.old 5 _ rfl rfl
          go_simp
          exact hK _ _ rfl (Below.refl _ _)
         ·intro a w3 hA K hK
          have t42 := bg_is hA 7 42
          have t43 := bg_is hA 8 43
          go_simp
          exact hK _ _ Pg.fi_ (Below.refl _ _)
         ·intro a w3 hA K hK
          have t44 := bg_is hA 9 44
          go_simp
          exact hK _ _ rfl (Below.refl _ _)
         ·intro a w3 hA K hK
          have t45 := bg_is hA 10 45
          have k0 : w3.cell? ⟨bM, oM + j * 4, none⟩ = some (.int .i64 tM.v) := (HCM.out.below ltM hA.grown).at_ 0 rfl
          go_simp
          exact hK _ _ rfl (Below.refl _ _)
         ·intro a w3 hA K hK
          have t40 := bg_is hA 5 40
          have t46 := bg_is hA 11 46
          go_simp
          exact hK _ _ Pg.fi_ (Below.refl _ _)
         ·intro a w3 hA K hK
          have t47 := bg_is hA 12 47
          go_simp
          exact hK _ _ rfl (Below.refl _ _)
         ·intro a w3 hA K hK
          have t2 := hA.old 2 _ rfl rfl
          go_simp
          exact hK _ _ rfl (Below.refl _ _)
         ·intro a w3 hA K hK
          have t49 := bg_is hA 14 49
          have k0 := (HA.out.below hA.grown).cell 1 rfl
          go_simp
          exact hK _ _ rfl (Below.refl _ _)
         ·intro a w3 hA K hK
          have t5 := hA.old 5 _ rfl rfl
          go_simp
          exact hK _ _ rfl (Below.refl _ _)
         ·intro a w3 hA K hK
          have t50 := bg_is hA 15 50
          have t51 := bg_is hA 16 51
          go_simp
          exact hK _ _ Pg.fi_ (Below.refl _ _)
         ·intro a w3 hA K hK
          have t52 := bg_is hA 17 52
          go_simp
          exact hK _ _ rfl (Below.refl _ _)
         ·intro a w3 hA K hK
          have t53 := bg_is hA 18 53
          have k0 := (HCL.out.below ltL hA.grown).at_ 1 rfl
          have k1 := (HCL.out.below ltL hA.grown).at_ 2 rfl
          have k2 := (HCL.out.below ltL hA.grown).at_ 3 rfl
          go_simp
          exact hK _ _ rfl (Below.refl _ _)
         ·intro a w3 hA K hK
          have t3 := hA.old 3 _ rfl rfl
          go_simp
          exact hK _ _ rfl (Below.refl _ _)
         ·intro a w3 hA K hK
          have t55 := bg_is hA 20 55
          have k0 := (HB.out.below hA.grown).cell 1 rfl
          go_simp
          exact hK _ _ rfl (Below.refl _ _)
         ·intro a w3 hA K hK
          have t5 := hA.old 5 _ rfl rfl
          go_simp
          exact hK _ _ rfl (Below.refl _ _)
         ·intro a w3 hA K hK
          have t56 := bg_is hA 21 56
          have t57 := bg_is hA 22 57
          go_simp
          exact hK _ _ Pg.fi_ (Below.refl _ _)
         ·intro a w3 hA K hK
          have t58 := bg_is hA 23 58
          go_simp
          exact hK _ _ rfl (Below.refl _ _)
         ·intro a w3 hA K hK
          have t59 := bg_is hA 24 59
          have k0 := (HCM.out.below ltM hA.grown).at_ 1 rfl
          have k1 := (HCM.out.below ltM hA.grown).at_ 2 rfl
          have k2 := (HCM.out.below ltM hA.grown).at_ 3 rfl
          go_simp
          exact hK _ _ rfl (Below.refl _ _)
         ·intro a w3 hA K hK
          have t54 := bg_is hA 19 54
          have t60 := bg_is hA 25 60
          have hC := r2Same_Q w3 (HUL.out.below hA.grown) (HUM.out.below hA.grown) HleL HleM hk hE
          go_simp
          refine hC.mono ?_
          rintro e w4 ⟨rfl, hb⟩
          exact hK _ _ rfl hb
         ·intro a w3 hA K hK
          have t61 := bg_is hA 26 61
          go_simp
          exact hK _ _ Pg.fi_ (Below.refl _ _)
         ·intro a w3 hA K hK
          have t48 := bg_is hA 13 48
          have t62 := bg_is hA 27 62
          go_simp
          exact hK _ _ Pg.fi_ (Below.refl _ _)
        rintro vs w4 hV hb4 hlk act hact
        repeat (replace hV := hV.is_; obtain ⟨_, rfl, hV⟩ := hV)
        obtain rfl := hV.nil_
        clear hV
        clear hlk
        simp only [putsO] at hact
        subst hact
        go_simp
        have hbz := Below.then_ hb hb4
        have HA4 := hid (HA.out.below hb4)
        have HB4 := hid (HB.out.below hb4)
        clear a0 a1 a2 a3 a4 b0 b1 b2 b3 b4
        go_wp2_with fail
        refine ⟨⟨j + 1, hlt, by go_num, HQ', HA4, HB4, hbz⟩, ?_⟩
        simp [intOf]; omega
      ·have v1 : (tL.v != tM.v) = true := bne_iff_ne.2 hv
       obtain rfl : false = Q := by rw [← HQ.out, decide_eq_false hv]; rfl
       go_upto_region 6 with fail
       refine draw_G (fun _ _ => False) (fun W => Below wr.heap.size wr W) 29 none [some 35, some 36, some 37, some 38, some 39, some 40, some 41, some 42, some 43, some 44, some 45, some 46, some 47, some 48, some 49, some 50, some 51, some 52, some 53, some 54, some 55, some 56, some 57, some 58, some 59, some 60, some 61, some 62, some 63] [.is (.pointer (some ⟨w.heap.size, 1, none⟩)), .is (.slice (some ⟨bL, oL, none⟩) n m), .is (.int .i64 (j : Int)), .is (.pointer (some ⟨bL, oL + j * 4, none⟩)), .is (.pointer (some ⟨bL, oL + j * 4, none⟩)), .is (.int .i64 tL.v), .is (.pointer (some ⟨w.heap.size + 1, 1, none⟩)), .is (.slice (some ⟨bM, oM, none⟩) n' m'), .is (.int .i64 (j : Int)), .is (.pointer (some ⟨bM, oM + j * 4, none⟩)), .is (.pointer (some ⟨bM, oM + j * 4, none⟩)), .is (.int .i64 tM.v), .is (.bool true), .is (.bool true), .is (undef), .is (undef), .is (undef), .is (undef), .is (undef), .is (undef), .is (undef), .is (undef), .is (undef), .is (undef), .is (undef), .is (undef), .is (undef), .is (undef), .is (.bool true)]
        (by kernel_rfl) (by kernel_rfl) (by kernel_rfl) (by kernel_rfl) rfl (by kernel_rfl) (fun _ h => h) (fun _ _ h hb => Below.then_ h hb) (fun _ _ _ h => h.elim) (fun _ _ _ _ _ _ h => h.elim) ?_ ?_
       ·refine ⟨?_, ?_, ?_, ?_, ?_, ?_, ?_, ?_, ?_, ?_, ?_, ?_, ?_, ?_, ?_, ?_, ?_, ?_, ?_, ?_, ?_, ?_, ?_, ?_, ?_, ?_, ?_, ?_, ?_, trivial⟩
        ·intro a w3 hA K hK
         have t2 := hA.old 2 _ rfl rfl
         go_simp
         exact hK _ _ rfl (Below.refl _ _)
        ·intro a w3 hA K hK
         have t35 := bg_is hA 0 35
         have k0 := (HA.out.below hA.grown).cell 1 rfl
         go_simp
         exact hK _ _ rfl (Below.refl _ _)
        ·intro a w3 hA K hK
         have t5 := hA.old 5 _ rfl rfl
         go_simp
         exact hK _ _ rfl (Below.refl _ _)
        ·intro a w3 hA K hK
         have t36 := bg_is hA 1 36
         have t37 := bg_is hA 2 37
         go_simp
         exact hK _ _ Pg.fi_ (Below.refl _ _)
        ·intro a w3 hA K hK
         have t38 := bg_is hA 3 38
         go_simp
         exact hK _ _ rfl (Below.refl _ _)
        ·intro a w3 hA K hK
         have t39 := bg_is hA 4 39
         have k0 : w3.cell? ⟨bL, oL + j * 4, none⟩ = some (.int .i64 tL.v) := (HCL.out.below ltL hA.grown).at_ 0 rfl
         go_simp
         exact hK _ _ rfl (Below.refl _ _)
        ·intro a w3 hA K hK
         have t3 := hA.old 3 _ rfl rfl
         go_simp
         exact hK _ _ rfl (Below.refl _ _)
        ·intro a w3 hA K hK
         have t41 := bg_is hA 6 41
         have k0 := (HB.out.below hA.grown).cell 1 rfl
         go_simp
         exact hK _ _ rfl (Below.refl _ _)
        ·intro a w3 hA K hK
         have t5 := hA.old 5 _ rfl rfl
         go_simp
         exact hK _ _ rfl (Below.refl _ _)
        ·intro a w3 hA K hK
         have t42 := bg_is hA 7 42
         have t43 := bg_is hA 8 43
         go_simp
         exact hK _ _ Pg.fi_ (Below.refl _ _)
        ·intro a w3 hA K hK
         have t44 := bg_is hA 9 44
         go_simp
         exact hK _ _ rfl (Below.refl _ _)
        ·intro a w3 hA K hK
         have t45 := bg_is hA 10 45
         have k0 : w3.cell? ⟨bM, oM + j * 4, none⟩ = some (.int .i64 tM.v) := (HCM.out.below ltM hA.grown).at_ 0 rfl
         go_simp
         exact hK _ _ rfl (Below.refl _ _)
        ·intro a w3 hA K hK
         have t40 := bg_is hA 5 40
         have t46 := bg_is hA 11 46
         go_simp
         exact hK _ _ Pg.fi_ (Below.refl _ _)
        ·intro a w3 hA K hK
         have t47 := bg_is hA 12 47
         go_simp
         exact hK _ _ rfl (Below.refl _ _)
        ·exact rfl
        ·exact rfl
        ·exact rfl
        ·exact rfl
        ·exact rfl
        ·exact rfl
        ·exact rfl
        ·exact rfl
        ·exact rfl
        ·exact rfl
        ·exact rfl
        ·exact rfl
        ·exact rfl
        ·exact rfl
        ·intro a w3 hA K hK
         have t48 := bg_is hA 13 48
         have t62 := bg_is hA 27 62
         go_simp
         exact hK _ _ Pg.fi_ (Below.refl _ _)
       rintro vs w4 hV hb4 hlk act hact
       repeat (replace hV := hV.is_; obtain ⟨_, rfl, hV⟩ := hV)
       obtain rfl := hV.nil_
       clear hV
       clear hlk
       simp only [putsO] at hact
       subst hact
       go_simp
       have hbz := Below.then_ hb hb4
       go_wp2_with fail
       go_ret
       exact ⟨rfl, hbz⟩
     ·go_wp2_with fail
      go_ret
      refine ⟨?_, hb⟩
      have h := HQ.out
      rw [List.drop_of_length_le (by omega)] at h
      rw [← h]; cases b.t.drop j <;> rfl
  ·have s2 : ((n : Int) != (n' : Int)) = true := bne_iff_ne.2 (by omega)
   obtain rfl : Q = false := by rw [hQ', decide_eq_false hn]; simp
   clear hQ' hs
   go_wp2_with fail
   go_ret
   exact ⟨rfl, hb1⟩
 ·have s1 : (a.s != b.s) = true := bne_iff_ne.2 hs
  obtain rfl : Q = false := by rw [hQ', decide_eq_false hs]; simp
  clear hQ'
  go_wp2_with fail
  go_ret
  exact ⟨rfl, hb1⟩
end Go.Proofs.YtahdlpkncemmaaaGreat
namespace Go.Proofs.YtahdlpkncemmaaaGreat
open Go.RowKit Pg
theorem Same1_C {v v' : Int} {x x' : RV} {r r' : RW} {k : Nat} (w : World) (hx : x.at w r) (hx' : x'.at w r') (hr : r.Le k) (hr' : r'.Le k) (hk : k ≤ 262144) {D E : Bool} (hD : (v == v') = D) (hE : eqQ r.q r'.q = E) :
  Calls Tryz.prog 51 #[.agg #[.int .i64 v, .bool x.s, .slice x.A x.n x.c, .slice x.A' x.n' x.c'], .agg #[.int .i64 v', .bool x'.s, .slice x'.A x'.n x'.c, .slice x'.A' x'.n' x'.c']] w fun e w' => e = .returned (.bool (D && E)) ∧ Below w.heap.size w w' := by
 have HS := hid fun W (hW : Below w.heap.size w W) => Same_Q W (hx.below hW) (hx'.below hW) hr hr' hk hE
 clear hx hx'
 go_enter Tryz.func51, Tryz.ntmps51
 go_upto_region 1 with fail
 refine wp_world (F := fun W => (Bs W w.heap.size 65 [.int .i64 v, .bool x.s, .slice x.A x.n x.c, .slice x.A' x.n' x.c'] ∧ Bs W (w.heap.size + 1) 65 [.int .i64 v', .bool x'.s, .slice x'.A x'.n x'.c, .slice x'.A' x'.n' x'.c']) ∧ Below w.heap.size w W)
  ⟨⟨(Bs.new w _ _ _ rfl).alloc _, Bs.new _ _ _ _ (by simp)⟩, Pg.bel⟩ ?_
 rintro w1 ⟨⟨HA, HB⟩, hb1⟩
 have a0 := HA.cell 0 rfl
 have a1 := HA.cell 1 rfl
 have a2 := HA.cell 2 rfl
 have a3 := HA.cell 3 rfl
 have b0 := HB.cell 0 rfl
 have b1 := HB.cell 1 rfl
 have b2 := HB.cell 2 rfl
 have b3 := HB.cell 3 rfl
 rcases D with _ | _
 ·go_wp2_with fail
  go_ret
  exact ⟨rfl, hb1⟩
 ·go_wp2_with (go_at_call 49; (with_reducible refine (HS.out _ hb1).mono ?_); rintro e w5 ⟨rfl, hb5⟩)
  go_ret
  exact ⟨by simp, Below.then_ hb1 hb5⟩
theorem EqualFunc_C {T T' : Option Addr} {n m n' m' k : Nat} {l l' : List TW} (w : World) (h : SlAt 4 TermAt w T n m l) (h' : SlAt 4 TermAt w T' n' m' l') (hl : ∀ t ∈ l, t.r.Le k) (hl' : ∀ t ∈ l', t.r.Le k) (hk : k ≤ 262144) {Q : Bool} (hQ : (decide (l.length = l'.length) && sameT l l') = Q) :
  Calls Tryz.prog 50 #[.slice T n m, .slice T' n' m', .func (.func 51) #[] #[]] w fun e w' => e = .returned (.bool Q) ∧ Below w.heap.size w w' := by
 have HL := hid h
 have HM := hid h'
 have HLl := hid hl
 have HLm := hid hl'
 have hn : l.length = n := h.1
 have hn' : l'.length = n' := h'.1
 have hn47 : n ≤ 140737488355328 := by have := h.2.1; have := h.2.2.1; omega
 have hn47' : n' ≤ 140737488355328 := by have := h'.2.1; have := h'.2.2.1; omega
 rw [hn, hn'] at hQ
 clear h h' hl hl'
 go_enter Tryz.func50, Tryz.ntmps50
 by_cases he : n = n'
 ·rw [decide_eq_true he, Bool.true_and] at hQ
  have s1 : ((n : Int) != (n' : Int)) = false := by rw [he]; simp
  have HQ := hid hQ
  have hle1 : n ≤ n' := by omega
  have hle2 : n' ≤ n := by omega
  clear hQ he
  go_wp2_with fail
  go_loopw [17] (fun i wr => ∃ j : Nat, j ≤ n ∧ i = .int .i64 (j : Int) ∧ Hid (sameT (l.drop j) (l'.drop j) = Q) ∧ Below w.heap.size w wr) (fun i _ => n - (intOf i).toNat)
  case atStart => exact ⟨0, Nat.zero_le _, rfl, hid HQ.out, Below.refl _ _⟩
  case round =>
   obtain ⟨j, hj, rfl, HQ, hb⟩ := hrel
   by_cases hlt : j < n
   ·skip
    obtain ⟨_, _, _, _, _, e61⟩ := HL.out
    obtain ⟨b1, o1, rfl, hbb1, hx1⟩ := e61 (by omega)
    obtain ⟨t, ht1⟩ : ∃ t, l[j]? = some t := ⟨l[j]'(by omega), List.getElem?_eq_getElem _⟩
    obtain ⟨_, _, _, hc1, hu1⟩ := termAt_stays _ _ _ _ _ hbb1 (hx1 j t ht1) hb
    obtain ⟨u, rfl, rfl, rfl, hv1⟩ := rows_rv hu1
    have i11 : (j : Int) < (n : Int) := by omega
    obtain ⟨_, _, _, _, _, e62⟩ := HM.out
    obtain ⟨b2, o2, rfl, hbb2, hx2⟩ := e62 (by omega)
    obtain ⟨t', ht2⟩ : ∃ t, l'[j]? = some t := ⟨l'[j]'(by omega), List.getElem?_eq_getElem _⟩
    obtain ⟨_, _, _, hc2, hu2⟩ := termAt_stays _ _ _ _ _ hbb2 (hx2 j t' ht2) hb
    obtain ⟨u', rfl, rfl, rfl, hv2⟩ := rows_rv hu2
    have i12 : (j : Int) < (n' : Int) := by omega
    have hq := HQ.out
    rw [drop_cons ht1, drop_cons ht2] at hq
    simp only [sameT] at hq
    have i0 : (0 : Int) ≤ (j : Int) := by omega
    have le1 := HLl.out t (List.mem_of_getElem? ht1)
    have le2 := HLm.out t' (List.mem_of_getElem? ht2)
    have y0 : wr.cell? ⟨b1, o1 + j * 4, none⟩ = some (.int .i64 t.v) := hc1.at_ 0 rfl
    have y1 := hc1.at_ 1 rfl
    have y2 := hc1.at_ 2 rfl
    have y3 := hc1.at_ 3 rfl
    obtain ⟨D, hD⟩ : ∃ D, (t.v == t'.v) = D := ⟨_, rfl⟩
    obtain ⟨E, hE⟩ : ∃ E, eqQ t.r.q t'.r.q = E := ⟨_, rfl⟩
    have hDD : decide (t.v = t'.v) = D := by rw [← hD]; rfl
    rw [hDD, hE] at hq
    have HQ2 := hid hq
    have ltw2 : b2 < wr.heap.size := Nat.lt_of_lt_of_le hbb2 hb.size
    have HC2 := hid hc2
    have HV1 := hid hv1
    have HV2 := hid hv2
    clear e61 e62 hx1 hx2 ht1 ht2 hc1 hc2 hu1 hu2 hv1 hv2 hDD hq
    go_upto_region 6 with fail
    refine wp_world (F := NewBs wr 65 [.int .i64 t.v, .bool u.s, .slice u.A u.n u.c, .slice u.A' u.n' u.c']) (made_new _ _ _) ?_
    rintro w3 ⟨HT3, hb3, hs3⟩
    have hc3 := HC2.out.below ltw2 hb3
    have y0 : w3.cell? ⟨b2, o2 + j * 4, none⟩ = some (.int .i64 t'.v) := hc3.at_ 0 rfl
    have y1 := hc3.at_ 1 rfl
    have y2 := hc3.at_ 2 rfl
    have y3 := hc3.at_ 3 rfl
    go_upto_region 7 with fail
    refine wp_world (F := NewBs w3 65 [.int .i64 t'.v, .bool u'.s, .slice u'.A u'.n u'.c, .slice u'.A' u'.n' u'.c']) (made_new _ _ _) ?_
    rintro w4 ⟨HT4, hb4, hs4⟩
    rw [hs3] at HT4
    have hT := HT3.below hb4
    have p0 := hT.cell 0 rfl
    have p1 := hT.cell 1 rfl
    have p2 := hT.cell 2 rfl
    have p3 := hT.cell 3 rfl
    have r0 := HT4.cell 0 rfl
    have r1 := HT4.cell 1 rfl
    have r2 := HT4.cell 2 rfl
    have r3 := HT4.cell 3 rfl
    have hw4 := Below.then_ (Below.then_ hb hb3) hb4
    have HS := hid (Same1_C w4 ((HV1.out.below hb3).below hb4) ((HV2.out.below hb3).below hb4) le1 le2 hk hD hE)
    clear y0 y1 y2 y3 hc3
    rcases D with _ | _
    ·obtain rfl : false = Q := by rw [← HQ2.out]; simp
     go_wp2_with (go_at_call 51; (with_reducible refine (HS.out).mono ?_); rintro e w5 ⟨rfl, hb5⟩)
     go_ret
     exact ⟨rfl, Below.then_ hw4 hb5⟩
    ·rcases E with _ | _
     ·obtain rfl : false = Q := by rw [← HQ2.out]; simp
      go_wp2_with (go_at_call 51; (with_reducible refine (HS.out).mono ?_); rintro e w5 ⟨rfl, hb5⟩)
      go_ret
      exact ⟨rfl, Below.then_ hw4 hb5⟩
     ·go_wp2_with (go_at_call 51; (with_reducible refine (HS.out).mono ?_); rintro e w5 ⟨rfl, hb5⟩)
      refine ⟨⟨j + 1, hlt, by go_num, hid (by rw [← HQ2.out]; simp), Below.then_ hw4 hb5⟩, ?_⟩
      simp [intOf]; omega
   ·go_wp2_with fail
    go_ret
    refine ⟨?_, hb⟩
    have h := HQ.out
    rw [List.drop_of_length_le (by omega)] at h
    rw [← h]; cases l'.drop j <;> rfl
 ·obtain rfl : Q = false := by rw [← hQ, decide_eq_false he]; simp
  have s1 : ((n : Int) != (n' : Int)) = true := bne_iff_ne.2 (by omega)
  clear hQ
  go_wp2_with fail
  go_ret
  exact ⟨rfl, Below.refl _ _⟩
theorem Same_C {va vb : Value} {a b : CW} {k : Nat} (w : World) (ha : ConVal w va a) (hb : ConVal w vb b) (hla : a.Le k) (hlb : b.Le k) (hk : k ≤ 262144) {Q : Bool} (hQ : sameW a b = Q) :
  Calls Tryz.prog 27 #[va, vb] w fun e w' => e = .returned (.bool Q) ∧ Below w.heap.size w w' := by
 obtain ⟨T, n, m, x, rfl, hca⟩ := ha.cv
 obtain ⟨T', n', m', x', rfl, hcb⟩ := hb.cv
 obtain ⟨D, hD⟩ : ∃ D, (a.s == b.s) = D := ⟨_, rfl⟩
 obtain ⟨E, hE⟩ : ∃ E, eqQ a.r.q b.r.q = E := ⟨_, rfl⟩
 obtain ⟨G, hG⟩ : ∃ G, (decide (a.t.length = b.t.length) && sameT a.t b.t) = G := ⟨_, rfl⟩
 have HQ : Hid (Q = (D && E && G)) := hid (by
  rw [← hQ, ← hD, ← hE, ← hG, sameW]
  rw [show decide (a.s = b.s) = (a.s == b.s) from rfl]
  cases (a.s == b.s) <;> cases decide (a.t.length = b.t.length) <;> cases eqQ a.r.q b.r.q <;> cases sameT a.t b.t <;> rfl)
 have HS := hid fun W (hW : Below w.heap.size w W) => Same_Q W (hca.2.below hW) (hcb.2.below hW) hla.2 hlb.2 hk hE
 have HF := hid fun W (hW : Below w.heap.size w W) => EqualFunc_C W (hca.below hW).1 (hcb.below hW).1 hla.1 hlb.1 hk hG
 clear ha hb hca hcb hla hlb hQ hE hG
 go_enter Tryz.func27, Tryz.ntmps27
 go_upto_region 1 with fail
 refine wp_world (F := fun W => (Bs W w.heap.size 36 [.int .i64 a.s, .slice T n m, .bool x.s, .slice x.A x.n x.c, .slice x.A' x.n' x.c'] ∧ Bs W (w.heap.size + 1) 36 [.int .i64 b.s, .slice T' n' m', .bool x'.s, .slice x'.A x'.n x'.c, .slice x'.A' x'.n' x'.c']) ∧ Below w.heap.size w W)
  ⟨⟨(Bs.new w _ _ _ rfl).alloc _, Bs.new _ _ _ _ (by simp)⟩, Pg.bel⟩ ?_
 rintro w1 ⟨⟨HA, HB⟩, hb1⟩
 have a0 := HA.cell 0 rfl
 have a1 := HA.cell 1 rfl
 have a2 := HA.cell 2 rfl
 have a3 := HA.cell 3 rfl
 have a4 := HA.cell 4 rfl
 have b0 := HB.cell 0 rfl
 have b1 := HB.cell 1 rfl
 have b2 := HB.cell 2 rfl
 have b3 := HB.cell 3 rfl
 have b4 := HB.cell 4 rfl
 rcases D with _ | _
 ·go_wp2_with fail
  go_ret
  exact ⟨by rw [HQ.out]; rfl, hb1⟩
 ·rcases E with _ | _
  ·go_wp2_with (go_at_call 49; (with_reducible refine (HS.out _ hb1).mono ?_); rintro e w5 ⟨rfl, hb5⟩)
   go_ret
   exact ⟨by rw [HQ.out]; rfl, Below.then_ hb1 hb5⟩
  ·go_wp2_with (first
    | (go_at_call 49; (with_reducible refine (HS.out _ hb1).mono ?_); rintro e w5 ⟨rfl, hb5⟩; have hw5 := Below.then_ hb1 hb5; have HA5 := HA.below hb5; have HB5 := HB.below hb5; clear a0 a1 a2 a3 a4 b0 b1 b2 b3 b4; have a0 := HA5.cell 0 rfl; have a1 := HA5.cell 1 rfl; have a2 := HA5.cell 2 rfl; have a3 := HA5.cell 3 rfl; have a4 := HA5.cell 4 rfl; have b0 := HB5.cell 0 rfl; have b1 := HB5.cell 1 rfl; have b2 := HB5.cell 2 rfl; have b3 := HB5.cell 3 rfl; have b4 := HB5.cell 4 rfl)
    | (go_at_call 50; (with_reducible refine (HF.out _ hw5).mono ?_); rintro e w6 ⟨rfl, hb6⟩))
   go_ret
   exact ⟨by rw [HQ.out]; simp, Below.then_ hw5 hb6⟩
end Go.Proofs.YtahdlpkncemmaaaGreat
