/- Walks · Walk · Walks. Conditions: those that each theorem names. -/
import Derived.Test.YtahdlpkncemmaaaW41
import Derived.Test.YtahdlpkncemmaaaW29
import Derived.Test.YtahdlpkncemmaaaW36
import Derived.Deep.QuietTactic
import Derived.BigQuiet
set_option maxRecDepth 100000
set_option maxHeartbeats 8000000
set_option linter.unusedSimpArgs false
set_option linter.unusedVariables false
namespace Pg
open Go Go.RowKit
def C1 (w : World) (g : Nat) (t : TypeId) (v : Value) : Prop := w.heap[g]? = some (.cells #[v] t (0, 0))
theorem C1.new (w : World) (t : TypeId) (v : Value) (g : Nat) (hg : g = w.heap.size) : C1 (w.alloc (.cells #[v] t)) g t v := by subst hg; exact heap_alloc_new w _
theorem C1.lt {w : World} {g : Nat} {t : TypeId} {v : Value} (h : C1 w g t v) : g < w.heap.size := by
 rcases Nat.lt_or_ge g w.heap.size with h1 | h1
 ·exact h1
 ·unfold C1 at h; rw [Array.getElem?_eq_none h1] at h; cases h
theorem C1.alloc {w : World} {g : Nat} {t : TypeId} {v : Value} (h : C1 w g t v) (o : Obj) : C1 (w.alloc o) g t v := (Below.heap_alloc w o g h.lt).trans h
theorem C1.below {w w' : World} {g : Nat} {t : TypeId} {v : Value} (h : C1 w g t v) (hb : Below w.heap.size w w') : C1 w' g t v := (hb.block g h.lt).trans h
theorem C1.cell {w : World} {g : Nat} {t : TypeId} {v : Value} (h : C1 w g t v) : w.cell? ⟨g, 0, none⟩ = some v := by rw [cell_of_row w g _ _ t (0, 0) h]; rfl
theorem C1.frozen {w : World} {g : Nat} {t : TypeId} {v : Value} (h : C1 w g t v) (o : Nat) : w.frozen? ⟨g, o, none⟩ = false := by
 unfold C1 at h
 simp [World.frozen?, h]
theorem C1.set {w : World} {g : Nat} {t : TypeId} {v : Value} (h : C1 w g t v) (u : Value) : C1 (w.setCell ⟨g, 0, none⟩ u) g t u := by
 have h1 := heap_setCell_same w g 0 _ t u h
 unfold C1
 rw [h1]; rfl
structure But (g : Nat) (w w' : World) : Prop where
 below : Below g w w'
 other : ∀ k, k < w.heap.size → k ≠ g → w'.heap[k]? = w.heap[k]?
theorem But.refl (g : Nat) (w : World) : But g w w := ⟨Below.refl _ _, fun _ _ _ => rfl⟩
theorem But.trans {g : Nat} {a b c : World} (h : But g a b) (k : But g b c) : But g a c :=
 ⟨h.below.trans k.below, fun i hi hn => (k.other i (Nat.lt_of_lt_of_le hi h.below.size) hn).trans (h.other i hi hn)⟩
theorem But.of {g : Nat} {a b : World} (h : Below a.heap.size a b) (hg : g < a.heap.size) : But g a b := ⟨h.mono (by omega), fun i hi _ => h.block i hi⟩
theorem But.alloc {g : Nat} {a w : World} (h : But g a w) (hg : g < a.heap.size) (o : Obj) : But g a (w.alloc o) :=
 h.trans (But.of (Below.new_ (Below.refl _ _) _) (Nat.lt_of_lt_of_le hg h.below.size))
theorem But.then_ {g : Nat} {a w w' : World} (h : But g a w) (hg : g < a.heap.size) (hb : Below w.heap.size w w') : But g a w' := h.trans (But.of hb (Nat.lt_of_lt_of_le hg h.below.size))
theorem But.set {g : Nat} {a w : World} (h : But g a w) (u : Value) : But g a (w.setCell ⟨g, 0, none⟩ u) :=
 h.trans ⟨(Below.refl g w).setCell (p := ⟨g, 0, none⟩) (Nat.le_refl _) u, fun k _ hn => heap_setCell_other w ⟨g, 0, none⟩ k u hn⟩
theorem C1.but {w w' : World} {g k : Nat} {t : TypeId} {v : Value} (h : C1 w k t v) (hb : But g w w') (hn : k ≠ g) : C1 w' k t v := (hb.other k h.lt hn).trans h
theorem PT.Val.six {w : World} {v : Value} {t : PT} (h : PT.Val w v t) : ∃ c0 c1 c2 c3 c4 c5, v = .agg #[c0, c1, c2, c3, c4, c5] := by
 cases t with
 | mk k r name kids =>
  obtain ⟨v0, v1, v2, K, kc, e, _⟩ := h
  exact ⟨_, _, _, _, _, _, e⟩
theorem all_false {α : Type} {p : α → Bool} {l : List α} {j : Nat} {x : α} (hx : l[j]? = some x) (h : p x = false) : l.all p = false :=
 List.all_eq_false.2 ⟨x, List.mem_of_getElem? hx, by simp [h]⟩
end Pg
namespace Go.Proofs.Ytahdlpkncemmaaa
open Go.RowKit Pg
theorem B6n.but {w w' : World} {g k : Nat} {t : TypeId} {v0 v1 v2 v3 v4 v5 : Value} (h : B6n w k t v0 v1 v2 v3 v4 v5) (hb : But g w w') (hn : k ≠ g) : B6n w' k t v0 v1 v2 v3 v4 v5 := (hb.other k h.lt hn).trans h
theorem B6n.drewN {w : World} {k n : Nat} {t : TypeId} {v0 v1 v2 v3 v4 v5 : Value} (h : B6n w k t v0 v1 v2 v3 v4 v5) : B6n (w.drewN n) k t v0 v1 v2 v3 v4 v5 := h.below (Below.drewN_ (Below.refl _ _) _)
theorem str_isEmpty (l : List UInt8) : (str l).toList.isEmpty = l.isEmpty := by
 cases l with
 | nil => rw [Lib.toList_data]; rfl
 | cons a l => exact isEmpty_of _ (by rw [str_size]; simp)
theorem isNode_any {v : Value} {k : Int} {r : RW} {name : List UInt8} {kids : List PT} (w0 w : World) (h : PT.Val w0 v (.mk k r name kids)) (hw : Below w0.heap.size w0 w) (hwt : (PT.mk k r name kids).wt ≤ 1000) :
  Calls Try.prog 54 #[v] w fun e w' => e = .returned (.bool (nodeOk k r name kids.length)) ∧ Below w.heap.size w w' := by
 obtain ⟨l1, l2, l3, _⟩ := @PT.wt_row k r name kids
 obtain ⟨v0, v1, v2, K, kc, rfl, hr0, hnm, hkc, hk47, _⟩ := h
 have hr := hr0.below hw
 have hle : r.Le 1000 := ⟨by omega, by omega⟩
 have HN := hid fun W (hW : Below w.heap.size w W) => isNum_any W (hr.below hW) hle
 have HB := hid fun W (hW : Below w.heap.size w W) => isNone_any W (hr.below hW) hle
 have HNm := hid fun W => eName_any name W (by omega)
 have HK := hid fun W => (kids_any k W).mono (R' := fun e w' => e = .returned (.int .i64 (kidsOf k)) ∧ w' = W) fun e w' h => ⟨h.1, h.2.symm⟩
 obtain ⟨E, hE⟩ : ∃ E, nodeOk k r name kids.length = E := ⟨_, rfl⟩
 rw [hE]
 unfold nodeOk at hE
 generalize kids.length = N at *
 have HX := hid (B6n.newg w 48 (.int .i64 k) v0 v1 v2 (.string (str name)) (.slice K N kc) _ rfl)
 obtain ⟨A, n, c, A', n', c', rfl, rfl, rfl⟩ := rows_b3 hr
 clear hr hr0 l1 l2 l3 hwt hle hw
 obtain ⟨k0, k1, k2, k3, k4, k5⟩ := HX.out.cells
 have hem := str_isEmpty name
 generalize isNumR r = bn at *
 generalize isNoneR r = b0 at *
 generalize isNameB name = bm at *
 generalize name.isEmpty = be at *
 generalize r.s = s at *
 by_cases hK : (N : Int) = kidsOf k
 ·have hne : ((N : Int) == kidsOf k) = true := beq_iff_eq.2 hK
  rw [decide_eq_true hK, Bool.true_and] at hE
  generalize kidsOf k = kk at *
  have HE := hid hE
  clear hE
  by_cases h1 : k = 1
  ·have d1 : (k == 1) = true := beq_iff_eq.2 h1
   have HE' := hid (HE.out.symm.trans (if_pos h1))
   clear h1 HE hK
   rcases bn with _ | _ <;> rcases be with _ | _
   all_goals
    go_enter Try.func54, Try.ntmps54
    go_upto_region 1 with fail
    go_quiet ((go_at_call 66; refine Calls.quiet_of_same (HK.out _)))
    go_wp2_with (first
     | (go_at_call 67; refine (HN.out _ Pg.bel).mono ?_; rintro e w2 ⟨rfl, hb2⟩; clear k0 k1 k2 k3 k4 k5; obtain ⟨k0, k1, k2, k3, k4, k5⟩ := (HX.out.drewN.below hb2).cells))
    go_ret
    exact ⟨by rw [HE'.out]; rfl, Pg.bel⟩
  ·have d1 : (k == 1) = false := beq_eq_false_iff_ne.2 h1
   rw [if_neg h1] at HE
   clear h1
   by_cases h2 : k = 2
   ·have d2 : (k == 2) = true := beq_iff_eq.2 h2
    have HE' := hid (HE.out.symm.trans (if_pos h2))
    clear h2 HE hK
    rcases b0 with _ | _ <;> rcases bm with _ | _
    all_goals
     go_enter Try.func54, Try.ntmps54
     go_upto_region 1 with fail
     go_quiet ((go_at_call 66; refine Calls.quiet_of_same (HK.out _)))
     go_wp2_with (first
      | (go_at_call 68; refine (HB.out _ Pg.bel).mono ?_; rintro e w2 ⟨rfl, hb2⟩; clear k0 k1 k2 k3 k4 k5; obtain ⟨k0, k1, k2, k3, k4, k5⟩ := (HX.out.drewN.below hb2).cells)
      | (go_at_call 69; refine (HNm.out _).mono ?_; rintro e w3 ⟨rfl, rfl⟩))
     go_ret
     exact ⟨by rw [HE'.out]; rfl, Pg.bel⟩
   ·have d2 : (k == 2) = false := beq_eq_false_iff_ne.2 h2
    have HE' := hid (HE.out.symm.trans (if_neg h2))
    clear h2 HE hK
    rcases b0 with _ | _ <;> rcases be with _ | _
    all_goals
     go_enter Try.func54, Try.ntmps54
     go_upto_region 1 with fail
     go_quiet ((go_at_call 66; refine Calls.quiet_of_same (HK.out _)))
     go_wp2_with (first
      | (go_at_call 68; refine (HB.out _ Pg.bel).mono ?_; rintro e w2 ⟨rfl, hb2⟩; clear k0 k1 k2 k3 k4 k5; obtain ⟨k0, k1, k2, k3, k4, k5⟩ := (HX.out.drewN.below hb2).cells))
     go_ret
     exact ⟨by rw [HE'.out]; rfl, Pg.bel⟩
 ·have hne : ((N : Int) == kidsOf k) = false := beq_eq_false_iff_ne.2 hK
  rw [decide_eq_false hK, Bool.false_and] at hE
  generalize kidsOf k = kk at *
  have HE := hid hE
  clear hE hK
  go_enter Try.func54, Try.ntmps54
  go_upto_region 1 with fail
  go_quiet ((go_at_call 66; refine Calls.quiet_of_same (HK.out _)))
  go_wp2_with fail
  go_ret
  exact ⟨by rw [← HE.out]; rfl, Pg.bel⟩
def MayRet (w : World) (ok : Bool) (n L g : Nat) (e : Ending) (w' : World) : Prop := ∃ L' : Nat, e = .returned (.bool ok) ∧ C1 w' g 3 (.int .i64 (L' : Int)) ∧ L' ≤ L ∧ L ≤ L' + n ∧ But g w w'
def MayAt (m : Nat) : Prop := ∀ (t : PT), SizeOf.sizeOf t ≤ m → ∀ (v : Value) (d L g : Nat) (w0 w : World), PT.Val w0 v t → t.wt ≤ 1000 → w0.heap.size ≤ g → Below w0.heap.size w0 w → C1 w g 3 (.int .i64 (L : Int)) → t.nodes ≤ L → L ≤ 256 → d ≤ 32 →
 Calls Try.prog 45 #[v, .int .i64 (d : Int), .pointer (some ⟨g, 0, none⟩)] w (MayRet w (PT.ok d t) t.nodes L g)
theorem may1_of {m : Nat} (IH : MayAt m) {t : PT} (ht : SizeOf.sizeOf t ≤ m) {v : Value} {d L g gd gp : Nat} {w0 w : World} (hv : PT.Val w0 v t) (hwt : t.wt ≤ 1000) (h0 : w0.heap.size ≤ g) (hb : Below w0.heap.size w0 w) (hg : C1 w g 3 (.int .i64 (L : Int))) (hd : C1 w gd 3 (.int .i64 (d : Int))) (hp : C1 w gp 74 (.pointer (some ⟨g, 0, none⟩))) (hn : t.nodes ≤ L) (hL : L ≤ 256) (hd32 : d + 1 ≤ 32) :
  Calls Try.prog 56 #[v, .pointer (some ⟨gd, 0, none⟩), .pointer (some ⟨gp, 0, none⟩)] w (MayRet w (!PT.ok (d + 1) t) t.nodes L g) := by
 obtain ⟨d1, hd1⟩ : ∃ d1, d + 1 = d1 := ⟨_, rfl⟩
 rw [hd1]
 have HI := hid fun W (hW : Below w.heap.size w W) => IH t ht v d1 L g w0 W hv hwt h0 (hb.trans (hW.mono hb.size)) (hg.below hW) hn hL (by omega)
 obtain ⟨c0, c1, c2, c3, c4, c5, rfl⟩ := hv.six
 have hX := B6n.newg w 48 c0 c1 c2 c3 c4 c5 _ rfl
 obtain ⟨k0, k1, k2, k3, k4, k5⟩ := hX.cells
 have q1 := (hd.alloc (.cells #[c0, c1, c2, c3, c4, c5] 48)).cell
 have q2 := (hp.alloc (.cells #[c0, c1, c2, c3, c4, c5] 48)).cell
 have e1 : IntKind.i64.wrap ((d : Int) + 1) = (d1 : Int) := by rw [IntKind.wrap_i64]; omega
 have HG := hid hg.lt
 clear hX hv hg hd hp IH ht
 clear hd1 hd32
 generalize PT.ok d1 t = b at *
 go_enter Try.func56, Try.ntmps56
 go_wp2_with (go_at_call 45; (with_reducible refine (HI.out _ Pg.bel).mono ?_); rintro e w2 ⟨L', rfl, h1, h2, h3, h4⟩)
 go_ret
 exact ⟨L', rfl, h1, h2, h3, (But.alloc (But.refl g w) HG.out _).trans h4⟩
theorem index_of {m : Nat} (IH : MayAt m) {kids : List PT} (ht : ∀ x ∈ kids, SizeOf.sizeOf x ≤ m) {K : Option Addr} {kc d L g gd gp : Nat} {w0 w : World} (hk47 : kids.length ≤ 140737488355328) (hkc : kids.length ≤ kc) (hA : 0 < kids.length → ∃ b' o', K = some ⟨b', o', none⟩ ∧ b' < w0.heap.size ∧ PT.Ats w0 kids b' o') (hwt : PT.wts kids ≤ 1000) (h0 : w0.heap.size ≤ g) (hb : Below w0.heap.size w0 w) (hg : C1 w g 3 (.int .i64 (L : Int))) (hd : C1 w gd 3 (.int .i64 (d : Int))) (hp : C1 w gp 74 (.pointer (some ⟨g, 0, none⟩))) (hgd : gd ≠ g) (hgp : gp ≠ g) (hn : PT.nodess kids ≤ L) (hL : L ≤ 256) (hd32 : d + 1 ≤ 32) :
  Calls Try.prog 70 #[.slice K kids.length kc, .func (.func 56) #[] #[.pointer (some ⟨gd, 0, none⟩), .pointer (some ⟨gp, 0, none⟩)]] w
   fun e w' => ∃ z : Int, decide (0 ≤ z) = (!PT.oks (d + 1) kids) ∧ ∃ L' : Nat, e = .returned (.int .i64 z) ∧ C1 w' g 3 (.int .i64 (L' : Int)) ∧ L' ≤ L ∧ L ≤ L' + PT.nodess kids ∧ But g w w' := by
 obtain ⟨E, hE⟩ : ∃ E, PT.oks (d + 1) kids = E := ⟨_, rfl⟩
 rw [hE]
 rw [PT.oks_all] at hE
 have HE := hid hE
 obtain ⟨N, hN⟩ : ∃ N, kids.length = N := ⟨_, rfl⟩
 rw [hN] at hk47 hkc hA ⊢
 have HN := hid hN
 clear hE hN
 go_enter Try.func70, Try.ntmps70
 go_wp2_with fail
 go_loopw [8] (fun i wr => ∃ (j L1 : Nat), j ≤ N ∧ i = .int .i64 ((j : Nat) : Int) ∧ Hid (∀ x ∈ kids.take j, PT.ok (d + 1) x = true) ∧ Hid (C1 wr g 3 (.int .i64 (L1 : Int))) ∧ L1 ≤ L ∧ L ≤ L1 + PT.nodess (kids.take j) ∧ But g w wr) (fun i _ => N - (intOf i).toNat)
 case atStart => exact ⟨0, L, by omega, rfl, hid (fun x hx => by simp at hx), hid hg, Nat.le_refl _, Nat.le_add_right _ _, But.refl _ _⟩
 case round =>
  obtain ⟨j, L1, hj, rfl, HO, HG, hL1, hL2, hbt⟩ := hrel
  by_cases hlt : j < N
  ·obtain ⟨b', o', rfl, hb', hkids⟩ := hA (by omega)
   obtain ⟨x, hx⟩ : ∃ x, kids[j]? = some x := ⟨kids[j]'(by rw [HN.out]; exact hlt), List.getElem?_eq_getElem _⟩
   obtain ⟨c0, c1, c2, c3, c4, c5, hca0, hval⟩ := (hkids.get j x hx).val
   have hbr := hb.trans (hbt.below.mono h0)
   have hca := hca0.below hb' hbr
   have c0' : wr.cell? ⟨b', o' + j * 6, none⟩ = some c0 := hca.at_ 0 rfl
   have c1' := hca.at_ 1 rfl
   have c2' := hca.at_ 2 rfl
   have c3' := hca.at_ 3 rfl
   have c4' := hca.at_ 4 rfl
   have c5' := hca.at_ 5 rfl
   have hxm := List.mem_of_getElem? hx
   have hnt := PT.nodess_take hx
   have hwx := PT.wts_mem hxm
   have hnk : x.nodes ≤ L1 := by
    have := hnt.2
    omega
   have HI := hid (may1_of IH (ht x hxm) hval (by omega) h0 hbr HG.out (hd.but hbt hgd) (hp.but hbt hgp) hnk (by omega) hd32)
   have HX := hid hx
   clear hca hca0 hval hkids hA hwx hx hxm hb hbr
   obtain ⟨B, hB⟩ : ∃ B, PT.ok (d + 1) x = B := ⟨_, rfl⟩
   rw [hB] at HI
   have HB := hid hB
   clear hB
   rcases B with _ | _
   ·go_wp2_with (go_at_call 56; (with_reducible refine HI.out.mono ?_); rintro e w2 ⟨L', rfl, h1, h2, h3, h4⟩)
    go_ret
    refine ⟨(j : Int), ?_, L', rfl, h1, by omega, by omega, hbt.trans h4⟩
    rw [← HE.out, all_false HX.out HB.out, decide_eq_true (by omega)]
    rfl
   ·go_wp2_with (go_at_call 56; (with_reducible refine HI.out.mono ?_); rintro e w2 ⟨L', rfl, h1, h2, h3, h4⟩)
    refine ⟨⟨j + 1, L', hlt, by go_num, hid (take_all_p HO.out HX.out HB.out), hid h1, by omega, by omega, hbt.trans h4⟩, ?_⟩
    simp [intOf]; omega
  ·obtain rfl : j = N := by omega
   go_wp2_with fail
   go_ret
   refine ⟨-1, ?_, L1, rfl, HG.out, hL1, ?_, hbt⟩
   ·have := HO.out
    rw [← HN.out, List.take_length] at this
    rw [← HE.out, List.all_eq_true.2 this]
    rfl
   ·rw [← HN.out, List.take_length] at hL2
    exact hL2
theorem contains_of {m : Nat} (IH : MayAt m) {kids : List PT} (ht : ∀ x ∈ kids, SizeOf.sizeOf x ≤ m) {K : Option Addr} {kc d L g gd gp : Nat} {w0 w : World} (hk47 : kids.length ≤ 140737488355328) (hkc : kids.length ≤ kc) (hA : 0 < kids.length → ∃ b' o', K = some ⟨b', o', none⟩ ∧ b' < w0.heap.size ∧ PT.Ats w0 kids b' o') (hwt : PT.wts kids ≤ 1000) (h0 : w0.heap.size ≤ g) (hb : Below w0.heap.size w0 w) (hg : C1 w g 3 (.int .i64 (L : Int))) (hd : C1 w gd 3 (.int .i64 (d : Int))) (hp : C1 w gp 74 (.pointer (some ⟨g, 0, none⟩))) (hgd : gd ≠ g) (hgp : gp ≠ g) (hn : PT.nodess kids ≤ L) (hL : L ≤ 256) (hd32 : d + 1 ≤ 32) :
  Calls Try.prog 55 #[.slice K kids.length kc, .func (.func 56) #[] #[.pointer (some ⟨gd, 0, none⟩), .pointer (some ⟨gp, 0, none⟩)]] w
   (MayRet w (!PT.oks (d + 1) kids) (PT.nodess kids) L g) := by
 have HI := hid (index_of IH ht hk47 hkc hA hwt h0 hb hg hd hp hgd hgp hn hL hd32)
 clear IH ht hA hb hg hd hp
 go_enter Try.func55, Try.ntmps55
 go_wp2_with (go_at_call 70; (with_reducible refine HI.out.mono ?_); rintro e w2 ⟨z, hz, L', rfl, h1, h2, h3, h4⟩; replace hz := hid hz)
 go_ret
 exact ⟨L', by rw [← hz.out]; rfl, h1, h2, h3, h4⟩
theorem may_all : ∀ m : Nat, MayAt m := by
 intro m
 induction m with
 | zero => intro t ht; cases t; simp at ht
 | succ m IH =>
  intro t ht v d L g w0 w hv hwt h0 hb hg hn hL hd32
  match t, ht, hv, hwt, hn with
  | .mk k r name kids, ht, hv, hwt, hn =>
  have HNd := hid fun W (hW : Below w0.heap.size w0 W) => isNode_any w0 W hv hW hwt
  obtain ⟨v0, v1, v2, K, kc, rfl, hr, hnm, hkc, hk47, hA⟩ := hv
  have hL1 : 1 ≤ L := Nat.le_trans (PT.nodes_pos _) hn
  obtain ⟨L0, rfl⟩ : ∃ L0, L = L0 + 1 := ⟨L - 1, by omega⟩
  have hn' : PT.nodess kids ≤ L0 := by unfold PT.nodes at hn; omega
  have hwk := (@PT.wt_row k r name kids).2.2.2
  have hnn : (PT.mk k r name kids).nodes = 1 + PT.nodess kids := by unfold PT.nodes; rfl
  rw [hnn]
  obtain ⟨E, hE⟩ : ∃ E, PT.ok d (.mk k r name kids) = E := ⟨_, rfl⟩
  rw [hE]
  unfold PT.ok at hE
  obtain ⟨A, n, c, A', n', c', rfl, rfl, rfl⟩ := rows_b3 hr
  have hX := ((B6n.newg w 48 (.int .i64 k) (.bool r.s) (.slice A n c) (.slice A' n' c') (.string (str name)) (.slice K kids.length kc) _ rfl).alloc (.cells #[.int .i64 (d : Int)] 3)).alloc (.cells #[.pointer (some ⟨g, 0, none⟩)] 74)
  have hD := (C1.new (w.alloc (.cells #[.int .i64 k, .bool r.s, .slice A n c, .slice A' n' c', .string (str name), .slice K kids.length kc] 48)) 3 (.int .i64 (d : Int)) (w.heap.size + 1) (by simp)).alloc (.cells #[.pointer (some ⟨g, 0, none⟩)] 74)
  have hP := C1.new ((w.alloc (.cells #[.int .i64 k, .bool r.s, .slice A n c, .slice A' n' c', .string (str name), .slice K kids.length kc] 48)).alloc (.cells #[.int .i64 (d : Int)] 3)) 74 (.pointer (some ⟨g, 0, none⟩)) (w.heap.size + 1 + 1) (by simp)
  have hG := ((hg.alloc (.cells #[.int .i64 k, .bool r.s, .slice A n c, .slice A' n' c', .string (str name), .slice K kids.length kc] 48)).alloc (.cells #[.int .i64 (d : Int)] 3)).alloc (.cells #[.pointer (some ⟨g, 0, none⟩)] 74)
  have hbt := (((But.refl g w).alloc hg.lt (.cells #[.int .i64 k, .bool r.s, .slice A n c, .slice A' n' c', .string (str name), .slice K kids.length kc] 48)).alloc hg.lt (.cells #[.int .i64 (d : Int)] 3)).alloc hg.lt (.cells #[.pointer (some ⟨g, 0, none⟩)] 74)
  have hglt := hg.lt
  generalize hS : w.heap.size = S at *
  go_enter Try.func45, Try.ntmps45
  go_upto_region 1 with fail
  generalize (((w.alloc (.cells #[.int .i64 k, .bool r.s, .slice A n c, .slice A' n' c', .string (str name), .slice K kids.length kc] 48)).alloc (.cells #[.int .i64 (d : Int)] 3)).alloc (.cells #[.pointer (some ⟨g, 0, none⟩)] 74)) = w3 at *
  have q1 := hP.cell
  have q2 := hG.cell
  have q3 := hG.frozen 0
  have e1 : IntKind.i64.wrap (((L0 + 1 : Nat) : Int) - 1) = (L0 : Int) := by rw [IntKind.wrap_i64]; omega
  have e1' : IntKind.i64.wrap ((L0 : Int) + 1 - 1) = (L0 : Int) := by rw [IntKind.wrap_i64]; omega
  go_upto_region 2 with fail
  have hG4 := hG.set (.int .i64 (L0 : Int))
  have hX4 := hX.but ((But.refl g w3).set (.int .i64 (L0 : Int))) (by omega)
  have hD4 := hD.but ((But.refl g w3).set (.int .i64 (L0 : Int))) (by omega)
  have hP4 := hP.but ((But.refl g w3).set (.int .i64 (L0 : Int))) (by omega)
  have hbt4 := hbt.set (.int .i64 (L0 : Int))
  generalize w3.setCell ⟨g, 0, none⟩ (.int .i64 (L0 : Int)) = w4 at *
  clear hG hX hD hP q1 q2 q3 e1 e1' hbt hr hg
  have q1 := hP4.cell
  have q2 := hG4.cell
  have q4 := hD4.cell
  obtain ⟨k0, k1, k2, k3, k4, k5⟩ := hX4.cells
  have hbw4 : Below w0.heap.size w0 w4 := hb.trans (hbt4.below.mono h0)
  have dL : decide ((L0 : Int) < 0) = false := decide_eq_false (by omega)
  have HS := hid (show g < w.heap.size by omega)
  by_cases hd : d < 32
  ·have dd : decide ((32 : Int) ≤ (d : Int)) = false := decide_eq_false (by omega)
   rw [decide_eq_true hd, Bool.true_and] at hE
   obtain ⟨B, hB⟩ : ∃ B, nodeOk k r name kids.length = B := ⟨_, rfl⟩
   rw [hB] at HNd hE
   clear hB
   rcases B with _ | _
   ·have HE := hid hE
    clear hE
    have HG4 := hid hG4
    have HB4 := hid hbt4
    clear hG4 hbt4
    go_wp2_with (go_at_call 54; (with_reducible refine (HNd.out _ hbw4).mono ?_); rintro e w5 ⟨rfl, hb5⟩)
    go_ret
    exact ⟨L0, by rw [← HE.out]; rfl, HG4.out.below hb5, by omega, by omega, HB4.out.then_ HS.out hb5⟩
   ·rw [Bool.true_and] at hE
    have HC := fun w5 (hb5 : Below w4.heap.size w4 w5) => contains_of IH (kids := kids) (fun x hx => by
     have h1 := List.sizeOf_lt_of_mem hx
     simp at ht
     omega) hk47 hkc hA (by omega) h0 (hbw4.trans (hb5.mono hbw4.size)) (hG4.below hb5) (hD4.below hb5) (hP4.below hb5) (by omega) (by omega) hn' (by omega) (by omega)
    rw [hE] at HC
    replace HC := hid HC
    have HX4 := hid hX4
    have HB4 := hid hbt4
    clear hE hG4 hX4 hD4 hP4 hbt4 hA
    go_wp2_with (first
     | (go_at_call 54; (with_reducible refine (HNd.out _ hbw4).mono ?_); rintro e w5 ⟨rfl, hb5⟩; clear k0 k1 k2 k3 k4 k5; obtain ⟨k0, k1, k2, k3, k4, k5⟩ := (HX4.out.below hb5).cells)
     | (go_at_call 55; (with_reducible refine (HC.out _ hb5).mono ?_); rintro e w6 ⟨L', rfl, h1, h2, h3, h4⟩))
    go_ret
    exact ⟨L', by cases E <;> rfl, h1, by omega, by omega, (HB4.out.then_ HS.out hb5).trans h4⟩
  ·have dd : decide ((32 : Int) ≤ (d : Int)) = true := decide_eq_true (by omega)
   rw [decide_eq_false hd, Bool.false_and] at hE
   have HE := hid hE
   have HG4 := hid hG4
   have HB4 := hid hbt4
   clear hE hG4 hbt4 hX4 hD4 hP4
   go_wp2_with fail
   go_ret
   exact ⟨L0, by rw [← HE.out]; rfl, HG4.out, by omega, by omega, HB4.out⟩
end Go.Proofs.Ytahdlpkncemmaaa
namespace Go.Proofs.Ytahdlpkncemmaaa
open Go.RowKit Pg
theorem eIs_any {t : PT} {v : Value} (w : World) (hv : PT.Val w v t) (hwt : t.wt ≤ 768) :
  Calls Try.prog 30 #[v] w fun e w' => e = .returned (.bool t.is) ∧ Below w.heap.size w w' := by
 rw [PT.is_light hwt]
 have hnl := PT.nodes_le t
 have HM : ∀ (w4 : World) (_ : Below w.heap.size w w4) (_ : C1 w4 (w.heap.size + 1) 3 (.int .i64 256)), Calls Try.prog 45 #[v, .int .i64 0, .pointer (some ⟨w.heap.size + 1, 0, none⟩)] w4 (MayRet w4 (PT.ok 0 t) t.nodes 256 (w.heap.size + 1)) := fun w4 hb hC => may_all _ t (Nat.le_refl _) v 0 256 (w.heap.size + 1) w w4 hv (by omega) (by omega) hb hC (by omega) (by omega) (by omega)
 replace HM := hid HM
 obtain ⟨c0, c1, c2, c3, c4, c5, rfl⟩ := hv.six
 have HC := hid (C1.new (w.alloc (.cells #[c0, c1, c2, c3, c4, c5] 48)) 3 (.int .i64 256) (w.heap.size + 1) (by simp))
 have q3 := (C1.new (w.alloc (.cells #[c0, c1, c2, c3, c4, c5] 48)) 3 (.int .i64 0) (w.heap.size + 1) (by simp)).frozen 0
 obtain ⟨k0, k1, k2, k3, k4, k5⟩ := ((B6n.newg w 48 c0 c1 c2 c3 c4 c5 _ rfl).alloc (.cells #[.int .i64 256] 3)).cells
 have HB4 := hid (Below.new_ (Below.new_ (Below.refl w.heap.size w) (.cells #[c0, c1, c2, c3, c4, c5] 48)) (.cells #[.int .i64 256] 3))
 clear hv hnl hwt
 generalize PT.ok 0 t = b at *
 generalize t.nodes = M at *
 go_enter Try.func30, Try.ntmps30
 go_wp2_with (go_at_call 45; (with_reducible refine (HM.out _ HB4.out HC.out).mono ?_); rintro e w5 ⟨L', rfl, h1, h2, h3, h4⟩)
 go_ret
 exact ⟨rfl, HB4.out.trans (h4.below.mono (by omega))⟩
end Go.Proofs.Ytahdlpkncemmaaa
namespace Pg
end Pg
namespace Go.Proofs.Ytahdlpkncemmaaa
open Go.RowKit Pg
end Go.Proofs.Ytahdlpkncemmaaa
