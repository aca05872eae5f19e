/- A region 'a, b = f(a), f'(b)' as XPairS . Conditions: those that each theorem names. -/
import Derived.Test.YtahdlpkncemmaaaGreatX17
set_option maxRecDepth 100000
set_option maxHeartbeats 8000000
set_option linter.unusedSimpArgs false
set_option linter.unusedVariables false
namespace Go.Proofs.YtahdlpkncemmaaaGreat
open Go.RowKit Pg
def Keep2 (w0 : World) (ga gb : Nat) (w : World) : Prop := ∀ g, g < w0.heap.size → g ≠ ga → g ≠ gb → w.heap[g]? = w0.heap[g]?
theorem Keep2.set3 {w0 w : World} {ga gb : Nat} (h : Keep2 w0 ga gb w) {x : Nat} (hx : x = ga ∨ x = gb) (u0 u1 u2 : Value) : Keep2 w0 ga gb (((w.setCell ⟨x, 0, none⟩ u0).setCell ⟨x, 1, none⟩ u1).setCell ⟨x, 2, none⟩ u2) := fun g hg h1 h2 => by
 have hne : g ≠ x := by rcases hx with rfl | rfl <;> assumption
 rw [heap_setCell_other _ ⟨x, 2, none⟩ g u2 hne, heap_setCell_other _ ⟨x, 1, none⟩ g u1 hne, heap_setCell_other _ ⟨x, 0, none⟩ g u0 hne]
 exact h g hg h1 h2
theorem B3.keep2 {w0 w : World} {ga gb g : Nat} {t : TypeId} {v0 v1 v2 : Value} (hB : B3 w0 g t v0 v1 v2) (h : Keep2 w0 ga gb w) (h1 : g ≠ ga) (h2 : g ≠ gb) : B3 w g t v0 v1 v2 := (h g hB.lt h1 h2).trans hB
structure PairTInv (a0 : Act) (w0 : World) (B x0 x1 x2 x3 ga gb : Nat) (va0 va1 va2 vb0 vb1 vb2 : Value) (p q : Rat) (l : Array Bool) (a : Act) (w : World) : Prop where
 frame : ∀ k, k ≠ x0 → k ≠ x1 → k ≠ x2 → k ≠ x3 → a.tmps[k]? = a0.tmps[k]?
 size : a.tmps.size = a0.tmps.size
 defers : a.defers = a0.defers
 below : Below B w0 w
 boxA : ¬ l.getD 4 false = true → B3 w ga 24 va0 va1 va2
 boxB : ¬ l.getD 5 false = true → B3 w gb 24 vb0 vb1 vb2
 s0 : l.getD 0 false = true → a.tmps[x0]? = some (.agg #[va0, va1, va2])
 s1 : l.getD 1 false = true → ∃ v, a.tmps[x1]? = some v ∧ IsQ w p v
 s2 : l.getD 2 false = true → a.tmps[x2]? = some (.agg #[vb0, vb1, vb2])
 s3 : l.getD 3 false = true → ∃ v, a.tmps[x3]? = some v ∧ IsQ w q v
 shpA : Shp w ga
 shpB : Shp w gb
 s4 : l.getD 4 false = true → l.getD 0 false = true ∧ l.getD 1 false = true ∧ ∀ v, a.tmps[x1]? = some v → Hld w ga v
 s5 : l.getD 5 false = true → (∀ j, j < 4 → l.getD j false = true) ∧ ∀ v, a.tmps[x3]? = some v → Hld w gb v
 sz : l.size = 6
 oth : Keep2 w0 ga gb w
theorem PairTInv.world {a0 : Act} {w0 : World} {B x0 x1 x2 x3 ga gb : Nat} {va0 va1 va2 vb0 vb1 vb2 : Value} {p q : Rat} {l : Array Bool} {a : Act} {w w' : World} (h : PairTInv a0 w0 B x0 x1 x2 x3 ga gb va0 va1 va2 vb0 vb1 vb2 p q l a w) (hb : Below w.heap.size w w') (hBw : B ≤ w0.heap.size) : PairTInv a0 w0 B x0 x1 x2 x3 ga gb va0 va1 va2 vb0 vb1 vb2 p q l a w' :=
 ⟨h.frame, h.size, h.defers, h.below.trans (hb.mono (Nat.le_trans hBw h.below.size)), fun e => (h.boxA e).below hb, fun e => (h.boxB e).below hb, h.s0, fun e => (h.s1 e).imp fun _ hv => ⟨hv.1, hv.2.below hb⟩, h.s2, fun e => (h.s3 e).imp fun _v hv => ⟨hv.1, hv.2.below hb⟩,
  h.shpA.below hb, h.shpB.below hb, fun e => ⟨(h.s4 e).1, (h.s4 e).2.1, fun v hv => ((h.s4 e).2.2 v hv).below hb⟩, fun e => ⟨(h.s5 e).1, fun v hv => ((h.s5 e).2 v hv).below hb⟩, h.sz, fun g hg h1 h2 => (hb.block g (Nat.lt_of_lt_of_le hg h.below.size)).trans (h.oth g hg h1 h2)⟩
theorem pairT_region {id : Nat} {ops : Array Oper} {Q : Exit → Act → World → Prop} {a0 : Act} {w0 : World} (f f' ta tb x0 x1 x2 x3 B ga gb : Nat) (ba bb : Bool) (Aa Aa' Ab Ab' : Option Addr) (na ca na' ca' nb cb nb' cb' : Nat) (p q : Rat) {ty0 ty1 ty2 ty3 ty4 ty5 : TypeId} {ps0 ps1 ps2 ps3 ps4 ps5 : String} {af0 af1 af2 af3 af4 af5 : Array Edge}
  (hops : ops = #[⟨some x0, .load 24 (.tmp ta), ty0, ps0, af0, none⟩, ⟨some x1, .call { callee := .value (.func f), args := #[.tmp x0], argTypes := #[24] }, ty1, ps1, af1, none⟩, ⟨some x2, .load 24 (.tmp tb), ty2, ps2, af2, none⟩, ⟨some x3, .call { callee := .value (.func f'), args := #[.tmp x2], argTypes := #[24] }, ty3, ps3, af3, none⟩, ⟨none, .store 24 (.tmp ta) (.tmp x1), ty4, ps4, af4, none⟩, ⟨none, .store 24 (.tmp tb) (.tmp x3), ty5, ps5, af5, none⟩])
  (hnd : [x0, x1, x2, x3, ta, tb].Nodup) (hlt : [x0, x1, x2, x3].all (fun k => decide (k < a0.tmps.size)) = true)
  (d1 : af1.any (fun e => Region.binds .any e && e.on == 0) = true) (d3 : af3.any (fun e => Region.binds .any e && e.on == 2) = true)
  (d4 : [0, 1].all (fun j => af4.any (fun e => Region.binds .any e && e.on == j)) = true) (d5 : [0, 1, 2, 3].all (fun j => af5.any (fun e => Region.binds .any e && e.on == j)) = true)
  (hord : (List.range 6).all (fun i => match ops[i]? with | some o => o.after.all (fun e => !Region.binds .any e || decide (e.on < i)) | none => true) = true)
  (ha : a0.tmps[ta]? = some (.pointer (some ⟨ga, 0, none⟩))) (hb : a0.tmps[tb]? = some (.pointer (some ⟨gb, 0, none⟩))) (hgab : ga ≠ gb) (hBw : B ≤ w0.heap.size) (hgA : B ≤ ga) (hgB : B ≤ gb)
  (hA : B3 w0 ga 24 (.bool ba) (.slice Aa na ca) (.slice Aa' na' ca')) (hB : B3 w0 gb 24 (.bool bb) (.slice Ab nb cb) (.slice Ab' nb' cb'))
  (hc : ∀ args W, (callFunc f args).run Tryz.prog W = .ok (.enter f args) W) (hc' : ∀ args W, (callFunc f' args).run Tryz.prog W = .ok (.enter f' args) W)
  (hf : ∀ W, Below B w0 W → Calls Tryz.prog f #[.agg #[.bool ba, .slice Aa na ca, .slice Aa' na' ca']] W (RatRet W p))
  (hf' : ∀ W, Below B w0 W → Calls Tryz.prog f' #[.agg #[.bool bb, .slice Ab nb cb, .slice Ab' nb' cb']] W (RatRet W q))
  (hQ : ∀ v1 v3 w', IsQ w' p v1 → IsQ w' q v3 → Hld w' ga v1 → Hld w' gb v3 → Below B w0 w' → Keep2 w0 ga gb w' →
   Q .normal ((((a0.put (some x0) (.agg #[.bool ba, .slice Aa na ca, .slice Aa' na' ca'])).put (some x1) v1).put (some x2) (.agg #[.bool bb, .slice Ab nb cb, .slice Ab' nb' cb'])).put (some x3) v3) w') :
  (Code.region id ops true).wp Tryz.prog Q a0 w0 := by
 have hsize : ops.size = 6 := by rw [hops]; rfl
 have e0 : ops[0]? = some (⟨some x0, .load 24 (.tmp ta), ty0, ps0, af0, none⟩ : Oper) := by rw [hops]; rfl
 have e1 : ops[1]? = some (⟨some x1, .call { callee := .value (.func f), args := #[.tmp x0], argTypes := #[24] }, ty1, ps1, af1, none⟩ : Oper) := by rw [hops]; rfl
 have e2 : ops[2]? = some (⟨some x2, .load 24 (.tmp tb), ty2, ps2, af2, none⟩ : Oper) := by rw [hops]; rfl
 have e3 : ops[3]? = some (⟨some x3, .call { callee := .value (.func f'), args := #[.tmp x2], argTypes := #[24] }, ty3, ps3, af3, none⟩ : Oper) := by rw [hops]; rfl
 have e4 : ops[4]? = some (⟨none, .store 24 (.tmp ta) (.tmp x1), ty4, ps4, af4, none⟩ : Oper) := by rw [hops]; rfl
 have e5 : ops[5]? = some (⟨none, .store 24 (.tmp tb) (.tmp x3), ty5, ps5, af5, none⟩ : Oper) := by rw [hops]; rfl
 clear hops
 simp only [List.nodup_cons, List.mem_cons, List.not_mem_nil, or_false, not_or] at hnd
 simp only [List.all_cons, List.all_nil, Bool.and_true, Bool.and_eq_true, decide_eq_true_eq] at hlt
 obtain ⟨⟨n01, n02, n03, n04, n05⟩, ⟨n12, n13, n14, n15⟩, ⟨n23, n24, n25⟩, ⟨n34, n35⟩, _⟩ := hnd
 obtain ⟨z0, z1, z2, z3⟩ := hlt
 obtain ⟨va0, hva0⟩ : ∃ v, v = Value.bool ba := ⟨_, rfl⟩
 obtain ⟨va1, hva1⟩ : ∃ v, v = Value.slice Aa na ca := ⟨_, rfl⟩
 obtain ⟨va2, hva2⟩ : ∃ v, v = Value.slice Aa' na' ca' := ⟨_, rfl⟩
 obtain ⟨vb0, hvb0⟩ : ∃ v, v = Value.bool bb := ⟨_, rfl⟩
 obtain ⟨vb1, hvb1⟩ : ∃ v, v = Value.slice Ab nb cb := ⟨_, rfl⟩
 obtain ⟨vb2, hvb2⟩ : ∃ v, v = Value.slice Ab' nb' cb' := ⟨_, rfl⟩
 have hSA : Shp w0 ga := ⟨_, _, _, _, _, _, _, hA⟩
 have hSB : Shp w0 gb := ⟨_, _, _, _, _, _, _, hB⟩
 rw [← hva0, ← hva1, ← hva2] at hA
 rw [← hvb0, ← hvb1, ← hvb2] at hB
 rw [← hva0, ← hva1, ← hva2] at hf
 rw [← hvb0, ← hvb1, ← hvb2] at hf'
 rw [← hva0, ← hva1, ← hva2, ← hvb0, ← hvb1, ← hvb2] at hQ
 clear hva0 hva1 hva2 hvb0 hvb1 hvb2
 refine wp_region_any (by kernel_rfl) ?_
 rw [hsize]
 refine wpAny_inv (PairTInv a0 w0 B x0 x1 x2 x3 ga gb va0 va1 va2 vb0 vb1 vb2 p q) ?_ ?_ _ _ _ _ (by simp) ?_
 ·intro l a w hr hI
  have hall : ∀ i, i < 6 → l.getD i false = true := by
   intro i
   induction i using Nat.strongRecOn with
   | ind i ih =>
    intro hi
    refine Classical.byContradiction fun hn => ?_
    have hsz := hI.sz
    have h1 : l.getD i true = false := by
     rw [Array.getD_eq_getD_getElem?] at hn ⊢
     rw [Array.getElem?_eq_getElem (by omega)] at hn ⊢
     simpa using hn
    rw [List.all_eq_true] at hord
    have h2 := hord i (List.mem_range.2 hi)
    have hm : i ∈ Region.ready .any ops l := by
     rw [mem_ready]
     refine ⟨h1, _, Array.getElem?_eq_getElem (by rw [hsize]; exact hi), fun e he hbd => ?_⟩
     rw [Array.getElem?_eq_getElem (by rw [hsize]; exact hi)] at h2
     have h3 := (Array.all_eq_true_iff_forall_mem.1 h2) e he
     rw [hbd] at h3
     have h4 : e.on < i := by simpa using h3
     exact ih e.on h4 (by omega)
    rw [hr] at hm
    cases hm
  have b0 := hI.s0 (hall 0 (by omega))
  obtain ⟨v1, b1, q1⟩ := hI.s1 (hall 1 (by omega))
  have b2 := hI.s2 (hall 2 (by omega))
  obtain ⟨v3, b3, q3⟩ := hI.s3 (hall 3 (by omega))
  have h6 := (hI.s4 (hall 4 (by omega))).2.2 v1 b1
  have h7 := (hI.s5 (hall 5 (by omega))).2 v3 b3
  have key := hQ v1 v3 w q1 q3 h6 h7 hI.below hI.oth
  have ea : a = (((a0.put (some x0) (.agg #[va0, va1, va2])).put (some x1) v1).put (some x2) (.agg #[vb0, vb1, vb2])).put (some x3) v3 := by
   have e1 : a.tmps = ((((a0.put (some x0) (.agg #[va0, va1, va2])).put (some x1) v1).put (some x2) (.agg #[vb0, vb1, vb2])).put (some x3) v3).tmps := by
    apply Array.ext_getElem?
    intro k
    by_cases k3 : x3 = k
    ·subst k3; rw [b3, put_eq _ _ (by simp only [put_size]; exact z3)]
    rw [put_ne _ _ k3]
    by_cases k2 : x2 = k
    ·subst k2; rw [b2, put_eq _ _ (by simp only [put_size]; exact z2)]
    rw [put_ne _ _ k2]
    by_cases k1 : x1 = k
    ·subst k1; rw [b1, put_eq _ _ (by simp only [put_size]; exact z1)]
    rw [put_ne _ _ k1]
    by_cases k0 : x0 = k
    ·subst k0; rw [b0, put_eq _ _ z0]
    rw [put_ne _ _ k0]
    exact hI.frame k (Ne.symm k0) (Ne.symm k1) (Ne.symm k2) (Ne.symm k3)
   have e2 := hI.defers
   cases a
   simp only at e1 e2
   rw [e1, e2]
   rfl
  rw [ea]
  exact key
 ·intro l a w i hi hI K hK
  obtain ⟨hun, o, ho, hall⟩ := mem_ready.1 hi
  have hi6 : i < 6 := by have := (Array.getElem?_eq_some_iff.1 ho).1; rwa [hsize] at this
  have hcase : i = 0 ∨ i = 1 ∨ i = 2 ∨ i = 3 ∨ i = 4 ∨ i = 5 := by omega
  rcases hcase with rfl | rfl | rfl | rfl | rfl | rfl
  ·have m4 : ¬ l.getD 4 false = true := fun h => absurd ((hI.s4 h).1) (not_listed hun)
   have m5 : ¬ l.getD 5 false = true := fun h => absurd ((hI.s5 h).1 0 (by omega)) (not_listed hun)
   have hJ := hI
   have t1 : a.tmps.getD ta undef = .pointer (some ⟨ga, 0, none⟩) := getD_of ((hI.frame ta (Ne.symm n04) (Ne.symm n14) (Ne.symm n24) (Ne.symm n34)).trans ha)
   obtain ⟨k0, k1, k2, _, _, _⟩ := (hJ.boxA m4).cells
   refine wpOp_plain e0 rfl (fun K' hK' => ?_)
   go_simp
   exact hK' _ _ (hK (a.put (some x0) (.agg #[va0, va1, va2])) w ⟨(fun k h0 h1 h2 h3 => (put_ne a _ (Ne.symm h0)).trans (hJ.frame k h0 h1 h2 h3)), (put_size _ _ _).trans hJ.size, hJ.defers, hJ.below, (fun h => hJ.boxA (fun h4 => h (getD_set_true h4))), (fun h => hJ.boxB (fun h5 => h (getD_set_true h5))), (fun _ => put_eq _ _ (by rw [hI.size]; exact z0)), (fun e => by
    rcases bit_set e with h | h
    ·omega
    ·rw [put_ne _ _ n01]; exact hJ.s1 h), (fun e => by
    rcases bit_set e with h | h
    ·omega
    ·rw [put_ne _ _ n02]; exact hJ.s2 h), (fun e => by
    rcases bit_set e with h | h
    ·omega
    ·rw [put_ne _ _ n03]; exact hJ.s3 h), hJ.shpA, hJ.shpB, (fun e => by
    rcases bit_set e with h | h
    ·omega
    ·exact absurd h m4), (fun e => by
    rcases bit_set e with h | h
    ·omega
    ·exact absurd h m5), (by rw [Array.size_setIfInBounds]; exact hJ.sz), hJ.oth⟩)
  ·obtain rfl := Option.some.inj (ho.symm.trans e1)
   have m4 : ¬ l.getD 4 false = true := fun h => absurd ((hI.s4 h).2.1) (not_listed hun)
   have m5 : ¬ l.getD 5 false = true := fun h => absurd ((hI.s5 h).1 1 (by omega)) (not_listed hun)
   have t1 : a.tmps.getD x0 undef = .agg #[va0, va1, va2] := getD_of (hI.s0 (dep_of d1 hall))
   have hb0 := hI.below
   refine wpOp_plain e1 rfl (fun K' hK' => ?_)
   go_simp
   refine (hf _ hb0).mono ?_
   rintro e w1 ⟨A1, c1, A2, c2, rfl, hr1, hr2, hb1⟩
   have hJ := hI.world hb1 hBw
   exact hK' _ _ (hK (a.put (some x1) (.agg #[.bool (rneg p), .slice A1 (limbs (rnum p)).length c1, .slice A2 (limbs p.den).length c2])) w1 ⟨(fun k h0 h1 h2 h3 => (put_ne a _ (Ne.symm h1)).trans (hJ.frame k h0 h1 h2 h3)), (put_size _ _ _).trans hJ.size, hJ.defers, hJ.below, (fun h => hJ.boxA (fun h4 => h (getD_set_true h4))), (fun h => hJ.boxB (fun h5 => h (getD_set_true h5))), (fun e => by
    rcases bit_set e with h | h
    ·omega
    ·rw [put_ne _ _ (Ne.symm n01)]; exact hJ.s0 h), (fun _ => ⟨_, put_eq _ _ (by rw [hI.size]; exact z1), A1, c1, A2, c2, rfl, hr1, hr2⟩), (fun e => by
    rcases bit_set e with h | h
    ·omega
    ·rw [put_ne _ _ n12]; exact hJ.s2 h), (fun e => by
    rcases bit_set e with h | h
    ·omega
    ·rw [put_ne _ _ n13]; exact hJ.s3 h), hJ.shpA, hJ.shpB, (fun e => by
    rcases bit_set e with h | h
    ·omega
    ·exact absurd h m4), (fun e => by
    rcases bit_set e with h | h
    ·omega
    ·exact absurd h m5), (by rw [Array.size_setIfInBounds]; exact hJ.sz), hJ.oth⟩)
  ·have m4 : True := trivial
   have m5 : ¬ l.getD 5 false = true := fun h => absurd ((hI.s5 h).1 2 (by omega)) (not_listed hun)
   have hJ := hI
   have t1 : a.tmps.getD tb undef = .pointer (some ⟨gb, 0, none⟩) := getD_of ((hI.frame tb (Ne.symm n05) (Ne.symm n15) (Ne.symm n25) (Ne.symm n35)).trans hb)
   obtain ⟨k0, k1, k2, _, _, _⟩ := (hJ.boxB m5).cells
   refine wpOp_plain e2 rfl (fun K' hK' => ?_)
   go_simp
   exact hK' _ _ (hK (a.put (some x2) (.agg #[vb0, vb1, vb2])) w ⟨(fun k h0 h1 h2 h3 => (put_ne a _ (Ne.symm h2)).trans (hJ.frame k h0 h1 h2 h3)), (put_size _ _ _).trans hJ.size, hJ.defers, hJ.below, (fun h => hJ.boxA (fun h4 => h (getD_set_true h4))), (fun h => hJ.boxB (fun h5 => h (getD_set_true h5))), (fun e => by
    rcases bit_set e with h | h
    ·omega
    ·rw [put_ne _ _ (Ne.symm n02)]; exact hJ.s0 h), (fun e => by
    rcases bit_set e with h | h
    ·omega
    ·rw [put_ne _ _ (Ne.symm n12)]; exact hJ.s1 h), (fun _ => put_eq _ _ (by rw [hI.size]; exact z2)), (fun e => by
    rcases bit_set e with h | h
    ·omega
    ·rw [put_ne _ _ n23]; exact hJ.s3 h), hJ.shpA, hJ.shpB, (fun e => by
    rcases bit_set e with h | h
    ·omega
    ·obtain ⟨l0, l1, hh⟩ := hJ.s4 h
     rw [put_ne _ _ (Ne.symm n12)]; exact ⟨getD_set_true l0, getD_set_true l1, hh⟩), (fun e => by
    rcases bit_set e with h | h
    ·omega
    ·exact absurd h m5), (by rw [Array.size_setIfInBounds]; exact hJ.sz), hJ.oth⟩)
  ·obtain rfl := Option.some.inj (ho.symm.trans e3)
   have m4 : True := trivial
   have m5 : ¬ l.getD 5 false = true := fun h => absurd ((hI.s5 h).1 3 (by omega)) (not_listed hun)
   have t1 : a.tmps.getD x2 undef = .agg #[vb0, vb1, vb2] := getD_of (hI.s2 (dep_of d3 hall))
   have hb0 := hI.below
   refine wpOp_plain e3 rfl (fun K' hK' => ?_)
   go_simp
   refine (hf' _ hb0).mono ?_
   rintro e w1 ⟨A1, c1, A2, c2, rfl, hr1, hr2, hb1⟩
   have hJ := hI.world hb1 hBw
   exact hK' _ _ (hK (a.put (some x3) (.agg #[.bool (rneg q), .slice A1 (limbs (rnum q)).length c1, .slice A2 (limbs q.den).length c2])) w1 ⟨(fun k h0 h1 h2 h3 => (put_ne a _ (Ne.symm h3)).trans (hJ.frame k h0 h1 h2 h3)), (put_size _ _ _).trans hJ.size, hJ.defers, hJ.below, (fun h => hJ.boxA (fun h4 => h (getD_set_true h4))), (fun h => hJ.boxB (fun h5 => h (getD_set_true h5))), (fun e => by
    rcases bit_set e with h | h
    ·omega
    ·rw [put_ne _ _ (Ne.symm n03)]; exact hJ.s0 h), (fun e => by
    rcases bit_set e with h | h
    ·omega
    ·rw [put_ne _ _ (Ne.symm n13)]; exact hJ.s1 h), (fun e => by
    rcases bit_set e with h | h
    ·omega
    ·rw [put_ne _ _ (Ne.symm n23)]; exact hJ.s2 h), (fun _ => ⟨_, put_eq _ _ (by rw [hI.size]; exact z3), A1, c1, A2, c2, rfl, hr1, hr2⟩), hJ.shpA, hJ.shpB, (fun e => by
    rcases bit_set e with h | h
    ·omega
    ·obtain ⟨l0, l1, hh⟩ := hJ.s4 h
     rw [put_ne _ _ (Ne.symm n13)]; exact ⟨getD_set_true l0, getD_set_true l1, hh⟩), (fun e => by
    rcases bit_set e with h | h
    ·omega
    ·exact absurd h m5), (by rw [Array.size_setIfInBounds]; exact hJ.sz), hJ.oth⟩)
  ·obtain rfl := Option.some.inj (ho.symm.trans e4)
   have hl : ∀ j, j < 2 → l.getD j false = true := fun j hj => by
    have : j = 0 ∨ j = 1 := by omega
    rcases this with rfl | rfl
    ·exact dep_of (List.all_eq_true.1 d4 0 (by decide)) hall
    ·exact dep_of (List.all_eq_true.1 d4 1 (by decide)) hall
   have t1 : a.tmps.getD ta undef = .pointer (some ⟨ga, 0, none⟩) := getD_of ((hI.frame ta (Ne.symm n04) (Ne.symm n14) (Ne.symm n24) (Ne.symm n34)).trans ha)
   obtain ⟨v, hv, hq⟩ := hI.s1 (hl 1 (by omega))
   have hq' := hq
   obtain ⟨A1, c1, A2, c2, rfl, hr1, hr2⟩ := hq'
   have t2 : a.tmps.getD x1 undef = .agg #[.bool (rneg p), .slice A1 (limbs (rnum p)).length c1, .slice A2 (limbs p.den).length c2] := getD_of hv
   have hsh := hI.shpA
   obtain ⟨b0, A0, n0, c0, A3, n3, c3, hB3⟩ := hsh
   obtain ⟨k0, k1, k2, f0, f1, f2⟩ := hB3.cells
   refine wpOp_plain e4 rfl (fun K' hK' => ?_)
   go_simp
   exact hK' _ _ (hK a _ ⟨hI.frame, hI.size, hI.defers, B3.belowSet hI.below hgA _ _ _, (fun h => absurd (getD_set_self4 hI.sz) h), (fun h => (hI.boxB (fun h5 => h (getD_set_true h5))).other3 (Ne.symm hgab) _ _ _), (fun e => hI.s0 (get_of_set (by omega) e)), (fun e => (hI.s1 (get_of_set (by omega) e)).imp fun _ hx => ⟨hx.1, hx.2.set hI.shpA _ _ _⟩), (fun e => hI.s2 (get_of_set (by omega) e)), (fun e => (hI.s3 (get_of_set (by omega) e)).imp fun _ hx => ⟨hx.1, hx.2.set hI.shpA _ _ _⟩), ⟨_, _, _, _, _, _, _, hB3.set _ _ _⟩, hI.shpB.set hB3 _ _ _ _ _ _ _, (fun _ => ⟨getD_set_true (hl 0 (by omega)), getD_set_true (hl 1 (by omega)), fun v2 h2 => by
     obtain rfl := Option.some.inj (hv.symm.trans h2)
     exact ⟨_, _, _, rfl, hB3.set _ _ _⟩⟩), (fun e => by
    rcases bit_set e with h | h
    ·omega
    ·obtain ⟨h1, h2⟩ := hI.s5 h
     refine ⟨fun j hj => getD_set_true (h1 j hj), fun v2 h3 => ?_⟩
     obtain ⟨w0', w1', w2', e', hH⟩ := h2 v2 h3
     exact ⟨w0', w1', w2', e', hH.other3 (Ne.symm hgab) _ _ _⟩), (by rw [Array.size_setIfInBounds]; exact hI.sz), hI.oth.set3 (.inl rfl) _ _ _⟩)
  ·obtain rfl := Option.some.inj (ho.symm.trans e5)
   have hl : ∀ j, j < 4 → l.getD j false = true := fun j hj => by
    have : j = 0 ∨ j = 1 ∨ j = 2 ∨ j = 3 := by omega
    rcases this with rfl | rfl | rfl | rfl
    ·exact dep_of (List.all_eq_true.1 d5 0 (by decide)) hall
    ·exact dep_of (List.all_eq_true.1 d5 1 (by decide)) hall
    ·exact dep_of (List.all_eq_true.1 d5 2 (by decide)) hall
    ·exact dep_of (List.all_eq_true.1 d5 3 (by decide)) hall
   have t1 : a.tmps.getD tb undef = .pointer (some ⟨gb, 0, none⟩) := getD_of ((hI.frame tb (Ne.symm n05) (Ne.symm n15) (Ne.symm n25) (Ne.symm n35)).trans hb)
   obtain ⟨v, hv, hq⟩ := hI.s3 (hl 3 (by omega))
   have hq' := hq
   obtain ⟨A1, c1, A2, c2, rfl, hr1, hr2⟩ := hq'
   have t2 : a.tmps.getD x3 undef = .agg #[.bool (rneg q), .slice A1 (limbs (rnum q)).length c1, .slice A2 (limbs q.den).length c2] := getD_of hv
   have hsh := hI.shpB
   obtain ⟨b0, A0, n0, c0, A3, n3, c3, hB3⟩ := hsh
   obtain ⟨k0, k1, k2, f0, f1, f2⟩ := hB3.cells
   refine wpOp_plain e5 rfl (fun K' hK' => ?_)
   go_simp
   exact hK' _ _ (hK a _ ⟨hI.frame, hI.size, hI.defers, B3.belowSet hI.below hgB _ _ _, (fun h => (hI.boxA (fun h4 => h (getD_set_true h4))).other3 hgab _ _ _), (fun h => absurd (getD_set_self5 hI.sz) h), (fun e => hI.s0 (get_of_set (by omega) e)), (fun e => (hI.s1 (get_of_set (by omega) e)).imp fun _ hx => ⟨hx.1, hx.2.set hI.shpB _ _ _⟩), (fun e => hI.s2 (get_of_set (by omega) e)), (fun e => (hI.s3 (get_of_set (by omega) e)).imp fun _ hx => ⟨hx.1, hx.2.set hI.shpB _ _ _⟩), hI.shpA.set hB3 _ _ _ _ _ _ _, ⟨_, _, _, _, _, _, _, hB3.set _ _ _⟩, (fun e => by
    rcases bit_set e with h | h
    ·omega
    ·obtain ⟨l0, l1, h2⟩ := hI.s4 h
     refine ⟨getD_set_true l0, getD_set_true l1, fun v2 h3 => ?_⟩
     obtain ⟨w0', w1', w2', e', hH⟩ := h2 v2 h3
     exact ⟨w0', w1', w2', e', hH.other3 hgab _ _ _⟩), (fun _ => ⟨fun j hj => getD_set_true (hl j hj), fun v2 h2 => by
     obtain rfl := Option.some.inj (hv.symm.trans h2)
     exact ⟨_, _, _, rfl, hB3.set _ _ _⟩⟩), (by rw [Array.size_setIfInBounds]; exact hI.sz), hI.oth.set3 (.inr rfl) _ _ _⟩)
 ·exact ⟨fun _ _ _ _ _ => rfl, rfl, rfl, ⟨rfl, rfl, rfl, Nat.le_refl _, fun _ _ => rfl⟩, fun _ => hA, fun _ => hB, fun h => by simp at h, fun h => by simp at h, fun h => by simp at h, fun h => by simp at h, hSA, hSB, fun h => by simp at h, fun h => by simp at h, by simp, fun _ _ _ _ => rfl⟩
end Go.Proofs.YtahdlpkncemmaaaGreat
