/- A region 'x, y  · Walks · Walks. Conditions: those that each theorem names. -/
import Derived.Test.YtahdlpkncemmaaaW16
import Derived.RegionTactic
import Derived.Test.YtahdlpkncemmaaaW5
import Derived.Deep.QuietTactic
import Derived.BigQuiet
set_option maxRecDepth 100000
set_option maxHeartbeats 8000000
set_option linter.unusedSimpArgs false
set_option linter.unusedVariables false
namespace Pg
open Go Go.RowKit
theorem count_set_true : ∀ (xs : List Bool) (i : Nat), xs[i]? = some false → (xs.set i true).count false + 1 = xs.count false
 | [], i, h => by simp at h
 | b :: xs, 0, h => by simp at h; subst h; simp
 | b :: xs, i + 1, h => by
  have := count_set_true xs i (by simpa using h)
  simp only [List.set_cons_succ, List.count_cons]; omega
theorem getD_false {l : Array Bool} {i : Nat} (h : l.getD i true = false) : l.toList[i]? = some false := by
 rw [Array.getD_eq_getD_getElem?] at h
 rw [Array.getElem?_toList]
 cases hh : l[i]? with
 | none => rw [hh] at h; cases h
 | some b => rw [hh] at h; simp at h; subst h; rfl
theorem wpAny_inv {P : Program} {ops : Array Oper} {Q : Exit → Act → World → Prop} {md : Region.Mode} (Inv : Array Bool → Act → World → Prop)
  (hfin : ∀ l a w, Region.ready md ops l = [] → Inv l a w → Q .normal a w)
  (hstep : ∀ l a w i, i ∈ Region.ready md ops l → Inv l a w → ∀ K : Act → World → Prop, (∀ a' w', Inv (l.setIfInBounds i true) a' w' → K a' w') → wpOp P ops Q i K a w) :
  ∀ (fuel : Nat) (l : Array Bool) (a : Act) (w : World), l.toList.count false ≤ fuel → Inv l a w → wpAny P md ops Q fuel l a w := by
 intro fuel
 induction fuel with
 | zero =>
  intro l a w h hI
  have hr : Region.ready md ops l = [] := by
   cases hr : Region.ready md ops l with
   | nil => rfl
   | cons i rs =>
    have h1 := getD_false (mem_ready.1 (show i ∈ Region.ready md ops l by rw [hr]; exact List.mem_cons_self)).1
    have h2 : 0 < l.toList.count false := List.count_pos_iff.2 (List.mem_of_getElem? h1)
    omega
  exact ⟨hr, hfin l a w hr hI⟩
 | succ fuel ih =>
  intro l a w h hI
  refine ⟨fun hr => hfin l a w hr hI, fun i hi => hstep l a w i hi hI _ (fun a' w' h' => ih _ a' w' ?_ h')⟩
  have h1 := count_set_true l.toList i (getD_false (mem_ready.1 hi).1)
  rw [Array.toList_setIfInBounds]
  omega
theorem wpOp_plain {P : Program} {ops : Array Oper} {Q : Exit → Act → World → Prop} {i : Nat} {o : Oper} {K : Act → World → Prop} {a : Act} {w : World} (ho : ops[i]? = some o) (hg : o.guard = none)
  (h : ∀ K' : Act → World → Prop, (∀ a w, K a w → K' a w) → Oper.wp P o a w K' Q) : wpOp P ops Q i K a w :=
 wpOp_step ho fun K' hK' => by
  have : Region.wanted o (yielded ops a.tmps) = true := by unfold Region.wanted; rw [hg]
  rw [if_pos this]; exact h K' hK'
theorem put_get (a : Act) (d : Nat) (v : Value) (k : Nat) : (a.put (some d) v).tmps[k]? = if d = k then (if d < a.tmps.size then some v else none) else a.tmps[k]? := by
 show (a.tmps.setIfInBounds d v)[k]? = _
 rw [Array.getElem?_setIfInBounds]
theorem put_ne (a : Act) {d k : Nat} (v : Value) (h : d ≠ k) : (a.put (some d) v).tmps[k]? = a.tmps[k]? := by rw [put_get, if_neg h]
theorem put_eq (a : Act) {d : Nat} (v : Value) (h : d < a.tmps.size) : (a.put (some d) v).tmps[d]? = some v := by rw [put_get, if_pos rfl, if_pos h]
theorem put_size (a : Act) (d : Nat) (v : Value) : (a.put (some d) v).tmps.size = a.tmps.size := by show (a.tmps.setIfInBounds d v).size = _; simp
theorem getD_of {a : Act} {k : Nat} {v : Value} (h : a.tmps[k]? = some v) : a.tmps.getD k undef = v := by rw [Array.getD_eq_getD_getElem?, h]; rfl
theorem bit_set {l : Array Bool} {i j : Nat} (hj : (l.setIfInBounds i true).getD j false = true) : j = i ∨ l.getD j false = true := by
 by_cases h : i = j
 ·exact .inl h.symm
 ·right; rw [getD_set_ne false h] at hj; exact hj
theorem dep_of {af : Array Edge} {j : Nat} {l : Array Bool} (h : af.any (fun e => Region.binds .any e && e.on == j) = true) (hall : ∀ e ∈ af, Region.binds .any e = true → l.getD e.on false = true) : l.getD j false = true := by
 obtain ⟨e, he, hb⟩ := Array.any_eq_true'.1 h
 simp only [Bool.and_eq_true, beq_iff_eq] at hb
 rw [← hb.2]; exact hall e he hb.1
end Pg
namespace Go.Proofs.Ytahdlpkncemmaaa
open Go.RowKit Pg
def IsQ (w : World) (q : Rat) (v : Value) : Prop := ∃ A c A' c', v = .agg #[.bool (rneg q), .slice A (limbs (rnum q)).length c, .slice A' (limbs q.den).length c'] ∧ Row w A (limbs (rnum q)).length c (limbs (rnum q)) ∧ Row w A' (limbs q.den).length c' (limbs q.den)
theorem IsQ.below {w w' : World} {q : Rat} {v : Value} (h : IsQ w q v) (hb : Below w.heap.size w w') : IsQ w' q v := by
 obtain ⟨A, c, A', c', e, h1, h2⟩ := h
 exact ⟨A, c, A', c', e, h1.below hb, h2.below hb⟩
def Shp (w : World) (g : Nat) : Prop := ∃ b A n c A' n' c', B3 w g 25 (.bool b) (.slice A n c) (.slice A' n' c')
theorem Shp.below {w w' : World} {g : Nat} (h : Shp w g) (hb : Below w.heap.size w w') : Shp w' g := by
 obtain ⟨b, A, n, c, A', n', c', h⟩ := h
 exact ⟨b, A, n, c, A', n', c', h.below hb⟩
theorem Shp.lt {w : World} {g : Nat} (h : Shp w g) : g < w.heap.size := by obtain ⟨_, _, _, _, _, _, _, h⟩ := h; exact h.lt
theorem not_listed {l : Array Bool} {i : Nat} (h : l.getD i true = false) : ¬ l.getD i false = true := by
 rw [Array.getD_eq_getD_getElem?] at h ⊢
 cases hh : l[i]? with
 | none => rw [hh] at h; cases h
 | some b => rw [hh] at h; simp at h; subst h; simp
theorem Shp.set {w : World} {g h : Nat} (hs : Shp w g) {b : Bool} {A : Option Addr} {n c : Nat} {A' : Option Addr} {n' c' : Nat} (hB : B3 w h 25 (.bool b) (.slice A n c) (.slice A' n' c')) (b1 : Bool) (A1 : Option Addr) (n1 c1 : Nat) (A2 : Option Addr) (n2 c2 : Nat) :
  Shp (((w.setCell ⟨h, 0, none⟩ (.bool b1)).setCell ⟨h, 1, none⟩ (.slice A1 n1 c1)).setCell ⟨h, 2, none⟩ (.slice A2 n2 c2)) g := by
 by_cases e : g = h
 ·subst e; exact ⟨_, _, _, _, _, _, _, hB.set _ _ _⟩
 ·obtain ⟨b0, A0, n0, c0, A3, n3, c3, hg⟩ := hs
  unfold B3 at hg
  refine ⟨b0, A0, n0, c0, A3, n3, c3, ?_⟩
  unfold B3
  rw [heap_setCell_other _ ⟨h, 2, none⟩ g _ e, heap_setCell_other _ ⟨h, 1, none⟩ g _ e, heap_setCell_other _ ⟨h, 0, none⟩ g _ e]
  exact hg
theorem IsQ.set {w : World} {q : Rat} {v : Value} {g : Nat} (h : IsQ w q v) (hs : Shp w g) (u0 u1 u2 : Value) : IsQ (((w.setCell ⟨g, 0, none⟩ u0).setCell ⟨g, 1, none⟩ u1).setCell ⟨g, 2, none⟩ u2) q v := by
 obtain ⟨A, c, A', c', e, h1, h2⟩ := h
 obtain ⟨b, A0, n0, c0, A1, n1, c1, hB⟩ := hs
 exact ⟨A, c, A', c', e, hB.row h1 _ _ _, hB.row h2 _ _ _⟩
theorem B3.other3 {w : World} {g h : Nat} {t : TypeId} {v0 v1 v2 : Value} (hB : B3 w g t v0 v1 v2) (hne : g ≠ h) (u0 u1 u2 : Value) : B3 (((w.setCell ⟨h, 0, none⟩ u0).setCell ⟨h, 1, none⟩ u1).setCell ⟨h, 2, none⟩ u2) g t v0 v1 v2 := by
 unfold B3
 rw [heap_setCell_other _ ⟨h, 2, none⟩ g u2 hne, heap_setCell_other _ ⟨h, 1, none⟩ g u1 hne, heap_setCell_other _ ⟨h, 0, none⟩ g u0 hne]
 exact hB
def Hld (w : World) (g : Nat) (v : Value) : Prop := ∃ v0 v1 v2, v = .agg #[v0, v1, v2] ∧ B3 w g 25 v0 v1 v2
theorem Hld.below {w w' : World} {g : Nat} {v : Value} (h : Hld w g v) (hb : Below w.heap.size w w') : Hld w' g v := by
 obtain ⟨v0, v1, v2, e, h⟩ := h
 exact ⟨v0, v1, v2, e, h.below hb⟩
structure PairInv (a0 : Act) (w0 : World) (x0 x1 x2 x3 p1 p2 : Nat) (va vb : Value) (p q : Rat) (l : Array Bool) (a : Act) (w : World) : Prop where
 frame : ∀ k, k ≠ x0 → k ≠ x1 → k ≠ x2 → k ≠ x3 → k ≠ p1 → k ≠ p2 → a.tmps[k]? = a0.tmps[k]?
 size : a.tmps.size = a0.tmps.size
 defers : a.defers = a0.defers
 below : Below w0.heap.size w0 w
 s0 : l.getD 0 false = true → a.tmps[x0]? = some va
 s1 : l.getD 1 false = true → ∃ v, a.tmps[x1]? = some v ∧ IsQ w p v
 s2 : l.getD 2 false = true → a.tmps[x2]? = some vb
 s3 : l.getD 3 false = true → ∃ v, a.tmps[x3]? = some v ∧ IsQ w q v
 s4 : l.getD 4 false = true → ∃ g, a.tmps[p1]? = some (.pointer (some ⟨g, 0, none⟩)) ∧ w0.heap.size ≤ g ∧ Shp w g
 s5 : l.getD 5 false = true → ∃ g, a.tmps[p2]? = some (.pointer (some ⟨g, 0, none⟩)) ∧ w0.heap.size ≤ g ∧ Shp w g
 s45 : l.getD 4 false = true → l.getD 5 false = true → ∀ g h, a.tmps[p1]? = some (.pointer (some ⟨g, 0, none⟩)) → a.tmps[p2]? = some (.pointer (some ⟨h, 0, none⟩)) → g ≠ h
 s6 : l.getD 6 false = true → l.getD 4 false = true ∧ l.getD 1 false = true ∧ ∀ g v, a.tmps[p1]? = some (.pointer (some ⟨g, 0, none⟩)) → a.tmps[x1]? = some v → Hld w g v
 s7 : l.getD 7 false = true → l.getD 5 false = true ∧ l.getD 3 false = true ∧ ∀ g v, a.tmps[p2]? = some (.pointer (some ⟨g, 0, none⟩)) → a.tmps[x3]? = some v → Hld w g v
 sz : l.size = 8
theorem PairInv.world {a0 : Act} {w0 : World} {x0 x1 x2 x3 p1 p2 : Nat} {va vb : Value} {p q : Rat} {l : Array Bool} {a : Act} {w w' : World} (h : PairInv a0 w0 x0 x1 x2 x3 p1 p2 va vb p q l a w) (hb : Below w.heap.size w w') : PairInv a0 w0 x0 x1 x2 x3 p1 p2 va vb p q l a w' :=
 ⟨h.frame, h.size, h.defers, Below.then_ h.below hb, h.s0, fun e => (h.s1 e).imp fun _ hv => ⟨hv.1, hv.2.below hb⟩, h.s2, fun e => (h.s3 e).imp fun _v hv => ⟨hv.1, hv.2.below hb⟩,
  fun e => (h.s4 e).imp fun _ hv => ⟨hv.1, hv.2.1, hv.2.2.below hb⟩, fun e => (h.s5 e).imp fun _v hv => ⟨hv.1, hv.2.1, hv.2.2.below hb⟩, h.s45,
  fun e => ⟨(h.s6 e).1, (h.s6 e).2.1, fun g v h1 h2 => ((h.s6 e).2.2 g v h1 h2).below hb⟩, fun e => ⟨(h.s7 e).1, (h.s7 e).2.1, fun g v h1 h2 => ((h.s7 e).2.2 g v h1 h2).below hb⟩, h.sz⟩
theorem pair_region {id : Nat} {ops : Array Oper} {Q : Exit → Act → World → Prop} {a0 : Act} {w0 : World} (f f' ta tb x0 x1 x2 x3 p1 p2 : Nat) (ga gb : Nat) (va0 va1 va2 vb0 vb1 vb2 : Value) (p q : Rat) {ty0 ty1 ty2 ty3 ty4 ty5 ty6 ty7 : TypeId} {ps0 ps1 ps2 ps3 ps4 ps5 ps6 ps7 : String} {af0 af1 af2 af3 af4 af5 af6 af7 : Array Edge}
  (hops : ops = #[⟨some x0, .load 25 (.tmp ta), ty0, ps0, af0, none⟩, ⟨some x1, .call { callee := .value (.func f), args := #[.tmp x0], argTypes := #[25] }, ty1, ps1, af1, none⟩, ⟨some x2, .load 25 (.tmp tb), ty2, ps2, af2, none⟩, ⟨some x3, .call { callee := .value (.func f'), args := #[.tmp x2], argTypes := #[25] }, ty3, ps3, af3, none⟩, ⟨some p1, .alloc 25, ty4, ps4, af4, none⟩, ⟨some p2, .alloc 25, ty5, ps5, af5, none⟩, ⟨none, .store 25 (.tmp p1) (.tmp x1), ty6, ps6, af6, none⟩, ⟨none, .store 25 (.tmp p2) (.tmp x3), ty7, ps7, af7, none⟩])
  (hnd : [x0, x1, x2, x3, p1, p2, ta, tb].Nodup) (hlt : [x0, x1, x2, x3, p1, p2].all (fun k => decide (k < a0.tmps.size)) = true)
  (d1 : af1.any (fun e => Region.binds .any e && e.on == 0) = true) (d3 : af3.any (fun e => Region.binds .any e && e.on == 2) = true)
  (d6 : af6.any (fun e => Region.binds .any e && e.on == 4) = true) (d6' : af6.any (fun e => Region.binds .any e && e.on == 1) = true)
  (d7 : af7.any (fun e => Region.binds .any e && e.on == 5) = true) (d7' : af7.any (fun e => Region.binds .any e && e.on == 3) = true)
  (hord : (List.range 8).all (fun i => match ops[i]? with | some o => o.after.all (fun e => decide (e.on < i)) | none => true) = true)
  (ha : a0.tmps[ta]? = some (.pointer (some ⟨ga, 0, none⟩))) (hb : a0.tmps[tb]? = some (.pointer (some ⟨gb, 0, none⟩)))
  (hA : B3 w0 ga 25 va0 va1 va2) (hB : B3 w0 gb 25 vb0 vb1 vb2)
  (hc : ∀ args W, (callFunc f args).run Try.prog W = .ok (.enter f args) W) (hc' : ∀ args W, (callFunc f' args).run Try.prog W = .ok (.enter f' args) W)
  (hf : ∀ W, Below w0.heap.size w0 W → Calls Try.prog f #[.agg #[va0, va1, va2]] W (RatRet W p))
  (hf' : ∀ W, Below w0.heap.size w0 W → Calls Try.prog f' #[.agg #[vb0, vb1, vb2]] W (RatRet W q))
  (hQ : ∀ v1 v3 g1 g2 w', IsQ w' p v1 → IsQ w' q v3 → Hld w' g1 v1 → Hld w' g2 v3 → g1 ≠ g2 → w0.heap.size ≤ g1 → w0.heap.size ≤ g2 → Below w0.heap.size w0 w' →
   Q .normal ((((((a0.put (some x0) (.agg #[va0, va1, va2])).put (some x1) v1).put (some x2) (.agg #[vb0, vb1, vb2])).put (some x3) v3).put (some p1) (.pointer (some ⟨g1, 0, none⟩))).put (some p2) (.pointer (some ⟨g2, 0, none⟩))) w') :
  (Code.region id ops true).wp Try.prog Q a0 w0 := by
 have hsize : ops.size = 8 := by rw [hops]; rfl
 have e0 : ops[0]? = some (⟨some x0, .load 25 (.tmp ta), ty0, ps0, af0, none⟩ : Oper) := by rw [hops]; rfl
 have e1 : ops[1]? = some (⟨some x1, .call { callee := .value (.func f), args := #[.tmp x0], argTypes := #[25] }, ty1, ps1, af1, none⟩ : Oper) := by rw [hops]; rfl
 have e2 : ops[2]? = some (⟨some x2, .load 25 (.tmp tb), ty2, ps2, af2, none⟩ : Oper) := by rw [hops]; rfl
 have e3 : ops[3]? = some (⟨some x3, .call { callee := .value (.func f'), args := #[.tmp x2], argTypes := #[25] }, ty3, ps3, af3, none⟩ : Oper) := by rw [hops]; rfl
 have e4 : ops[4]? = some (⟨some p1, .alloc 25, ty4, ps4, af4, none⟩ : Oper) := by rw [hops]; rfl
 have e5 : ops[5]? = some (⟨some p2, .alloc 25, ty5, ps5, af5, none⟩ : Oper) := by rw [hops]; rfl
 have e6 : ops[6]? = some (⟨none, .store 25 (.tmp p1) (.tmp x1), ty6, ps6, af6, none⟩ : Oper) := by rw [hops]; rfl
 have e7 : ops[7]? = some (⟨none, .store 25 (.tmp p2) (.tmp x3), ty7, ps7, af7, none⟩ : Oper) := by rw [hops]; rfl
 clear hops
 simp only [List.nodup_cons, List.mem_cons, List.not_mem_nil, or_false, not_or] at hnd
 simp only [List.all_cons, List.all_nil, Bool.and_true, Bool.and_eq_true, decide_eq_true_eq] at hlt
 obtain ⟨⟨n01, n02, n03, n04, n05, n06, n07⟩, ⟨n12, n13, n14, n15, n16, n17⟩, ⟨n23, n24, n25, n26, n27⟩, ⟨n34, n35, n36, n37⟩, ⟨n45, n46, n47⟩, ⟨n56, n57⟩, _⟩ := hnd
 obtain ⟨z0, z1, z2, z3, z4, z5⟩ := hlt
 refine wp_region_any (by kernel_rfl) ?_
 rw [hsize]
 refine wpAny_inv (PairInv a0 w0 x0 x1 x2 x3 p1 p2 (.agg #[va0, va1, va2]) (.agg #[vb0, vb1, vb2]) p q) ?_ ?_ _ _ _ _ (by simp) ?_
 ·intro l a w hr hI
  have hall : ∀ i, i < 8 → l.getD i false = true := by
   intro i
   induction i using Nat.strongRecOn with
   | ind i ih =>
    intro hi
    refine Classical.byContradiction fun hn => ?_
    have hsz := hI.sz
    have h1 : l.getD i true = false := by
     rw [Array.getD_eq_getD_getElem?] at hn ⊢
     rw [Array.getElem?_eq_getElem (by omega)] at hn ⊢
     simpa using hn
    rw [List.all_eq_true] at hord
    have h2 := hord i (List.mem_range.2 hi)
    have hm : i ∈ Region.ready .any ops l := by
     rw [mem_ready]
     refine ⟨h1, _, Array.getElem?_eq_getElem (by rw [hsize]; exact hi), fun e he _ => ?_⟩
     rw [Array.getElem?_eq_getElem (by rw [hsize]; exact hi)] at h2
     have h3 := (Array.all_eq_true_iff_forall_mem.1 h2) e he
     have h4 : e.on < i := by simpa using h3
     exact ih e.on h4 (by omega)
    rw [hr] at hm
    cases hm
  have b0 := hI.s0 (hall 0 (by omega))
  obtain ⟨v1, b1, q1⟩ := hI.s1 (hall 1 (by omega))
  have b2 := hI.s2 (hall 2 (by omega))
  obtain ⟨v3, b3, q3⟩ := hI.s3 (hall 3 (by omega))
  obtain ⟨g1, b4, l4, _⟩ := hI.s4 (hall 4 (by omega))
  obtain ⟨g2, b5, l5, _⟩ := hI.s5 (hall 5 (by omega))
  have hne := hI.s45 (hall 4 (by omega)) (hall 5 (by omega)) g1 g2 b4 b5
  have h6 := (hI.s6 (hall 6 (by omega))).2.2 g1 v1 b4 b1
  have h7 := (hI.s7 (hall 7 (by omega))).2.2 g2 v3 b5 b3
  have key := hQ v1 v3 g1 g2 w q1 q3 h6 h7 hne l4 l5 hI.below
  have ea : a = (((((a0.put (some x0) (.agg #[va0, va1, va2])).put (some x1) v1).put (some x2) (.agg #[vb0, vb1, vb2])).put (some x3) v3).put (some p1) (.pointer (some ⟨g1, 0, none⟩))).put (some p2) (.pointer (some ⟨g2, 0, none⟩)) := by
   have e1 : a.tmps = ((((((a0.put (some x0) (.agg #[va0, va1, va2])).put (some x1) v1).put (some x2) (.agg #[vb0, vb1, vb2])).put (some x3) v3).put (some p1) (.pointer (some ⟨g1, 0, none⟩))).put (some p2) (.pointer (some ⟨g2, 0, none⟩))).tmps := by
    apply Array.ext_getElem?
    intro k
    by_cases k5 : p2 = k
    ·subst k5; rw [b5, put_eq _ _ (by simp only [put_size]; exact z5)]
    rw [put_ne _ _ k5]
    by_cases k4 : p1 = k
    ·subst k4; rw [b4, put_eq _ _ (by simp only [put_size]; exact z4)]
    rw [put_ne _ _ k4]
    by_cases k3 : x3 = k
    ·subst k3; rw [b3, put_eq _ _ (by simp only [put_size]; exact z3)]
    rw [put_ne _ _ k3]
    by_cases k2 : x2 = k
    ·subst k2; rw [b2, put_eq _ _ (by simp only [put_size]; exact z2)]
    rw [put_ne _ _ k2]
    by_cases k1 : x1 = k
    ·subst k1; rw [b1, put_eq _ _ (by simp only [put_size]; exact z1)]
    rw [put_ne _ _ k1]
    by_cases k0 : x0 = k
    ·subst k0; rw [b0, put_eq _ _ z0]
    rw [put_ne _ _ k0]
    exact hI.frame k (Ne.symm k0) (Ne.symm k1) (Ne.symm k2) (Ne.symm k3) (Ne.symm k4) (Ne.symm k5)
   have e2 := hI.defers
   cases a
   simp only at e1 e2
   rw [e1, e2]
   rfl
  rw [ea]
  exact key
 ·intro l a w i hi hI K hK
  obtain ⟨hun, o, ho, hall⟩ := mem_ready.1 hi
  have hi8 : i < 8 := by have := (Array.getElem?_eq_some_iff.1 ho).1; rwa [hsize] at this
  have hcase : i = 0 ∨ i = 1 ∨ i = 2 ∨ i = 3 ∨ i = 4 ∨ i = 5 ∨ i = 6 ∨ i = 7 := by omega
  rcases hcase with rfl | rfl | rfl | rfl | rfl | rfl | rfl | rfl
  ·have t1 : a.tmps.getD ta undef = .pointer (some ⟨ga, 0, none⟩) := getD_of ((hI.frame ta (Ne.symm n06) (Ne.symm n16) (Ne.symm n26) (Ne.symm n36) (Ne.symm n46) (Ne.symm n56)).trans ha)
   obtain ⟨k0, k1, k2, _, _, _⟩ := (hA.below hI.below).cells
   refine wpOp_plain e0 rfl (fun K' hK' => ?_)
   go_simp
   have hJ := hI
   exact hK' _ _ (hK (a.put (some x0) (.agg #[va0, va1, va2])) w ⟨(fun k h0 h1 h2 h3 h4 h5 => (put_ne a _ (Ne.symm h0)).trans (hJ.frame k h0 h1 h2 h3 h4 h5)), (put_size _ _ _).trans hJ.size, hJ.defers, hJ.below, (fun _ => put_eq _ _ (by rw [hI.size]; exact z0)), (fun e => by
    rcases bit_set e with h | h
    ·omega
    ·rw [put_ne _ _ n01]; exact hJ.s1 h), (fun e => by
    rcases bit_set e with h | h
    ·omega
    ·rw [put_ne _ _ n02]; exact hJ.s2 h), (fun e => by
    rcases bit_set e with h | h
    ·omega
    ·rw [put_ne _ _ n03]; exact hJ.s3 h), (fun e => by
    rcases bit_set e with h | h
    ·omega
    ·rw [put_ne _ _ n04]; exact hJ.s4 h), (fun e => by
    rcases bit_set e with h | h
    ·omega
    ·rw [put_ne _ _ n05]; exact hJ.s5 h), (fun e e' => by
    rcases bit_set e with h | h
    ·omega
    ·rcases bit_set e' with h' | h'
     ·omega
     ·rw [put_ne _ _ n04, put_ne _ _ n05]; exact hJ.s45 h h'), (fun e => by
    rcases bit_set e with h | h
    ·omega
    ·obtain ⟨b4, b1, hh⟩ := hJ.s6 h
     rw [put_ne _ _ n04, put_ne _ _ n01]; exact ⟨getD_set_true b4, getD_set_true b1, hh⟩), (fun e => by
    rcases bit_set e with h | h
    ·omega
    ·obtain ⟨b4, b1, hh⟩ := hJ.s7 h
     rw [put_ne _ _ n05, put_ne _ _ n03]; exact ⟨getD_set_true b4, getD_set_true b1, hh⟩), by rw [Array.size_setIfInBounds]; exact hJ.sz⟩)
  ·obtain rfl := Option.some.inj (ho.symm.trans e1)
   have t1 : a.tmps.getD x0 undef = .agg #[va0, va1, va2] := getD_of (hI.s0 (dep_of d1 hall))
   have hB0 := hI.below
   refine wpOp_plain e1 rfl (fun K' hK' => ?_)
   go_simp
   refine (hf _ hB0).mono ?_
   rintro e w1 ⟨A1, c1, A2, c2, rfl, hr1, hr2, hb1⟩
   have hJ := hI.world hb1
   exact hK' _ _ (hK (a.put (some x1) (.agg #[.bool (rneg p), .slice A1 (limbs (rnum p)).length c1, .slice A2 (limbs p.den).length c2])) w1 ⟨(fun k h0 h1 h2 h3 h4 h5 => (put_ne a _ (Ne.symm h1)).trans (hJ.frame k h0 h1 h2 h3 h4 h5)), (put_size _ _ _).trans hJ.size, hJ.defers, hJ.below, (fun e => by
    rcases bit_set e with h | h
    ·omega
    ·rw [put_ne _ _ (Ne.symm n01)]; exact hJ.s0 h), (fun _ => ⟨_, put_eq _ _ (by rw [hI.size]; exact z1), A1, c1, A2, c2, rfl, hr1, hr2⟩), (fun e => by
    rcases bit_set e with h | h
    ·omega
    ·rw [put_ne _ _ n12]; exact hJ.s2 h), (fun e => by
    rcases bit_set e with h | h
    ·omega
    ·rw [put_ne _ _ n13]; exact hJ.s3 h), (fun e => by
    rcases bit_set e with h | h
    ·omega
    ·rw [put_ne _ _ n14]; exact hJ.s4 h), (fun e => by
    rcases bit_set e with h | h
    ·omega
    ·rw [put_ne _ _ n15]; exact hJ.s5 h), (fun e e' => by
    rcases bit_set e with h | h
    ·omega
    ·rcases bit_set e' with h' | h'
     ·omega
     ·rw [put_ne _ _ n14, put_ne _ _ n15]; exact hJ.s45 h h'), (fun e => by
    rcases bit_set e with h | h
    ·omega
    ·obtain ⟨b4, b1, hh⟩ := hJ.s6 h
     exact absurd b1 (not_listed hun)), (fun e => by
    rcases bit_set e with h | h
    ·omega
    ·obtain ⟨b4, b1, hh⟩ := hJ.s7 h
     rw [put_ne _ _ n15, put_ne _ _ n13]; exact ⟨getD_set_true b4, getD_set_true b1, hh⟩), by rw [Array.size_setIfInBounds]; exact hJ.sz⟩)
  ·have t1 : a.tmps.getD tb undef = .pointer (some ⟨gb, 0, none⟩) := getD_of ((hI.frame tb (Ne.symm n07) (Ne.symm n17) (Ne.symm n27) (Ne.symm n37) (Ne.symm n47) (Ne.symm n57)).trans hb)
   obtain ⟨k0, k1, k2, _, _, _⟩ := (hB.below hI.below).cells
   refine wpOp_plain e2 rfl (fun K' hK' => ?_)
   go_simp
   have hJ := hI
   exact hK' _ _ (hK (a.put (some x2) (.agg #[vb0, vb1, vb2])) w ⟨(fun k h0 h1 h2 h3 h4 h5 => (put_ne a _ (Ne.symm h2)).trans (hJ.frame k h0 h1 h2 h3 h4 h5)), (put_size _ _ _).trans hJ.size, hJ.defers, hJ.below, (fun e => by
    rcases bit_set e with h | h
    ·omega
    ·rw [put_ne _ _ (Ne.symm n02)]; exact hJ.s0 h), (fun e => by
    rcases bit_set e with h | h
    ·omega
    ·rw [put_ne _ _ (Ne.symm n12)]; exact hJ.s1 h), (fun _ => put_eq _ _ (by rw [hI.size]; exact z2)), (fun e => by
    rcases bit_set e with h | h
    ·omega
    ·rw [put_ne _ _ n23]; exact hJ.s3 h), (fun e => by
    rcases bit_set e with h | h
    ·omega
    ·rw [put_ne _ _ n24]; exact hJ.s4 h), (fun e => by
    rcases bit_set e with h | h
    ·omega
    ·rw [put_ne _ _ n25]; exact hJ.s5 h), (fun e e' => by
    rcases bit_set e with h | h
    ·omega
    ·rcases bit_set e' with h' | h'
     ·omega
     ·rw [put_ne _ _ n24, put_ne _ _ n25]; exact hJ.s45 h h'), (fun e => by
    rcases bit_set e with h | h
    ·omega
    ·obtain ⟨b4, b1, hh⟩ := hJ.s6 h
     rw [put_ne _ _ n24, put_ne _ _ (Ne.symm n12)]; exact ⟨getD_set_true b4, getD_set_true b1, hh⟩), (fun e => by
    rcases bit_set e with h | h
    ·omega
    ·obtain ⟨b4, b1, hh⟩ := hJ.s7 h
     rw [put_ne _ _ n25, put_ne _ _ n23]; exact ⟨getD_set_true b4, getD_set_true b1, hh⟩), by rw [Array.size_setIfInBounds]; exact hJ.sz⟩)
  ·obtain rfl := Option.some.inj (ho.symm.trans e3)
   have t1 : a.tmps.getD x2 undef = .agg #[vb0, vb1, vb2] := getD_of (hI.s2 (dep_of d3 hall))
   have hB0 := hI.below
   refine wpOp_plain e3 rfl (fun K' hK' => ?_)
   go_simp
   refine (hf' _ hB0).mono ?_
   rintro e w1 ⟨A1, c1, A2, c2, rfl, hr1, hr2, hb1⟩
   have hJ := hI.world hb1
   exact hK' _ _ (hK (a.put (some x3) (.agg #[.bool (rneg q), .slice A1 (limbs (rnum q)).length c1, .slice A2 (limbs q.den).length c2])) w1 ⟨(fun k h0 h1 h2 h3 h4 h5 => (put_ne a _ (Ne.symm h3)).trans (hJ.frame k h0 h1 h2 h3 h4 h5)), (put_size _ _ _).trans hJ.size, hJ.defers, hJ.below, (fun e => by
    rcases bit_set e with h | h
    ·omega
    ·rw [put_ne _ _ (Ne.symm n03)]; exact hJ.s0 h), (fun e => by
    rcases bit_set e with h | h
    ·omega
    ·rw [put_ne _ _ (Ne.symm n13)]; exact hJ.s1 h), (fun e => by
    rcases bit_set e with h | h
    ·omega
    ·rw [put_ne _ _ (Ne.symm n23)]; exact hJ.s2 h), (fun _ => ⟨_, put_eq _ _ (by rw [hI.size]; exact z3), A1, c1, A2, c2, rfl, hr1, hr2⟩), (fun e => by
    rcases bit_set e with h | h
    ·omega
    ·rw [put_ne _ _ n34]; exact hJ.s4 h), (fun e => by
    rcases bit_set e with h | h
    ·omega
    ·rw [put_ne _ _ n35]; exact hJ.s5 h), (fun e e' => by
    rcases bit_set e with h | h
    ·omega
    ·rcases bit_set e' with h' | h'
     ·omega
     ·rw [put_ne _ _ n34, put_ne _ _ n35]; exact hJ.s45 h h'), (fun e => by
    rcases bit_set e with h | h
    ·omega
    ·obtain ⟨b4, b1, hh⟩ := hJ.s6 h
     rw [put_ne _ _ n34, put_ne _ _ (Ne.symm n13)]; exact ⟨getD_set_true b4, getD_set_true b1, hh⟩), (fun e => by
    rcases bit_set e with h | h
    ·omega
    ·obtain ⟨b4, b1, hh⟩ := hJ.s7 h
     exact absurd b1 (not_listed hun)), by rw [Array.size_setIfInBounds]; exact hJ.sz⟩)
  ·refine wpOp_plain e4 rfl (fun K' hK' => ?_)
   go_simp
   have hJ := hI.world (Below.alloc (Below.refl _ _) (Nat.le_refl _) (.cells #[.bool false, .slice none 0 0, .slice none 0 0] 25))
   exact hK' _ _ (hK (a.put (some p1) (.pointer (some ⟨w.heap.size, 0, none⟩))) (w.alloc (.cells #[.bool false, .slice none 0 0, .slice none 0 0] 25)) ⟨(fun k h0 h1 h2 h3 h4 h5 => (put_ne a _ (Ne.symm h4)).trans (hJ.frame k h0 h1 h2 h3 h4 h5)), (put_size _ _ _).trans hJ.size, hJ.defers, hJ.below, (fun e => by
    rcases bit_set e with h | h
    ·omega
    ·rw [put_ne _ _ (Ne.symm n04)]; exact hJ.s0 h), (fun e => by
    rcases bit_set e with h | h
    ·omega
    ·rw [put_ne _ _ (Ne.symm n14)]; exact hJ.s1 h), (fun e => by
    rcases bit_set e with h | h
    ·omega
    ·rw [put_ne _ _ (Ne.symm n24)]; exact hJ.s2 h), (fun e => by
    rcases bit_set e with h | h
    ·omega
    ·rw [put_ne _ _ (Ne.symm n34)]; exact hJ.s3 h), (fun _ => ⟨w.heap.size, put_eq _ _ (by rw [hI.size]; exact z4), hI.below.size, false, none, 0, 0, none, 0, 0, B3.new _ _ _ _ _⟩), (fun e => by
    rcases bit_set e with h | h
    ·omega
    ·rw [put_ne _ _ n45]; exact hJ.s5 h), (fun e e' g h hg hh => by
    rcases bit_set e' with h' | h'
    ·omega
    ·rw [put_eq _ _ (by rw [hI.size]; exact z4)] at hg
     rw [put_ne _ _ n45] at hh
     obtain ⟨g', b5, _, hs⟩ := hI.s5 h'
     rw [b5] at hh
     injection hg with hg; injection hg with hg; injection hg with hg; injection hg with hg
     injection hh with hh; injection hh with hh; injection hh with hh; injection hh with hh
     have := Shp.lt hs
     omega), (fun e => by
    rcases bit_set e with h | h
    ·omega
    ·obtain ⟨b4, b1, hh⟩ := hJ.s6 h
     exact absurd b4 (not_listed hun)), (fun e => by
    rcases bit_set e with h | h
    ·omega
    ·obtain ⟨b4, b1, hh⟩ := hJ.s7 h
     rw [put_ne _ _ n45, put_ne _ _ (Ne.symm n34)]; exact ⟨getD_set_true b4, getD_set_true b1, hh⟩), by rw [Array.size_setIfInBounds]; exact hJ.sz⟩)
  ·refine wpOp_plain e5 rfl (fun K' hK' => ?_)
   go_simp
   have hJ := hI.world (Below.alloc (Below.refl _ _) (Nat.le_refl _) (.cells #[.bool false, .slice none 0 0, .slice none 0 0] 25))
   exact hK' _ _ (hK (a.put (some p2) (.pointer (some ⟨w.heap.size, 0, none⟩))) (w.alloc (.cells #[.bool false, .slice none 0 0, .slice none 0 0] 25)) ⟨(fun k h0 h1 h2 h3 h4 h5 => (put_ne a _ (Ne.symm h5)).trans (hJ.frame k h0 h1 h2 h3 h4 h5)), (put_size _ _ _).trans hJ.size, hJ.defers, hJ.below, (fun e => by
    rcases bit_set e with h | h
    ·omega
    ·rw [put_ne _ _ (Ne.symm n05)]; exact hJ.s0 h), (fun e => by
    rcases bit_set e with h | h
    ·omega
    ·rw [put_ne _ _ (Ne.symm n15)]; exact hJ.s1 h), (fun e => by
    rcases bit_set e with h | h
    ·omega
    ·rw [put_ne _ _ (Ne.symm n25)]; exact hJ.s2 h), (fun e => by
    rcases bit_set e with h | h
    ·omega
    ·rw [put_ne _ _ (Ne.symm n35)]; exact hJ.s3 h), (fun e => by
    rcases bit_set e with h | h
    ·omega
    ·rw [put_ne _ _ (Ne.symm n45)]; exact hJ.s4 h), (fun _ => ⟨w.heap.size, put_eq _ _ (by rw [hI.size]; exact z5), hI.below.size, false, none, 0, 0, none, 0, 0, B3.new _ _ _ _ _⟩), (fun e e' g h hg hh => by
    rcases bit_set e with h' | h'
    ·omega
    ·rw [put_eq _ _ (by rw [hI.size]; exact z5)] at hh
     rw [put_ne _ _ (Ne.symm n45)] at hg
     obtain ⟨g', b5, _, hs⟩ := hI.s4 h'
     rw [b5] at hg
     injection hg with hg; injection hg with hg; injection hg with hg; injection hg with hg
     injection hh with hh; injection hh with hh; injection hh with hh; injection hh with hh
     have := Shp.lt hs
     omega), (fun e => by
    rcases bit_set e with h | h
    ·omega
    ·obtain ⟨b4, b1, hh⟩ := hJ.s6 h
     rw [put_ne _ _ (Ne.symm n45), put_ne _ _ (Ne.symm n15)]; exact ⟨getD_set_true b4, getD_set_true b1, hh⟩), (fun e => by
    rcases bit_set e with h | h
    ·omega
    ·obtain ⟨b4, b1, hh⟩ := hJ.s7 h
     exact absurd b4 (not_listed hun)), by rw [Array.size_setIfInBounds]; exact hJ.sz⟩)
  ·obtain rfl := Option.some.inj (ho.symm.trans e6)
   have l4 := dep_of d6 hall
   have l1 := dep_of d6' hall
   obtain ⟨g, b4, hg, hs⟩ := hI.s4 l4
   obtain ⟨v, b1, hq⟩ := hI.s1 l1
   have hs0 := hs
   obtain ⟨b, A, n, c, A', n', c', hBg⟩ := hs
   obtain ⟨C, m, C', m', rfl, hr1, hr2⟩ := hq
   have t1 := getD_of b4
   have t2 := getD_of b1
   obtain ⟨k0, k1, k2, f0, f1, f2⟩ := hBg.cells
   refine wpOp_plain e6 rfl (fun K' hK' => ?_)
   go_simp
   refine hK' _ _ (hK a _ ⟨hI.frame, hI.size, hI.defers, B3.belowSet hI.below hg _ _ _, ?_, ?_, ?_, ?_, ?_, ?_, ?_, ?_, ?_, by rw [Array.size_setIfInBounds]; exact hI.sz⟩)
   ·exact fun e => (bit_set e).elim (fun h => by omega) hI.s0
   ·exact fun e => (bit_set e).elim (fun h => by omega) (fun h => (hI.s1 h).imp fun v hv => ⟨hv.1, hv.2.set hs0 _ _ _⟩)
   ·exact fun e => (bit_set e).elim (fun h => by omega) hI.s2
   ·exact fun e => (bit_set e).elim (fun h => by omega) (fun h => (hI.s3 h).imp fun v hv => ⟨hv.1, hv.2.set hs0 _ _ _⟩)
   ·exact fun e => (bit_set e).elim (fun h => by omega) (fun h => (hI.s4 h).imp fun g' hv => ⟨hv.1, hv.2.1, hv.2.2.set hBg _ _ _ _ _ _ _⟩)
   ·exact fun e => (bit_set e).elim (fun h => by omega) (fun h => (hI.s5 h).imp fun g' hv => ⟨hv.1, hv.2.1, hv.2.2.set hBg _ _ _ _ _ _ _⟩)
   ·exact fun e e' => (bit_set e).elim (fun h => by omega) (fun h => (bit_set e').elim (fun h => by omega) (fun h' => hI.s45 h h'))
   ·refine fun e => ⟨getD_set_true l4, getD_set_true l1, fun g' v' h1 h2 => ?_⟩
    rw [b4] at h1
    rw [b1] at h2
    injection h1 with h1; injection h1 with h1; injection h1 with h1; injection h1 with h1
    injection h2 with h2
    subst h1 h2
    exact ⟨_, _, _, rfl, hBg.set _ _ _⟩
   ·refine fun e => (bit_set e).elim (fun h => by omega) (fun h => ?_)
    obtain ⟨b4', b1', hh⟩ := hI.s7 h
    refine ⟨getD_set_true b4', getD_set_true b1', fun g' v' h1 h2 => ?_⟩
    obtain ⟨v0, v1, v2, e', hB'⟩ := hh g' v' h1 h2
    refine ⟨v0, v1, v2, e', hB'.other3 ?_ _ _ _⟩
    exact Ne.symm (hI.s45 l4 b4' g g' b4 h1)
  ·obtain rfl := Option.some.inj (ho.symm.trans e7)
   have l4 := dep_of d7 hall
   have l1 := dep_of d7' hall
   obtain ⟨g, b4, hg, hs⟩ := hI.s5 l4
   obtain ⟨v, b1, hq⟩ := hI.s3 l1
   have hs0 := hs
   obtain ⟨b, A, n, c, A', n', c', hBg⟩ := hs
   obtain ⟨C, m, C', m', rfl, hr1, hr2⟩ := hq
   have t1 := getD_of b4
   have t2 := getD_of b1
   obtain ⟨k0, k1, k2, f0, f1, f2⟩ := hBg.cells
   refine wpOp_plain e7 rfl (fun K' hK' => ?_)
   go_simp
   refine hK' _ _ (hK a _ ⟨hI.frame, hI.size, hI.defers, B3.belowSet hI.below hg _ _ _, ?_, ?_, ?_, ?_, ?_, ?_, ?_, ?_, ?_, by rw [Array.size_setIfInBounds]; exact hI.sz⟩)
   ·exact fun e => (bit_set e).elim (fun h => by omega) hI.s0
   ·exact fun e => (bit_set e).elim (fun h => by omega) (fun h => (hI.s1 h).imp fun v hv => ⟨hv.1, hv.2.set hs0 _ _ _⟩)
   ·exact fun e => (bit_set e).elim (fun h => by omega) hI.s2
   ·exact fun e => (bit_set e).elim (fun h => by omega) (fun h => (hI.s3 h).imp fun v hv => ⟨hv.1, hv.2.set hs0 _ _ _⟩)
   ·exact fun e => (bit_set e).elim (fun h => by omega) (fun h => (hI.s4 h).imp fun g' hv => ⟨hv.1, hv.2.1, hv.2.2.set hBg _ _ _ _ _ _ _⟩)
   ·exact fun e => (bit_set e).elim (fun h => by omega) (fun h => (hI.s5 h).imp fun g' hv => ⟨hv.1, hv.2.1, hv.2.2.set hBg _ _ _ _ _ _ _⟩)
   ·exact fun e e' => (bit_set e).elim (fun h => by omega) (fun h => (bit_set e').elim (fun h => by omega) (fun h' => hI.s45 h h'))
   ·refine fun e => (bit_set e).elim (fun h => by omega) (fun h => ?_)
    obtain ⟨b4', b1', hh⟩ := hI.s6 h
    refine ⟨getD_set_true b4', getD_set_true b1', fun g' v' h1 h2 => ?_⟩
    obtain ⟨v0, v1, v2, e', hB'⟩ := hh g' v' h1 h2
    refine ⟨v0, v1, v2, e', hB'.other3 ?_ _ _ _⟩
    exact hI.s45 b4' l4 g' g h1 b4
   ·refine fun e => ⟨getD_set_true l4, getD_set_true l1, fun g' v' h1 h2 => ?_⟩
    rw [b4] at h1
    rw [b1] at h2
    injection h1 with h1; injection h1 with h1; injection h1 with h1; injection h1 with h1
    injection h2 with h2
    subst h1 h2
    exact ⟨_, _, _, rfl, hBg.set _ _ _⟩
 ·refine ⟨fun _ _ _ _ _ _ _ => rfl, rfl, rfl, ⟨rfl, rfl, rfl, Nat.le_refl _, fun _ _ => rfl⟩, ?_, ?_, ?_, ?_, ?_, ?_, ?_, ?_, ?_, by simp⟩ <;> (intro h; simp at h)
end Go.Proofs.Ytahdlpkncemmaaa
namespace Go.Proofs.Ytahdlpkncemmaaa
open Go.RowKit Pg
theorem r2Of_any (neg : Bool) (A A' : Option Addr) (n c n' c' : Nat) (xs ys : List Nat) (w : World) (h : Row w A n c xs) (h' : Row w A' n' c' ys) (hb : n ≤ 1048576) (hb' : n' ≤ 1048576) :
  Calls Try.prog 17 #[.bool neg, .slice A n c, .slice A' n' c'] w (RatRet w (rv neg (val xs) (val ys))) := by
 have HB := hid (B3.new w 25 (.bool false) (.slice none 0 0) (.slice none 0 0))
 have hO := fun W (hW : Below w.heap.size w W) => r2Norm_any neg A A' n c n' c' xs ys W (h.below hW) (h'.below hW) hb hb'
 generalize rv neg (val xs) (val ys) = q at *
 have HO := hid hO
 clear hO
 go_enter Try.func17, Try.ntmps17
 go_wp2_with (go_at_call 20; refine (HO.out _ Pg.bel).mono ?_; rintro e w1 ⟨A1, c1, A2, c2, rfl, hr1, hr2, hb1⟩; have hBr := HB.out.below hb1; obtain ⟨k0, k1, k2, f0, f1, f2⟩ := hBr.cells)
 refine bodyPost_ret (by have q0 := fun u0 u1 u2 => (hBr.set u0 u1 u2).cells.1; have q1 := fun u0 u1 u2 => (hBr.set u0 u1 u2).cells.2.1; have q2 := fun u0 u1 u2 => (hBr.set u0 u1 u2).cells.2.2.1; simp [results, Try.results17, go_sem, q0, q1, q2]) rfl (RatRet.put hBr (Nat.le_refl _) Pg.bel rfl rfl rfl hr1 hr2 rfl rfl)
def eqQ (p q : Rat) : Bool := decide (p = q)
theorem eqQ_parts (p q : Rat) : eqQ p q = ((rneg p == rneg q) && eqB (limbs (rnum p)) (limbs (rnum q)) && eqB (limbs p.den) (limbs q.den)) := by
 rw [Bool.eq_iff_iff]
 simp only [eqQ, eqB, decide_eq_true_eq, Bool.and_eq_true, beq_iff_eq]
 constructor
 ·rintro rfl; exact ⟨⟨rfl, rfl⟩, rfl⟩
 ·rintro ⟨⟨h1, h2⟩, h3⟩; exact rv_eq h1 (limbs_inj h2) (limbs_inj h3)
theorem Hld.b3 {w : World} {g : Nat} {v0 v1 v2 : Value} (h : Hld w g (.agg #[v0, v1, v2])) : B3 w g 25 v0 v1 v2 := by
 obtain ⟨u0, u1, u2, e, h⟩ := h
 injection e with e
 simp only [Array.mk.injEq, List.cons.injEq, and_true] at e
 obtain ⟨rfl, rfl, rfl⟩ := e
 exact h
theorem r2Same_any (s1 s2 : Bool) (A A' C C' : Option Addr) (n c n' c' m d m' d' : Nat) (xs ys us vs : List Nat) (w : World) (h : Row w A n c xs) (h' : Row w A' n' c' ys) (g : Row w C m d us) (g' : Row w C' m' d' vs) (hb : n ≤ 1048576) (hb' : n' ≤ 1048576) (gb : m ≤ 1048576) (gb' : m' ≤ 1048576) :
  Calls Try.prog 19 #[.agg #[.bool s1, .slice A n c, .slice A' n' c'], .agg #[.bool s2, .slice C m d, .slice C' m' d']] w fun e w' => e = .returned (.bool (eqQ (rv s1 (val xs) (val ys)) (rv s2 (val us) (val vs)))) ∧ Below w.heap.size w w' := by
 have HP := hid fun W (hW : Below w.heap.size w W) => r2Norm_any s1 A A' n c n' c' xs ys W (h.below hW) (h'.below hW) hb hb'
 have HQ := hid fun W (hW : Below w.heap.size w W) => r2Norm_any s2 C C' m d m' d' us vs W (g.below hW) (g'.below hW) gb gb'
 generalize rv s1 (val xs) (val ys) = p at *
 generalize rv s2 (val us) (val vs) = q at *
 clear h h' g g'
 have HX := hid ((B3.new w 25 (.bool s1) (.slice A n c) (.slice A' n' c')).alloc (.cells #[.bool s2, .slice C m d, .slice C' m' d'] 25))
 have HY := hid (B3.new2 w (.cells #[.bool s1, .slice A n c, .slice A' n' c'] 25) 25 (.bool s2) (.slice C m d) (.slice C' m' d') _ rfl)
 obtain ⟨w0, hw0⟩ : ∃ w0, w0 = (w.alloc (.cells #[.bool s1, .slice A n c, .slice A' n' c'] 25)).alloc (.cells #[.bool s2, .slice C m d, .slice C' m' d'] 25) := ⟨_, rfl⟩
 go_enter Try.func19, Try.ntmps19
 go_upto_region 1 with fail
 have hb0 : Below w.heap.size w w0 := by rw [hw0]; exact Below.new_ (Below.new_ (Below.refl _ _) _) _
 rw [← hw0] at HX HY ⊢
 clear hw0
 refine pair_region 20 20 2 3 7 8 9 10 5 6 w.heap.size (w.heap.size + 1) _ _ _ _ _ _ p q rfl (by decide) (by kernel_rfl) (by kernel_rfl) (by kernel_rfl) (by kernel_rfl) (by kernel_rfl) (by kernel_rfl) (by kernel_rfl) (by kernel_rfl) rfl rfl HX.out HY.out (fun _ _ => by kernel_rfl) (fun _ _ => by kernel_rfl) (fun W hW => HP.out W (Below.then_ hb0 hW)) (fun W hW => HQ.out W (Below.then_ hb0 hW)) ?_
 rintro v1 v3 g1 g2 wc ⟨A1, c1, A2, c2, rfl, hr1, hr2⟩ ⟨A3, c3, A4, c4, rfl, hr3, hr4⟩ hH1 hH2 _ _ _ hbc
 have hbw := Below.then_ hb0 hbc
 have HE := hid (eqQ_parts p q)
 have HB1 := hH1.b3
 have HB2 := hH2.b3
 clear HX HY HP HQ hb0 hbc hH1 hH2
 obtain ⟨b1, hb1⟩ : ∃ b, rneg p = b := ⟨_, rfl⟩
 obtain ⟨b2, hb2⟩ : ∃ b, rneg q = b := ⟨_, rfl⟩
 rw [hb1] at HB1 HE
 rw [hb2] at HB2 HE
 rw [hb1, hb2]
 clear hb1 hb2
 have hL1 : ∀ W, Below wc.heap.size wc W → Calls Try.prog 22 #[.slice A1 (limbs (rnum p)).length c1, .slice A3 (limbs (rnum q)).length c3] W fun e w' => e = .returned (.bool (eqB (limbs (rnum p)) (limbs (rnum q)))) ∧ Below W.heap.size W w' := fun W hW => limbs_ref2 _ _ _ _ _ _ _ _ W (hr1.below hW) (hr3.below hW)
 have hL2 : ∀ W, Below wc.heap.size wc W → Calls Try.prog 22 #[.slice A2 (limbs p.den).length c2, .slice A4 (limbs q.den).length c4] W fun e w' => e = .returned (.bool (eqB (limbs p.den) (limbs q.den))) ∧ Below W.heap.size W w' := fun W hW => limbs_ref2 _ _ _ _ _ _ _ _ W (hr2.below hW) (hr4.below hW)
 generalize eqB (limbs (rnum p)) (limbs (rnum q)) = E1 at *
 generalize eqB (limbs p.den) (limbs q.den) = E2 at *
 obtain ⟨k0, k1, k2, _, _, _⟩ := HB1.cells
 obtain ⟨l0, l1, l2, _, _, _⟩ := HB2.cells
 have HL1 := hid hL1
 have HL2 := hid hL2
 clear hL1 hL2
 have HB1 := hid HB1
 have HB2 := hid HB2
 rcases b1 with _ | _ <;> rcases b2 with _ | _ <;> rcases E1 with _ | _ <;> rcases E2 with _ | _
 all_goals
  go_wp2_with (first
   | (go_at_call 22; ((with_reducible refine (HL1.out _ (Below.refl _ _)).mono ?_); rintro e w1 ⟨rfl, hb1⟩; obtain ⟨k0', k1', k2', _, _, _⟩ := (HB1.out.below hb1).cells; obtain ⟨l0', l1', l2', _, _, _⟩ := (HB2.out.below hb1).cells))
   | (go_at_call 22; ((with_reducible refine (HL2.out _ hb1).mono ?_); rintro e w2 ⟨rfl, hb2⟩)))
  go_ret
  exact ⟨by rw [HE.out]; rfl, Pg.bel⟩
end Go.Proofs.Ytahdlpkncemmaaa
namespace Pg
open Go Go.RowKit
end Pg
namespace Go.Proofs.Ytahdlpkncemmaaa
open Go.RowKit Pg
end Go.Proofs.Ytahdlpkncemmaaa
namespace Pg
end Pg
namespace Go.Proofs.Ytahdlpkncemmaaa
open Go.RowKit Pg
theorem Rof_E (neg : Bool) (A A' : Option Addr) (n c n' c' a b : Nat) (xs ys : List Nat) (q : Rat) (w : World) (h : Row w A n c xs) (h' : Row w A' n' c' ys) (ea : val xs = a) (eb : val ys = b) (hb : n ≤ 1048576) (hb' : n' ≤ 1048576) (hq : rv neg a b = q) :
  Calls Try.prog 24 #[.bool neg, .slice A n c, .slice A' n' c'] w (RatRet w q) := by
 subst ea eb hq; exact Rof_any neg A A' n c n' c' xs ys w h h' hb hb'
theorem limbs_small {N k : Nat} (h : N < 2 ^ (32 * k)) (hk : k ≤ 1048576) : (limbs N).length ≤ 1048576 :=
 Nat.le_trans (length_limbs_le (by rw [base_pow]; exact h)) hk
theorem Of_one (w : World) : Calls Try.prog 34 #[.int .u64 1] w (Ret w 1) := Of_any 1 w (by omega)
end Go.Proofs.Ytahdlpkncemmaaa
namespace Pg
theorem rv_int (n : Int) : rv (decide (n < 0)) n.natAbs 1 = (n : Rat) := by
 unfold rv; rw [sg_self]
 have := Rat.mkRat_self (n : Rat)
 simpa using this
end Pg
namespace Go.Proofs.Ytahdlpkncemmaaa
open Go.RowKit Pg
theorem rOf_I (n : Nat) (w : World) (z : Int) (hz : z = (n : Int)) (hn : n < 18446744073709551616) : Calls Try.prog 18 #[.int .u64 z] w (Ret w n) := by
 subst hz; exact rOf_any n w hn
theorem r2Of_E (neg : Bool) (A A' : Option Addr) (n c n' c' a b : Nat) (xs ys : List Nat) (q : Rat) (w : World) (h : Row w A n c xs) (h' : Row w A' n' c' ys) (ea : val xs = a) (eb : val ys = b) (hb : n ≤ 1048576) (hb' : n' ≤ 1048576) (hq : rv neg a b = q) :
  Calls Try.prog 17 #[.bool neg, .slice A n c, .slice A' n' c'] w (RatRet w q) := by
 subst ea eb hq; exact r2Of_any neg A A' n c n' c' xs ys w h h' hb hb'
theorem r2Int_any (n : Int) (w : World) (h1 : -9223372036854775808 ≤ n) (h2 : n ≤ 9223372036854775807) :
  Calls Try.prog 8 #[.int .i64 n] w (RatRet w (n : Rat)) := by
 have HB := hid (B3.new w 25 (.bool false) (.slice none 0 0) (.slice none 0 0))
 have hq := rv_int n
 generalize (n : Rat) = q at *
 have lN : (limbs n.natAbs).length ≤ 1048576 := limbs_small (N := n.natAbs) (k := 2) (by omega) (by omega)
 by_cases hn : n < 0
 ·obtain ⟨N, hN⟩ : ∃ N : Nat, n.natAbs = N := ⟨_, rfl⟩
  have hnN : n = -(N : Int) := by omega
  rw [decide_eq_true hn, hN] at hq
  rw [hN] at lN
  have hN1 : 1 ≤ N := by omega
  have hN2 : N ≤ 9223372036854775808 := by omega
  have HQ := hid hq
  subst hnN
  clear hq hN
  have q1 : IntKind.u64.wrap (-(N : Int)) = 18446744073709551616 - (N : Int) := by
   rw [IntKind.wrap_u64]; omega
  have q2 : IntKind.u64.wrap (-(18446744073709551616 - (N : Int))) = (N : Int) := by
   rw [IntKind.wrap_u64]; omega
  go_enter Try.func8, Try.ntmps8
  go_wp2_with (first
   | (go_at_call 18; refine (rOf_I N _ _ (by omega) (by omega)).mono ?_; rintro e w3 ⟨A3, c3, rfl, hr3, hb3⟩)
   | (go_at_call 17; refine (r2Of_E true _ _ _ _ _ _ N 1 _ [1] q _ (by repeat first | assumption | exact Pg.Row.one _ _ _ _ _ (by simp) (by first | rfl | omega) (by omega) | apply Pg.Row.drew | apply Pg.Row.below (hb := by assumption) | apply Pg.Row.alloc) (by repeat first | assumption | exact Pg.Row.one _ _ _ _ _ (by simp) (by first | rfl | omega) (by omega) | apply Pg.Row.drew | apply Pg.Row.below (hb := by assumption) | apply Pg.Row.alloc) (val_limbs _) (val_one 1) (by first | omega | assumption) (by first | omega | assumption) HQ.out).mono ?_; rintro e w5 ⟨A5, c5, A6, c6, rfl, hr5, hr6, hb5⟩; have hBr : B3 w5 w.heap.size 25 (.bool false) (.slice none 0 0) (.slice none 0 0) := (by repeat first | exact (HB).out | refine B3.below ?_ (by assumption) | refine B3.drew ?_ | refine B3.alloc ?_ _); obtain ⟨k0, k1, k2, f0, f1, f2⟩ := hBr.cells))
  refine bodyPost_ret (by have q0 := fun u0 u1 u2 => (hBr.set u0 u1 u2).cells.1; have q1 := fun u0 u1 u2 => (hBr.set u0 u1 u2).cells.2.1; have q2 := fun u0 u1 u2 => (hBr.set u0 u1 u2).cells.2.2.1; simp [results, Try.results8, go_sem, q0, q1, q2]) rfl (RatRet.put hBr (Nat.le_refl _) Pg.bel rfl rfl rfl hr5 hr6 rfl rfl)
 ·obtain ⟨N, hN⟩ : ∃ N : Nat, n.natAbs = N := ⟨_, rfl⟩
  have hnN : n = (N : Int) := by omega
  rw [decide_eq_false (by omega), hN] at hq
  rw [hN] at lN
  have hN2 : N ≤ 9223372036854775807 := by omega
  have HQ := hid hq
  subst hnN
  clear hq hN
  go_enter Try.func8, Try.ntmps8
  go_wp2_with (first
   | (go_at_call 18; refine (rOf_I N _ _ (by omega) (by omega)).mono ?_; rintro e w3 ⟨A3, c3, rfl, hr3, hb3⟩)
   | (go_at_call 17; refine (r2Of_E false _ _ _ _ _ _ N 1 _ [1] q _ (by repeat first | assumption | exact Pg.Row.one _ _ _ _ _ (by simp) (by first | rfl | omega) (by omega) | apply Pg.Row.drew | apply Pg.Row.below (hb := by assumption) | apply Pg.Row.alloc) (by repeat first | assumption | exact Pg.Row.one _ _ _ _ _ (by simp) (by first | rfl | omega) (by omega) | apply Pg.Row.drew | apply Pg.Row.below (hb := by assumption) | apply Pg.Row.alloc) (val_limbs _) (val_one 1) (by first | omega | assumption) (by first | omega | assumption) HQ.out).mono ?_; rintro e w5 ⟨A5, c5, A6, c6, rfl, hr5, hr6, hb5⟩; have hBr : B3 w5 w.heap.size 25 (.bool false) (.slice none 0 0) (.slice none 0 0) := (by repeat first | exact (HB).out | refine B3.below ?_ (by assumption) | refine B3.drew ?_ | refine B3.alloc ?_ _); obtain ⟨k0, k1, k2, f0, f1, f2⟩ := hBr.cells))
  refine bodyPost_ret (by have q0 := fun u0 u1 u2 => (hBr.set u0 u1 u2).cells.1; have q1 := fun u0 u1 u2 => (hBr.set u0 u1 u2).cells.2.1; have q2 := fun u0 u1 u2 => (hBr.set u0 u1 u2).cells.2.2.1; simp [results, Try.results8, go_sem, q0, q1, q2]) rfl (RatRet.put hBr (Nat.le_refl _) Pg.bel rfl rfl rfl hr5 hr6 rfl rfl)
end Go.Proofs.Ytahdlpkncemmaaa
namespace Pg
open Go Go.RowKit
def puts (a : Act) : List Nat → List Value → Act
 | d :: ds, v :: vs => puts (a.put (some d) v) ds vs
 | [], _ => a
 | _ :: _, [] => a
theorem puts_defers : ∀ (ds : List Nat) (vs : List Value) (a : Act), (puts a ds vs).defers = a.defers
 | [], _, a => rfl
 | _ :: _, [], a => rfl
 | d :: ds, v :: vs, a => by rw [puts, puts_defers ds vs]; rfl
theorem puts_other : ∀ (ds : List Nat) (vs : List Value) (a : Act) (k : Nat), k ∉ ds → (puts a ds vs).tmps[k]? = a.tmps[k]?
 | [], _, a, k, _ => rfl
 | _ :: _, [], a, k, _ => rfl
 | d :: ds, v :: vs, a, k, h => by
  rw [puts, puts_other ds vs _ k (fun hk => h (List.mem_cons_of_mem _ hk)), put_ne _ _ (fun e : d = k => h (by rw [← e]; exact List.mem_cons_self))]
theorem puts_at : ∀ (ds : List Nat) (vs : List Value) (a : Act) (i d : Nat) (v : Value), ds.Nodup → (∀ d ∈ ds, d < a.tmps.size) → ds[i]? = some d → vs[i]? = some v → (puts a ds vs).tmps[d]? = some v
 | [], _, a, i, d, v, _, _, h, _ => by simp at h
 | _ :: _, [], a, i, d, v, _, _, _, h => by simp at h
 | d0 :: ds, v0 :: vs, a, 0, d, v, hn, hl, h, h' => by
  simp only [List.getElem?_cons_zero, Option.some.injEq] at h h'
  subst h h'
  rw [puts, puts_other ds vs _ _ (List.nodup_cons.1 hn).1, put_eq _ _ (hl _ List.mem_cons_self)]
 | d0 :: ds, v0 :: vs, a, i + 1, d, v, hn, hl, h, h' => by
  rw [puts]
  exact puts_at ds vs _ i d v (List.nodup_cons.1 hn).2 (fun d hd => by rw [put_size]; exact hl d (List.mem_cons_of_mem _ hd)) (by simpa using h) (by simpa using h')
structure DrawInv (a0 : Act) (w0 : World) (ds : List Nat) (V : Nat → World → Value → Prop) (l : Array Bool) (a : Act) (w : World) : Prop where
 frame : ∀ k, k ∉ ds → a.tmps[k]? = a0.tmps[k]?
 size : a.tmps.size = a0.tmps.size
 defers : a.defers = a0.defers
 below : Below w0.heap.size w0 w
 has : ∀ i d, ds[i]? = some d → l.getD i false = true → ∃ v, a.tmps[d]? = some v ∧ V i w v
 sz : l.size = ds.length
structure DrawAt (a0 : Act) (w0 : World) (ds : List Nat) (V : Nat → World → Value → Prop) (o : Oper) (a : Act) (w : World) : Prop where
 frame : ∀ k, k ∉ ds → a.tmps[k]? = a0.tmps[k]?
 below : Below w0.heap.size w0 w
 dep : ∀ j d, ds[j]? = some d → o.after.any (fun e => Region.binds .any e && e.on == j) = true → ∃ v, a.tmps[d]? = some v ∧ V j w v
theorem DrawAt.old {a0 : Act} {w0 : World} {ds : List Nat} {V : Nat → World → Value → Prop} {o : Oper} {a : Act} {w : World} (h : DrawAt a0 w0 ds V o a w) (k : Nat) (v : Value) (hk : ds.contains k = false) (hv : a0.tmps[k]? = some v) : a.tmps.getD k undef = v :=
 getD_of ((h.frame k (by intro hm; have := List.contains_iff_mem.2 hm; rw [hk] at this; cases this)).trans hv)
theorem DrawAt.new {a0 : Act} {w0 : World} {ds : List Nat} {V : Nat → World → Value → Prop} {o : Oper} {a : Act} {w : World} (h : DrawAt a0 w0 ds V o a w) (j d : Nat) (hd : ds[j]? = some d) (ho : o.after.any (fun e => Region.binds .any e && e.on == j) = true) :
  ∃ v, a.tmps.getD d undef = v ∧ V j w v := by
 obtain ⟨v, h1, h2⟩ := h.dep j d hd ho
 exact ⟨v, getD_of h1, h2⟩
end Pg
namespace Go.Proofs.Ytahdlpkncemmaaa
open Go.RowKit Pg
inductive Holds where
 | is (v : Value)
 | row (N : Nat)
 | rat (q : Rat)
def Holds.ok : Holds → World → Value → Prop
 | .is v0, _, v => v = v0
 | .row N, w, v => ∃ A c, v = .slice A (limbs N).length c ∧ Row w A (limbs N).length c (limbs N)
 | .rat q, w, v => IsQ w q v
theorem Holds.below {h : Holds} {w w' : World} {v : Value} (hb : Below w.heap.size w w') (hk : h.ok w v) : h.ok w' v := by
 cases h with
 | is v0 => exact hk
 | row N => obtain ⟨A, c, e, hr⟩ := hk; exact ⟨A, c, e, hr.below hb⟩
 | rat q => exact IsQ.below hk hb
def hk (hs : List Holds) (i : Nat) (w : World) (v : Value) : Prop := match hs[i]? with | some h => h.ok w v | none => True
end Go.Proofs.Ytahdlpkncemmaaa
namespace Pg
open Go Go.RowKit
theorem wpOp_wanted {P : Program} {ops : Array Oper} {Q : Exit → Act → World → Prop} {i : Nat} {o : Oper} {K : Act → World → Prop} {a : Act} {w : World} {j d : Nat} {b : Bool} {oj : Oper} (ho : ops[i]? = some o) (hg : o.guard = some (j, b)) (hj : ops[j]? = some oj) (hd : oj.dst = some d) (hv : a.tmps[d]? = some (.bool b))
  (h : ∀ K' : Act → World → Prop, (∀ a w, K a w → K' a w) → Oper.wp P o a w K' Q) : wpOp P ops Q i K a w :=
 wpOp_step ho fun K' hK' => by
  have : Region.wanted o (yielded ops a.tmps) = true := by
   unfold Region.wanted yielded
   rw [hg]
   simp only [hj, Option.bind_some, hd, hv]
   simp
  rw [if_pos this]; exact h K' hK'
theorem wpOp_unwanted {P : Program} {ops : Array Oper} {Q : Exit → Act → World → Prop} {i : Nat} {o : Oper} {K : Act → World → Prop} {a : Act} {w : World} {j d : Nat} {b c : Bool} {oj : Oper} (ho : ops[i]? = some o) (hg : o.guard = some (j, b)) (hj : ops[j]? = some oj) (hd : oj.dst = some d) (hv : a.tmps[d]? = some (.bool c)) (hc : (c == b) = false)
  (h : K (a.put o.dst undef) w) : wpOp P ops Q i K a w := by
 have : Region.wanted o (yielded ops a.tmps) = false := by
  unfold Region.wanted yielded
  rw [hg]
  simp only [hj, Option.bind_some, hd, hv]
  simpa using hc
 unfold wpOp
 rw [ho]
 simp only [this]
 exact h
structure DrawInvB (ops : Array Oper) (a0 : Act) (w0 : World) (ds : List Nat) (V : Nat → World → Value → Prop) (l : Array Bool) (a : Act) (w : World) : Prop where
 frame : ∀ k, k ∉ ds → a.tmps[k]? = a0.tmps[k]?
 size : a.tmps.size = a0.tmps.size
 defers : a.defers = a0.defers
 below : Below w0.heap.size w0 w
 has : ∀ i d, ds[i]? = some d → l.getD i false = true → ∃ v, a.tmps[d]? = some v ∧ V i w v
 closed : ∀ i o, ops[i]? = some o → l.getD i false = true → ∀ e ∈ o.after, Region.binds .any e = true → l.getD e.on false = true
 sz : l.size = ops.size
theorem not_listed' {l : Array Bool} {i : Nat} (h : l.getD i true = false) : ¬ l.getD i false = true := by
 rw [Array.getD_eq_getD_getElem?] at h ⊢
 cases hh : l[i]? with
 | none => rw [hh] at h; cases h
 | some b => rw [hh] at h; simp at h; subst h; simp
theorem listed_of {l : Array Bool} {i : Nat} (hi : i < l.size) (h : ¬ l.getD i false = true) : l.getD i true = false := by
 rw [Array.getD_eq_getD_getElem?] at h ⊢
 rw [Array.getElem?_eq_getElem hi] at h ⊢
 simpa using h
theorem all_of_closed {ops : Array Oper} {l : Array Bool} {n : Nat} (hcl : ∀ i o, ops[i]? = some o → l.getD i false = true → ∀ e ∈ o.after, Region.binds .any e = true → l.getD e.on false = true)
  (hcov : (List.range n).all (fun i => (List.range (n + 1)).any (fun j => decide (i < j) && (match ops[j]? with | some o => o.after.any (fun e => Region.binds .any e && e.on == i) | none => false))) = true)
  (hlast : ∀ o, ops[n]? = some o → ∀ e ∈ o.after, Region.binds .any e = true → l.getD e.on false = true) : ∀ k i, n - i ≤ k → i < n → l.getD i false = true := by
 intro k
 induction k with
 | zero => intro i h1 h2; omega
 | succ k ih =>
  intro i h1 h2
  have h := List.all_eq_true.1 hcov i (List.mem_range.2 h2)
  obtain ⟨j, hj, hb⟩ := List.any_eq_true.1 h
  have hj' := List.mem_range.1 hj
  simp only [Bool.and_eq_true, decide_eq_true_eq] at hb
  obtain ⟨hij, hb⟩ := hb
  cases ho : ops[j]? with
  | none => rw [ho] at hb; simp at hb
  | some o =>
   rw [ho] at hb
   by_cases hjn : j = n
   ·subst hjn
    exact dep_of hb (hlast o ho)
   ·exact dep_of hb (hcl j o ho (ih j (by omega) (by omega)))
inductive Way where
 | runs
 | skips
theorem drawB_region {P : Program} {id : Nat} {ops : Array Oper} {Q : Exit → Act → World → Prop} {a0 : Act} {w0 : World} (ds : List Nat) (V : Nat → World → Value → Prop) (last : Bool)
  (hm : P.follows .mixedOrders = true) (hlen : ops.size = ds.length + last.toNat) (hnd : ds.Nodup) (hlt : ds.all (fun k => decide (k < a0.tmps.size)) = true)
  (hdst : ∀ (i d : Nat), ds[i]? = some d → ∃ o : Oper, ops[i]? = some o ∧ o.dst = some d)
  (hord : (List.range ops.size).all (fun i => match ops[i]? with | some o => o.after.all (fun e => !Region.binds .any e || decide (e.on < i)) | none => true) = true)
  (hcov : last = true → (List.range ds.length).all (fun i => (List.range (ds.length + 1)).any (fun j => decide (i < j) && (match ops[j]? with | some o => o.after.any (fun e => Region.binds .any e && e.on == i) | none => false))) = true)
  (hst : ∀ i w w' v, Below w.heap.size w w' → V i w v → V i w' v)
  (hstep : ∀ i o d, ops[i]? = some o → ds[i]? = some d →
   (o.guard = none ∧ ∀ a w, DrawAt a0 w0 ds V o a w → ∀ K : Act → World → Prop, (∀ v w', V i w' v → Below w.heap.size w w' → K (a.put (some d) v) w') → Oper.wp P o a w K Q) ∨
   (∃ j b dj, o.guard = some (j, b) ∧ ds[j]? = some dj ∧ o.after.any (fun e => Region.binds .any e && e.on == j) = true ∧
    (((∀ w v, V j w v → v = .bool b) ∧ ∀ a w, DrawAt a0 w0 ds V o a w → ∀ K : Act → World → Prop, (∀ v w', V i w' v → Below w.heap.size w w' → K (a.put (some d) v) w') → Oper.wp P o a w K Q) ∨
     ((∃ c, (c == b) = false ∧ ∀ w v, V j w v → v = .bool c) ∧ ∀ w, V i w undef))))
  (hlast : last = true → ∀ o, ops[ds.length]? = some o → o.guard = none ∧ ∀ vs w', vs.length = ds.length → (∀ i v, vs[i]? = some v → V i w' v) → Below w0.heap.size w0 w' → ∀ K : Act → World → Prop, (∀ a w, Q .normal a w → K a w) → Oper.wp P o (puts a0 ds vs) w' K Q)
  (hfin : last = false → ∀ vs w', vs.length = ds.length → (∀ i v, vs[i]? = some v → V i w' v) → Below w0.heap.size w0 w' → Q .normal (puts a0 ds vs) w') :
  (Code.region id ops true).wp P Q a0 w0 := by
 have hlt' : ∀ d ∈ ds, d < a0.tmps.size := fun d hd => by simpa using List.all_eq_true.1 hlt d hd
 -- all have run: the slots
 have whole : ∀ l a w, DrawInvB ops a0 w0 ds V l a w → (∀ i, i < ds.length → l.getD i false = true) → ∃ vs, vs.length = ds.length ∧ (∀ i v, vs[i]? = some v → V i w v) ∧ a = puts a0 ds vs := by
  intro l a w hI hall
  have hv : ∀ i, i < ds.length → ∃ v, (∀ d, ds[i]? = some d → a.tmps[d]? = some v) ∧ V i w v := by
   intro i hi
   obtain ⟨v, h1, h2⟩ := hI.has i (ds[i]) (List.getElem?_eq_getElem hi) (hall i hi)
   exact ⟨v, fun d hd => by rw [List.getElem?_eq_getElem hi] at hd; injection hd with hd; rw [← hd]; exact h1, h2⟩
  have hvs : ∃ vs : List Value, vs.length = ds.length ∧ ∀ i v, vs[i]? = some v → (∀ d, ds[i]? = some d → a.tmps[d]? = some v) ∧ V i w v := by
   refine ⟨List.ofFn fun i : Fin ds.length => Classical.choose (hv i.1 i.2), by simp, fun i v hi => ?_⟩
   rw [List.getElem?_ofFn] at hi
   split at hi
   ·injection hi with hi
    subst hi
    rename_i hlt
    exact Classical.choose_spec (hv i hlt)
   ·cases hi
  obtain ⟨vs, hl, hvs⟩ := hvs
  refine ⟨vs, hl, fun i v h => (hvs i v h).2, ?_⟩
  have e1 : a.tmps = (puts a0 ds vs).tmps := by
   apply Array.ext_getElem?
   intro k
   by_cases hk : k ∈ ds
   ·obtain ⟨i, hi, rfl⟩ := List.getElem_of_mem hk
    have h1 : vs[i]? = some (vs[i]'(by omega)) := List.getElem?_eq_getElem _
    rw [(hvs i _ h1).1 _ (List.getElem?_eq_getElem hi), puts_at ds vs a0 i _ _ hnd hlt' (List.getElem?_eq_getElem hi) h1]
   ·rw [hI.frame k hk, puts_other ds vs a0 k hk]
  have e2 : a.defers = (puts a0 ds vs).defers := by rw [puts_defers]; exact hI.defers
  cases a
  cases h : puts a0 ds vs
  rw [h] at e1 e2
  simp only at e1 e2
  rw [e1, e2]
 refine wp_region_any hm ?_
 refine wpAny_inv (fun l a w => l.size = ops.size ∧ ((last = true ∧ l.getD ds.length false = true ∧ (∀ i, i < ds.length → l.getD i false = true) ∧ Q .normal a w) ∨ ((last = true → l.getD ds.length false = false) ∧ DrawInvB ops a0 w0 ds V l a w))) ?_ ?_ _ _ _ _ (by simp) ?_
 ·rintro l a w hr ⟨hsz, ⟨_, _, _, hq⟩ | ⟨hnl, hI⟩⟩
  ·exact hq
  ·have hall : ∀ i, i < ops.size → l.getD i false = true := by
    intro i
    induction i using Nat.strongRecOn with
    | ind i ih =>
     intro hi
     refine Classical.byContradiction fun hn => ?_
     have h1 : l.getD i true = false := listed_of (by omega) hn
     rw [List.all_eq_true] at hord
     have h2 := hord i (List.mem_range.2 hi)
     have hm : i ∈ Region.ready .any ops l := by
      rw [mem_ready]
      refine ⟨h1, _, Array.getElem?_eq_getElem hi, fun e he hbe => ?_⟩
      rw [Array.getElem?_eq_getElem hi] at h2
      have h3 := (Array.all_eq_true_iff_forall_mem.1 h2) e he
      rw [hbe] at h3
      have h4 : e.on < i := by simpa using h3
      exact ih e.on h4 (by omega)
     rw [hr] at hm
     cases hm
   cases hlb : last with
   | true =>
    have := hall ds.length (by rw [hlen, hlb]; exact Nat.lt_succ_self _)
    rw [hnl hlb] at this
    cases this
   | false =>
    obtain ⟨vs, h1, h2, rfl⟩ := whole l a w hI (fun i hi => hall i (by omega))
    exact hfin hlb vs w h1 h2 hI.below
 ·rintro l a w i hi ⟨hsz, hI⟩ K hK
  obtain ⟨hun, o, ho, hall⟩ := mem_ready.1 hi
  have hi8 := (Array.getElem?_eq_some_iff.1 ho).1
  rcases hI with ⟨hl, hn, hal, _⟩ | ⟨hnl, hI⟩
  ·exfalso
   rw [hl] at hlen
   have : i = ds.length ∨ i < ds.length := by simp at hlen; omega
   rcases this with rfl | h
   ·exact not_listed' hun hn
   ·exact not_listed' hun (hal i h)
  ·by_cases hil : i < ds.length
   ·have hd : ds[i]? = some (ds[i]'hil) := List.getElem?_eq_getElem _
    have hltd : ds[i]'hil < a.tmps.size := by rw [hI.size]; exact hlt' _ (List.getElem_mem hil)
    generalize ds[i]'hil = d at *
    obtain ⟨o', ho', hod⟩ := hdst i d hd
    rw [ho] at ho'
    injection ho' with ho'
    subst ho'
    -- the invariant behind it
    have next : ∀ v w', V i w' v → Below w.heap.size w w' → DrawInvB ops a0 w0 ds V (l.setIfInBounds i true) (a.put (some d) v) w' := by
     intro v w' hV hb
     refine ⟨fun k hk => (put_ne a _ (fun e : d = k => hk (by rw [← e]; exact List.mem_of_getElem? hd))).trans (hI.frame k hk), (put_size _ _ _).trans hI.size, hI.defers, Below.then_ hI.below hb, fun j d' hj hl => ?_, fun j oj hj hl e he hbe => ?_, by rw [Array.size_setIfInBounds]; exact hI.sz⟩
     ·by_cases e : j = i
      ·subst e
       rw [hd] at hj
       injection hj with hj
       subst hj
       exact ⟨v, put_eq _ _ hltd, hV⟩
      ·rcases bit_set hl with h | h
       ·exact absurd h e
       ·obtain ⟨v', h1, h2⟩ := hI.has j d' hj h
        refine ⟨v', ?_, hst j w w' v' hb h2⟩
        rw [put_ne _ _ (fun e' => e ?_)]
        ·exact h1
        ·obtain ⟨a1, a2⟩ := List.getElem?_eq_some_iff.1 hd
         obtain ⟨b1, b2⟩ := List.getElem?_eq_some_iff.1 hj
         exact (List.getElem_inj hnd).1 (b2.trans (e'.symm.trans a2.symm))
     ·have old : l.getD e.on false = true := by
       rcases bit_set hl with h | h
       ·subst h
        rw [ho] at hj
        injection hj with hj
        subst hj
        exact hall e he hbe
       ·exact hI.closed j oj hj h e he hbe
      by_cases e' : i = e.on
      ·rw [← e', Array.getD_eq_getD_getElem?, Array.getElem?_setIfInBounds_self_of_lt (by omega)]; rfl
      ·rw [getD_set_ne false e']; exact old
    have keep : ∀ v w', V i w' v → Below w.heap.size w w' → K (a.put (some d) v) w' := fun v w' hV hb => by
     refine hK _ _ ⟨by rw [Array.size_setIfInBounds]; exact hsz, .inr ⟨fun hl => ?_, next v w' hV hb⟩⟩
     rw [getD_set_ne false (by omega)]; exact hnl hl
    have hat : DrawAt a0 w0 ds V o a w := ⟨hI.frame, hI.below, fun j d' hj hb => hI.has j d' hj (dep_of hb hall)⟩
    rcases hstep i o d ho hd with ⟨hg, hs⟩ | ⟨j, b, dj, hg, hdj, hdep, hway⟩
    ·exact wpOp_plain ho hg (fun K' hK' => hs a w hat K' (fun v w' hV hb => hK' _ _ (keep v w' hV hb)))
    ·obtain ⟨oj, hoj, hoj'⟩ := hdst j dj hdj
     obtain ⟨vj, g1, g2⟩ := hat.dep j dj hdj hdep
     rcases hway with ⟨hv, hs⟩ | ⟨⟨c, hc, hv⟩, hu⟩
     ·rw [hv w vj g2] at g1
      exact wpOp_wanted ho hg hoj hoj' g1 (fun K' hK' => hs a w hat K' (fun v w' hV hb => hK' _ _ (keep v w' hV hb)))
     ·rw [hv w vj g2] at g1
      refine wpOp_unwanted ho hg hoj hoj' g1 hc ?_
      rw [hod]
      exact keep _ _ (hu w) ⟨rfl, rfl, rfl, Nat.le_refl _, fun _ _ => rfl⟩
   ·cases hlb : last with
    | false => rw [hlb] at hlen; simp at hlen; omega
    | true =>
     have hin : i = ds.length := by rw [hlb] at hlen; simp at hlen; omega
     subst hin
     obtain ⟨hg, hs⟩ := hlast hlb o ho
     have hdone : ∀ i, i < ds.length → l.getD i false = true := fun i hi => all_of_closed hI.closed (hcov hlb) (fun o' ho' => by rw [ho] at ho'; injection ho' with ho'; subst ho'; exact hall) _ i (Nat.le_refl _) hi
     obtain ⟨vs, h1, h2, rfl⟩ := whole l a w hI hdone
     refine wpOp_plain ho hg (fun K' hK' => hs vs w h1 h2 hI.below K' (fun a' w' hq => hK' _ _ (hK _ _ ⟨by rw [Array.size_setIfInBounds]; exact hsz, .inl ⟨hlb, ?_, fun i hi => ?_, hq⟩⟩)))
     ·rw [Array.getD_eq_getD_getElem?, Array.getElem?_setIfInBounds_self_of_lt (by omega)]; rfl
     ·rw [getD_set_ne false (by omega)]; exact hdone i hi
 ·refine ⟨by simp, .inr ⟨fun _ => ?_, fun _ _ => rfl, rfl, rfl, ⟨rfl, rfl, rfl, Nat.le_refl _, fun _ _ => rfl⟩, fun i _ _ h => ?_, fun i o _ h => ?_, by simp⟩⟩
  ·rw [Array.getD_eq_getD_getElem?, Array.getElem?_replicate]; split <;> rfl
  ·rw [Array.getD_eq_getD_getElem?, Array.getElem?_replicate] at h
   split at h <;> simp at h
  ·rw [Array.getD_eq_getD_getElem?, Array.getElem?_replicate] at h
   split at h <;> simp at h
end Pg
namespace Go.Proofs.Ytahdlpkncemmaaa
open Go.RowKit Pg
inductive Hd where
 | is (v : Value)
 | row (N : Nat)
 | rat (q : Rat)
 | such (p : World → Value → Prop)
def Hd.ok : Hd → World → Value → Prop
 | .is v0, _, v => v = v0
 | .row N, w, v => ∃ A c, v = .slice A (limbs N).length c ∧ Row w A (limbs N).length c (limbs N)
 | .rat q, w, v => IsQ w q v
 | .such p, w, v => ∀ w', Below w.heap.size w w' → p w' v
theorem Hd.below {h : Hd} {w w' : World} {v : Value} (hb : Below w.heap.size w w') (hk : h.ok w v) : h.ok w' v := by
 cases h with
 | is v0 => exact hk
 | row N => obtain ⟨A, c, e, hr⟩ := hk; exact ⟨A, c, e, hr.below hb⟩
 | rat q => exact IsQ.below hk hb
 | such p => exact fun w2 h2 => hk w2 (Below.then_ hb h2)
def hd (hs : List Hd) (i : Nat) (w : World) (v : Value) : Prop := match hs[i]? with | some h => h.ok w v | none => True
def gway (hs : List Hd) (o : Oper) : Option Bool := match o.guard with
 | none => some true
 | some (j, b) => match hs[j]? with
  | some (.is (.bool c)) => some (c == b)
  | _ => none
def GStep (a0 : Act) (w0 : World) (ds : List Nat) (hs : List Hd) (Q : Exit → Act → World → Prop) (o : Oper) (d : Nat) (h : Hd) : Prop :=
 match gway hs o with
 | some true => ∀ a w, DrawAt a0 w0 ds (hd hs) o a w → ∀ K : Act → World → Prop, (∀ v w', h.ok w' v → Below w.heap.size w w' → K (a.put (some d) v) w') → Oper.wp Try.prog o a w K Q
 | some false => h = .is undef
 | none => False
def GSteps (a0 : Act) (w0 : World) (ds : List Nat) (hs : List Hd) (Q : Exit → Act → World → Prop) : List Oper → List Nat → List Hd → Prop
 | o :: os, d :: ds', h :: hs' => GStep a0 w0 ds hs Q o d h ∧ GSteps a0 w0 ds hs Q os ds' hs'
 | _, [], [] => True
 | _, _, _ => False
theorem GSteps.at {a0 : Act} {w0 : World} {ds : List Nat} {hs : List Hd} {Q : Exit → Act → World → Prop} : ∀ {os : List Oper} {ds' : List Nat} {hs' : List Hd}, GSteps a0 w0 ds hs Q os ds' hs' → ∀ (i : Nat) (o : Oper) (d : Nat), os[i]? = some o → ds'[i]? = some d →
  ∃ h, hs'[i]? = some h ∧ GStep a0 w0 ds hs Q o d h
 | o :: os, d :: ds', h :: hs', hd, 0, o', d', ho, hd' => by
  simp only [List.getElem?_cons_zero, Option.some.injEq] at ho hd'
  subst ho hd'
  exact ⟨h, rfl, hd.1⟩
 | o :: os, d :: ds', h :: hs', hd, i + 1, o', d', ho, hd' => by
  obtain ⟨h', e, hh⟩ := GSteps.at hd.2 i o' d' (by simpa using ho) (by simpa using hd')
  exact ⟨h', by simpa using e, hh⟩
 | _, [], [], _, i, o', d', _, hd' => by simp at hd'
 | [], _ :: _, _, h, _, _, _, _, _ => h.elim
 | _ :: _, _ :: _, [], h, _, _, _, _, _ => h.elim
 | [], [], _ :: _, h, _, _, _, _, _ => h.elim
 | _ :: _, [], _ :: _, h, _, _, _, _, _ => h.elim
theorem bt_is {a0 : Act} {w0 : World} {ds : List Nat} {hs : List Hd} {o : Oper} {a : Act} {w : World} (h : DrawAt a0 w0 ds (hd hs) o a w) (j d : Nat) {v : Value} (hd : ds[j]? = some d := by rfl) (hh : hs[j]? = some (.is v) := by rfl) (ho : o.after.any (fun e => Region.binds .any e && e.on == j) = true := by kernel_rfl) : a.tmps.getD d undef = v := by
 obtain ⟨v', h1, h2⟩ := h.new j d hd ho
 unfold Go.Proofs.Ytahdlpkncemmaaa.hd at h2
 rw [hh] at h2
 rw [h1]; exact h2
theorem bt_row {a0 : Act} {w0 : World} {ds : List Nat} {hs : List Hd} {o : Oper} {a : Act} {w : World} (h : DrawAt a0 w0 ds (hd hs) o a w) (j d : Nat) {N : Nat} (hd : ds[j]? = some d := by rfl) (hh : hs[j]? = some (.row N) := by rfl) (ho : o.after.any (fun e => Region.binds .any e && e.on == j) = true := by kernel_rfl) :
  ∃ A c, a.tmps.getD d undef = .slice A (limbs N).length c ∧ Row w A (limbs N).length c (limbs N) := by
 obtain ⟨v', h1, h2⟩ := h.new j d hd ho
 unfold Go.Proofs.Ytahdlpkncemmaaa.hd at h2
 rw [hh] at h2
 obtain ⟨A, c, e, hr⟩ := h2
 exact ⟨A, c, h1.trans e, hr⟩
theorem bt_such {a0 : Act} {w0 : World} {ds : List Nat} {hs : List Hd} {o : Oper} {a : Act} {w : World} (h : DrawAt a0 w0 ds (hd hs) o a w) (j d : Nat) {p : World → Value → Prop} (hd : ds[j]? = some d := by rfl) (hh : hs[j]? = some (.such p) := by rfl) (ho : o.after.any (fun e => Region.binds .any e && e.on == j) = true := by kernel_rfl) :
  ∃ v, a.tmps.getD d undef = v ∧ ∀ w', Below w.heap.size w w' → p w' v := by
 obtain ⟨v', h1, h2⟩ := h.new j d hd ho
 unfold Go.Proofs.Ytahdlpkncemmaaa.hd at h2
 rw [hh] at h2
 exact ⟨v', h1, h2⟩
def AllHd (w : World) : List Hd → List Value → Prop
 | h :: hs, v :: vs => h.ok w v ∧ AllHd w hs vs
 | [], [] => True
 | _, _ => False
theorem allHd {w : World} : ∀ {hs : List Hd} {vs : List Value}, vs.length = hs.length → (∀ i v, vs[i]? = some v → hd hs i w v) → AllHd w hs vs
 | [], [], _, _ => trivial
 | [], _ :: _, h, _ => by simp at h
 | _ :: _, [], h, _ => by simp at h
 | h :: hs, v :: vs, hl, hv => ⟨hv 0 v rfl, allHd (by simpa using hl) (fun i v' hi => by have := hv (i + 1) v' (by simpa using hi); unfold hd at this ⊢; simpa using this)⟩
theorem AllHd.is_ {w : World} {v : Value} {hs : List Hd} {vs : List Value} (h : AllHd w (.is v :: hs) vs) : ∃ vs', vs = v :: vs' ∧ AllHd w hs vs' := by
 cases vs with
 | nil => exact h.elim
 | cons u us => obtain ⟨h1, h2⟩ := h; exact ⟨us, by rw [show u = v from h1], h2⟩
theorem AllHd.row_ {w : World} {N : Nat} {hs : List Hd} {vs : List Value} (h : AllHd w (.row N :: hs) vs) : ∃ A c vs', vs = .slice A (limbs N).length c :: vs' ∧ Row w A (limbs N).length c (limbs N) ∧ AllHd w hs vs' := by
 cases vs with
 | nil => exact h.elim
 | cons u us => obtain ⟨⟨A, c, e, hr⟩, h2⟩ := h; exact ⟨A, c, us, by rw [e], hr, h2⟩
theorem AllHd.rat_ {w : World} {q : Rat} {hs : List Hd} {vs : List Value} (h : AllHd w (.rat q :: hs) vs) : ∃ A c A' c' vs', vs = .agg #[.bool (rneg q), .slice A (limbs (rnum q)).length c, .slice A' (limbs q.den).length c'] :: vs' ∧ Row w A (limbs (rnum q)).length c (limbs (rnum q)) ∧ Row w A' (limbs q.den).length c' (limbs q.den) ∧ AllHd w hs vs' := by
 cases vs with
 | nil => exact h.elim
 | cons u us => obtain ⟨⟨A, c, A', c', e, h1, h3⟩, h2⟩ := h; exact ⟨A, c, A', c', us, by rw [e], h1, h3, h2⟩
theorem AllHd.such_ {w : World} {p : World → Value → Prop} {hs : List Hd} {vs : List Value} (h : AllHd w (.such p :: hs) vs) : ∃ v vs', vs = v :: vs' ∧ (∀ w', Below w.heap.size w w' → p w' v) ∧ AllHd w hs vs' := by
 cases vs with
 | nil => exact h.elim
 | cons u us => obtain ⟨h1, h2⟩ := h; exact ⟨u, us, rfl, h1, h2⟩
theorem AllHd.nil_ {w : World} {vs : List Value} (h : AllHd w [] vs) : vs = [] := by
 cases vs with
 | nil => rfl
 | cons u us => exact h.elim
def closedB (ops : Array Oper) (ds : List Nat) : Bool :=
 (List.range ops.size).all (fun i => match ops[i]? with | some o => o.after.all (fun e => !Region.binds .any e || decide (e.on < i)) | none => true) &&
 (List.range ds.length).all (fun i => match ops[i]?, ds[i]? with | some o, some d => o.dst == some d && (match o.guard with | none => true | some (j, _) => decide (j < ds.length) && o.after.any (fun e => Region.binds .any e && e.on == j)) | _, _ => false)
def coverB (ops : Array Oper) (n : Nat) : Bool :=
 (List.range n).all (fun i => (List.range (n + 1)).any (fun j => decide (i < j) && (match ops[j]? with | some o => o.after.any (fun e => Region.binds .any e && e.on == i) | none => false)))
theorem drawB_core {id : Nat} {ops : Array Oper} {Q : Exit → Act → World → Prop} {a0 : Act} {w0 : World} (ds : List Nat) (hs : List Hd) (last : Bool)
  (hm : Try.prog.follows .mixedOrders = true) (hlen : ops.size = ds.length + last.toNat) (hlh : hs.length = ds.length) (hnd : ds.Nodup) (hlt : ds.all (fun k => decide (k < a0.tmps.size)) = true)
  (hcl : closedB ops ds = true) (hcov : last = true → coverB ops ds.length = true)
  (hstep : GSteps a0 w0 ds hs Q ops.toList ds hs)
  (hlast : last = true → ∀ o, ops[ds.length]? = some o → o.guard = none ∧ ∀ vs w', AllHd w' hs vs → Below w0.heap.size w0 w' → ∀ K : Act → World → Prop, (∀ a w, Q .normal a w → K a w) → Oper.wp Try.prog o (puts a0 ds vs) w' K Q)
  (hfin : last = false → ∀ vs w', AllHd w' hs vs → Below w0.heap.size w0 w' → Q .normal (puts a0 ds vs) w') :
  (Code.region id ops true).wp Try.prog Q a0 w0 := by
 unfold closedB at hcl
 rw [Bool.and_eq_true] at hcl
 obtain ⟨hord, hall⟩ := hcl
 have point : ∀ (i : Nat) (o : Oper) (d : Nat), ops[i]? = some o → ds[i]? = some d → o.dst = some d ∧ ∀ j b, o.guard = some (j, b) → j < ds.length ∧ o.after.any (fun e => Region.binds .any e && e.on == j) = true := by
  intro i o d ho hd
  have h := List.all_eq_true.1 hall i (List.mem_range.2 (List.getElem?_eq_some_iff.1 hd).1)
  rw [ho, hd] at h
  simp only [Bool.and_eq_true, beq_iff_eq] at h
  refine ⟨h.1, fun j b hg => ?_⟩
  have h2 := h.2
  rw [hg] at h2
  simpa [Bool.and_eq_true] using h2
 refine drawB_region ds (hd hs) last hm hlen hnd hlt (fun i d hd => ?_) hord hcov (fun i w w' v hb h => ?_) (fun i o d ho hd => ?_) (fun hl o ho => ?_) (fun hl vs w' h1 hv hb => hfin hl vs w' (allHd (h1.trans hlh.symm) hv) hb)
 ·have hi := (List.getElem?_eq_some_iff.1 hd).1
  have ho : ops[i]? = some (ops[i]'(by omega)) := Array.getElem?_eq_getElem _
  exact ⟨_, ho, (point i _ d ho hd).1⟩
 ·unfold hd at h ⊢
  split at h
  ·exact Hd.below hb h
  ·trivial
 ·obtain ⟨h, e, hh⟩ := hstep.at i o d (by rw [Array.getElem?_toList]; exact ho) hd
  have run : ∀ v w', h.ok w' v → Go.Proofs.Ytahdlpkncemmaaa.hd hs i w' v := fun v w' hv => by unfold Go.Proofs.Ytahdlpkncemmaaa.hd; rw [e]; exact hv
  unfold GStep at hh
  cases hg : o.guard with
  | none =>
   left
   refine ⟨rfl, fun a w hA K hK => ?_⟩
   unfold gway at hh
   rw [hg] at hh
   exact hh a w hA K (fun v w' hv hb => hK v w' (run v w' hv) hb)
  | some jb =>
   obtain ⟨j, b⟩ := jb
   right
   obtain ⟨hj, hdep⟩ := (point i o d ho hd).2 j b hg
   refine ⟨j, b, _, rfl, List.getElem?_eq_getElem hj, hdep, ?_⟩
   unfold gway at hh
   rw [hg] at hh
   simp only at hh
   cases hsj : hs[j]? with
   | none => rw [hsj] at hh; exact hh.elim
   | some hj' =>
    rw [hsj] at hh
    cases hj' with
    | row N => exact hh.elim
    | rat q => exact hh.elim
    | such p => exact hh.elim
    | is v0 =>
     cases v0 with
     | bool c =>
      simp only at hh
      have hval : ∀ w v, Go.Proofs.Ytahdlpkncemmaaa.hd hs j w v → v = .bool c := fun w v hv => by unfold Go.Proofs.Ytahdlpkncemmaaa.hd at hv; rw [hsj] at hv; exact hv
      cases hcb : (c == b) with
      | true =>
       rw [hcb] at hh
       left
       refine ⟨fun w v hv => by rw [hval w v hv, eq_of_beq hcb], fun a w hA K hK => hh a w hA K (fun v w' hv hb => hK v w' (run v w' hv) hb)⟩
      | false =>
       rw [hcb] at hh
       right
       refine ⟨⟨c, hcb, hval⟩, fun w => run _ _ ?_⟩
       have hu : h = .is undef := hh
       rw [hu]
       exact rfl
     | _ => exact hh.elim
 ·obtain ⟨g, hh⟩ := hlast hl o ho
  exact ⟨g, fun vs w' h1 hv hb K hK => hh vs w' (allHd (h1.trans hlh.symm) hv) hb K hK⟩
theorem draw_hd {id : Nat} {ops : Array Oper} {Q : Exit → Act → World → Prop} {a0 : Act} {w0 : World} (ds : List Nat) (hs : List Hd)
  (hm : Try.prog.follows .mixedOrders = true) (hlen : ops.size = ds.length) (hlh : hs.length = ds.length) (hnd : ds.Nodup) (hlt : ds.all (fun k => decide (k < a0.tmps.size)) = true)
  (hcl : closedB ops ds = true)
  (hstep : GSteps a0 w0 ds hs Q ops.toList ds hs)
  (hfin : ∀ vs w', AllHd w' hs vs → Below w0.heap.size w0 w' → ∀ a, a = puts a0 ds vs → Q .normal a w') :
  (Code.region id ops true).wp Try.prog Q a0 w0 :=
 drawB_core ds hs false hm hlen hlh hnd hlt hcl (by intro h; cases h) hstep (by intro h; cases h) (fun _ vs w' h1 h2 => hfin vs w' h1 h2 _ rfl)
theorem draw_last {id : Nat} {ops : Array Oper} {Q : Exit → Act → World → Prop} {a0 : Act} {w0 : World} (ds : List Nat) (hs : List Hd) {ty ty' : TypeId} {tp tv : Nat} {ps : String} {af : Array Edge}
  (hm : Try.prog.follows .mixedOrders = true) (hlen : ops.size = ds.length + 1) (hlh : hs.length = ds.length) (hnd : ds.Nodup) (hlt : ds.all (fun k => decide (k < a0.tmps.size)) = true)
  (hcl : closedB ops ds = true) (hcov : coverB ops ds.length = true) (ho : ops[ds.length]? = some ⟨none, .store ty (.tmp tp) (.tmp tv), ty', ps, af, none⟩)
  (hstep : GSteps a0 w0 ds hs Q ops.toList ds hs)
  (hfin : ∀ vs w', AllHd w' hs vs → Below w0.heap.size w0 w' → ∀ a, a = puts a0 ds vs → (∀ k v, ds.contains k = false → a0.tmps[k]? = some v → a.tmps.getD k undef = v) → (∀ (i d : Nat) v, ds[i]? = some d → vs[i]? = some v → a.tmps.getD d undef = v) → ∀ K : Act → World → Prop, (∀ a w, Q .normal a w → K a w) → Oper.wp Try.prog ⟨none, .store ty (.tmp tp) (.tmp tv), ty', ps, af, none⟩ a w' K Q) :
  (Code.region id ops true).wp Try.prog Q a0 w0 :=
 drawB_core ds hs true hm hlen hlh hnd hlt hcl (fun _ => hcov) hstep (fun _ o' ho' => by rw [ho] at ho'; injection ho' with ho'; subst ho'; exact ⟨rfl, fun vs w' h1 h2 K hK => hfin vs w' h1 h2 _ rfl
  (fun k v hk hv => getD_of ((puts_other ds vs a0 k (by intro hm; have := List.contains_iff_mem.2 hm; rw [hk] at this; cases this)).trans hv))
  (fun i d v hd hv => getD_of (puts_at ds vs a0 i d v hnd (fun d hd => by simpa using List.all_eq_true.1 hlt d hd) hd hv)) K hK⟩) (by intro h; cases h)
end Go.Proofs.Ytahdlpkncemmaaa
namespace Pg
theorem sg_add_same (s : Bool) (x y : Nat) : sg s x + sg s y = sg s (x + y) := by unfold sg; cases s <;> simp <;> omega
theorem sg_add_ge (s t : Bool) (x y : Nat) (h : s ≠ t) (hxy : y ≤ x) : sg s x + sg t y = sg s (x - y) := by
 unfold sg; cases s <;> cases t <;> simp at h ⊢ <;> omega
theorem sg_add_lt (s t : Bool) (x y : Nat) (h : s ≠ t) (hxy : x < y) : sg s x + sg t y = sg t (y - x) := by
 unfold sg; cases s <;> cases t <;> simp at h ⊢ <;> omega
theorem rv_add_same {p q : Rat} (h : rneg p = rneg q) : rv (rneg p) (rnum p * q.den + rnum q * p.den) (p.den * q.den) = p + q := by
 rw [rv_add, ← h, sg_add_same]; rfl
theorem rv_add_ge {p q : Rat} (h : rneg p ≠ rneg q) (hxy : rnum q * p.den ≤ rnum p * q.den) : rv (rneg p) (rnum p * q.den - rnum q * p.den) (p.den * q.den) = p + q := by
 rw [rv_add, sg_add_ge _ _ _ _ h hxy]; rfl
theorem rv_add_lt {p q : Rat} (h : rneg p ≠ rneg q) (hxy : rnum p * q.den < rnum q * p.den) : rv (rneg q) (rnum q * p.den - rnum p * q.den) (p.den * q.den) = p + q := by
 rw [rv_add, sg_add_lt _ _ _ _ h hxy]; rfl
theorem rnum_neg (q : Rat) : rnum (-q) = rnum q := by unfold rnum; rw [Rat.neg_num]; omega
theorem rden_neg (q : Rat) : (-q).den = q.den := Rat.neg_den q
theorem limbs_mul_len {a b k : Nat} (ha : (limbs a).length ≤ k) (hb : (limbs b).length ≤ k) : (limbs (a * b)).length ≤ k + k := by
 refine length_limbs_le ?_
 rw [Nat.pow_add]
 exact Nat.mul_lt_mul'' (Nat.lt_of_lt_of_le (lt_pow_length a) (Nat.pow_le_pow_right (by omega) ha)) (Nat.lt_of_lt_of_le (lt_pow_length b) (Nat.pow_le_pow_right (by omega) hb))
theorem limbs_add_len {a b k : Nat} (ha : (limbs a).length ≤ k) (hb : (limbs b).length ≤ k) : (limbs (a + b)).length ≤ k + 1 := by
 refine length_limbs_le ?_
 have h1 := Nat.lt_of_lt_of_le (lt_pow_length a) (Nat.pow_le_pow_right (n := 4294967296) (by omega) ha)
 have h2 := Nat.lt_of_lt_of_le (lt_pow_length b) (Nat.pow_le_pow_right (n := 4294967296) (by omega) hb)
 rw [Nat.pow_succ]; omega
end Pg
namespace Go.Proofs.Ytahdlpkncemmaaa
open Go.RowKit Pg
def RArg (w : World) (v : Value) (q : Rat) (k : Nat) : Prop := ∃ s A n c A' n' c' xs ys, v = .agg #[.bool s, .slice A n c, .slice A' n' c'] ∧ Row w A n c xs ∧ Row w A' n' c' ys ∧ n ≤ k ∧ n' ≤ k ∧ rv s (val xs) (val ys) = q
theorem RArg.below {w w' : World} {v : Value} {q : Rat} {k : Nat} (h : RArg w v q k) (hb : Below w.heap.size w w') : RArg w' v q k := by
 obtain ⟨s, A, n, c, A', n', c', xs, ys, e, h1, h2, h3⟩ := h
 exact ⟨s, A, n, c, A', n', c', xs, ys, e, h1.below hb, h2.below hb, h3⟩
theorem RArg.alloc {w : World} {v : Value} {q : Rat} {k : Nat} (h : RArg w v q k) (o : Obj) : RArg (w.alloc o) v q k := by
 obtain ⟨s, A, n, c, A', n', c', xs, ys, e, h1, h2, h3⟩ := h
 exact ⟨s, A, n, c, A', n', c', xs, ys, e, h1.alloc o, h2.alloc o, h3⟩
theorem RArg.mk {w : World} {s : Bool} {A A' : Option Addr} {n c n' c' k : Nat} {xs ys : List Nat} (h : Row w A n c xs) (h' : Row w A' n' c' ys) (hn : n ≤ k) (hn' : n' ≤ k) : RArg w (.agg #[.bool s, .slice A n c, .slice A' n' c']) (rv s (val xs) (val ys)) k :=
 ⟨s, A, n, c, A', n', c', xs, ys, rfl, h, h', hn, hn', rfl⟩
theorem RArg.norm {w : World} {q : Rat} {A A' : Option Addr} {c c' k : Nat} (h : Row w A (limbs (rnum q)).length c (limbs (rnum q))) (h' : Row w A' (limbs q.den).length c' (limbs q.den)) (hn : (limbs (rnum q)).length ≤ k) (hn' : (limbs q.den).length ≤ k) :
  RArg w (.agg #[.bool (rneg q), .slice A (limbs (rnum q)).length c, .slice A' (limbs q.den).length c']) q k :=
 ⟨_, _, _, _, _, _, _, _, _, rfl, h, h', hn, hn', by rw [val_limbs, val_limbs, rv_self]⟩
def Short (q : Rat) (k : Nat) : Prop := (limbs (rnum q)).length ≤ k ∧ (limbs q.den).length ≤ k
theorem RArg.short {w : World} {v : Value} {q : Rat} {k : Nat} (h : RArg w v q k) (hk : 1 ≤ k) : Short q k := by
 obtain ⟨s, A, n, c, A', n', c', xs, ys, e, h1, h2, h3, h4, rfl⟩ := h
 have l1 : (limbs (val xs)).length ≤ k := by have := tl_le h1.ok; rw [h1.len] at this; unfold tl at this; omega
 have l2 : (limbs (val ys)).length ≤ k := by have := tl_le h2.ok; rw [h2.len] at this; unfold tl at this; omega
 by_cases hD : val ys = 0
 ·rw [rv_zero (.inr hD)]
  exact ⟨by rw [rnum_zero, limbs_zero]; simp, by rw [rden_zero, limbs_one]; simpa using hk⟩
 ·unfold Short
  rw [rv_num _ _ hD, rv_den _ _ hD]
  exact ⟨Nat.le_trans (limbs_mono (Nat.div_le_self _ _)) l1, Nat.le_trans (limbs_mono (Nat.div_le_self _ _)) l2⟩
theorem B3.newg (w : World) (t : TypeId) (v0 v1 v2 : Value) (g : Nat) (hg : g = w.heap.size) : B3 (w.alloc (.cells #[v0, v1, v2] t)) g t v0 v1 v2 := by subst hg; exact B3.new w t v0 v1 v2
end Go.Proofs.Ytahdlpkncemmaaa
namespace Pg
end Pg
namespace Go.Proofs.Ytahdlpkncemmaaa
open Go.RowKit Pg
end Go.Proofs.Ytahdlpkncemmaaa
namespace Pg
open Go Go.RowKit
structure RHdr where
 s : Bool
 A : Option Addr
 n : Nat
 c : Nat
 A' : Option Addr
 n' : Nat
 c' : Nat
def RHdr.len (h : RHdr) : Nat := h.n + h.n'
end Pg
namespace Go.Proofs.Ytahdlpkncemmaaa
open Go.RowKit Pg
end Go.Proofs.Ytahdlpkncemmaaa
namespace Pg
open Go Go.RowKit
theorem getD_set_selfn {l : Array Bool} {i : Nat} (h : i < l.size) : (l.setIfInBounds i true).getD i false = true := by
 rw [Array.getD_eq_getD_getElem?, Array.getElem?_setIfInBounds, if_pos rfl, if_pos h]; rfl
theorem get_of_set {l : Array Bool} {i j : Nat} (hne : j ≠ i) (h : (l.setIfInBounds i true).getD j false = true) : l.getD j false = true := by
 rcases bit_set h with e | e
 ·exact absurd e hne
 ·exact e
theorem getD_set_self4 {l : Array Bool} (h : l.size = 6) : (l.setIfInBounds 4 true).getD 4 false = true := getD_set_selfn (by omega)
theorem getD_set_self5 {l : Array Bool} (h : l.size = 6) : (l.setIfInBounds 5 true).getD 5 false = true := getD_set_selfn (by omega)
end Pg
namespace Go.Proofs.Ytahdlpkncemmaaa
open Go.RowKit Pg
structure PairSInv (a0 : Act) (w0 : World) (B x0 x1 x2 x3 ga gb : Nat) (va0 va1 va2 vb0 vb1 vb2 : Value) (p q : Rat) (l : Array Bool) (a : Act) (w : World) : Prop where
 frame : ∀ k, k ≠ x0 → k ≠ x1 → k ≠ x2 → k ≠ x3 → a.tmps[k]? = a0.tmps[k]?
 size : a.tmps.size = a0.tmps.size
 defers : a.defers = a0.defers
 below : Below B w0 w
 boxA : ¬ l.getD 4 false = true → B3 w ga 25 va0 va1 va2
 boxB : ¬ l.getD 5 false = true → B3 w gb 25 vb0 vb1 vb2
 s0 : l.getD 0 false = true → a.tmps[x0]? = some (.agg #[va0, va1, va2])
 s1 : l.getD 1 false = true → ∃ v, a.tmps[x1]? = some v ∧ IsQ w p v
 s2 : l.getD 2 false = true → a.tmps[x2]? = some (.agg #[vb0, vb1, vb2])
 s3 : l.getD 3 false = true → ∃ v, a.tmps[x3]? = some v ∧ IsQ w q v
 shpA : Shp w ga
 shpB : Shp w gb
 s4 : l.getD 4 false = true → l.getD 0 false = true ∧ l.getD 1 false = true ∧ ∀ v, a.tmps[x1]? = some v → Hld w ga v
 s5 : l.getD 5 false = true → (∀ j, j < 4 → l.getD j false = true) ∧ ∀ v, a.tmps[x3]? = some v → Hld w gb v
 sz : l.size = 6
theorem PairSInv.world {a0 : Act} {w0 : World} {B x0 x1 x2 x3 ga gb : Nat} {va0 va1 va2 vb0 vb1 vb2 : Value} {p q : Rat} {l : Array Bool} {a : Act} {w w' : World} (h : PairSInv a0 w0 B x0 x1 x2 x3 ga gb va0 va1 va2 vb0 vb1 vb2 p q l a w) (hb : Below w.heap.size w w') (hBw : B ≤ w0.heap.size) : PairSInv a0 w0 B x0 x1 x2 x3 ga gb va0 va1 va2 vb0 vb1 vb2 p q l a w' :=
 ⟨h.frame, h.size, h.defers, h.below.trans (hb.mono (Nat.le_trans hBw h.below.size)), fun e => (h.boxA e).below hb, fun e => (h.boxB e).below hb, h.s0, fun e => (h.s1 e).imp fun _ hv => ⟨hv.1, hv.2.below hb⟩, h.s2, fun e => (h.s3 e).imp fun _v hv => ⟨hv.1, hv.2.below hb⟩,
  h.shpA.below hb, h.shpB.below hb, fun e => ⟨(h.s4 e).1, (h.s4 e).2.1, fun v hv => ((h.s4 e).2.2 v hv).below hb⟩, fun e => ⟨(h.s5 e).1, fun v hv => ((h.s5 e).2 v hv).below hb⟩, h.sz⟩
end Go.Proofs.Ytahdlpkncemmaaa
namespace Go.Proofs.Ytahdlpkncemmaaa
open Go.RowKit Pg
def Keep2 (w0 : World) (ga gb : Nat) (w : World) : Prop := ∀ g, g < w0.heap.size → g ≠ ga → g ≠ gb → w.heap[g]? = w0.heap[g]?
theorem Keep2.set3 {w0 w : World} {ga gb : Nat} (h : Keep2 w0 ga gb w) {x : Nat} (hx : x = ga ∨ x = gb) (u0 u1 u2 : Value) : Keep2 w0 ga gb (((w.setCell ⟨x, 0, none⟩ u0).setCell ⟨x, 1, none⟩ u1).setCell ⟨x, 2, none⟩ u2) := fun g hg h1 h2 => by
 have hne : g ≠ x := by rcases hx with rfl | rfl <;> assumption
 rw [heap_setCell_other _ ⟨x, 2, none⟩ g u2 hne, heap_setCell_other _ ⟨x, 1, none⟩ g u1 hne, heap_setCell_other _ ⟨x, 0, none⟩ g u0 hne]
 exact h g hg h1 h2
theorem B3.keep2 {w0 w : World} {ga gb g : Nat} {t : TypeId} {v0 v1 v2 : Value} (hB : B3 w0 g t v0 v1 v2) (h : Keep2 w0 ga gb w) (h1 : g ≠ ga) (h2 : g ≠ gb) : B3 w g t v0 v1 v2 := (h g hB.lt h1 h2).trans hB
structure PairTInv (a0 : Act) (w0 : World) (B x0 x1 x2 x3 ga gb : Nat) (va0 va1 va2 vb0 vb1 vb2 : Value) (p q : Rat) (l : Array Bool) (a : Act) (w : World) : Prop where
 frame : ∀ k, k ≠ x0 → k ≠ x1 → k ≠ x2 → k ≠ x3 → a.tmps[k]? = a0.tmps[k]?
 size : a.tmps.size = a0.tmps.size
 defers : a.defers = a0.defers
 below : Below B w0 w
 boxA : ¬ l.getD 4 false = true → B3 w ga 25 va0 va1 va2
 boxB : ¬ l.getD 5 false = true → B3 w gb 25 vb0 vb1 vb2
 s0 : l.getD 0 false = true → a.tmps[x0]? = some (.agg #[va0, va1, va2])
 s1 : l.getD 1 false = true → ∃ v, a.tmps[x1]? = some v ∧ IsQ w p v
 s2 : l.getD 2 false = true → a.tmps[x2]? = some (.agg #[vb0, vb1, vb2])
 s3 : l.getD 3 false = true → ∃ v, a.tmps[x3]? = some v ∧ IsQ w q v
 shpA : Shp w ga
 shpB : Shp w gb
 s4 : l.getD 4 false = true → l.getD 0 false = true ∧ l.getD 1 false = true ∧ ∀ v, a.tmps[x1]? = some v → Hld w ga v
 s5 : l.getD 5 false = true → (∀ j, j < 4 → l.getD j false = true) ∧ ∀ v, a.tmps[x3]? = some v → Hld w gb v
 sz : l.size = 6
 oth : Keep2 w0 ga gb w
theorem PairTInv.world {a0 : Act} {w0 : World} {B x0 x1 x2 x3 ga gb : Nat} {va0 va1 va2 vb0 vb1 vb2 : Value} {p q : Rat} {l : Array Bool} {a : Act} {w w' : World} (h : PairTInv a0 w0 B x0 x1 x2 x3 ga gb va0 va1 va2 vb0 vb1 vb2 p q l a w) (hb : Below w.heap.size w w') (hBw : B ≤ w0.heap.size) : PairTInv a0 w0 B x0 x1 x2 x3 ga gb va0 va1 va2 vb0 vb1 vb2 p q l a w' :=
 ⟨h.frame, h.size, h.defers, h.below.trans (hb.mono (Nat.le_trans hBw h.below.size)), fun e => (h.boxA e).below hb, fun e => (h.boxB e).below hb, h.s0, fun e => (h.s1 e).imp fun _ hv => ⟨hv.1, hv.2.below hb⟩, h.s2, fun e => (h.s3 e).imp fun _v hv => ⟨hv.1, hv.2.below hb⟩,
  h.shpA.below hb, h.shpB.below hb, fun e => ⟨(h.s4 e).1, (h.s4 e).2.1, fun v hv => ((h.s4 e).2.2 v hv).below hb⟩, fun e => ⟨(h.s5 e).1, fun v hv => ((h.s5 e).2 v hv).below hb⟩, h.sz, fun g hg h1 h2 => (hb.block g (Nat.lt_of_lt_of_le hg h.below.size)).trans (h.oth g hg h1 h2)⟩
theorem pairT_region {id : Nat} {ops : Array Oper} {Q : Exit → Act → World → Prop} {a0 : Act} {w0 : World} (f f' ta tb x0 x1 x2 x3 B ga gb : Nat) (ba bb : Bool) (Aa Aa' Ab Ab' : Option Addr) (na ca na' ca' nb cb nb' cb' : Nat) (p q : Rat) {ty0 ty1 ty2 ty3 ty4 ty5 : TypeId} {ps0 ps1 ps2 ps3 ps4 ps5 : String} {af0 af1 af2 af3 af4 af5 : Array Edge}
  (hops : ops = #[⟨some x0, .load 25 (.tmp ta), ty0, ps0, af0, none⟩, ⟨some x1, .call { callee := .value (.func f), args := #[.tmp x0], argTypes := #[25] }, ty1, ps1, af1, none⟩, ⟨some x2, .load 25 (.tmp tb), ty2, ps2, af2, none⟩, ⟨some x3, .call { callee := .value (.func f'), args := #[.tmp x2], argTypes := #[25] }, ty3, ps3, af3, none⟩, ⟨none, .store 25 (.tmp ta) (.tmp x1), ty4, ps4, af4, none⟩, ⟨none, .store 25 (.tmp tb) (.tmp x3), ty5, ps5, af5, none⟩])
  (hnd : [x0, x1, x2, x3, ta, tb].Nodup) (hlt : [x0, x1, x2, x3].all (fun k => decide (k < a0.tmps.size)) = true)
  (d1 : af1.any (fun e => Region.binds .any e && e.on == 0) = true) (d3 : af3.any (fun e => Region.binds .any e && e.on == 2) = true)
  (d4 : [0, 1].all (fun j => af4.any (fun e => Region.binds .any e && e.on == j)) = true) (d5 : [0, 1, 2, 3].all (fun j => af5.any (fun e => Region.binds .any e && e.on == j)) = true)
  (hord : (List.range 6).all (fun i => match ops[i]? with | some o => o.after.all (fun e => !Region.binds .any e || decide (e.on < i)) | none => true) = true)
  (ha : a0.tmps[ta]? = some (.pointer (some ⟨ga, 0, none⟩))) (hb : a0.tmps[tb]? = some (.pointer (some ⟨gb, 0, none⟩))) (hgab : ga ≠ gb) (hBw : B ≤ w0.heap.size) (hgA : B ≤ ga) (hgB : B ≤ gb)
  (hA : B3 w0 ga 25 (.bool ba) (.slice Aa na ca) (.slice Aa' na' ca')) (hB : B3 w0 gb 25 (.bool bb) (.slice Ab nb cb) (.slice Ab' nb' cb'))
  (hc : ∀ args W, (callFunc f args).run Try.prog W = .ok (.enter f args) W) (hc' : ∀ args W, (callFunc f' args).run Try.prog W = .ok (.enter f' args) W)
  (hf : ∀ W, Below B w0 W → Calls Try.prog f #[.agg #[.bool ba, .slice Aa na ca, .slice Aa' na' ca']] W (RatRet W p))
  (hf' : ∀ W, Below B w0 W → Calls Try.prog f' #[.agg #[.bool bb, .slice Ab nb cb, .slice Ab' nb' cb']] W (RatRet W q))
  (hQ : ∀ v1 v3 w', IsQ w' p v1 → IsQ w' q v3 → Hld w' ga v1 → Hld w' gb v3 → Below B w0 w' → Keep2 w0 ga gb w' →
   Q .normal ((((a0.put (some x0) (.agg #[.bool ba, .slice Aa na ca, .slice Aa' na' ca'])).put (some x1) v1).put (some x2) (.agg #[.bool bb, .slice Ab nb cb, .slice Ab' nb' cb'])).put (some x3) v3) w') :
  (Code.region id ops true).wp Try.prog Q a0 w0 := by
 have hsize : ops.size = 6 := by rw [hops]; rfl
 have e0 : ops[0]? = some (⟨some x0, .load 25 (.tmp ta), ty0, ps0, af0, none⟩ : Oper) := by rw [hops]; rfl
 have e1 : ops[1]? = some (⟨some x1, .call { callee := .value (.func f), args := #[.tmp x0], argTypes := #[25] }, ty1, ps1, af1, none⟩ : Oper) := by rw [hops]; rfl
 have e2 : ops[2]? = some (⟨some x2, .load 25 (.tmp tb), ty2, ps2, af2, none⟩ : Oper) := by rw [hops]; rfl
 have e3 : ops[3]? = some (⟨some x3, .call { callee := .value (.func f'), args := #[.tmp x2], argTypes := #[25] }, ty3, ps3, af3, none⟩ : Oper) := by rw [hops]; rfl
 have e4 : ops[4]? = some (⟨none, .store 25 (.tmp ta) (.tmp x1), ty4, ps4, af4, none⟩ : Oper) := by rw [hops]; rfl
 have e5 : ops[5]? = some (⟨none, .store 25 (.tmp tb) (.tmp x3), ty5, ps5, af5, none⟩ : Oper) := by rw [hops]; rfl
 clear hops
 simp only [List.nodup_cons, List.mem_cons, List.not_mem_nil, or_false, not_or] at hnd
 simp only [List.all_cons, List.all_nil, Bool.and_true, Bool.and_eq_true, decide_eq_true_eq] at hlt
 obtain ⟨⟨n01, n02, n03, n04, n05⟩, ⟨n12, n13, n14, n15⟩, ⟨n23, n24, n25⟩, ⟨n34, n35⟩, _⟩ := hnd
 obtain ⟨z0, z1, z2, z3⟩ := hlt
 obtain ⟨va0, hva0⟩ : ∃ v, v = Value.bool ba := ⟨_, rfl⟩
 obtain ⟨va1, hva1⟩ : ∃ v, v = Value.slice Aa na ca := ⟨_, rfl⟩
 obtain ⟨va2, hva2⟩ : ∃ v, v = Value.slice Aa' na' ca' := ⟨_, rfl⟩
 obtain ⟨vb0, hvb0⟩ : ∃ v, v = Value.bool bb := ⟨_, rfl⟩
 obtain ⟨vb1, hvb1⟩ : ∃ v, v = Value.slice Ab nb cb := ⟨_, rfl⟩
 obtain ⟨vb2, hvb2⟩ : ∃ v, v = Value.slice Ab' nb' cb' := ⟨_, rfl⟩
 have hSA : Shp w0 ga := ⟨_, _, _, _, _, _, _, hA⟩
 have hSB : Shp w0 gb := ⟨_, _, _, _, _, _, _, hB⟩
 rw [← hva0, ← hva1, ← hva2] at hA
 rw [← hvb0, ← hvb1, ← hvb2] at hB
 rw [← hva0, ← hva1, ← hva2] at hf
 rw [← hvb0, ← hvb1, ← hvb2] at hf'
 rw [← hva0, ← hva1, ← hva2, ← hvb0, ← hvb1, ← hvb2] at hQ
 clear hva0 hva1 hva2 hvb0 hvb1 hvb2
 refine wp_region_any (by kernel_rfl) ?_
 rw [hsize]
 refine wpAny_inv (PairTInv a0 w0 B x0 x1 x2 x3 ga gb va0 va1 va2 vb0 vb1 vb2 p q) ?_ ?_ _ _ _ _ (by simp) ?_
 ·intro l a w hr hI
  have hall : ∀ i, i < 6 → l.getD i false = true := by
   intro i
   induction i using Nat.strongRecOn with
   | ind i ih =>
    intro hi
    refine Classical.byContradiction fun hn => ?_
    have hsz := hI.sz
    have h1 : l.getD i true = false := by
     rw [Array.getD_eq_getD_getElem?] at hn ⊢
     rw [Array.getElem?_eq_getElem (by omega)] at hn ⊢
     simpa using hn
    rw [List.all_eq_true] at hord
    have h2 := hord i (List.mem_range.2 hi)
    have hm : i ∈ Region.ready .any ops l := by
     rw [mem_ready]
     refine ⟨h1, _, Array.getElem?_eq_getElem (by rw [hsize]; exact hi), fun e he hbd => ?_⟩
     rw [Array.getElem?_eq_getElem (by rw [hsize]; exact hi)] at h2
     have h3 := (Array.all_eq_true_iff_forall_mem.1 h2) e he
     rw [hbd] at h3
     have h4 : e.on < i := by simpa using h3
     exact ih e.on h4 (by omega)
    rw [hr] at hm
    cases hm
  have b0 := hI.s0 (hall 0 (by omega))
  obtain ⟨v1, b1, q1⟩ := hI.s1 (hall 1 (by omega))
  have b2 := hI.s2 (hall 2 (by omega))
  obtain ⟨v3, b3, q3⟩ := hI.s3 (hall 3 (by omega))
  have h6 := (hI.s4 (hall 4 (by omega))).2.2 v1 b1
  have h7 := (hI.s5 (hall 5 (by omega))).2 v3 b3
  have key := hQ v1 v3 w q1 q3 h6 h7 hI.below hI.oth
  have ea : a = (((a0.put (some x0) (.agg #[va0, va1, va2])).put (some x1) v1).put (some x2) (.agg #[vb0, vb1, vb2])).put (some x3) v3 := by
   have e1 : a.tmps = ((((a0.put (some x0) (.agg #[va0, va1, va2])).put (some x1) v1).put (some x2) (.agg #[vb0, vb1, vb2])).put (some x3) v3).tmps := by
    apply Array.ext_getElem?
    intro k
    by_cases k3 : x3 = k
    ·subst k3; rw [b3, put_eq _ _ (by simp only [put_size]; exact z3)]
    rw [put_ne _ _ k3]
    by_cases k2 : x2 = k
    ·subst k2; rw [b2, put_eq _ _ (by simp only [put_size]; exact z2)]
    rw [put_ne _ _ k2]
    by_cases k1 : x1 = k
    ·subst k1; rw [b1, put_eq _ _ (by simp only [put_size]; exact z1)]
    rw [put_ne _ _ k1]
    by_cases k0 : x0 = k
    ·subst k0; rw [b0, put_eq _ _ z0]
    rw [put_ne _ _ k0]
    exact hI.frame k (Ne.symm k0) (Ne.symm k1) (Ne.symm k2) (Ne.symm k3)
   have e2 := hI.defers
   cases a
   simp only at e1 e2
   rw [e1, e2]
   rfl
  rw [ea]
  exact key
 ·intro l a w i hi hI K hK
  obtain ⟨hun, o, ho, hall⟩ := mem_ready.1 hi
  have hi6 : i < 6 := by have := (Array.getElem?_eq_some_iff.1 ho).1; rwa [hsize] at this
  have hcase : i = 0 ∨ i = 1 ∨ i = 2 ∨ i = 3 ∨ i = 4 ∨ i = 5 := by omega
  rcases hcase with rfl | rfl | rfl | rfl | rfl | rfl
  ·have m4 : ¬ l.getD 4 false = true := fun h => absurd ((hI.s4 h).1) (not_listed hun)
   have m5 : ¬ l.getD 5 false = true := fun h => absurd ((hI.s5 h).1 0 (by omega)) (not_listed hun)
   have hJ := hI
   have t1 : a.tmps.getD ta undef = .pointer (some ⟨ga, 0, none⟩) := getD_of ((hI.frame ta (Ne.symm n04) (Ne.symm n14) (Ne.symm n24) (Ne.symm n34)).trans ha)
   obtain ⟨k0, k1, k2, _, _, _⟩ := (hJ.boxA m4).cells
   refine wpOp_plain e0 rfl (fun K' hK' => ?_)
   go_simp
   exact hK' _ _ (hK (a.put (some x0) (.agg #[va0, va1, va2])) w ⟨(fun k h0 h1 h2 h3 => (put_ne a _ (Ne.symm h0)).trans (hJ.frame k h0 h1 h2 h3)), (put_size _ _ _).trans hJ.size, hJ.defers, hJ.below, (fun h => hJ.boxA (fun h4 => h (getD_set_true h4))), (fun h => hJ.boxB (fun h5 => h (getD_set_true h5))), (fun _ => put_eq _ _ (by rw [hI.size]; exact z0)), (fun e => by
    rcases bit_set e with h | h
    ·omega
    ·rw [put_ne _ _ n01]; exact hJ.s1 h), (fun e => by
    rcases bit_set e with h | h
    ·omega
    ·rw [put_ne _ _ n02]; exact hJ.s2 h), (fun e => by
    rcases bit_set e with h | h
    ·omega
    ·rw [put_ne _ _ n03]; exact hJ.s3 h), hJ.shpA, hJ.shpB, (fun e => by
    rcases bit_set e with h | h
    ·omega
    ·exact absurd h m4), (fun e => by
    rcases bit_set e with h | h
    ·omega
    ·exact absurd h m5), (by rw [Array.size_setIfInBounds]; exact hJ.sz), hJ.oth⟩)
  ·obtain rfl := Option.some.inj (ho.symm.trans e1)
   have m4 : ¬ l.getD 4 false = true := fun h => absurd ((hI.s4 h).2.1) (not_listed hun)
   have m5 : ¬ l.getD 5 false = true := fun h => absurd ((hI.s5 h).1 1 (by omega)) (not_listed hun)
   have t1 : a.tmps.getD x0 undef = .agg #[va0, va1, va2] := getD_of (hI.s0 (dep_of d1 hall))
   have hb0 := hI.below
   refine wpOp_plain e1 rfl (fun K' hK' => ?_)
   go_simp
   refine (hf _ hb0).mono ?_
   rintro e w1 ⟨A1, c1, A2, c2, rfl, hr1, hr2, hb1⟩
   have hJ := hI.world hb1 hBw
   exact hK' _ _ (hK (a.put (some x1) (.agg #[.bool (rneg p), .slice A1 (limbs (rnum p)).length c1, .slice A2 (limbs p.den).length c2])) w1 ⟨(fun k h0 h1 h2 h3 => (put_ne a _ (Ne.symm h1)).trans (hJ.frame k h0 h1 h2 h3)), (put_size _ _ _).trans hJ.size, hJ.defers, hJ.below, (fun h => hJ.boxA (fun h4 => h (getD_set_true h4))), (fun h => hJ.boxB (fun h5 => h (getD_set_true h5))), (fun e => by
    rcases bit_set e with h | h
    ·omega
    ·rw [put_ne _ _ (Ne.symm n01)]; exact hJ.s0 h), (fun _ => ⟨_, put_eq _ _ (by rw [hI.size]; exact z1), A1, c1, A2, c2, rfl, hr1, hr2⟩), (fun e => by
    rcases bit_set e with h | h
    ·omega
    ·rw [put_ne _ _ n12]; exact hJ.s2 h), (fun e => by
    rcases bit_set e with h | h
    ·omega
    ·rw [put_ne _ _ n13]; exact hJ.s3 h), hJ.shpA, hJ.shpB, (fun e => by
    rcases bit_set e with h | h
    ·omega
    ·exact absurd h m4), (fun e => by
    rcases bit_set e with h | h
    ·omega
    ·exact absurd h m5), (by rw [Array.size_setIfInBounds]; exact hJ.sz), hJ.oth⟩)
  ·have m4 : True := trivial
   have m5 : ¬ l.getD 5 false = true := fun h => absurd ((hI.s5 h).1 2 (by omega)) (not_listed hun)
   have hJ := hI
   have t1 : a.tmps.getD tb undef = .pointer (some ⟨gb, 0, none⟩) := getD_of ((hI.frame tb (Ne.symm n05) (Ne.symm n15) (Ne.symm n25) (Ne.symm n35)).trans hb)
   obtain ⟨k0, k1, k2, _, _, _⟩ := (hJ.boxB m5).cells
   refine wpOp_plain e2 rfl (fun K' hK' => ?_)
   go_simp
   exact hK' _ _ (hK (a.put (some x2) (.agg #[vb0, vb1, vb2])) w ⟨(fun k h0 h1 h2 h3 => (put_ne a _ (Ne.symm h2)).trans (hJ.frame k h0 h1 h2 h3)), (put_size _ _ _).trans hJ.size, hJ.defers, hJ.below, (fun h => hJ.boxA (fun h4 => h (getD_set_true h4))), (fun h => hJ.boxB (fun h5 => h (getD_set_true h5))), (fun e => by
    rcases bit_set e with h | h
    ·omega
    ·rw [put_ne _ _ (Ne.symm n02)]; exact hJ.s0 h), (fun e => by
    rcases bit_set e with h | h
    ·omega
    ·rw [put_ne _ _ (Ne.symm n12)]; exact hJ.s1 h), (fun _ => put_eq _ _ (by rw [hI.size]; exact z2)), (fun e => by
    rcases bit_set e with h | h
    ·omega
    ·rw [put_ne _ _ n23]; exact hJ.s3 h), hJ.shpA, hJ.shpB, (fun e => by
    rcases bit_set e with h | h
    ·omega
    ·obtain ⟨l0, l1, hh⟩ := hJ.s4 h
     rw [put_ne _ _ (Ne.symm n12)]; exact ⟨getD_set_true l0, getD_set_true l1, hh⟩), (fun e => by
    rcases bit_set e with h | h
    ·omega
    ·exact absurd h m5), (by rw [Array.size_setIfInBounds]; exact hJ.sz), hJ.oth⟩)
  ·obtain rfl := Option.some.inj (ho.symm.trans e3)
   have m4 : True := trivial
   have m5 : ¬ l.getD 5 false = true := fun h => absurd ((hI.s5 h).1 3 (by omega)) (not_listed hun)
   have t1 : a.tmps.getD x2 undef = .agg #[vb0, vb1, vb2] := getD_of (hI.s2 (dep_of d3 hall))
   have hb0 := hI.below
   refine wpOp_plain e3 rfl (fun K' hK' => ?_)
   go_simp
   refine (hf' _ hb0).mono ?_
   rintro e w1 ⟨A1, c1, A2, c2, rfl, hr1, hr2, hb1⟩
   have hJ := hI.world hb1 hBw
   exact hK' _ _ (hK (a.put (some x3) (.agg #[.bool (rneg q), .slice A1 (limbs (rnum q)).length c1, .slice A2 (limbs q.den).length c2])) w1 ⟨(fun k h0 h1 h2 h3 => (put_ne a _ (Ne.symm h3)).trans (hJ.frame k h0 h1 h2 h3)), (put_size _ _ _).trans hJ.size, hJ.defers, hJ.below, (fun h => hJ.boxA (fun h4 => h (getD_set_true h4))), (fun h => hJ.boxB (fun h5 => h (getD_set_true h5))), (fun e => by
    rcases bit_set e with h | h
    ·omega
    ·rw [put_ne _ _ (Ne.symm n03)]; exact hJ.s0 h), (fun e => by
    rcases bit_set e with h | h
    ·omega
    ·rw [put_ne _ _ (Ne.symm n13)]; exact hJ.s1 h), (fun e => by
    rcases bit_set e with h | h
    ·omega
    ·rw [put_ne _ _ (Ne.symm n23)]; exact hJ.s2 h), (fun _ => ⟨_, put_eq _ _ (by rw [hI.size]; exact z3), A1, c1, A2, c2, rfl, hr1, hr2⟩), hJ.shpA, hJ.shpB, (fun e => by
    rcases bit_set e with h | h
    ·omega
    ·obtain ⟨l0, l1, hh⟩ := hJ.s4 h
     rw [put_ne _ _ (Ne.symm n13)]; exact ⟨getD_set_true l0, getD_set_true l1, hh⟩), (fun e => by
    rcases bit_set e with h | h
    ·omega
    ·exact absurd h m5), (by rw [Array.size_setIfInBounds]; exact hJ.sz), hJ.oth⟩)
  ·obtain rfl := Option.some.inj (ho.symm.trans e4)
   have hl : ∀ j, j < 2 → l.getD j false = true := fun j hj => by
    have : j = 0 ∨ j = 1 := by omega
    rcases this with rfl | rfl
    ·exact dep_of (List.all_eq_true.1 d4 0 (by decide)) hall
    ·exact dep_of (List.all_eq_true.1 d4 1 (by decide)) hall
   have t1 : a.tmps.getD ta undef = .pointer (some ⟨ga, 0, none⟩) := getD_of ((hI.frame ta (Ne.symm n04) (Ne.symm n14) (Ne.symm n24) (Ne.symm n34)).trans ha)
   obtain ⟨v, hv, hq⟩ := hI.s1 (hl 1 (by omega))
   have hq' := hq
   obtain ⟨A1, c1, A2, c2, rfl, hr1, hr2⟩ := hq'
   have t2 : a.tmps.getD x1 undef = .agg #[.bool (rneg p), .slice A1 (limbs (rnum p)).length c1, .slice A2 (limbs p.den).length c2] := getD_of hv
   have hsh := hI.shpA
   obtain ⟨b0, A0, n0, c0, A3, n3, c3, hB3⟩ := hsh
   obtain ⟨k0, k1, k2, f0, f1, f2⟩ := hB3.cells
   refine wpOp_plain e4 rfl (fun K' hK' => ?_)
   go_simp
   exact hK' _ _ (hK a _ ⟨hI.frame, hI.size, hI.defers, B3.belowSet hI.below hgA _ _ _, (fun h => absurd (getD_set_self4 hI.sz) h), (fun h => (hI.boxB (fun h5 => h (getD_set_true h5))).other3 (Ne.symm hgab) _ _ _), (fun e => hI.s0 (get_of_set (by omega) e)), (fun e => (hI.s1 (get_of_set (by omega) e)).imp fun _ hx => ⟨hx.1, hx.2.set hI.shpA _ _ _⟩), (fun e => hI.s2 (get_of_set (by omega) e)), (fun e => (hI.s3 (get_of_set (by omega) e)).imp fun _ hx => ⟨hx.1, hx.2.set hI.shpA _ _ _⟩), ⟨_, _, _, _, _, _, _, hB3.set _ _ _⟩, hI.shpB.set hB3 _ _ _ _ _ _ _, (fun _ => ⟨getD_set_true (hl 0 (by omega)), getD_set_true (hl 1 (by omega)), fun v2 h2 => by
     obtain rfl := Option.some.inj (hv.symm.trans h2)
     exact ⟨_, _, _, rfl, hB3.set _ _ _⟩⟩), (fun e => by
    rcases bit_set e with h | h
    ·omega
    ·obtain ⟨h1, h2⟩ := hI.s5 h
     refine ⟨fun j hj => getD_set_true (h1 j hj), fun v2 h3 => ?_⟩
     obtain ⟨w0', w1', w2', e', hH⟩ := h2 v2 h3
     exact ⟨w0', w1', w2', e', hH.other3 (Ne.symm hgab) _ _ _⟩), (by rw [Array.size_setIfInBounds]; exact hI.sz), hI.oth.set3 (.inl rfl) _ _ _⟩)
  ·obtain rfl := Option.some.inj (ho.symm.trans e5)
   have hl : ∀ j, j < 4 → l.getD j false = true := fun j hj => by
    have : j = 0 ∨ j = 1 ∨ j = 2 ∨ j = 3 := by omega
    rcases this with rfl | rfl | rfl | rfl
    ·exact dep_of (List.all_eq_true.1 d5 0 (by decide)) hall
    ·exact dep_of (List.all_eq_true.1 d5 1 (by decide)) hall
    ·exact dep_of (List.all_eq_true.1 d5 2 (by decide)) hall
    ·exact dep_of (List.all_eq_true.1 d5 3 (by decide)) hall
   have t1 : a.tmps.getD tb undef = .pointer (some ⟨gb, 0, none⟩) := getD_of ((hI.frame tb (Ne.symm n05) (Ne.symm n15) (Ne.symm n25) (Ne.symm n35)).trans hb)
   obtain ⟨v, hv, hq⟩ := hI.s3 (hl 3 (by omega))
   have hq' := hq
   obtain ⟨A1, c1, A2, c2, rfl, hr1, hr2⟩ := hq'
   have t2 : a.tmps.getD x3 undef = .agg #[.bool (rneg q), .slice A1 (limbs (rnum q)).length c1, .slice A2 (limbs q.den).length c2] := getD_of hv
   have hsh := hI.shpB
   obtain ⟨b0, A0, n0, c0, A3, n3, c3, hB3⟩ := hsh
   obtain ⟨k0, k1, k2, f0, f1, f2⟩ := hB3.cells
   refine wpOp_plain e5 rfl (fun K' hK' => ?_)
   go_simp
   exact hK' _ _ (hK a _ ⟨hI.frame, hI.size, hI.defers, B3.belowSet hI.below hgB _ _ _, (fun h => (hI.boxA (fun h4 => h (getD_set_true h4))).other3 hgab _ _ _), (fun h => absurd (getD_set_self5 hI.sz) h), (fun e => hI.s0 (get_of_set (by omega) e)), (fun e => (hI.s1 (get_of_set (by omega) e)).imp fun _ hx => ⟨hx.1, hx.2.set hI.shpB _ _ _⟩), (fun e => hI.s2 (get_of_set (by omega) e)), (fun e => (hI.s3 (get_of_set (by omega) e)).imp fun _ hx => ⟨hx.1, hx.2.set hI.shpB _ _ _⟩), hI.shpA.set hB3 _ _ _ _ _ _ _, ⟨_, _, _, _, _, _, _, hB3.set _ _ _⟩, (fun e => by
    rcases bit_set e with h | h
    ·omega
    ·obtain ⟨l0, l1, h2⟩ := hI.s4 h
     refine ⟨getD_set_true l0, getD_set_true l1, fun v2 h3 => ?_⟩
     obtain ⟨w0', w1', w2', e', hH⟩ := h2 v2 h3
     exact ⟨w0', w1', w2', e', hH.other3 hgab _ _ _⟩), (fun _ => ⟨fun j hj => getD_set_true (hl j hj), fun v2 h2 => by
     obtain rfl := Option.some.inj (hv.symm.trans h2)
     exact ⟨_, _, _, rfl, hB3.set _ _ _⟩⟩), (by rw [Array.size_setIfInBounds]; exact hI.sz), hI.oth.set3 (.inr rfl) _ _ _⟩)
 ·exact ⟨fun _ _ _ _ _ => rfl, rfl, rfl, ⟨rfl, rfl, rfl, Nat.le_refl _, fun _ _ => rfl⟩, fun _ => hA, fun _ => hB, fun h => by simp at h, fun h => by simp at h, fun h => by simp at h, fun h => by simp at h, hSA, hSB, fun h => by simp at h, fun h => by simp at h, by simp, fun _ _ _ _ => rfl⟩
end Go.Proofs.Ytahdlpkncemmaaa
namespace Pg
open Go Go.RowKit
end Pg
namespace Go.Proofs.Ytahdlpkncemmaaa
open Go.RowKit Pg
end Go.Proofs.Ytahdlpkncemmaaa
namespace Go.Proofs.Ytahdlpkncemmaaa
open Go.RowKit Pg
end Go.Proofs.Ytahdlpkncemmaaa
namespace Go.Proofs.Ytahdlpkncemmaaa
open Go.RowKit Pg
end Go.Proofs.Ytahdlpkncemmaaa
