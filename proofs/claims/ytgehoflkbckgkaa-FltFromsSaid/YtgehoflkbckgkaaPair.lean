/- A region 'x, y := f(a), f'(b)' (a, b rationals in boxes, f and f' hand back rationals) in whatever order Go carries it out: by one invariant. Conditions: none. -/
import Derived.Test.YtgehoflkbckgkaaRb
import Derived.RegionTactic
namespace Pg
open Go Go.RowKit
theorem count_set_true : ∀ (xs : List Bool) (i : Nat), xs[i]? = some false → (xs.set i true).count false + 1 = xs.count false
  | [], i, h => by simp at h
  | b :: xs, 0, h => by simp at h; subst h; simp
  | b :: xs, i + 1, h => by
    have := count_set_true xs i (by simpa using h)
    simp only [List.set_cons_succ, List.count_cons]; omega
theorem getD_false {l : Array Bool} {i : Nat} (h : l.getD i true = false) : l.toList[i]? = some false := by
  rw [Array.getD_eq_getD_getElem?] at h
  rw [Array.getElem?_toList]
  cases hh : l[i]? with
  | none => rw [hh] at h; cases h
  | some b => rw [hh] at h; simp at h; subst h; rfl
/-- A region by an invariant: each operation that may come next keeps it. -/
theorem wpAny_inv {P : Program} {ops : Array Oper} {Q : Exit → Act → World → Prop} {md : Region.Mode} (Inv : Array Bool → Act → World → Prop)
    (hfin : ∀ l a w, Region.ready md ops l = [] → Inv l a w → Q .normal a w)
    (hstep : ∀ l a w i, i ∈ Region.ready md ops l → Inv l a w → ∀ K : Act → World → Prop, (∀ a' w', Inv (l.setIfInBounds i true) a' w' → K a' w') → wpOp P ops Q i K a w) :
    ∀ (fuel : Nat) (l : Array Bool) (a : Act) (w : World), l.toList.count false ≤ fuel → Inv l a w → wpAny P md ops Q fuel l a w := by
  intro fuel
  induction fuel with
  | zero =>
    intro l a w h hI
    have hr : Region.ready md ops l = [] := by
      cases hr : Region.ready md ops l with
      | nil => rfl
      | cons i rs =>
        have h1 := getD_false (mem_ready.1 (show i ∈ Region.ready md ops l by rw [hr]; exact List.mem_cons_self)).1
        have h2 : 0 < l.toList.count false := List.count_pos_iff.2 (List.mem_of_getElem? h1)
        omega
    exact ⟨hr, hfin l a w hr hI⟩
  | succ fuel ih =>
    intro l a w h hI
    refine ⟨fun hr => hfin l a w hr hI, fun i hi => hstep l a w i hi hI _ (fun a' w' h' => ih _ a' w' ?_ h')⟩
    have h1 := count_set_true l.toList i (getD_false (mem_ready.1 hi).1)
    rw [Array.toList_setIfInBounds]
    omega
theorem wpOp_plain {P : Program} {ops : Array Oper} {Q : Exit → Act → World → Prop} {i : Nat} {o : Oper} {K : Act → World → Prop} {a : Act} {w : World} (ho : ops[i]? = some o) (hg : o.guard = none)
    (h : ∀ K' : Act → World → Prop, (∀ a w, K a w → K' a w) → Oper.wp P o a w K' Q) : wpOp P ops Q i K a w :=
  wpOp_step ho fun K' hK' => by
    have : Region.wanted o (yielded ops a.tmps) = true := by unfold Region.wanted; rw [hg]
    rw [if_pos this]; exact h K' hK'
theorem put_get (a : Act) (d : Nat) (v : Value) (k : Nat) : (a.put (some d) v).tmps[k]? = if d = k then (if d < a.tmps.size then some v else none) else a.tmps[k]? := by
  show (a.tmps.setIfInBounds d v)[k]? = _
  rw [Array.getElem?_setIfInBounds]
theorem put_ne (a : Act) {d k : Nat} (v : Value) (h : d ≠ k) : (a.put (some d) v).tmps[k]? = a.tmps[k]? := by rw [put_get, if_neg h]
theorem put_eq (a : Act) {d : Nat} (v : Value) (h : d < a.tmps.size) : (a.put (some d) v).tmps[d]? = some v := by rw [put_get, if_pos rfl, if_pos h]
theorem put_size (a : Act) (d : Nat) (v : Value) : (a.put (some d) v).tmps.size = a.tmps.size := by show (a.tmps.setIfInBounds d v).size = _; simp
theorem getD_of {a : Act} {k : Nat} {v : Value} (h : a.tmps[k]? = some v) : a.tmps.getD k undef = v := by rw [Array.getD_eq_getD_getElem?, h]; rfl
theorem bit_set {l : Array Bool} {i j : Nat} (hj : (l.setIfInBounds i true).getD j false = true) : j = i ∨ l.getD j false = true := by
  by_cases h : i = j
  · exact .inl h.symm
  · right; rw [getD_set_ne false h] at hj; exact hj
theorem dep_of {af : Array Edge} {j : Nat} {l : Array Bool} (h : af.any (fun e => Region.binds .any e && e.on == j) = true) (hall : ∀ e ∈ af, Region.binds .any e = true → l.getD e.on false = true) : l.getD j false = true := by
  obtain ⟨e, he, hb⟩ := Array.any_eq_true'.1 h
  simp only [Bool.and_eq_true, beq_iff_eq] at hb
  rw [← hb.2]; exact hall e he hb.1
end Pg
namespace Go.Proofs.Ytgehoflkbckgkaa
open Go.RowKit Pg

/-- A rational's value and its rows. -/
def IsQ (w : World) (q : Rat) (v : Value) : Prop := ∃ A c A' c', v = .agg #[.bool (rneg q), .slice A (limbs (rnum q)).length c, .slice A' (limbs q.den).length c'] ∧ Row w A (limbs (rnum q)).length c (limbs (rnum q)) ∧ Row w A' (limbs q.den).length c' (limbs q.den)
theorem IsQ.below {w w' : World} {q : Rat} {v : Value} (h : IsQ w q v) (hb : Below w.heap.size w w') : IsQ w' q v := by
  obtain ⟨A, c, A', c', e, h1, h2⟩ := h
  exact ⟨A, c, A', c', e, h1.below hb, h2.below hb⟩
/-- A box of a rational's shape. -/
def Shp (w : World) (g : Nat) : Prop := ∃ b A n c A' n' c', B3 w g 28 (.bool b) (.slice A n c) (.slice A' n' c')
theorem Shp.below {w w' : World} {g : Nat} (h : Shp w g) (hb : Below w.heap.size w w') : Shp w' g := by
  obtain ⟨b, A, n, c, A', n', c', h⟩ := h
  exact ⟨b, A, n, c, A', n', c', h.below hb⟩
theorem Shp.lt {w : World} {g : Nat} (h : Shp w g) : g < w.heap.size := by obtain ⟨_, _, _, _, _, _, _, h⟩ := h; exact h.lt
theorem not_listed {l : Array Bool} {i : Nat} (h : l.getD i true = false) : ¬ l.getD i false = true := by
  rw [Array.getD_eq_getD_getElem?] at h ⊢
  cases hh : l[i]? with
  | none => rw [hh] at h; cases h
  | some b => rw [hh] at h; simp at h; subst h; simp
theorem Shp.set {w : World} {g h : Nat} (hs : Shp w g) {b : Bool} {A : Option Addr} {n c : Nat} {A' : Option Addr} {n' c' : Nat} (hB : B3 w h 28 (.bool b) (.slice A n c) (.slice A' n' c')) (b1 : Bool) (A1 : Option Addr) (n1 c1 : Nat) (A2 : Option Addr) (n2 c2 : Nat) :
    Shp (((w.setCell ⟨h, 0, none⟩ (.bool b1)).setCell ⟨h, 1, none⟩ (.slice A1 n1 c1)).setCell ⟨h, 2, none⟩ (.slice A2 n2 c2)) g := by
  by_cases e : g = h
  · subst e; exact ⟨_, _, _, _, _, _, _, hB.set _ _ _⟩
  · obtain ⟨b0, A0, n0, c0, A3, n3, c3, hg⟩ := hs
    unfold B3 at hg
    refine ⟨b0, A0, n0, c0, A3, n3, c3, ?_⟩
    unfold B3
    rw [heap_setCell_other _ ⟨h, 2, none⟩ g _ e, heap_setCell_other _ ⟨h, 1, none⟩ g _ e, heap_setCell_other _ ⟨h, 0, none⟩ g _ e]
    exact hg
theorem IsQ.set {w : World} {q : Rat} {v : Value} {g : Nat} (h : IsQ w q v) (hs : Shp w g) (u0 u1 u2 : Value) : IsQ (((w.setCell ⟨g, 0, none⟩ u0).setCell ⟨g, 1, none⟩ u1).setCell ⟨g, 2, none⟩ u2) q v := by
  obtain ⟨A, c, A', c', e, h1, h2⟩ := h
  obtain ⟨b, A0, n0, c0, A1, n1, c1, hB⟩ := hs
  exact ⟨A, c, A', c', e, hB.row h1 _ _ _, hB.row h2 _ _ _⟩
theorem B3.other3 {w : World} {g h : Nat} {t : TypeId} {v0 v1 v2 : Value} (hB : B3 w g t v0 v1 v2) (hne : g ≠ h) (u0 u1 u2 : Value) : B3 (((w.setCell ⟨h, 0, none⟩ u0).setCell ⟨h, 1, none⟩ u1).setCell ⟨h, 2, none⟩ u2) g t v0 v1 v2 := by
  unfold B3
  rw [heap_setCell_other _ ⟨h, 2, none⟩ g u2 hne, heap_setCell_other _ ⟨h, 1, none⟩ g u1 hne, heap_setCell_other _ ⟨h, 0, none⟩ g u0 hne]
  exact hB
/-- A box that holds just the rational in a slot. -/
def Hld (w : World) (g : Nat) (v : Value) : Prop := ∃ v0 v1 v2, v = .agg #[v0, v1, v2] ∧ B3 w g 28 v0 v1 v2
theorem Hld.below {w w' : World} {g : Nat} {v : Value} (h : Hld w g v) (hb : Below w.heap.size w w') : Hld w' g v := by
  obtain ⟨v0, v1, v2, e, h⟩ := h
  exact ⟨v0, v1, v2, e, h.below hb⟩

/-- What the region keeps. -/
structure PairInv (a0 : Act) (w0 : World) (x0 x1 x2 x3 p1 p2 : Nat) (va vb : Value) (p q : Rat) (l : Array Bool) (a : Act) (w : World) : Prop where
  frame : ∀ k, k ≠ x0 → k ≠ x1 → k ≠ x2 → k ≠ x3 → k ≠ p1 → k ≠ p2 → a.tmps[k]? = a0.tmps[k]?
  size : a.tmps.size = a0.tmps.size
  defers : a.defers = a0.defers
  below : Below w0.heap.size w0 w
  s0 : l.getD 0 false = true → a.tmps[x0]? = some va
  s1 : l.getD 1 false = true → ∃ v, a.tmps[x1]? = some v ∧ IsQ w p v
  s2 : l.getD 2 false = true → a.tmps[x2]? = some vb
  s3 : l.getD 3 false = true → ∃ v, a.tmps[x3]? = some v ∧ IsQ w q v
  s4 : l.getD 4 false = true → ∃ g, a.tmps[p1]? = some (.pointer (some ⟨g, 0, none⟩)) ∧ w0.heap.size ≤ g ∧ Shp w g
  s5 : l.getD 5 false = true → ∃ g, a.tmps[p2]? = some (.pointer (some ⟨g, 0, none⟩)) ∧ w0.heap.size ≤ g ∧ Shp w g
  s45 : l.getD 4 false = true → l.getD 5 false = true → ∀ g h, a.tmps[p1]? = some (.pointer (some ⟨g, 0, none⟩)) → a.tmps[p2]? = some (.pointer (some ⟨h, 0, none⟩)) → g ≠ h
  s6 : l.getD 6 false = true → l.getD 4 false = true ∧ l.getD 1 false = true ∧ ∀ g v, a.tmps[p1]? = some (.pointer (some ⟨g, 0, none⟩)) → a.tmps[x1]? = some v → Hld w g v
  s7 : l.getD 7 false = true → l.getD 5 false = true ∧ l.getD 3 false = true ∧ ∀ g v, a.tmps[p2]? = some (.pointer (some ⟨g, 0, none⟩)) → a.tmps[x3]? = some v → Hld w g v
  sz : l.size = 8

theorem PairInv.world {a0 : Act} {w0 : World} {x0 x1 x2 x3 p1 p2 : Nat} {va vb : Value} {p q : Rat} {l : Array Bool} {a : Act} {w w' : World} (h : PairInv a0 w0 x0 x1 x2 x3 p1 p2 va vb p q l a w) (hb : Below w.heap.size w w') : PairInv a0 w0 x0 x1 x2 x3 p1 p2 va vb p q l a w' :=
  ⟨h.frame, h.size, h.defers, Below.then_ h.below hb, h.s0, fun e => (h.s1 e).imp fun v hv => ⟨hv.1, hv.2.below hb⟩, h.s2, fun e => (h.s3 e).imp fun v hv => ⟨hv.1, hv.2.below hb⟩,
   fun e => (h.s4 e).imp fun v hv => ⟨hv.1, hv.2.1, hv.2.2.below hb⟩, fun e => (h.s5 e).imp fun v hv => ⟨hv.1, hv.2.1, hv.2.2.below hb⟩, h.s45,
   fun e => ⟨(h.s6 e).1, (h.s6 e).2.1, fun g v h1 h2 => ((h.s6 e).2.2 g v h1 h2).below hb⟩, fun e => ⟨(h.s7 e).1, (h.s7 e).2.1, fun g v h1 h2 => ((h.s7 e).2.2 g v h1 h2).below hb⟩, h.sz⟩

set_option maxHeartbeats 1000000 in
/-- The rule. -/
theorem pair_region {id : Nat} {ops : Array Oper} {Q : Exit → Act → World → Prop} {a0 : Act} {w0 : World} (f f' ta tb x0 x1 x2 x3 p1 p2 : Nat) (ga gb : Nat) (va0 va1 va2 vb0 vb1 vb2 : Value) (p q : Rat) {ty0 ty1 ty2 ty3 ty4 ty5 ty6 ty7 : TypeId} {ps0 ps1 ps2 ps3 ps4 ps5 ps6 ps7 : String} {af0 af1 af2 af3 af4 af5 af6 af7 : Array Edge}
    (hops : ops = #[⟨some x0, .load 28 (.tmp ta), ty0, ps0, af0, none⟩, ⟨some x1, .call { callee := .value (.func f), args := #[.tmp x0], argTypes := #[28] }, ty1, ps1, af1, none⟩, ⟨some x2, .load 28 (.tmp tb), ty2, ps2, af2, none⟩, ⟨some x3, .call { callee := .value (.func f'), args := #[.tmp x2], argTypes := #[28] }, ty3, ps3, af3, none⟩, ⟨some p1, .alloc 28, ty4, ps4, af4, none⟩, ⟨some p2, .alloc 28, ty5, ps5, af5, none⟩, ⟨none, .store 28 (.tmp p1) (.tmp x1), ty6, ps6, af6, none⟩, ⟨none, .store 28 (.tmp p2) (.tmp x3), ty7, ps7, af7, none⟩])
    (hnd : [x0, x1, x2, x3, p1, p2, ta, tb].Nodup) (hlt : [x0, x1, x2, x3, p1, p2].all (fun k => decide (k < a0.tmps.size)) = true)
    (d1 : af1.any (fun e => Region.binds .any e && e.on == 0) = true) (d3 : af3.any (fun e => Region.binds .any e && e.on == 2) = true)
    (d6 : af6.any (fun e => Region.binds .any e && e.on == 4) = true) (d6' : af6.any (fun e => Region.binds .any e && e.on == 1) = true)
    (d7 : af7.any (fun e => Region.binds .any e && e.on == 5) = true) (d7' : af7.any (fun e => Region.binds .any e && e.on == 3) = true)
    (hord : (List.range 8).all (fun i => match ops[i]? with | some o => o.after.all (fun e => decide (e.on < i)) | none => true) = true)
    (ha : a0.tmps[ta]? = some (.pointer (some ⟨ga, 0, none⟩))) (hb : a0.tmps[tb]? = some (.pointer (some ⟨gb, 0, none⟩)))
    (hA : B3 w0 ga 28 va0 va1 va2) (hB : B3 w0 gb 28 vb0 vb1 vb2)
    (hc : ∀ args W, (callFunc f args).run Try.prog W = .ok (.enter f args) W) (hc' : ∀ args W, (callFunc f' args).run Try.prog W = .ok (.enter f' args) W)
    (hf : ∀ W, Below w0.heap.size w0 W → Calls Try.prog f #[.agg #[va0, va1, va2]] W (RatRet W p))
    (hf' : ∀ W, Below w0.heap.size w0 W → Calls Try.prog f' #[.agg #[vb0, vb1, vb2]] W (RatRet W q))
    (hQ : ∀ v1 v3 g1 g2 w', IsQ w' p v1 → IsQ w' q v3 → Hld w' g1 v1 → Hld w' g2 v3 → g1 ≠ g2 → w0.heap.size ≤ g1 → w0.heap.size ≤ g2 → Below w0.heap.size w0 w' →
      Q .normal ((((((a0.put (some x0) (.agg #[va0, va1, va2])).put (some x1) v1).put (some x2) (.agg #[vb0, vb1, vb2])).put (some x3) v3).put (some p1) (.pointer (some ⟨g1, 0, none⟩))).put (some p2) (.pointer (some ⟨g2, 0, none⟩))) w') :
    (Code.region id ops true).wp Try.prog Q a0 w0 := by
  have hsize : ops.size = 8 := by rw [hops]; rfl
  have e0 : ops[0]? = some (⟨some x0, .load 28 (.tmp ta), ty0, ps0, af0, none⟩ : Oper) := by rw [hops]; rfl
  have e1 : ops[1]? = some (⟨some x1, .call { callee := .value (.func f), args := #[.tmp x0], argTypes := #[28] }, ty1, ps1, af1, none⟩ : Oper) := by rw [hops]; rfl
  have e2 : ops[2]? = some (⟨some x2, .load 28 (.tmp tb), ty2, ps2, af2, none⟩ : Oper) := by rw [hops]; rfl
  have e3 : ops[3]? = some (⟨some x3, .call { callee := .value (.func f'), args := #[.tmp x2], argTypes := #[28] }, ty3, ps3, af3, none⟩ : Oper) := by rw [hops]; rfl
  have e4 : ops[4]? = some (⟨some p1, .alloc 28, ty4, ps4, af4, none⟩ : Oper) := by rw [hops]; rfl
  have e5 : ops[5]? = some (⟨some p2, .alloc 28, ty5, ps5, af5, none⟩ : Oper) := by rw [hops]; rfl
  have e6 : ops[6]? = some (⟨none, .store 28 (.tmp p1) (.tmp x1), ty6, ps6, af6, none⟩ : Oper) := by rw [hops]; rfl
  have e7 : ops[7]? = some (⟨none, .store 28 (.tmp p2) (.tmp x3), ty7, ps7, af7, none⟩ : Oper) := by rw [hops]; rfl
  clear hops
  simp only [List.nodup_cons, List.mem_cons, List.not_mem_nil, or_false, not_or] at hnd
  simp only [List.all_cons, List.all_nil, Bool.and_true, Bool.and_eq_true, decide_eq_true_eq] at hlt
  obtain ⟨⟨n01, n02, n03, n04, n05, n06, n07⟩, ⟨n12, n13, n14, n15, n16, n17⟩, ⟨n23, n24, n25, n26, n27⟩, ⟨n34, n35, n36, n37⟩, ⟨n45, n46, n47⟩, ⟨n56, n57⟩, _⟩ := hnd
  obtain ⟨z0, z1, z2, z3, z4, z5⟩ := hlt
  refine wp_region_any (by kernel_rfl) ?_
  rw [hsize]
  refine wpAny_inv (PairInv a0 w0 x0 x1 x2 x3 p1 p2 (.agg #[va0, va1, va2]) (.agg #[vb0, vb1, vb2]) p q) ?_ ?_ _ _ _ _ (by simp) ?_
  · intro l a w hr hI
    have hall : ∀ i, i < 8 → l.getD i false = true := by
      intro i
      induction i using Nat.strongRecOn with
      | ind i ih =>
        intro hi
        refine Classical.byContradiction fun hn => ?_
        have hsz := hI.sz
        have h1 : l.getD i true = false := by
          rw [Array.getD_eq_getD_getElem?] at hn ⊢
          rw [Array.getElem?_eq_getElem (by omega)] at hn ⊢
          simpa using hn
        rw [List.all_eq_true] at hord
        have h2 := hord i (List.mem_range.2 hi)
        have hm : i ∈ Region.ready .any ops l := by
          rw [mem_ready]
          refine ⟨h1, _, Array.getElem?_eq_getElem (by rw [hsize]; exact hi), fun e he _ => ?_⟩
          rw [Array.getElem?_eq_getElem (by rw [hsize]; exact hi)] at h2
          have h3 := (Array.all_eq_true_iff_forall_mem.1 h2) e he
          have h4 : e.on < i := by simpa using h3
          exact ih e.on h4 (by omega)
        rw [hr] at hm
        cases hm
    have b0 := hI.s0 (hall 0 (by omega))
    obtain ⟨v1, b1, q1⟩ := hI.s1 (hall 1 (by omega))
    have b2 := hI.s2 (hall 2 (by omega))
    obtain ⟨v3, b3, q3⟩ := hI.s3 (hall 3 (by omega))
    obtain ⟨g1, b4, l4, _⟩ := hI.s4 (hall 4 (by omega))
    obtain ⟨g2, b5, l5, _⟩ := hI.s5 (hall 5 (by omega))
    have hne := hI.s45 (hall 4 (by omega)) (hall 5 (by omega)) g1 g2 b4 b5
    have h6 := (hI.s6 (hall 6 (by omega))).2.2 g1 v1 b4 b1
    have h7 := (hI.s7 (hall 7 (by omega))).2.2 g2 v3 b5 b3
    have key := hQ v1 v3 g1 g2 w q1 q3 h6 h7 hne l4 l5 hI.below
    have ea : a = (((((a0.put (some x0) (.agg #[va0, va1, va2])).put (some x1) v1).put (some x2) (.agg #[vb0, vb1, vb2])).put (some x3) v3).put (some p1) (.pointer (some ⟨g1, 0, none⟩))).put (some p2) (.pointer (some ⟨g2, 0, none⟩)) := by
      have e1 : a.tmps = ((((((a0.put (some x0) (.agg #[va0, va1, va2])).put (some x1) v1).put (some x2) (.agg #[vb0, vb1, vb2])).put (some x3) v3).put (some p1) (.pointer (some ⟨g1, 0, none⟩))).put (some p2) (.pointer (some ⟨g2, 0, none⟩))).tmps := by
        apply Array.ext_getElem?
        intro k
        by_cases k5 : p2 = k
        · subst k5; rw [b5, put_eq _ _ (by simp only [put_size]; exact z5)]
        rw [put_ne _ _ k5]
        by_cases k4 : p1 = k
        · subst k4; rw [b4, put_eq _ _ (by simp only [put_size]; exact z4)]
        rw [put_ne _ _ k4]
        by_cases k3 : x3 = k
        · subst k3; rw [b3, put_eq _ _ (by simp only [put_size]; exact z3)]
        rw [put_ne _ _ k3]
        by_cases k2 : x2 = k
        · subst k2; rw [b2, put_eq _ _ (by simp only [put_size]; exact z2)]
        rw [put_ne _ _ k2]
        by_cases k1 : x1 = k
        · subst k1; rw [b1, put_eq _ _ (by simp only [put_size]; exact z1)]
        rw [put_ne _ _ k1]
        by_cases k0 : x0 = k
        · subst k0; rw [b0, put_eq _ _ z0]
        rw [put_ne _ _ k0]
        exact hI.frame k (Ne.symm k0) (Ne.symm k1) (Ne.symm k2) (Ne.symm k3) (Ne.symm k4) (Ne.symm k5)
      have e2 := hI.defers
      cases a
      simp only at e1 e2
      rw [e1, e2]
      rfl
    rw [ea]
    exact key
  · intro l a w i hi hI K hK
    obtain ⟨hun, o, ho, hall⟩ := mem_ready.1 hi
    have hi8 : i < 8 := by have := (Array.getElem?_eq_some_iff.1 ho).1; rwa [hsize] at this
    have hcase : i = 0 ∨ i = 1 ∨ i = 2 ∨ i = 3 ∨ i = 4 ∨ i = 5 ∨ i = 6 ∨ i = 7 := by omega
    rcases hcase with rfl | rfl | rfl | rfl | rfl | rfl | rfl | rfl
    · have t1 : a.tmps.getD ta undef = .pointer (some ⟨ga, 0, none⟩) := getD_of ((hI.frame ta (Ne.symm n06) (Ne.symm n16) (Ne.symm n26) (Ne.symm n36) (Ne.symm n46) (Ne.symm n56)).trans ha)
      obtain ⟨k0, k1, k2, _, _, _⟩ := (hA.below hI.below).cells
      refine wpOp_plain e0 rfl (fun K' hK' => ?_)
      go_simp
      have hJ := hI
      exact hK' _ _ (hK (a.put (some x0) (.agg #[va0, va1, va2])) w ⟨(fun k h0 h1 h2 h3 h4 h5 => (put_ne a _ (Ne.symm h0)).trans (hJ.frame k h0 h1 h2 h3 h4 h5)), (put_size _ _ _).trans hJ.size, hJ.defers, hJ.below, (fun _ => put_eq _ _ (by rw [hI.size]; exact z0)), (fun e => by
        rcases bit_set e with h | h
        · omega
        · rw [put_ne _ _ n01]; exact hJ.s1 h), (fun e => by
        rcases bit_set e with h | h
        · omega
        · rw [put_ne _ _ n02]; exact hJ.s2 h), (fun e => by
        rcases bit_set e with h | h
        · omega
        · rw [put_ne _ _ n03]; exact hJ.s3 h), (fun e => by
        rcases bit_set e with h | h
        · omega
        · rw [put_ne _ _ n04]; exact hJ.s4 h), (fun e => by
        rcases bit_set e with h | h
        · omega
        · rw [put_ne _ _ n05]; exact hJ.s5 h), (fun e e' => by
        rcases bit_set e with h | h
        · omega
        · rcases bit_set e' with h' | h'
          · omega
          · rw [put_ne _ _ n04, put_ne _ _ n05]; exact hJ.s45 h h'), (fun e => by
        rcases bit_set e with h | h
        · omega
        · obtain ⟨b4, b1, hh⟩ := hJ.s6 h
          rw [put_ne _ _ n04, put_ne _ _ n01]; exact ⟨getD_set_true b4, getD_set_true b1, hh⟩), (fun e => by
        rcases bit_set e with h | h
        · omega
        · obtain ⟨b4, b1, hh⟩ := hJ.s7 h
          rw [put_ne _ _ n05, put_ne _ _ n03]; exact ⟨getD_set_true b4, getD_set_true b1, hh⟩), by rw [Array.size_setIfInBounds]; exact hJ.sz⟩)
    · obtain rfl := Option.some.inj (ho.symm.trans e1)
      have t1 : a.tmps.getD x0 undef = .agg #[va0, va1, va2] := getD_of (hI.s0 (dep_of d1 hall))
      have hB0 := hI.below
      refine wpOp_plain e1 rfl (fun K' hK' => ?_)
      go_simp
      refine (hf _ hB0).mono ?_
      rintro e w1 ⟨A1, c1, A2, c2, rfl, hr1, hr2, hb1⟩
      have hJ := hI.world hb1
      exact hK' _ _ (hK (a.put (some x1) (.agg #[.bool (rneg p), .slice A1 (limbs (rnum p)).length c1, .slice A2 (limbs p.den).length c2])) w1 ⟨(fun k h0 h1 h2 h3 h4 h5 => (put_ne a _ (Ne.symm h1)).trans (hJ.frame k h0 h1 h2 h3 h4 h5)), (put_size _ _ _).trans hJ.size, hJ.defers, hJ.below, (fun e => by
        rcases bit_set e with h | h
        · omega
        · rw [put_ne _ _ (Ne.symm n01)]; exact hJ.s0 h), (fun _ => ⟨_, put_eq _ _ (by rw [hI.size]; exact z1), A1, c1, A2, c2, rfl, hr1, hr2⟩), (fun e => by
        rcases bit_set e with h | h
        · omega
        · rw [put_ne _ _ n12]; exact hJ.s2 h), (fun e => by
        rcases bit_set e with h | h
        · omega
        · rw [put_ne _ _ n13]; exact hJ.s3 h), (fun e => by
        rcases bit_set e with h | h
        · omega
        · rw [put_ne _ _ n14]; exact hJ.s4 h), (fun e => by
        rcases bit_set e with h | h
        · omega
        · rw [put_ne _ _ n15]; exact hJ.s5 h), (fun e e' => by
        rcases bit_set e with h | h
        · omega
        · rcases bit_set e' with h' | h'
          · omega
          · rw [put_ne _ _ n14, put_ne _ _ n15]; exact hJ.s45 h h'), (fun e => by
        rcases bit_set e with h | h
        · omega
        · obtain ⟨b4, b1, hh⟩ := hJ.s6 h
          exact absurd b1 (not_listed hun)), (fun e => by
        rcases bit_set e with h | h
        · omega
        · obtain ⟨b4, b1, hh⟩ := hJ.s7 h
          rw [put_ne _ _ n15, put_ne _ _ n13]; exact ⟨getD_set_true b4, getD_set_true b1, hh⟩), by rw [Array.size_setIfInBounds]; exact hJ.sz⟩)
    · have t1 : a.tmps.getD tb undef = .pointer (some ⟨gb, 0, none⟩) := getD_of ((hI.frame tb (Ne.symm n07) (Ne.symm n17) (Ne.symm n27) (Ne.symm n37) (Ne.symm n47) (Ne.symm n57)).trans hb)
      obtain ⟨k0, k1, k2, _, _, _⟩ := (hB.below hI.below).cells
      refine wpOp_plain e2 rfl (fun K' hK' => ?_)
      go_simp
      have hJ := hI
      exact hK' _ _ (hK (a.put (some x2) (.agg #[vb0, vb1, vb2])) w ⟨(fun k h0 h1 h2 h3 h4 h5 => (put_ne a _ (Ne.symm h2)).trans (hJ.frame k h0 h1 h2 h3 h4 h5)), (put_size _ _ _).trans hJ.size, hJ.defers, hJ.below, (fun e => by
        rcases bit_set e with h | h
        · omega
        · rw [put_ne _ _ (Ne.symm n02)]; exact hJ.s0 h), (fun e => by
        rcases bit_set e with h | h
        · omega
        · rw [put_ne _ _ (Ne.symm n12)]; exact hJ.s1 h), (fun _ => put_eq _ _ (by rw [hI.size]; exact z2)), (fun e => by
        rcases bit_set e with h | h
        · omega
        · rw [put_ne _ _ n23]; exact hJ.s3 h), (fun e => by
        rcases bit_set e with h | h
        · omega
        · rw [put_ne _ _ n24]; exact hJ.s4 h), (fun e => by
        rcases bit_set e with h | h
        · omega
        · rw [put_ne _ _ n25]; exact hJ.s5 h), (fun e e' => by
        rcases bit_set e with h | h
        · omega
        · rcases bit_set e' with h' | h'
          · omega
          · rw [put_ne _ _ n24, put_ne _ _ n25]; exact hJ.s45 h h'), (fun e => by
        rcases bit_set e with h | h
        · omega
        · obtain ⟨b4, b1, hh⟩ := hJ.s6 h
          rw [put_ne _ _ n24, put_ne _ _ (Ne.symm n12)]; exact ⟨getD_set_true b4, getD_set_true b1, hh⟩), (fun e => by
        rcases bit_set e with h | h
        · omega
        · obtain ⟨b4, b1, hh⟩ := hJ.s7 h
          rw [put_ne _ _ n25, put_ne _ _ n23]; exact ⟨getD_set_true b4, getD_set_true b1, hh⟩), by rw [Array.size_setIfInBounds]; exact hJ.sz⟩)
    · obtain rfl := Option.some.inj (ho.symm.trans e3)
      have t1 : a.tmps.getD x2 undef = .agg #[vb0, vb1, vb2] := getD_of (hI.s2 (dep_of d3 hall))
      have hB0 := hI.below
      refine wpOp_plain e3 rfl (fun K' hK' => ?_)
      go_simp
      refine (hf' _ hB0).mono ?_
      rintro e w1 ⟨A1, c1, A2, c2, rfl, hr1, hr2, hb1⟩
      have hJ := hI.world hb1
      exact hK' _ _ (hK (a.put (some x3) (.agg #[.bool (rneg q), .slice A1 (limbs (rnum q)).length c1, .slice A2 (limbs q.den).length c2])) w1 ⟨(fun k h0 h1 h2 h3 h4 h5 => (put_ne a _ (Ne.symm h3)).trans (hJ.frame k h0 h1 h2 h3 h4 h5)), (put_size _ _ _).trans hJ.size, hJ.defers, hJ.below, (fun e => by
        rcases bit_set e with h | h
        · omega
        · rw [put_ne _ _ (Ne.symm n03)]; exact hJ.s0 h), (fun e => by
        rcases bit_set e with h | h
        · omega
        · rw [put_ne _ _ (Ne.symm n13)]; exact hJ.s1 h), (fun e => by
        rcases bit_set e with h | h
        · omega
        · rw [put_ne _ _ (Ne.symm n23)]; exact hJ.s2 h), (fun _ => ⟨_, put_eq _ _ (by rw [hI.size]; exact z3), A1, c1, A2, c2, rfl, hr1, hr2⟩), (fun e => by
        rcases bit_set e with h | h
        · omega
        · rw [put_ne _ _ n34]; exact hJ.s4 h), (fun e => by
        rcases bit_set e with h | h
        · omega
        · rw [put_ne _ _ n35]; exact hJ.s5 h), (fun e e' => by
        rcases bit_set e with h | h
        · omega
        · rcases bit_set e' with h' | h'
          · omega
          · rw [put_ne _ _ n34, put_ne _ _ n35]; exact hJ.s45 h h'), (fun e => by
        rcases bit_set e with h | h
        · omega
        · obtain ⟨b4, b1, hh⟩ := hJ.s6 h
          rw [put_ne _ _ n34, put_ne _ _ (Ne.symm n13)]; exact ⟨getD_set_true b4, getD_set_true b1, hh⟩), (fun e => by
        rcases bit_set e with h | h
        · omega
        · obtain ⟨b4, b1, hh⟩ := hJ.s7 h
          exact absurd b1 (not_listed hun)), by rw [Array.size_setIfInBounds]; exact hJ.sz⟩)
    · refine wpOp_plain e4 rfl (fun K' hK' => ?_)
      go_simp
      have hJ := hI.world (Below.alloc (Below.refl _ _) (Nat.le_refl _) (.cells #[.bool false, .slice none 0 0, .slice none 0 0] 28))
      exact hK' _ _ (hK (a.put (some p1) (.pointer (some ⟨w.heap.size, 0, none⟩))) (w.alloc (.cells #[.bool false, .slice none 0 0, .slice none 0 0] 28)) ⟨(fun k h0 h1 h2 h3 h4 h5 => (put_ne a _ (Ne.symm h4)).trans (hJ.frame k h0 h1 h2 h3 h4 h5)), (put_size _ _ _).trans hJ.size, hJ.defers, hJ.below, (fun e => by
        rcases bit_set e with h | h
        · omega
        · rw [put_ne _ _ (Ne.symm n04)]; exact hJ.s0 h), (fun e => by
        rcases bit_set e with h | h
        · omega
        · rw [put_ne _ _ (Ne.symm n14)]; exact hJ.s1 h), (fun e => by
        rcases bit_set e with h | h
        · omega
        · rw [put_ne _ _ (Ne.symm n24)]; exact hJ.s2 h), (fun e => by
        rcases bit_set e with h | h
        · omega
        · rw [put_ne _ _ (Ne.symm n34)]; exact hJ.s3 h), (fun _ => ⟨w.heap.size, put_eq _ _ (by rw [hI.size]; exact z4), hI.below.size, false, none, 0, 0, none, 0, 0, B3.new _ _ _ _ _⟩), (fun e => by
        rcases bit_set e with h | h
        · omega
        · rw [put_ne _ _ n45]; exact hJ.s5 h), (fun e e' g h hg hh => by
        rcases bit_set e' with h' | h'
        · omega
        · rw [put_eq _ _ (by rw [hI.size]; exact z4)] at hg
          rw [put_ne _ _ n45] at hh
          obtain ⟨g', b5, _, hs⟩ := hI.s5 h'
          rw [b5] at hh
          injection hg with hg; injection hg with hg; injection hg with hg; injection hg with hg
          injection hh with hh; injection hh with hh; injection hh with hh; injection hh with hh
          have := Shp.lt hs
          omega), (fun e => by
        rcases bit_set e with h | h
        · omega
        · obtain ⟨b4, b1, hh⟩ := hJ.s6 h
          exact absurd b4 (not_listed hun)), (fun e => by
        rcases bit_set e with h | h
        · omega
        · obtain ⟨b4, b1, hh⟩ := hJ.s7 h
          rw [put_ne _ _ n45, put_ne _ _ (Ne.symm n34)]; exact ⟨getD_set_true b4, getD_set_true b1, hh⟩), by rw [Array.size_setIfInBounds]; exact hJ.sz⟩)
    · refine wpOp_plain e5 rfl (fun K' hK' => ?_)
      go_simp
      have hJ := hI.world (Below.alloc (Below.refl _ _) (Nat.le_refl _) (.cells #[.bool false, .slice none 0 0, .slice none 0 0] 28))
      exact hK' _ _ (hK (a.put (some p2) (.pointer (some ⟨w.heap.size, 0, none⟩))) (w.alloc (.cells #[.bool false, .slice none 0 0, .slice none 0 0] 28)) ⟨(fun k h0 h1 h2 h3 h4 h5 => (put_ne a _ (Ne.symm h5)).trans (hJ.frame k h0 h1 h2 h3 h4 h5)), (put_size _ _ _).trans hJ.size, hJ.defers, hJ.below, (fun e => by
        rcases bit_set e with h | h
        · omega
        · rw [put_ne _ _ (Ne.symm n05)]; exact hJ.s0 h), (fun e => by
        rcases bit_set e with h | h
        · omega
        · rw [put_ne _ _ (Ne.symm n15)]; exact hJ.s1 h), (fun e => by
        rcases bit_set e with h | h
        · omega
        · rw [put_ne _ _ (Ne.symm n25)]; exact hJ.s2 h), (fun e => by
        rcases bit_set e with h | h
        · omega
        · rw [put_ne _ _ (Ne.symm n35)]; exact hJ.s3 h), (fun e => by
        rcases bit_set e with h | h
        · omega
        · rw [put_ne _ _ (Ne.symm n45)]; exact hJ.s4 h), (fun _ => ⟨w.heap.size, put_eq _ _ (by rw [hI.size]; exact z5), hI.below.size, false, none, 0, 0, none, 0, 0, B3.new _ _ _ _ _⟩), (fun e e' g h hg hh => by
        rcases bit_set e with h' | h'
        · omega
        · rw [put_eq _ _ (by rw [hI.size]; exact z5)] at hh
          rw [put_ne _ _ (Ne.symm n45)] at hg
          obtain ⟨g', b5, _, hs⟩ := hI.s4 h'
          rw [b5] at hg
          injection hg with hg; injection hg with hg; injection hg with hg; injection hg with hg
          injection hh with hh; injection hh with hh; injection hh with hh; injection hh with hh
          have := Shp.lt hs
          omega), (fun e => by
        rcases bit_set e with h | h
        · omega
        · obtain ⟨b4, b1, hh⟩ := hJ.s6 h
          rw [put_ne _ _ (Ne.symm n45), put_ne _ _ (Ne.symm n15)]; exact ⟨getD_set_true b4, getD_set_true b1, hh⟩), (fun e => by
        rcases bit_set e with h | h
        · omega
        · obtain ⟨b4, b1, hh⟩ := hJ.s7 h
          exact absurd b4 (not_listed hun)), by rw [Array.size_setIfInBounds]; exact hJ.sz⟩)
    · obtain rfl := Option.some.inj (ho.symm.trans e6)
      have l4 := dep_of d6 hall
      have l1 := dep_of d6' hall
      obtain ⟨g, b4, hg, hs⟩ := hI.s4 l4
      obtain ⟨v, b1, hq⟩ := hI.s1 l1
      have hs0 := hs
      obtain ⟨b, A, n, c, A', n', c', hBg⟩ := hs
      obtain ⟨C, m, C', m', rfl, hr1, hr2⟩ := hq
      have t1 := getD_of b4
      have t2 := getD_of b1
      obtain ⟨k0, k1, k2, f0, f1, f2⟩ := hBg.cells
      refine wpOp_plain e6 rfl (fun K' hK' => ?_)
      go_simp
      refine hK' _ _ (hK a _ ⟨hI.frame, hI.size, hI.defers, B3.belowSet hI.below hg _ _ _, ?_, ?_, ?_, ?_, ?_, ?_, ?_, ?_, ?_, by rw [Array.size_setIfInBounds]; exact hI.sz⟩)
      · exact fun e => (bit_set e).elim (fun h => by omega) hI.s0
      · exact fun e => (bit_set e).elim (fun h => by omega) (fun h => (hI.s1 h).imp fun v hv => ⟨hv.1, hv.2.set hs0 _ _ _⟩)
      · exact fun e => (bit_set e).elim (fun h => by omega) hI.s2
      · exact fun e => (bit_set e).elim (fun h => by omega) (fun h => (hI.s3 h).imp fun v hv => ⟨hv.1, hv.2.set hs0 _ _ _⟩)
      · exact fun e => (bit_set e).elim (fun h => by omega) (fun h => (hI.s4 h).imp fun g' hv => ⟨hv.1, hv.2.1, hv.2.2.set hBg _ _ _ _ _ _ _⟩)
      · exact fun e => (bit_set e).elim (fun h => by omega) (fun h => (hI.s5 h).imp fun g' hv => ⟨hv.1, hv.2.1, hv.2.2.set hBg _ _ _ _ _ _ _⟩)
      · exact fun e e' => (bit_set e).elim (fun h => by omega) (fun h => (bit_set e').elim (fun h => by omega) (fun h' => hI.s45 h h'))
      · refine fun e => ⟨getD_set_true l4, getD_set_true l1, fun g' v' h1 h2 => ?_⟩
        rw [b4] at h1
        rw [b1] at h2
        injection h1 with h1; injection h1 with h1; injection h1 with h1; injection h1 with h1
        injection h2 with h2
        subst h1 h2
        exact ⟨_, _, _, rfl, hBg.set _ _ _⟩
      · refine fun e => (bit_set e).elim (fun h => by omega) (fun h => ?_)
        obtain ⟨b4', b1', hh⟩ := hI.s7 h
        refine ⟨getD_set_true b4', getD_set_true b1', fun g' v' h1 h2 => ?_⟩
        obtain ⟨v0, v1, v2, e', hB'⟩ := hh g' v' h1 h2
        refine ⟨v0, v1, v2, e', hB'.other3 ?_ _ _ _⟩
        exact Ne.symm (hI.s45 l4 b4' g g' b4 h1)
    · obtain rfl := Option.some.inj (ho.symm.trans e7)
      have l4 := dep_of d7 hall
      have l1 := dep_of d7' hall
      obtain ⟨g, b4, hg, hs⟩ := hI.s5 l4
      obtain ⟨v, b1, hq⟩ := hI.s3 l1
      have hs0 := hs
      obtain ⟨b, A, n, c, A', n', c', hBg⟩ := hs
      obtain ⟨C, m, C', m', rfl, hr1, hr2⟩ := hq
      have t1 := getD_of b4
      have t2 := getD_of b1
      obtain ⟨k0, k1, k2, f0, f1, f2⟩ := hBg.cells
      refine wpOp_plain e7 rfl (fun K' hK' => ?_)
      go_simp
      refine hK' _ _ (hK a _ ⟨hI.frame, hI.size, hI.defers, B3.belowSet hI.below hg _ _ _, ?_, ?_, ?_, ?_, ?_, ?_, ?_, ?_, ?_, by rw [Array.size_setIfInBounds]; exact hI.sz⟩)
      · exact fun e => (bit_set e).elim (fun h => by omega) hI.s0
      · exact fun e => (bit_set e).elim (fun h => by omega) (fun h => (hI.s1 h).imp fun v hv => ⟨hv.1, hv.2.set hs0 _ _ _⟩)
      · exact fun e => (bit_set e).elim (fun h => by omega) hI.s2
      · exact fun e => (bit_set e).elim (fun h => by omega) (fun h => (hI.s3 h).imp fun v hv => ⟨hv.1, hv.2.set hs0 _ _ _⟩)
      · exact fun e => (bit_set e).elim (fun h => by omega) (fun h => (hI.s4 h).imp fun g' hv => ⟨hv.1, hv.2.1, hv.2.2.set hBg _ _ _ _ _ _ _⟩)
      · exact fun e => (bit_set e).elim (fun h => by omega) (fun h => (hI.s5 h).imp fun g' hv => ⟨hv.1, hv.2.1, hv.2.2.set hBg _ _ _ _ _ _ _⟩)
      · exact fun e e' => (bit_set e).elim (fun h => by omega) (fun h => (bit_set e').elim (fun h => by omega) (fun h' => hI.s45 h h'))
      · refine fun e => (bit_set e).elim (fun h => by omega) (fun h => ?_)
        obtain ⟨b4', b1', hh⟩ := hI.s6 h
        refine ⟨getD_set_true b4', getD_set_true b1', fun g' v' h1 h2 => ?_⟩
        obtain ⟨v0, v1, v2, e', hB'⟩ := hh g' v' h1 h2
        refine ⟨v0, v1, v2, e', hB'.other3 ?_ _ _ _⟩
        exact hI.s45 b4' l4 g' g h1 b4
      · refine fun e => ⟨getD_set_true l4, getD_set_true l1, fun g' v' h1 h2 => ?_⟩
        rw [b4] at h1
        rw [b1] at h2
        injection h1 with h1; injection h1 with h1; injection h1 with h1; injection h1 with h1
        injection h2 with h2
        subst h1 h2
        exact ⟨_, _, _, rfl, hBg.set _ _ _⟩
  · refine ⟨fun _ _ _ _ _ _ _ => rfl, rfl, rfl, ⟨rfl, rfl, rfl, Nat.le_refl _, fun _ _ => rfl⟩, ?_, ?_, ?_, ?_, ?_, ?_, ?_, ?_, ?_, by simp⟩ <;> (intro h; simp at h)
end Go.Proofs.Ytgehoflkbckgkaa
