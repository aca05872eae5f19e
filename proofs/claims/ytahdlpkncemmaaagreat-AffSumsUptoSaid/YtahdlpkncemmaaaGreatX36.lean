/- A region in whatever order Go carries it. Conditions: those that each theorem names. -/
import Derived.Test.YtahdlpkncemmaaaGreatX17
import Derived.Test.YtahdlpkncemmaaaGreatX30
set_option maxRecDepth 100000
set_option maxHeartbeats 8000000
set_option linter.unusedSimpArgs false
set_option linter.unusedVariables false
namespace Pg
open Go Go.RowKit
theorem grown_of_below {w w' : World} (h : Below w.heap.size w w') (row : Option Nat) : w.grownBy w' row := ⟨h.os, h.tape, h.output, h.size, fun k hk _ => h.block k hk⟩
theorem grown_trans {a w w' : World} {row : Option Nat} (h : a.grownBy w row) (h2 : w.grownBy w' row) : a.grownBy w' row :=
 ⟨h2.os.trans h.os, h2.tape.trans h.tape, h2.output.trans h.output, Nat.le_trans h.size h2.size, fun k hk hne => (h2.block k (Nat.lt_of_lt_of_le hk h.size) hne).trans (h.block k hk hne)⟩
structure DrawInvW (ops : Array Oper) (a0 : Act) (w0 : World) (row : Option Nat) (p : Nat) (ds : List Nat) (V : Nat → World → Value → Prop) (l : Array Bool) (a : Act) (w : World) : Prop where
 frame : ∀ k, k ∉ ds → a.tmps[k]? = a0.tmps[k]?
 size : a.tmps.size = a0.tmps.size
 defers : a.defers = a0.defers
 grown : w0.grownBy w row
 below : l.getD p false = false → Below w0.heap.size w0 w
 has : ∀ i d, ds[i]? = some d → l.getD i false = true → ∃ v, a.tmps[d]? = some v ∧ V i w v
 closed : ∀ i o, ops[i]? = some o → l.getD i false = true → ∀ e ∈ o.after, Region.binds .any e = true → l.getD e.on false = true
 sz : l.size = ops.size
structure DrawAtW (a0 : Act) (w0 : World) (row : Option Nat) (ds : List Nat) (V : Nat → World → Value → Prop) (o : Oper) (a : Act) (w : World) : Prop where
 frame : ∀ k, k ∉ ds → a.tmps[k]? = a0.tmps[k]?
 grown : w0.grownBy w row
 dep : ∀ j d, ds[j]? = some d → o.after.any (fun e => Region.binds .any e && e.on == j) = true → ∃ v, a.tmps[d]? = some v ∧ V j w v
theorem DrawAtW.old {a0 : Act} {w0 : World} {row : Option Nat} {ds : List Nat} {V : Nat → World → Value → Prop} {o : Oper} {a : Act} {w : World} (h : DrawAtW a0 w0 row ds V o a w) (k : Nat) (v : Value) (hk : ds.contains k = false) (hv : a0.tmps[k]? = some v) : a.tmps.getD k undef = v :=
 getD_of ((h.frame k (by intro hm; have := List.contains_iff_mem.2 hm; rw [hk] at this; cases this)).trans hv)
theorem DrawAtW.new {a0 : Act} {w0 : World} {row : Option Nat} {ds : List Nat} {V : Nat → World → Value → Prop} {o : Oper} {a : Act} {w : World} (h : DrawAtW a0 w0 row ds V o a w) (j d : Nat) (hd : ds[j]? = some d) (ho : o.after.any (fun e => Region.binds .any e && e.on == j) = true) :
  ∃ v, a.tmps.getD d undef = v ∧ V j w v := by
 obtain ⟨v, h1, h2⟩ := h.dep j d hd ho
 exact ⟨v, getD_of h1, h2⟩
theorem drawW_region {P : Program} {id : Nat} {ops : Array Oper} {Q : Exit → Act → World → Prop} {a0 : Act} {w0 : World} (row : Option Nat) (p : Nat) (ds : List Nat) (V : Nat → World → Value → Prop)
  (hm : P.follows .mixedOrders = true) (hlen : ops.size = ds.length + 1) (hp : p < ds.length) (hnd : ds.Nodup) (hlt : ds.all (fun k => decide (k < a0.tmps.size)) = true)
  (hdst : ∀ (i d : Nat), ds[i]? = some d → ∃ o : Oper, ops[i]? = some o ∧ o.dst = some d ∧ o.guard = none)
  (hord : (List.range ops.size).all (fun i => match ops[i]? with | some o => o.after.all (fun e => !Region.binds .any e || decide (e.on < i)) | none => true) = true)
  (hcov : (List.range ds.length).all (fun i => (List.range (ds.length + 1)).any (fun j => decide (i < j) && (match ops[j]? with | some o => o.after.any (fun e => Region.binds .any e && e.on == i) | none => false))) = true)
  (hst : ∀ i w w' v, Below w.heap.size w w' → V i w v → V i w' v)
  (hst2 : ∀ i w w' v, i ≠ p → Below w0.heap.size w0 w → w.grownBy w' row → V i w v → V i w' v)
  (hstep : ∀ i o d, ops[i]? = some o → ds[i]? = some d → i ≠ p → ∀ a w, DrawAtW a0 w0 row ds V o a w → ∀ K : Act → World → Prop, (∀ v w', V i w' v → Below w.heap.size w w' → K (a.put (some d) v) w') → Oper.wp P o a w K Q)
  (hpst : ∀ o d, ops[p]? = some o → ds[p]? = some d → ∀ a w, DrawAtW a0 w0 row ds V o a w → Below w0.heap.size w0 w → ∀ K : Act → World → Prop, (∀ v w', V p w' v → w.grownBy w' row → K (a.put (some d) v) w') → Oper.wp P o a w K Q)
  (hlast : ∀ o, ops[ds.length]? = some o → o.guard = none ∧ ∀ vs w', vs.length = ds.length → (∀ i v, vs[i]? = some v → V i w' v) → w0.grownBy w' row → ∀ K : Act → World → Prop, (∀ a w, Q .normal a w → K a w) → Oper.wp P o (puts a0 ds vs) w' K Q) :
  (Code.region id ops true).wp P Q a0 w0 := by
 have hlt' : ∀ d ∈ ds, d < a0.tmps.size := fun d hd => by simpa using List.all_eq_true.1 hlt d hd
 have whole : ∀ l a w, DrawInvW ops a0 w0 row p ds V l a w → (∀ i, i < ds.length → l.getD i false = true) → ∃ vs, vs.length = ds.length ∧ (∀ i v, vs[i]? = some v → V i w v) ∧ a = puts a0 ds vs := by
  intro l a w hI hall
  have hv : ∀ i, i < ds.length → ∃ v, (∀ d, ds[i]? = some d → a.tmps[d]? = some v) ∧ V i w v := by
   intro i hi
   obtain ⟨v, h1, h2⟩ := hI.has i (ds[i]) (List.getElem?_eq_getElem hi) (hall i hi)
   exact ⟨v, fun d hd => by rw [List.getElem?_eq_getElem hi] at hd; injection hd with hd; rw [← hd]; exact h1, h2⟩
  have hvs : ∃ vs : List Value, vs.length = ds.length ∧ ∀ i v, vs[i]? = some v → (∀ d, ds[i]? = some d → a.tmps[d]? = some v) ∧ V i w v := by
   refine ⟨List.ofFn fun i : Fin ds.length => Classical.choose (hv i.1 i.2), by simp, fun i v hi => ?_⟩
   rw [List.getElem?_ofFn] at hi
   split at hi
   ·injection hi with hi
    subst hi
    rename_i hlt
    exact Classical.choose_spec (hv i hlt)
   ·cases hi
  obtain ⟨vs, hl, hvs⟩ := hvs
  refine ⟨vs, hl, fun i v h => (hvs i v h).2, ?_⟩
  have e1 : a.tmps = (puts a0 ds vs).tmps := by
   apply Array.ext_getElem?
   intro k
   by_cases hk : k ∈ ds
   ·obtain ⟨i, hi, rfl⟩ := List.getElem_of_mem hk
    have h1 : vs[i]? = some (vs[i]'(by omega)) := List.getElem?_eq_getElem _
    rw [(hvs i _ h1).1 _ (List.getElem?_eq_getElem hi), puts_at ds vs a0 i _ _ hnd hlt' (List.getElem?_eq_getElem hi) h1]
   ·rw [hI.frame k hk, puts_other ds vs a0 k hk]
  have e2 : a.defers = (puts a0 ds vs).defers := by rw [puts_defers]; exact hI.defers
  cases a
  cases h : puts a0 ds vs
  rw [h] at e1 e2
  simp only at e1 e2
  rw [e1, e2]
 refine wp_region_any hm ?_
 refine wpAny_inv (fun l a w => l.size = ops.size ∧ ((l.getD ds.length false = true ∧ (∀ i, i < ds.length → l.getD i false = true) ∧ Q .normal a w) ∨ (l.getD ds.length false = false ∧ DrawInvW ops a0 w0 row p ds V l a w))) ?_ ?_ _ _ _ _ (by simp) ?_
 ·rintro l a w hr ⟨hsz, ⟨_, _, hq⟩ | ⟨hnl, hI⟩⟩
  ·exact hq
  ·have hall : ∀ i, i < ops.size → l.getD i false = true := by
    intro i
    induction i using Nat.strongRecOn with
    | ind i ih =>
     intro hi
     refine Classical.byContradiction fun hn => ?_
     have h1 : l.getD i true = false := listed_of (by omega) hn
     rw [List.all_eq_true] at hord
     have h2 := hord i (List.mem_range.2 hi)
     have hm : i ∈ Region.ready .any ops l := by
      rw [mem_ready]
      refine ⟨h1, _, Array.getElem?_eq_getElem hi, fun e he hbe => ?_⟩
      rw [Array.getElem?_eq_getElem hi] at h2
      have h3 := (Array.all_eq_true_iff_forall_mem.1 h2) e he
      rw [hbe] at h3
      have h4 : e.on < i := by simpa using h3
      exact ih e.on h4 (by omega)
     rw [hr] at hm
     cases hm
   have := hall ds.length (by omega)
   rw [hnl] at this
   cases this
 ·rintro l a w i hi ⟨hsz, hI⟩ K hK
  obtain ⟨hun, o, ho, hall⟩ := mem_ready.1 hi
  have hi8 := (Array.getElem?_eq_some_iff.1 ho).1
  rcases hI with ⟨hn, hal, _⟩ | ⟨hnl, hI⟩
  ·exfalso
   have : i = ds.length ∨ i < ds.length := by omega
   rcases this with rfl | h
   ·exact not_listed' hun hn
   ·exact not_listed' hun (hal i h)
  ·by_cases hil : i < ds.length
   ·have hd : ds[i]? = some (ds[i]'hil) := List.getElem?_eq_getElem _
    have hltd : ds[i]'hil < a.tmps.size := by rw [hI.size]; exact hlt' _ (List.getElem_mem hil)
    generalize ds[i]'hil = d at *
    obtain ⟨o', ho', hod, hgo⟩ := hdst i d hd
    rw [ho] at ho'
    injection ho' with ho'
    subst ho'
    have hni : l.getD i false = false := by
     rcases hb : l.getD i false with _ | _
     ·rfl
     ·exact absurd hb (not_listed' hun)
    -- the invariant behind it
    have next : ∀ v w', V i w' v → (i ≠ p → Below w.heap.size w w') → w.grownBy w' row → DrawInvW ops a0 w0 row p ds V (l.setIfInBounds i true) (a.put (some d) v) w' := by
     intro v w' hV hbn hgr
     have hkeep : ∀ j v', l.getD j false = true → V j w v' → V j w' v' := by
      intro j v' hlj hj
      by_cases hjp : j = p
      ·refine hst j w w' v' (hbn fun e => ?_) hj
       rw [e, ← hjp, hlj] at hni
       cases hni
      ·by_cases hip : i = p
       ·subst hip; exact hst2 j w w' v' hjp (hI.below hni) hgr hj
       ·exact hst j w w' v' (hbn hip) hj
     refine ⟨fun k hk => (put_ne a _ (fun e : d = k => hk (by rw [← e]; exact List.mem_of_getElem? hd))).trans (hI.frame k hk), (put_size _ _ _).trans hI.size, hI.defers, grown_trans hI.grown hgr, fun hnp => ?_, fun j d' hj hl => ?_, fun j oj hj hl e he hbe => ?_, by rw [Array.size_setIfInBounds]; exact hI.sz⟩
     ·by_cases hip : i = p
      ·subst hip
       rw [Array.getD_eq_getD_getElem?, Array.getElem?_setIfInBounds_self_of_lt (by omega)] at hnp
       cases hnp
      ·rw [getD_set_ne false hip] at hnp
       exact Below.then_ (hI.below hnp) (hbn hip)
     ·by_cases e : j = i
      ·subst e
       rw [hd] at hj
       injection hj with hj
       subst hj
       exact ⟨v, put_eq _ _ hltd, hV⟩
      ·rcases bit_set hl with h | h
       ·exact absurd h e
       ·obtain ⟨v', h1, h2⟩ := hI.has j d' hj h
        refine ⟨v', ?_, hkeep j v' h h2⟩
        rw [put_ne _ _ (fun e' => e ?_)]
        ·exact h1
        ·obtain ⟨a1, a2⟩ := List.getElem?_eq_some_iff.1 hd
         obtain ⟨b1, b2⟩ := List.getElem?_eq_some_iff.1 hj
         exact (List.getElem_inj hnd).1 (b2.trans (e'.symm.trans a2.symm))
     ·have old : l.getD e.on false = true := by
       rcases bit_set hl with h | h
       ·subst h
        rw [ho] at hj
        injection hj with hj
        subst hj
        exact hall e he hbe
       ·exact hI.closed j oj hj h e he hbe
      by_cases e' : i = e.on
      ·rw [← e', Array.getD_eq_getD_getElem?, Array.getElem?_setIfInBounds_self_of_lt (by omega)]; rfl
      ·rw [getD_set_ne false e']; exact old
    have keep : ∀ v w', V i w' v → (i ≠ p → Below w.heap.size w w') → w.grownBy w' row → K (a.put (some d) v) w' := fun v w' hV hbn hgr => by
     refine hK _ _ ⟨by rw [Array.size_setIfInBounds]; exact hsz, .inr ⟨?_, next v w' hV hbn hgr⟩⟩
     rw [getD_set_ne false (by omega)]; exact hnl
    have hat : DrawAtW a0 w0 row ds V o a w := ⟨hI.frame, hI.grown, fun j d' hj hb => hI.has j d' hj (dep_of hb hall)⟩
    by_cases hip : i = p
    ·subst hip
     exact wpOp_plain ho hgo (fun K' hK' => hpst o d ho hd a w hat (hI.below hni) K' (fun v w' hV hgr => hK' _ _ (keep v w' hV (fun e => absurd rfl e) hgr)))
    ·exact wpOp_plain ho hgo (fun K' hK' => hstep i o d ho hd hip a w hat K' (fun v w' hV hb => hK' _ _ (keep v w' hV (fun _ => hb) (grown_of_below hb row))))
   ·have hin : i = ds.length := by omega
    subst hin
    obtain ⟨hg, hs⟩ := hlast o ho
    have hdone : ∀ i, i < ds.length → l.getD i false = true := fun i hi => all_of_closed hI.closed hcov (fun o' ho' => by rw [ho] at ho'; injection ho' with ho'; subst ho'; exact hall) _ i (Nat.le_refl _) hi
    obtain ⟨vs, h1, h2, rfl⟩ := whole l a w hI hdone
    refine wpOp_plain ho hg (fun K' hK' => hs vs w h1 h2 hI.grown K' (fun a' w' hq => hK' _ _ (hK _ _ ⟨by rw [Array.size_setIfInBounds]; exact hsz, .inl ⟨?_, fun i hi => ?_, hq⟩⟩)))
    ·rw [Array.getD_eq_getD_getElem?, Array.getElem?_setIfInBounds_self_of_lt (by omega)]; rfl
    ·rw [getD_set_ne false (by omega)]; exact hdone i hi
 ·refine ⟨by simp, .inr ⟨?_, fun _ _ => rfl, rfl, rfl, ⟨rfl, rfl, rfl, Nat.le_refl _, fun _ _ _ => rfl⟩, fun _ => ⟨rfl, rfl, rfl, Nat.le_refl _, fun _ _ => rfl⟩, fun i _ _ h => ?_, fun i o _ h => ?_, by simp⟩⟩
  ·rw [Array.getD_eq_getD_getElem?, Array.getElem?_replicate]; split <;> rfl
  ·rw [Array.getD_eq_getD_getElem?, Array.getElem?_replicate] at h
   split at h <;> simp at h
  ·rw [Array.getD_eq_getD_getElem?, Array.getElem?_replicate] at h
   split at h <;> simp at h
inductive Hw where
 | is (v : Value)
 | fresh (cs : List Value) (t : TypeId)
 | own (q : World → Value → Prop)
 | such (q : World → Value → Prop)
def Hw.ok (B : Nat) : Hw → World → Value → Prop
 | .is v0, _, v => v = v0
 | .fresh cs t, w, v => ∃ b, v = .slice (some ⟨b, 0, none⟩) 1 1 ∧ B ≤ b ∧ w.heap[b]? = some (.cells cs.toArray t (0, 0))
 | .own q, w, v => ∀ w', Below w.heap.size w w' → q w' v
 | .such q, w, v => ∀ w', Below w.heap.size w w' → q w' v
def Hw.plain : Hw → Bool
 | .own _ => false
 | _ => true
theorem Hw.below {B : Nat} {h : Hw} {w w' : World} {v : Value} (hb : Below w.heap.size w w') (hk : h.ok B w v) : h.ok B w' v := by
 cases h with
 | is v0 => exact hk
 | fresh cs t =>
  obtain ⟨b, e, hB, hh⟩ := hk
  exact ⟨b, e, hB, (hb.block b (Array.getElem?_eq_some_iff.1 hh).1).trans hh⟩
 | own q => exact fun w2 h2 => hk w2 (Below.then_ hb h2)
 | such q => exact fun w2 h2 => hk w2 (Below.then_ hb h2)
theorem Hw.grown {B : Nat} {h : Hw} {w w' : World} {v : Value} {row : Option Nat} (hs : ∀ q, h = .such q → (∀ W, Below w.heap.size w W → q W v) → ∀ W, Below w'.heap.size w' W → q W v) (hr : ∀ g, row = some g → g < B) (hp : h.plain = true) (hb : w.grownBy w' row) (hk : h.ok B w v) : h.ok B w' v := by
 cases h with
 | is v0 => exact hk
 | fresh cs t =>
  obtain ⟨b, e, hB, hh⟩ := hk
  refine ⟨b, e, hB, (hb.block b (Array.getElem?_eq_some_iff.1 hh).1 (fun e => ?_)).trans hh⟩
  have := hr b e.symm
  omega
 | own q => cases hp
 | such q => exact hs q rfl hk
def hw (B : Nat) (hs : List Hw) (i : Nat) (w : World) (v : Value) : Prop := match hs[i]? with | some h => h.ok B w v | none => True
theorem bw_is {a0 : Act} {w0 : World} {row : Option Nat} {B : Nat} {ds : List Nat} {hs : List Hw} {o : Oper} {a : Act} {w : World} (h : DrawAtW a0 w0 row ds (hw B hs) o a w) (j d : Nat) {v : Value} (hd : ds[j]? = some d := by rfl) (hh : hs[j]? = some (.is v) := by rfl) (ho : o.after.any (fun e => Region.binds .any e && e.on == j) = true := by kernel_rfl) : a.tmps.getD d undef = v := by
 obtain ⟨v', h1, h2⟩ := h.new j d hd ho
 unfold hw at h2
 rw [hh] at h2
 rw [h1]; exact h2
theorem bw_such {a0 : Act} {w0 : World} {row : Option Nat} {B : Nat} {ds : List Nat} {hs : List Hw} {o : Oper} {a : Act} {w : World} (h : DrawAtW a0 w0 row ds (hw B hs) o a w) (j d : Nat) {q : World → Value → Prop} (hd : ds[j]? = some d := by rfl) (hh : hs[j]? = some (.such q) := by rfl) (ho : o.after.any (fun e => Region.binds .any e && e.on == j) = true := by kernel_rfl) :
  ∃ v, a.tmps.getD d undef = v ∧ ∀ w', Below w.heap.size w w' → q w' v := by
 obtain ⟨v', h1, h2⟩ := h.new j d hd ho
 unfold hw at h2
 rw [hh] at h2
 exact ⟨v', h1, h2⟩
def WSteps (a0 : Act) (w0 : World) (row : Option Nat) (p : Nat) (P : Program) (ds : List Nat) (hs : List Hw) (Q : Exit → Act → World → Prop) : Nat → List Oper → List Nat → List Hw → Prop
 | i, o :: os, d :: ds', h :: hs' =>
  (∀ a w, DrawAtW a0 w0 row ds (hw w0.heap.size hs) o a w → (if i = p then Below w0.heap.size w0 w else True) → ∀ K : Act → World → Prop, (∀ v w', h.ok w0.heap.size w' v → (if i = p then w.grownBy w' row else Below w.heap.size w w') → K (a.put (some d) v) w') → Oper.wp P o a w K Q) ∧
  WSteps a0 w0 row p P ds hs Q (i + 1) os ds' hs'
 | _, _, [], [] => True
 | _, _, _, _ => False
theorem WSteps.at {a0 : Act} {w0 : World} {row : Option Nat} {p : Nat} {P : Program} {ds : List Nat} {hs : List Hw} {Q : Exit → Act → World → Prop} : ∀ {n : Nat} {os : List Oper} {ds' : List Nat} {hs' : List Hw}, WSteps a0 w0 row p P ds hs Q n os ds' hs' → ∀ (i : Nat) (o : Oper) (d : Nat), os[i]? = some o → ds'[i]? = some d →
  ∃ h, hs'[i]? = some h ∧ ∀ a w, DrawAtW a0 w0 row ds (hw w0.heap.size hs) o a w → (if n + i = p then Below w0.heap.size w0 w else True) → ∀ K : Act → World → Prop, (∀ v w', h.ok w0.heap.size w' v → (if n + i = p then w.grownBy w' row else Below w.heap.size w w') → K (a.put (some d) v) w') → Oper.wp P o a w K Q
 | n, o :: os, d :: ds', h :: hs', hd, 0, o', d', ho, hd' => by
  simp only [List.getElem?_cons_zero, Option.some.injEq] at ho hd'
  subst ho hd'
  exact ⟨h, rfl, hd.1⟩
 | n, o :: os, d :: ds', h :: hs', hd, i + 1, o', d', ho, hd' => by
  obtain ⟨h', e, hh⟩ := WSteps.at hd.2 i o' d' (by simpa using ho) (by simpa using hd')
  rw [show n + 1 + i = n + (i + 1) by omega] at hh
  exact ⟨h', by simpa using e, hh⟩
 | _, _, [], [], _, i, o', d', _, hd' => by simp at hd'
 | _, [], _ :: _, _, h, _, _, _, _, _ => h.elim
 | _, _ :: _, _ :: _, [], h, _, _, _, _, _ => h.elim
 | _, [], [], _ :: _, h, _, _, _, _, _ => h.elim
 | _, _ :: _, [], _ :: _, h, _, _, _, _, _ => h.elim
def AllHw (B : Nat) (w : World) : List Hw → List Value → Prop
 | h :: hs, v :: vs => h.ok B w v ∧ AllHw B w hs vs
 | [], [] => True
 | _, _ => False
theorem allHw {B : Nat} {w : World} : ∀ {hs : List Hw} {vs : List Value}, vs.length = hs.length → (∀ i v, vs[i]? = some v → hw B hs i w v) → AllHw B w hs vs
 | [], [], _, _ => trivial
 | [], _ :: _, h, _ => by simp at h
 | _ :: _, [], h, _ => by simp at h
 | h :: hs, v :: vs, hl, hv => ⟨hv 0 v rfl, allHw (by simpa using hl) (fun i v' hi => by have := hv (i + 1) v' (by simpa using hi); unfold hw at this ⊢; simpa using this)⟩
theorem AllHw.is_ {B : Nat} {w : World} {v : Value} {hs : List Hw} {vs : List Value} (h : AllHw B w (.is v :: hs) vs) : ∃ vs', vs = v :: vs' ∧ AllHw B w hs vs' := by
 cases vs with
 | nil => exact h.elim
 | cons u us => obtain ⟨h1, h2⟩ := h; exact ⟨us, by rw [show u = v from h1], h2⟩
theorem AllHw.own_ {B : Nat} {w : World} {q : World → Value → Prop} {hs : List Hw} {vs : List Value} (h : AllHw B w (.own q :: hs) vs) : ∃ v vs', vs = v :: vs' ∧ (∀ w', Below w.heap.size w w' → q w' v) ∧ AllHw B w hs vs' := by
 cases vs with
 | nil => exact h.elim
 | cons u us => obtain ⟨h1, h2⟩ := h; exact ⟨u, us, rfl, h1, h2⟩
theorem AllHw.such_ {B : Nat} {w : World} {q : World → Value → Prop} {hs : List Hw} {vs : List Value} (h : AllHw B w (.such q :: hs) vs) : ∃ v vs', vs = v :: vs' ∧ (∀ w', Below w.heap.size w w' → q w' v) ∧ AllHw B w hs vs' := by
 cases vs with
 | nil => exact h.elim
 | cons u us => obtain ⟨h1, h2⟩ := h; exact ⟨u, us, rfl, h1, h2⟩
theorem AllHw.nil_ {B : Nat} {w : World} {vs : List Value} (h : AllHw B w [] vs) : vs = [] := by
 cases vs with
 | nil => rfl
 | cons u us => exact h.elim
def closedW (ops : Array Oper) (ds : List Nat) : Bool :=
 (List.range ops.size).all (fun i => match ops[i]? with | some o => o.after.all (fun e => !Region.binds .any e || decide (e.on < i)) | none => true) &&
 (List.range ds.length).all (fun i => match ops[i]?, ds[i]? with | some o, some d => o.dst == some d && o.guard.isNone | _, _ => false)
def coverW (ops : Array Oper) (n : Nat) : Bool :=
 (List.range n).all (fun i => (List.range (n + 1)).any (fun j => decide (i < j) && (match ops[j]? with | some o => o.after.any (fun e => Region.binds .any e && e.on == i) | none => false)))
def onlyOwn (p : Nat) : Nat → List Hw → Bool
 | _, [] => true
 | i, h :: hs => (i == p || h.plain) && onlyOwn p (i + 1) hs
theorem onlyOwn.at {p : Nat} : ∀ {n : Nat} {hs : List Hw}, onlyOwn p n hs = true → ∀ i h, hs[i]? = some h → n + i ≠ p → h.plain = true
 | n, h0 :: hs, ho, 0, h, hh, hne => by
  simp only [List.getElem?_cons_zero, Option.some.injEq] at hh
  subst hh
  simp only [onlyOwn, Bool.and_eq_true, Bool.or_eq_true, beq_iff_eq] at ho
  rcases ho.1 with h1 | h1
  ·omega
  ·exact h1
 | n, h0 :: hs, ho, i + 1, h, hh, hne => by
  simp only [onlyOwn, Bool.and_eq_true] at ho
  exact onlyOwn.at ho.2 i h (by simpa using hh) (by omega)
 | _, [], _, i, h, hh, _ => by simp at hh
theorem draw_app2 {P : Program} {id : Nat} {ops : Array Oper} {Q : Exit → Act → World → Prop} {a0 : Act} {w0 : World} (row : Option Nat) (p : Nat) (ds : List Nat) (hs : List Hw) {ty ty' : TypeId} {tp tv : Nat} {ps : String} {af : Array Edge}
  (hm : P.follows .mixedOrders = true) (hlen : ops.size = ds.length + 1) (hlh : hs.length = ds.length) (hp : p < ds.length) (hnd : ds.Nodup) (hlt : ds.all (fun k => decide (k < a0.tmps.size)) = true)
  (hcl : closedW ops ds = true) (hcov : coverW ops ds.length = true) (ho : ops[ds.length]? = some ⟨none, .store ty (.tmp tp) (.tmp tv), ty', ps, af, none⟩) (hoo : onlyOwn p 0 hs = true) (hrow : ∀ g, row = some g → g < w0.heap.size)
  (hsu : ∀ q w w' v, .such q ∈ hs → Below w0.heap.size w0 w → w.grownBy w' row → (∀ W, Below w.heap.size w W → q W v) → ∀ W, Below w'.heap.size w' W → q W v)
  (hstep : WSteps a0 w0 row p P ds hs Q 0 ops.toList ds hs)
  (hfin : ∀ vs w', AllHw w0.heap.size w' hs vs → w0.grownBy w' row → ∀ a, a = puts a0 ds vs → (∀ k v, ds.contains k = false → a0.tmps[k]? = some v → a.tmps.getD k undef = v) → (∀ (i d : Nat) v, ds[i]? = some d → vs[i]? = some v → a.tmps.getD d undef = v) → ∀ K : Act → World → Prop, (∀ a w, Q .normal a w → K a w) → Oper.wp P ⟨none, .store ty (.tmp tp) (.tmp tv), ty', ps, af, none⟩ a w' K Q) :
  (Code.region id ops true).wp P Q a0 w0 := by
 unfold closedW at hcl
 rw [Bool.and_eq_true] at hcl
 obtain ⟨hord, hall⟩ := hcl
 have point : ∀ (i : Nat) (o : Oper) (d : Nat), ops[i]? = some o → ds[i]? = some d → o.dst = some d ∧ o.guard = none := by
  intro i o d ho hd
  have h := List.all_eq_true.1 hall i (List.mem_range.2 (List.getElem?_eq_some_iff.1 hd).1)
  rw [ho, hd] at h
  simp only [Bool.and_eq_true, beq_iff_eq, Option.isNone_iff_eq_none] at h
  exact h
 refine drawW_region row p ds (hw w0.heap.size hs) hm hlen hp hnd hlt (fun i d hd => ?_) hord hcov (fun i w w' v hb h => ?_) (fun i w w' v hip hbw hb h => ?_) (fun i o d ho hd hip a w hA K hK => ?_) (fun o d ho hd a w hA hb K hK => ?_) (fun o' ho' => ?_)
 ·have hi := (List.getElem?_eq_some_iff.1 hd).1
  have ho : ops[i]? = some (ops[i]'(by omega)) := Array.getElem?_eq_getElem _
  exact ⟨_, ho, (point i _ d ho hd).1, (point i _ d ho hd).2⟩
 ·unfold hw at h ⊢
  split at h
  ·exact Hw.below hb h
  ·trivial
 ·unfold hw at h ⊢
  split at h
  ·rename_i h0 he
   exact Hw.grown (fun q e hq => hsu q w w' v (by rw [← e]; exact List.mem_of_getElem? he) hbw hb hq) hrow (onlyOwn.at hoo i h0 he (by omega)) hb h
  ·trivial
 ·obtain ⟨h, e, hh⟩ := hstep.at i o d (by rw [Array.getElem?_toList]; exact ho) hd
  simp only [Nat.zero_add, hip, if_false] at hh
  refine hh a w hA trivial K (fun v w' hv hb => ?_)
  exact hK v w' (by unfold hw; rw [e]; exact hv) hb
 ·obtain ⟨h, e, hh⟩ := hstep.at p o d (by rw [Array.getElem?_toList]; exact ho) hd
  simp only [Nat.zero_add, if_true] at hh
  refine hh a w hA hb K (fun v w' hv hb => ?_)
  exact hK v w' (by unfold hw; rw [e]; exact hv) hb
 ·rw [ho] at ho'
  injection ho' with ho'
  subst ho'
  refine ⟨rfl, fun vs w' h1 hv hg K hK => hfin vs w' (allHw (h1.trans hlh.symm) hv) hg _ rfl (fun k v hk hv => ?_) (fun i d v hd hv => ?_) K hK⟩
  ·exact getD_of ((puts_other ds vs a0 k (by intro hm; have := List.contains_iff_mem.2 hm; rw [hk] at this; cases this)).trans hv)
  ·exact getD_of (puts_at ds vs a0 i d v hnd (fun d hd => by simpa using List.all_eq_true.1 hlt d hd) hd hv)
end Pg
