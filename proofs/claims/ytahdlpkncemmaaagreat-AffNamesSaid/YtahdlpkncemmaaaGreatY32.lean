/- A region in whatever order Go carries it. Conditions: those that each theorem names. -/
import Derived.Test.YtahdlpkncemmaaaGreatY17
set_option maxRecDepth 100000
set_option maxHeartbeats 8000000
set_option linter.unusedSimpArgs false
set_option linter.unusedVariables false
namespace Pg
open Go Go.RowKit
def Tails (P : Program) (Q : Exit → Act → World → Prop) : List Oper → Act → World → Prop
 | [], a, w => Q .normal a w
 | o :: os, a, w => ∀ K : Act → World → Prop, (∀ a w, Tails P Q os a w → K a w) → Oper.wp P o a w K Q
theorem drawT_region {P : Program} {id : Nat} {ops : Array Oper} {Q : Exit → Act → World → Prop} {a0 : Act} {w0 : World} (ds : List Nat) (V : Nat → World → Value → Prop) (tails : List Oper)
  (hm : P.follows .mixedOrders = true) (hlen : ops.size = ds.length + tails.length) (hnd : ds.Nodup) (hlt : ds.all (fun k => decide (k < a0.tmps.size)) = true)
  (hdst : ∀ (i d : Nat), ds[i]? = some d → ∃ o : Oper, ops[i]? = some o ∧ o.dst = some d)
  (hord : (List.range ops.size).all (fun i => match ops[i]? with | some o => o.after.all (fun e => !Region.binds .any e || decide (e.on < i)) | none => true) = true)
  (hst : ∀ i w w' v, Below w.heap.size w w' → V i w v → V i w' v)
  (hstep : ∀ i o d, ops[i]? = some o → ds[i]? = some d →
   (o.guard = none ∧ ∀ a w, DrawAt a0 w0 ds V o a w → ∀ K : Act → World → Prop, (∀ v w', V i w' v → Below w.heap.size w w' → K (a.put (some d) v) w') → Oper.wp P o a w K Q) ∨
   (∃ j b dj, o.guard = some (j, b) ∧ ds[j]? = some dj ∧ o.after.any (fun e => Region.binds .any e && e.on == j) = true ∧
    (((∀ w v, V j w v → v = .bool b) ∧ ∀ a w, DrawAt a0 w0 ds V o a w → ∀ K : Act → World → Prop, (∀ v w', V i w' v → Below w.heap.size w w' → K (a.put (some d) v) w') → Oper.wp P o a w K Q) ∨
     ((∃ c, (c == b) = false ∧ ∀ w v, V j w v → v = .bool c) ∧ ∀ w, V i w undef))))
  (htl : ∀ j o, tails[j]? = some o → ops[ds.length + j]? = some o ∧ o.guard = none ∧ ∀ i, i < ds.length + j → o.after.any (fun e => Region.binds .any e && e.on == i) = true)
  (hfin : ∀ vs w', vs.length = ds.length → (∀ i v, vs[i]? = some v → V i w' v) → Below w0.heap.size w0 w' → Tails P Q tails (puts a0 ds vs) w') :
  (Code.region id ops true).wp P Q a0 w0 := by
 have hlt' : ∀ d ∈ ds, d < a0.tmps.size := fun d hd => by simpa using List.all_eq_true.1 hlt d hd
 -- all have run: the slots
 have whole : ∀ l a w, DrawInvB ops a0 w0 ds V l a w → (∀ i, i < ds.length → l.getD i false = true) → ∃ vs, vs.length = ds.length ∧ (∀ i v, vs[i]? = some v → V i w v) ∧ a = puts a0 ds vs := by
  intro l a w hI hall
  have hv : ∀ i, i < ds.length → ∃ v, (∀ d, ds[i]? = some d → a.tmps[d]? = some v) ∧ V i w v := by
   intro i hi
   obtain ⟨v, h1, h2⟩ := hI.has i (ds[i]) (List.getElem?_eq_getElem hi) (hall i hi)
   exact ⟨v, fun d hd => by rw [List.getElem?_eq_getElem hi] at hd; injection hd with hd; rw [← hd]; exact h1, h2⟩
  have hvs : ∃ vs : List Value, vs.length = ds.length ∧ ∀ i v, vs[i]? = some v → (∀ d, ds[i]? = some d → a.tmps[d]? = some v) ∧ V i w v := by
   refine ⟨List.ofFn fun i : Fin ds.length => Classical.choose (hv i.1 i.2), by simp, fun i v hi => ?_⟩
   rw [List.getElem?_ofFn] at hi
   split at hi
   ·injection hi with hi
    subst hi
    rename_i hlt
    exact Classical.choose_spec (hv i hlt)
   ·cases hi
  obtain ⟨vs, hl, hvs⟩ := hvs
  refine ⟨vs, hl, fun i v h => (hvs i v h).2, ?_⟩
  have e1 : a.tmps = (puts a0 ds vs).tmps := by
   apply Array.ext_getElem?
   intro k
   by_cases hk : k ∈ ds
   ·obtain ⟨i, hi, rfl⟩ := List.getElem_of_mem hk
    have h1 : vs[i]? = some (vs[i]'(by omega)) := List.getElem?_eq_getElem _
    rw [(hvs i _ h1).1 _ (List.getElem?_eq_getElem hi), puts_at ds vs a0 i _ _ hnd hlt' (List.getElem?_eq_getElem hi) h1]
   ·rw [hI.frame k hk, puts_other ds vs a0 k hk]
  have e2 : a.defers = (puts a0 ds vs).defers := by rw [puts_defers]; exact hI.defers
  cases a
  cases h : puts a0 ds vs
  rw [h] at e1 e2
  simp only at e1 e2
  rw [e1, e2]
 refine wp_region_any hm ?_
 have full : ∀ l : Array Bool, l.size = ops.size → Region.ready .any ops l = [] → ∀ i, i < ops.size → l.getD i false = true := by
  intro l hsz hr i
  induction i using Nat.strongRecOn with
  | ind i ih =>
   intro hi
   refine Classical.byContradiction fun hn => ?_
   have h1 : l.getD i true = false := listed_of (by omega) hn
   rw [List.all_eq_true] at hord
   have h2 := hord i (List.mem_range.2 hi)
   have hm : i ∈ Region.ready .any ops l := by
    rw [mem_ready]
    refine ⟨h1, _, Array.getElem?_eq_getElem hi, fun e he hbe => ?_⟩
    rw [Array.getElem?_eq_getElem hi] at h2
    have h3 := (Array.all_eq_true_iff_forall_mem.1 h2) e he
    rw [hbe] at h3
    have h4 : e.on < i := by simpa using h3
    exact ih e.on h4 (by omega)
   rw [hr] at hm
   cases hm
 refine wpAny_inv (fun l a w => l.size = ops.size ∧ ((∃ j, 0 < j ∧ j ≤ tails.length ∧ (∀ i, i < ds.length + j → l.getD i false = true) ∧ (∀ i, ds.length + j ≤ i → l.getD i false = false) ∧ Tails P Q (tails.drop j) a w) ∨ ((∀ i, ds.length ≤ i → l.getD i false = false) ∧ DrawInvB ops a0 w0 ds V l a w))) ?_ ?_ _ _ _ _ (by simp) ?_
 ·rintro l a w hr ⟨hsz, ⟨j, j0, jt, hal, hno, hq⟩ | ⟨hno, hI⟩⟩
  ·have hall := full l hsz hr
   have : j = tails.length := by
    refine Classical.byContradiction fun hne => ?_
    have h1 := hall (ds.length + j) (by omega)
    rw [hno _ (Nat.le_refl _)] at h1
    cases h1
   subst this
   rw [List.drop_length] at hq
   exact hq
  ·have hall := full l hsz hr
   have h0 : tails.length = 0 := by
    refine Classical.byContradiction fun hne => ?_
    have h1 := hall ds.length (by omega)
    rw [hno _ (Nat.le_refl _)] at h1
    cases h1
   obtain rfl := List.length_eq_zero_iff.1 h0
   obtain ⟨vs, h1, h2, rfl⟩ := whole l a w hI (fun i hi => hall i (by omega))
   exact hfin vs w h1 h2 hI.below
 ·rintro l a w i hi ⟨hsz, hI⟩ K hK
  obtain ⟨hun, o, ho, hall⟩ := mem_ready.1 hi
  have hi8 := (Array.getElem?_eq_some_iff.1 ho).1
  have dep : ∀ i0 : Nat, o.after.any (fun e => Region.binds .any e && e.on == i0) = true → l.getD i0 false = true := fun i0 h => dep_of h hall
  rcases hI with ⟨j, j0, jt, hal, hno, hq⟩ | ⟨hnl, hI⟩
  ·have hij : i = ds.length + j := by
    refine Classical.byContradiction fun hne => ?_
    rcases Nat.lt_or_ge i (ds.length + j) with h | h
    ·exact not_listed' hun (hal i h)
    ·obtain ⟨j', rfl⟩ : ∃ j', i = ds.length + j' := ⟨i - ds.length, by omega⟩
     have hj' : j' < tails.length := by omega
     obtain ⟨h1, _, h3⟩ := htl j' _ (List.getElem?_eq_getElem hj')
     rw [ho] at h1
     injection h1 with h1
     have h4 := dep (ds.length + j) (by rw [h1]; exact h3 _ (by omega))
     rw [hno _ (Nat.le_refl _)] at h4
     cases h4
   subst hij
   have hj' : j < tails.length := by omega
   obtain ⟨h1, hg, _⟩ := htl j _ (List.getElem?_eq_getElem hj')
   rw [ho] at h1
   injection h1 with h1
   rw [List.drop_eq_getElem_cons hj', ← h1] at hq
   rw [← h1] at hg
   refine wpOp_plain ho hg (fun K' hK' => hq K' (fun a' w' hT => hK' _ _ (hK _ _ ⟨by rw [Array.size_setIfInBounds]; exact hsz, .inl ⟨j + 1, by omega, by omega, fun i hi => ?_, fun i hi => ?_, hT⟩⟩)))
   ·by_cases e : i = ds.length + j
    ·subst e; rw [Array.getD_eq_getD_getElem?, Array.getElem?_setIfInBounds_self_of_lt (by omega)]; rfl
    ·rw [getD_set_ne false (by omega)]; exact hal i (by omega)
   ·rw [getD_set_ne false (by omega)]; exact hno i (by omega)
  ·by_cases hil : i < ds.length
   ·have hd : ds[i]? = some (ds[i]'hil) := List.getElem?_eq_getElem _
    have hltd : ds[i]'hil < a.tmps.size := by rw [hI.size]; exact hlt' _ (List.getElem_mem hil)
    generalize ds[i]'hil = d at *
    obtain ⟨o', ho', hod⟩ := hdst i d hd
    rw [ho] at ho'
    injection ho' with ho'
    subst ho'
    -- the invariant behind it
    have next : ∀ v w', V i w' v → Below w.heap.size w w' → DrawInvB ops a0 w0 ds V (l.setIfInBounds i true) (a.put (some d) v) w' := by
     intro v w' hV hb
     refine ⟨fun k hk => (put_ne a _ (fun e : d = k => hk (by rw [← e]; exact List.mem_of_getElem? hd))).trans (hI.frame k hk), (put_size _ _ _).trans hI.size, hI.defers, Below.then_ hI.below hb, fun j d' hj hl => ?_, fun j oj hj hl e he hbe => ?_, by rw [Array.size_setIfInBounds]; exact hI.sz⟩
     ·by_cases e : j = i
      ·subst e
       rw [hd] at hj
       injection hj with hj
       subst hj
       exact ⟨v, put_eq _ _ hltd, hV⟩
      ·rcases bit_set hl with h | h
       ·exact absurd h e
       ·obtain ⟨v', h1, h2⟩ := hI.has j d' hj h
        refine ⟨v', ?_, hst j w w' v' hb h2⟩
        rw [put_ne _ _ (fun e' => e ?_)]
        ·exact h1
        ·obtain ⟨a1, a2⟩ := List.getElem?_eq_some_iff.1 hd
         obtain ⟨b1, b2⟩ := List.getElem?_eq_some_iff.1 hj
         exact (List.getElem_inj hnd).1 (b2.trans (e'.symm.trans a2.symm))
     ·have old : l.getD e.on false = true := by
       rcases bit_set hl with h | h
       ·subst h
        rw [ho] at hj
        injection hj with hj
        subst hj
        exact hall e he hbe
       ·exact hI.closed j oj hj h e he hbe
      by_cases e' : i = e.on
      ·rw [← e', Array.getD_eq_getD_getElem?, Array.getElem?_setIfInBounds_self_of_lt (by omega)]; rfl
      ·rw [getD_set_ne false e']; exact old
    have keep : ∀ v w', V i w' v → Below w.heap.size w w' → K (a.put (some d) v) w' := fun v w' hV hb => by
     refine hK _ _ ⟨by rw [Array.size_setIfInBounds]; exact hsz, .inr ⟨fun i' hi' => ?_, next v w' hV hb⟩⟩
     rw [getD_set_ne false (by omega)]; exact hnl i' hi'
    have hat : DrawAt a0 w0 ds V o a w := ⟨hI.frame, hI.below, fun j d' hj hb => hI.has j d' hj (dep_of hb hall)⟩
    rcases hstep i o d ho hd with ⟨hg, hs⟩ | ⟨j, b, dj, hg, hdj, hdep, hway⟩
    ·exact wpOp_plain ho hg (fun K' hK' => hs a w hat K' (fun v w' hV hb => hK' _ _ (keep v w' hV hb)))
    ·obtain ⟨oj, hoj, hoj'⟩ := hdst j dj hdj
     obtain ⟨vj, g1, g2⟩ := hat.dep j dj hdj hdep
     rcases hway with ⟨hv, hs⟩ | ⟨⟨c, hc, hv⟩, hu⟩
     ·rw [hv w vj g2] at g1
      exact wpOp_wanted ho hg hoj hoj' g1 (fun K' hK' => hs a w hat K' (fun v w' hV hb => hK' _ _ (keep v w' hV hb)))
     ·rw [hv w vj g2] at g1
      refine wpOp_unwanted ho hg hoj hoj' g1 hc ?_
      rw [hod]
      exact keep _ _ (hu w) ⟨rfl, rfl, rfl, Nat.le_refl _, fun _ _ => rfl⟩
   ·obtain ⟨j', rfl⟩ : ∃ j', i = ds.length + j' := ⟨i - ds.length, by omega⟩
    have hj' : j' < tails.length := by omega
    obtain ⟨h1, hg, h3⟩ := htl j' _ (List.getElem?_eq_getElem hj')
    rw [ho] at h1
    injection h1 with h1
    have h0 : j' = 0 := by
     refine Classical.byContradiction fun hne => ?_
     have h4 := dep ds.length (by rw [h1]; exact h3 _ (by omega))
     rw [hnl _ (Nat.le_refl _)] at h4
     cases h4
    subst h0
    obtain ⟨vs, g1, g2, rfl⟩ := whole l a w hI (fun i hi => dep i (by rw [h1]; exact h3 _ (by omega)))
    have hq := hfin vs w g1 g2 hI.below
    cases tails with
    | nil => simp at hj'
    | cons o' rest =>
     simp only [List.getElem_cons_zero] at h1 hg
     subst h1
     have hdone : ∀ i, i < ds.length → l.getD i false = true := fun i hi => dep i (h3 _ (by omega))
     refine wpOp_plain ho hg (fun K' hK' => hq K' (fun a' w' hT => hK' _ _ (hK _ _ ⟨by rw [Array.size_setIfInBounds]; exact hsz, .inl ⟨1, by omega, by simp, fun i hi => ?_, fun i hi => ?_, hT⟩⟩)))
     ·by_cases e : i = ds.length + 0
      ·subst e; rw [Array.getD_eq_getD_getElem?, Array.getElem?_setIfInBounds_self_of_lt (by omega)]; rfl
      ·rw [getD_set_ne false (by omega)]; exact hdone i (by omega)
     ·rw [getD_set_ne false (by omega)]; exact hnl i (by omega)
 ·refine ⟨by simp, .inr ⟨fun i _ => ?_, fun _ _ => rfl, rfl, rfl, ⟨rfl, rfl, rfl, Nat.le_refl _, fun _ _ => rfl⟩, fun i _ _ h => ?_, fun i o _ h => ?_, by simp⟩⟩
  ·rw [Array.getD_eq_getD_getElem?, Array.getElem?_replicate]; split <;> rfl
  ·rw [Array.getD_eq_getD_getElem?, Array.getElem?_replicate] at h
   split at h <;> simp at h
  ·rw [Array.getD_eq_getD_getElem?, Array.getElem?_replicate] at h
   split at h <;> simp at h
def tailsB (ops : Array Oper) (n : Nat) : Bool :=
 (List.range (ops.size - n)).all fun j => match ops[n + j]? with | some o => o.guard.isNone && (List.range (n + j)).all (fun i => o.after.any (fun e => Region.binds .any e && e.on == i)) | none => false
theorem tails_of {ops : Array Oper} {n : Nat} {tails : List Oper} (hlen : ops.size = n + tails.length) (h : tailsB ops n = true) (hat : ∀ j o, tails[j]? = some o → ops[n + j]? = some o) :
  ∀ j o, tails[j]? = some o → ops[n + j]? = some o ∧ o.guard = none ∧ ∀ i, i < n + j → o.after.any (fun e => Region.binds .any e && e.on == i) = true := by
 intro j o hj
 have hjl := (List.getElem?_eq_some_iff.1 hj).1
 have h1 := hat j o hj
 have h2 := List.all_eq_true.1 h j (List.mem_range.2 (by omega))
 rw [h1] at h2
 simp only [Bool.and_eq_true, Option.isNone_iff_eq_none] at h2
 exact ⟨h1, h2.1, fun i hi => List.all_eq_true.1 h2.2 i (List.mem_range.2 hi)⟩
end Pg
namespace Go.Proofs.YtahdlpkncemmaaaGreat
open Go.RowKit Pg
theorem drawT_core {id : Nat} {ops : Array Oper} {Q : Exit → Act → World → Prop} {a0 : Act} {w0 : World} (ds : List Nat) (hs : List Hd) (tails : List Oper)
  (hm : Tryz.prog.follows .mixedOrders = true) (hlen : ops.size = ds.length + tails.length) (hlh : hs.length = ds.length) (hnd : ds.Nodup) (hlt : ds.all (fun k => decide (k < a0.tmps.size)) = true)
  (hcl : closedB ops ds = true)
  (hstep : GSteps a0 w0 ds hs Q ops.toList ds hs)
  (htl : ∀ j o, tails[j]? = some o → ops[ds.length + j]? = some o ∧ o.guard = none ∧ ∀ i, i < ds.length + j → o.after.any (fun e => Region.binds .any e && e.on == i) = true)
  (hfin : ∀ vs w', AllHd w' hs vs → Below w0.heap.size w0 w' → Tails Tryz.prog Q tails (puts a0 ds vs) w') :
  (Code.region id ops true).wp Tryz.prog Q a0 w0 := by
 unfold closedB at hcl
 rw [Bool.and_eq_true] at hcl
 obtain ⟨hord, hall⟩ := hcl
 have point : ∀ (i : Nat) (o : Oper) (d : Nat), ops[i]? = some o → ds[i]? = some d → o.dst = some d ∧ ∀ j b, o.guard = some (j, b) → j < ds.length ∧ o.after.any (fun e => Region.binds .any e && e.on == j) = true := by
  intro i o d ho hd
  have h := List.all_eq_true.1 hall i (List.mem_range.2 (List.getElem?_eq_some_iff.1 hd).1)
  rw [ho, hd] at h
  simp only [Bool.and_eq_true, beq_iff_eq] at h
  refine ⟨h.1, fun j b hg => ?_⟩
  have h2 := h.2
  rw [hg] at h2
  simpa [Bool.and_eq_true] using h2
 refine drawT_region ds (hd hs) tails hm hlen hnd hlt (fun i d hd => ?_) hord (fun i w w' v hb h => ?_) (fun i o d ho hd => ?_) htl (fun vs w' h1 hv hb => hfin vs w' (allHd (h1.trans hlh.symm) hv) hb)
 ·have hi := (List.getElem?_eq_some_iff.1 hd).1
  have ho : ops[i]? = some (ops[i]'(by omega)) := Array.getElem?_eq_getElem _
  exact ⟨_, ho, (point i _ d ho hd).1⟩
 ·unfold hd at h ⊢
  split at h
  ·exact Hd.below hb h
  ·trivial
 ·obtain ⟨h, e, hh⟩ := hstep.at i o d (by rw [Array.getElem?_toList]; exact ho) hd
  have run : ∀ v w', h.ok w' v → Go.Proofs.YtahdlpkncemmaaaGreat.hd hs i w' v := fun v w' hv => by unfold Go.Proofs.YtahdlpkncemmaaaGreat.hd; rw [e]; exact hv
  unfold GStep at hh
  cases hg : o.guard with
  | none =>
   left
   refine ⟨rfl, fun a w hA K hK => ?_⟩
   unfold gway at hh
   rw [hg] at hh
   exact hh a w hA K (fun v w' hv hb => hK v w' (run v w' hv) hb)
  | some jb =>
   obtain ⟨j, b⟩ := jb
   right
   obtain ⟨hj, hdep⟩ := (point i o d ho hd).2 j b hg
   refine ⟨j, b, _, rfl, List.getElem?_eq_getElem hj, hdep, ?_⟩
   unfold gway at hh
   rw [hg] at hh
   simp only at hh
   cases hsj : hs[j]? with
   | none => rw [hsj] at hh; exact hh.elim
   | some hj' =>
    rw [hsj] at hh
    cases hj' with
    | row N => exact hh.elim
    | rat q => exact hh.elim
    | such p => exact hh.elim
    | is v0 =>
     cases v0 with
     | bool c =>
      simp only at hh
      have hval : ∀ w v, Go.Proofs.YtahdlpkncemmaaaGreat.hd hs j w v → v = .bool c := fun w v hv => by unfold Go.Proofs.YtahdlpkncemmaaaGreat.hd at hv; rw [hsj] at hv; exact hv
      cases hcb : (c == b) with
      | true =>
       rw [hcb] at hh
       left
       refine ⟨fun w v hv => by rw [hval w v hv, eq_of_beq hcb], fun a w hA K hK => hh a w hA K (fun v w' hv hb => hK v w' (run v w' hv) hb)⟩
      | false =>
       rw [hcb] at hh
       right
       refine ⟨⟨c, hcb, hval⟩, fun w => run _ _ ?_⟩
       have hu : h = .is undef := hh
       rw [hu]
       exact rfl
     | _ => exact hh.elim
theorem draw_last2 {id : Nat} {ops : Array Oper} {Q : Exit → Act → World → Prop} {a0 : Act} {w0 : World} (ds : List Nat) (hs : List Hd) {ty ty' ty2 : TypeId} {tp tv dd : Nat} {x : Operand} {ps ps2 : String} {af af2 : Array Edge}
  (hm : Tryz.prog.follows .mixedOrders = true) (hlen : ops.size = ds.length + 2) (hlh : hs.length = ds.length) (hnd : ds.Nodup) (hlt : ds.all (fun k => decide (k < a0.tmps.size)) = true)
  (hcl : closedB ops ds = true) (hcov : tailsB ops ds.length = true) (ho : ops[ds.length]? = some ⟨none, .store ty (.tmp tp) (.tmp tv), ty', ps, af, none⟩) (ho2 : ops[ds.length + 1]? = some ⟨some dd, .assign x, ty2, ps2, af2, none⟩)
  (hstep : GSteps a0 w0 ds hs Q ops.toList ds hs)
  (hfin : ∀ vs w', AllHd w' hs vs → Below w0.heap.size w0 w' → ∀ a, a = puts a0 ds vs → (∀ k v, ds.contains k = false → a0.tmps[k]? = some v → a.tmps.getD k undef = v) → (∀ (i d : Nat) v, ds[i]? = some d → vs[i]? = some v → a.tmps.getD d undef = v) → ∀ K : Act → World → Prop, (∀ a w, (∀ K2 : Act → World → Prop, (∀ a w, Q .normal a w → K2 a w) → Oper.wp Tryz.prog ⟨some dd, .assign x, ty2, ps2, af2, none⟩ a w K2 Q) → K a w) → Oper.wp Tryz.prog ⟨none, .store ty (.tmp tp) (.tmp tv), ty', ps, af, none⟩ a w' K Q) :
  (Code.region id ops true).wp Tryz.prog Q a0 w0 :=
 drawT_core ds hs [⟨none, .store ty (.tmp tp) (.tmp tv), ty', ps, af, none⟩, ⟨some dd, .assign x, ty2, ps2, af2, none⟩] hm hlen hlh hnd hlt hcl hstep
  (tails_of hlen hcov (fun j o hj => by
   match j, hj with
   | 0, hj => simp only [List.getElem?_cons_zero, Option.some.injEq] at hj; subst hj; exact ho
   | 1, hj => simp only [List.getElem?_cons_succ, List.getElem?_cons_zero, Option.some.injEq] at hj; subst hj; exact ho2
   | j + 2, hj => simp at hj))
  (fun vs w' h1 h2 K hK => hfin vs w' h1 h2 _ rfl
   (fun k v hk hv => getD_of ((puts_other ds vs a0 k (by intro hm; have := List.contains_iff_mem.2 hm; rw [hk] at this; cases this)).trans hv))
   (fun i d v hd hv => getD_of (puts_at ds vs a0 i d v hnd (fun d hd => by simpa using List.all_eq_true.1 hlt d hd) hd hv)) K hK)
end Go.Proofs.YtahdlpkncemmaaaGreat
