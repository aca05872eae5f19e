/- A region in whatever order Go carries it out, some operations guarded ('&&', '||'), a last one behind all others: by what each slot holds. Conditions: those that each theorem names. -/
import Derived.Test.YtgehoflkbckgkaaZ17
namespace Pg
open Go Go.RowKit

theorem wpOp_wanted {P : Program} {ops : Array Oper} {Q : Exit → Act → World → Prop} {i : Nat} {o : Oper} {K : Act → World → Prop} {a : Act} {w : World} {j d : Nat} {b : Bool} {oj : Oper} (ho : ops[i]? = some o) (hg : o.guard = some (j, b)) (hj : ops[j]? = some oj) (hd : oj.dst = some d) (hv : a.tmps[d]? = some (.bool b))
    (h : ∀ K' : Act → World → Prop, (∀ a w, K a w → K' a w) → Oper.wp P o a w K' Q) : wpOp P ops Q i K a w :=
  wpOp_step ho fun K' hK' => by
    have : Region.wanted o (yielded ops a.tmps) = true := by
      unfold Region.wanted yielded
      rw [hg]
      simp only [hj, Option.bind_some, hd, hv]
      simp
    rw [if_pos this]; exact h K' hK'
theorem wpOp_unwanted {P : Program} {ops : Array Oper} {Q : Exit → Act → World → Prop} {i : Nat} {o : Oper} {K : Act → World → Prop} {a : Act} {w : World} {j d : Nat} {b c : Bool} {oj : Oper} (ho : ops[i]? = some o) (hg : o.guard = some (j, b)) (hj : ops[j]? = some oj) (hd : oj.dst = some d) (hv : a.tmps[d]? = some (.bool c)) (hc : (c == b) = false)
    (h : K (a.put o.dst undef) w) : wpOp P ops Q i K a w := by
  have : Region.wanted o (yielded ops a.tmps) = false := by
    unfold Region.wanted yielded
    rw [hg]
    simp only [hj, Option.bind_some, hd, hv]
    simpa using hc
  unfold wpOp
  rw [ho]
  simp only [this]
  exact h

/-- What the region keeps: V i is what the i-th operation's slot holds. -/
structure DrawInvB (ops : Array Oper) (a0 : Act) (w0 : World) (ds : List Nat) (V : Nat → World → Value → Prop) (l : Array Bool) (a : Act) (w : World) : Prop where
  frame : ∀ k, k ∉ ds → a.tmps[k]? = a0.tmps[k]?
  size : a.tmps.size = a0.tmps.size
  defers : a.defers = a0.defers
  below : Below w0.heap.size w0 w
  has : ∀ i d, ds[i]? = some d → l.getD i false = true → ∃ v, a.tmps[d]? = some v ∧ V i w v
  closed : ∀ i o, ops[i]? = some o → l.getD i false = true → ∀ e ∈ o.after, Region.binds .any e = true → l.getD e.on false = true
  sz : l.size = ops.size

theorem not_listed' {l : Array Bool} {i : Nat} (h : l.getD i true = false) : ¬ l.getD i false = true := by
  rw [Array.getD_eq_getD_getElem?] at h ⊢
  cases hh : l[i]? with
  | none => rw [hh] at h; cases h
  | some b => rw [hh] at h; simp at h; subst h; simp
theorem listed_of {l : Array Bool} {i : Nat} (hi : i < l.size) (h : ¬ l.getD i false = true) : l.getD i true = false := by
  rw [Array.getD_eq_getD_getElem?] at h ⊢
  rw [Array.getElem?_eq_getElem hi] at h ⊢
  simpa using h
/-- Behind an operation that waits, through others, for all. -/
theorem all_of_closed {ops : Array Oper} {l : Array Bool} {n : Nat} (hcl : ∀ i o, ops[i]? = some o → l.getD i false = true → ∀ e ∈ o.after, Region.binds .any e = true → l.getD e.on false = true)
    (hcov : (List.range n).all (fun i => (List.range (n + 1)).any (fun j => decide (i < j) && (match ops[j]? with | some o => o.after.any (fun e => Region.binds .any e && e.on == i) | none => false))) = true)
    (hlast : ∀ o, ops[n]? = some o → ∀ e ∈ o.after, Region.binds .any e = true → l.getD e.on false = true) : ∀ k i, n - i ≤ k → i < n → l.getD i false = true := by
  intro k
  induction k with
  | zero => intro i h1 h2; omega
  | succ k ih =>
    intro i h1 h2
    have h := List.all_eq_true.1 hcov i (List.mem_range.2 h2)
    obtain ⟨j, hj, hb⟩ := List.any_eq_true.1 h
    have hj' := List.mem_range.1 hj
    simp only [Bool.and_eq_true, decide_eq_true_eq] at hb
    obtain ⟨hij, hb⟩ := hb
    cases ho : ops[j]? with
    | none => rw [ho] at hb; simp at hb
    | some o =>
      rw [ho] at hb
      by_cases hjn : j = n
      · subst hjn
        exact dep_of hb (hlast o ho)
      · exact dep_of hb (hcl j o ho (ih j (by omega) (by omega)))

/-- How a guard stands. -/
inductive Way where
  | runs
  | skips
theorem drawB_region {P : Program} {id : Nat} {ops : Array Oper} {Q : Exit → Act → World → Prop} {a0 : Act} {w0 : World} (ds : List Nat) (V : Nat → World → Value → Prop) (last : Bool)
    (hm : P.follows .mixedOrders = true) (hlen : ops.size = ds.length + last.toNat) (hnd : ds.Nodup) (hlt : ds.all (fun k => decide (k < a0.tmps.size)) = true)
    (hdst : ∀ (i d : Nat), ds[i]? = some d → ∃ o : Oper, ops[i]? = some o ∧ o.dst = some d)
    (hord : (List.range ops.size).all (fun i => match ops[i]? with | some o => o.after.all (fun e => !Region.binds .any e || decide (e.on < i)) | none => true) = true)
    (hcov : last = true → (List.range ds.length).all (fun i => (List.range (ds.length + 1)).any (fun j => decide (i < j) && (match ops[j]? with | some o => o.after.any (fun e => Region.binds .any e && e.on == i) | none => false))) = true)
    (hst : ∀ i w w' v, Below w.heap.size w w' → V i w v → V i w' v)
    (hstep : ∀ i o d, ops[i]? = some o → ds[i]? = some d →
      (o.guard = none ∧ ∀ a w, DrawAt a0 w0 ds V o a w → ∀ K : Act → World → Prop, (∀ v w', V i w' v → Below w.heap.size w w' → K (a.put (some d) v) w') → Oper.wp P o a w K Q) ∨
      (∃ j b dj, o.guard = some (j, b) ∧ ds[j]? = some dj ∧ o.after.any (fun e => Region.binds .any e && e.on == j) = true ∧
        (((∀ w v, V j w v → v = .bool b) ∧ ∀ a w, DrawAt a0 w0 ds V o a w → ∀ K : Act → World → Prop, (∀ v w', V i w' v → Below w.heap.size w w' → K (a.put (some d) v) w') → Oper.wp P o a w K Q) ∨
         ((∃ c, (c == b) = false ∧ ∀ w v, V j w v → v = .bool c) ∧ ∀ w, V i w undef))))
    (hlast : last = true → ∀ o, ops[ds.length]? = some o → o.guard = none ∧ ∀ vs w', vs.length = ds.length → (∀ i v, vs[i]? = some v → V i w' v) → Below w0.heap.size w0 w' → ∀ K : Act → World → Prop, (∀ a w, Q .normal a w → K a w) → Oper.wp P o (puts a0 ds vs) w' K Q)
    (hfin : last = false → ∀ vs w', vs.length = ds.length → (∀ i v, vs[i]? = some v → V i w' v) → Below w0.heap.size w0 w' → Q .normal (puts a0 ds vs) w') :
    (Code.region id ops true).wp P Q a0 w0 := by
  have hlt' : ∀ d ∈ ds, d < a0.tmps.size := fun d hd => by simpa using List.all_eq_true.1 hlt d hd
  -- all have run: the slots
  have whole : ∀ l a w, DrawInvB ops a0 w0 ds V l a w → (∀ i, i < ds.length → l.getD i false = true) → ∃ vs, vs.length = ds.length ∧ (∀ i v, vs[i]? = some v → V i w v) ∧ a = puts a0 ds vs := by
    intro l a w hI hall
    have hv : ∀ i, i < ds.length → ∃ v, (∀ d, ds[i]? = some d → a.tmps[d]? = some v) ∧ V i w v := by
      intro i hi
      obtain ⟨v, h1, h2⟩ := hI.has i (ds[i]) (List.getElem?_eq_getElem hi) (hall i hi)
      exact ⟨v, fun d hd => by rw [List.getElem?_eq_getElem hi] at hd; injection hd with hd; rw [← hd]; exact h1, h2⟩
    have hvs : ∃ vs : List Value, vs.length = ds.length ∧ ∀ i v, vs[i]? = some v → (∀ d, ds[i]? = some d → a.tmps[d]? = some v) ∧ V i w v := by
      refine ⟨List.ofFn fun i : Fin ds.length => Classical.choose (hv i.1 i.2), by simp, fun i v hi => ?_⟩
      rw [List.getElem?_ofFn] at hi
      split at hi
      · injection hi with hi
        subst hi
        rename_i hlt
        exact Classical.choose_spec (hv i hlt)
      · cases hi
    obtain ⟨vs, hl, hvs⟩ := hvs
    refine ⟨vs, hl, fun i v h => (hvs i v h).2, ?_⟩
    have e1 : a.tmps = (puts a0 ds vs).tmps := by
      apply Array.ext_getElem?
      intro k
      by_cases hk : k ∈ ds
      · obtain ⟨i, hi, rfl⟩ := List.getElem_of_mem hk
        have h1 : vs[i]? = some (vs[i]'(by omega)) := List.getElem?_eq_getElem _
        rw [(hvs i _ h1).1 _ (List.getElem?_eq_getElem hi), puts_at ds vs a0 i _ _ hnd hlt' (List.getElem?_eq_getElem hi) h1]
      · rw [hI.frame k hk, puts_other ds vs a0 k hk]
    have e2 : a.defers = (puts a0 ds vs).defers := by rw [puts_defers]; exact hI.defers
    cases a
    cases h : puts a0 ds vs
    rw [h] at e1 e2
    simp only at e1 e2
    rw [e1, e2]
  refine wp_region_any hm ?_
  refine wpAny_inv (fun l a w => l.size = ops.size ∧ ((last = true ∧ l.getD ds.length false = true ∧ (∀ i, i < ds.length → l.getD i false = true) ∧ Q .normal a w) ∨ ((last = true → l.getD ds.length false = false) ∧ DrawInvB ops a0 w0 ds V l a w))) ?_ ?_ _ _ _ _ (by simp) ?_
  · rintro l a w hr ⟨hsz, ⟨_, _, _, hq⟩ | ⟨hnl, hI⟩⟩
    · exact hq
    · have hall : ∀ i, i < ops.size → l.getD i false = true := by
        intro i
        induction i using Nat.strongRecOn with
        | ind i ih =>
          intro hi
          refine Classical.byContradiction fun hn => ?_
          have h1 : l.getD i true = false := listed_of (by omega) hn
          rw [List.all_eq_true] at hord
          have h2 := hord i (List.mem_range.2 hi)
          have hm : i ∈ Region.ready .any ops l := by
            rw [mem_ready]
            refine ⟨h1, _, Array.getElem?_eq_getElem hi, fun e he hbe => ?_⟩
            rw [Array.getElem?_eq_getElem hi] at h2
            have h3 := (Array.all_eq_true_iff_forall_mem.1 h2) e he
            rw [hbe] at h3
            have h4 : e.on < i := by simpa using h3
            exact ih e.on h4 (by omega)
          rw [hr] at hm
          cases hm
      cases hlb : last with
      | true =>
        have := hall ds.length (by rw [hlen, hlb]; exact Nat.lt_succ_self _)
        rw [hnl hlb] at this
        cases this
      | false =>
        obtain ⟨vs, h1, h2, rfl⟩ := whole l a w hI (fun i hi => hall i (by omega))
        exact hfin hlb vs w h1 h2 hI.below
  · rintro l a w i hi ⟨hsz, hI⟩ K hK
    obtain ⟨hun, o, ho, hall⟩ := mem_ready.1 hi
    have hi8 := (Array.getElem?_eq_some_iff.1 ho).1
    rcases hI with ⟨hl, hn, hal, _⟩ | ⟨hnl, hI⟩
    · exfalso
      rw [hl] at hlen
      have : i = ds.length ∨ i < ds.length := by simp at hlen; omega
      rcases this with rfl | h
      · exact not_listed' hun hn
      · exact not_listed' hun (hal i h)
    · by_cases hil : i < ds.length
      · have hd : ds[i]? = some (ds[i]'hil) := List.getElem?_eq_getElem _
        have hltd : ds[i]'hil < a.tmps.size := by rw [hI.size]; exact hlt' _ (List.getElem_mem hil)
        generalize ds[i]'hil = d at *
        obtain ⟨o', ho', hod⟩ := hdst i d hd
        rw [ho] at ho'
        injection ho' with ho'
        subst ho'
        -- the invariant behind it
        have next : ∀ v w', V i w' v → Below w.heap.size w w' → DrawInvB ops a0 w0 ds V (l.setIfInBounds i true) (a.put (some d) v) w' := by
          intro v w' hV hb
          refine ⟨fun k hk => (put_ne a _ (fun e : d = k => hk (by rw [← e]; exact List.mem_of_getElem? hd))).trans (hI.frame k hk), (put_size _ _ _).trans hI.size, hI.defers, Below.then_ hI.below hb, fun j d' hj hl => ?_, fun j oj hj hl e he hbe => ?_, by rw [Array.size_setIfInBounds]; exact hI.sz⟩
          · by_cases e : j = i
            · subst e
              rw [hd] at hj
              injection hj with hj
              subst hj
              exact ⟨v, put_eq _ _ hltd, hV⟩
            · rcases bit_set hl with h | h
              · exact absurd h e
              · obtain ⟨v', h1, h2⟩ := hI.has j d' hj h
                refine ⟨v', ?_, hst j w w' v' hb h2⟩
                rw [put_ne _ _ (fun e' => e ?_)]
                · exact h1
                · obtain ⟨a1, a2⟩ := List.getElem?_eq_some_iff.1 hd
                  obtain ⟨b1, b2⟩ := List.getElem?_eq_some_iff.1 hj
                  exact (List.getElem_inj hnd).1 (b2.trans (e'.symm.trans a2.symm))
          · have old : l.getD e.on false = true := by
              rcases bit_set hl with h | h
              · subst h
                rw [ho] at hj
                injection hj with hj
                subst hj
                exact hall e he hbe
              · exact hI.closed j oj hj h e he hbe
            by_cases e' : i = e.on
            · rw [← e', Array.getD_eq_getD_getElem?, Array.getElem?_setIfInBounds_self_of_lt (by omega)]; rfl
            · rw [getD_set_ne false e']; exact old
        have keep : ∀ v w', V i w' v → Below w.heap.size w w' → K (a.put (some d) v) w' := fun v w' hV hb => by
          refine hK _ _ ⟨by rw [Array.size_setIfInBounds]; exact hsz, .inr ⟨fun hl => ?_, next v w' hV hb⟩⟩
          rw [getD_set_ne false (by omega)]; exact hnl hl
        have hat : DrawAt a0 w0 ds V o a w := ⟨hI.frame, hI.below, fun j d' hj hb => hI.has j d' hj (dep_of hb hall)⟩
        rcases hstep i o d ho hd with ⟨hg, hs⟩ | ⟨j, b, dj, hg, hdj, hdep, hway⟩
        · exact wpOp_plain ho hg (fun K' hK' => hs a w hat K' (fun v w' hV hb => hK' _ _ (keep v w' hV hb)))
        · obtain ⟨oj, hoj, hoj'⟩ := hdst j dj hdj
          obtain ⟨vj, g1, g2⟩ := hat.dep j dj hdj hdep
          rcases hway with ⟨hv, hs⟩ | ⟨⟨c, hc, hv⟩, hu⟩
          · rw [hv w vj g2] at g1
            exact wpOp_wanted ho hg hoj hoj' g1 (fun K' hK' => hs a w hat K' (fun v w' hV hb => hK' _ _ (keep v w' hV hb)))
          · rw [hv w vj g2] at g1
            refine wpOp_unwanted ho hg hoj hoj' g1 hc ?_
            rw [hod]
            exact keep _ _ (hu w) ⟨rfl, rfl, rfl, Nat.le_refl _, fun _ _ => rfl⟩
      · cases hlb : last with
        | false => rw [hlb] at hlen; simp at hlen; omega
        | true =>
          have hin : i = ds.length := by rw [hlb] at hlen; simp at hlen; omega
          subst hin
          obtain ⟨hg, hs⟩ := hlast hlb o ho
          have hdone : ∀ i, i < ds.length → l.getD i false = true := fun i hi => all_of_closed hI.closed (hcov hlb) (fun o' ho' => by rw [ho] at ho'; injection ho' with ho'; subst ho'; exact hall) _ i (Nat.le_refl _) hi
          obtain ⟨vs, h1, h2, rfl⟩ := whole l a w hI hdone
          refine wpOp_plain ho hg (fun K' hK' => hs vs w h1 h2 hI.below K' (fun a' w' hq => hK' _ _ (hK _ _ ⟨by rw [Array.size_setIfInBounds]; exact hsz, .inl ⟨hlb, ?_, fun i hi => ?_, hq⟩⟩)))
          · rw [Array.getD_eq_getD_getElem?, Array.getElem?_setIfInBounds_self_of_lt (by omega)]; rfl
          · rw [getD_set_ne false (by omega)]; exact hdone i hi
  · refine ⟨by simp, .inr ⟨fun _ => ?_, fun _ _ => rfl, rfl, rfl, ⟨rfl, rfl, rfl, Nat.le_refl _, fun _ _ => rfl⟩, fun i _ _ h => ?_, fun i o _ h => ?_, by simp⟩⟩
    · rw [Array.getD_eq_getD_getElem?, Array.getElem?_replicate]; split <;> rfl
    · rw [Array.getD_eq_getD_getElem?, Array.getElem?_replicate] at h
      split at h <;> simp at h
    · rw [Array.getD_eq_getD_getElem?, Array.getElem?_replicate] at h
      split at h <;> simp at h
end Pg
namespace Go.Proofs.Ytgehoflkbckgkaa
open Go.RowKit Pg
/-- What a slot of a region holds. -/
inductive Hd where
  | is (v : Value)
  | row (N : Nat)
  | rat (q : Rat)
  | such (p : World → Value → Prop)
def Hd.ok : Hd → World → Value → Prop
  | .is v0, _, v => v = v0
  | .row N, w, v => ∃ A c, v = .slice A (limbs N).length c ∧ Row w A (limbs N).length c (limbs N)
  | .rat q, w, v => IsQ w q v
  | .such p, w, v => ∀ w', Below w.heap.size w w' → p w' v
theorem Hd.below {h : Hd} {w w' : World} {v : Value} (hb : Below w.heap.size w w') (hk : h.ok w v) : h.ok w' v := by
  cases h with
  | is v0 => exact hk
  | row N => obtain ⟨A, c, e, hr⟩ := hk; exact ⟨A, c, e, hr.below hb⟩
  | rat q => exact IsQ.below hk hb
  | such p => exact fun w2 h2 => hk w2 (Below.then_ hb h2)
def hd (hs : List Hd) (i : Nat) (w : World) (v : Value) : Prop := match hs[i]? with | some h => h.ok w v | none => True
/-- Does an operation run, by its guard? -/
def gway (hs : List Hd) (o : Oper) : Option Bool := match o.guard with
  | none => some true
  | some (j, b) => match hs[j]? with
    | some (.is (.bool c)) => some (c == b)
    | _ => none
def GStep (a0 : Act) (w0 : World) (ds : List Nat) (hs : List Hd) (Q : Exit → Act → World → Prop) (o : Oper) (d : Nat) (h : Hd) : Prop :=
  match gway hs o with
  | some true => ∀ a w, DrawAt a0 w0 ds (hd hs) o a w → ∀ K : Act → World → Prop, (∀ v w', h.ok w' v → Below w.heap.size w w' → K (a.put (some d) v) w') → Oper.wp Try.prog o a w K Q
  | some false => h = .is undef
  | none => False
def GSteps (a0 : Act) (w0 : World) (ds : List Nat) (hs : List Hd) (Q : Exit → Act → World → Prop) : List Oper → List Nat → List Hd → Prop
  | o :: os, d :: ds', h :: hs' => GStep a0 w0 ds hs Q o d h ∧ GSteps a0 w0 ds hs Q os ds' hs'
  | _, [], [] => True
  | _, _, _ => False
theorem GSteps.at {a0 : Act} {w0 : World} {ds : List Nat} {hs : List Hd} {Q : Exit → Act → World → Prop} : ∀ {os : List Oper} {ds' : List Nat} {hs' : List Hd}, GSteps a0 w0 ds hs Q os ds' hs' → ∀ (i : Nat) (o : Oper) (d : Nat), os[i]? = some o → ds'[i]? = some d →
    ∃ h, hs'[i]? = some h ∧ GStep a0 w0 ds hs Q o d h
  | o :: os, d :: ds', h :: hs', hd, 0, o', d', ho, hd' => by
    simp only [List.getElem?_cons_zero, Option.some.injEq] at ho hd'
    subst ho hd'
    exact ⟨h, rfl, hd.1⟩
  | o :: os, d :: ds', h :: hs', hd, i + 1, o', d', ho, hd' => by
    obtain ⟨h', e, hh⟩ := GSteps.at hd.2 i o' d' (by simpa using ho) (by simpa using hd')
    exact ⟨h', by simpa using e, hh⟩
  | _, [], [], _, i, o', d', _, hd' => by simp at hd'
  | [], _ :: _, _, h, _, _, _, _, _ => h.elim
  | _ :: _, _ :: _, [], h, _, _, _, _, _ => h.elim
  | [], [], _ :: _, h, _, _, _, _, _ => h.elim
  | _ :: _, [], _ :: _, h, _, _, _, _, _ => h.elim
theorem bt_is {a0 : Act} {w0 : World} {ds : List Nat} {hs : List Hd} {o : Oper} {a : Act} {w : World} (h : DrawAt a0 w0 ds (hd hs) o a w) (j d : Nat) {v : Value} (hd : ds[j]? = some d) (hh : hs[j]? = some (.is v)) (ho : o.after.any (fun e => Region.binds .any e && e.on == j) = true) : a.tmps.getD d undef = v := by
  obtain ⟨v', h1, h2⟩ := h.new j d hd ho
  unfold Go.Proofs.Ytgehoflkbckgkaa.hd at h2
  rw [hh] at h2
  rw [h1]; exact h2
theorem bt_row {a0 : Act} {w0 : World} {ds : List Nat} {hs : List Hd} {o : Oper} {a : Act} {w : World} (h : DrawAt a0 w0 ds (hd hs) o a w) (j d : Nat) {N : Nat} (hd : ds[j]? = some d) (hh : hs[j]? = some (.row N)) (ho : o.after.any (fun e => Region.binds .any e && e.on == j) = true) :
    ∃ A c, a.tmps.getD d undef = .slice A (limbs N).length c ∧ Row w A (limbs N).length c (limbs N) := by
  obtain ⟨v', h1, h2⟩ := h.new j d hd ho
  unfold Go.Proofs.Ytgehoflkbckgkaa.hd at h2
  rw [hh] at h2
  obtain ⟨A, c, e, hr⟩ := h2
  exact ⟨A, c, h1.trans e, hr⟩
theorem bt_rat {a0 : Act} {w0 : World} {ds : List Nat} {hs : List Hd} {o : Oper} {a : Act} {w : World} (h : DrawAt a0 w0 ds (hd hs) o a w) (j d : Nat) {q : Rat} (hd : ds[j]? = some d) (hh : hs[j]? = some (.rat q)) (ho : o.after.any (fun e => Region.binds .any e && e.on == j) = true) :
    ∃ A c A' c', a.tmps.getD d undef = .agg #[.bool (rneg q), .slice A (limbs (rnum q)).length c, .slice A' (limbs q.den).length c'] ∧ Row w A (limbs (rnum q)).length c (limbs (rnum q)) ∧ Row w A' (limbs q.den).length c' (limbs q.den) := by
  obtain ⟨v', h1, h2⟩ := h.new j d hd ho
  unfold Go.Proofs.Ytgehoflkbckgkaa.hd at h2
  rw [hh] at h2
  obtain ⟨A, c, A', c', e, hr⟩ := h2
  exact ⟨A, c, A', c', h1.trans e, hr⟩
theorem bt_such {a0 : Act} {w0 : World} {ds : List Nat} {hs : List Hd} {o : Oper} {a : Act} {w : World} (h : DrawAt a0 w0 ds (hd hs) o a w) (j d : Nat) {p : World → Value → Prop} (hd : ds[j]? = some d) (hh : hs[j]? = some (.such p)) (ho : o.after.any (fun e => Region.binds .any e && e.on == j) = true) :
    ∃ v, a.tmps.getD d undef = v ∧ ∀ w', Below w.heap.size w w' → p w' v := by
  obtain ⟨v', h1, h2⟩ := h.new j d hd ho
  unfold Go.Proofs.Ytgehoflkbckgkaa.hd at h2
  rw [hh] at h2
  exact ⟨v', h1, h2⟩
/-- What the slots hold in the end. -/
def AllHd (w : World) : List Hd → List Value → Prop
  | h :: hs, v :: vs => h.ok w v ∧ AllHd w hs vs
  | [], [] => True
  | _, _ => False
theorem allHd {w : World} : ∀ {hs : List Hd} {vs : List Value}, vs.length = hs.length → (∀ i v, vs[i]? = some v → hd hs i w v) → AllHd w hs vs
  | [], [], _, _ => trivial
  | [], _ :: _, h, _ => by simp at h
  | _ :: _, [], h, _ => by simp at h
  | h :: hs, v :: vs, hl, hv => ⟨hv 0 v rfl, allHd (by simpa using hl) (fun i v' hi => by have := hv (i + 1) v' (by simpa using hi); unfold hd at this ⊢; simpa using this)⟩
theorem AllHd.is_ {w : World} {v : Value} {hs : List Hd} {vs : List Value} (h : AllHd w (.is v :: hs) vs) : ∃ vs', vs = v :: vs' ∧ AllHd w hs vs' := by
  cases vs with
  | nil => exact h.elim
  | cons u us => obtain ⟨h1, h2⟩ := h; exact ⟨us, by rw [show u = v from h1], h2⟩
theorem AllHd.row_ {w : World} {N : Nat} {hs : List Hd} {vs : List Value} (h : AllHd w (.row N :: hs) vs) : ∃ A c vs', vs = .slice A (limbs N).length c :: vs' ∧ Row w A (limbs N).length c (limbs N) ∧ AllHd w hs vs' := by
  cases vs with
  | nil => exact h.elim
  | cons u us => obtain ⟨⟨A, c, e, hr⟩, h2⟩ := h; exact ⟨A, c, us, by rw [e], hr, h2⟩
theorem AllHd.rat_ {w : World} {q : Rat} {hs : List Hd} {vs : List Value} (h : AllHd w (.rat q :: hs) vs) : ∃ A c A' c' vs', vs = .agg #[.bool (rneg q), .slice A (limbs (rnum q)).length c, .slice A' (limbs q.den).length c'] :: vs' ∧ Row w A (limbs (rnum q)).length c (limbs (rnum q)) ∧ Row w A' (limbs q.den).length c' (limbs q.den) ∧ AllHd w hs vs' := by
  cases vs with
  | nil => exact h.elim
  | cons u us => obtain ⟨⟨A, c, A', c', e, h1, h3⟩, h2⟩ := h; exact ⟨A, c, A', c', us, by rw [e], h1, h3, h2⟩
theorem AllHd.such_ {w : World} {p : World → Value → Prop} {hs : List Hd} {vs : List Value} (h : AllHd w (.such p :: hs) vs) : ∃ v vs', vs = v :: vs' ∧ (∀ w', Below w.heap.size w w' → p w' v) ∧ AllHd w hs vs' := by
  cases vs with
  | nil => exact h.elim
  | cons u us => obtain ⟨h1, h2⟩ := h; exact ⟨u, us, rfl, h1, h2⟩
theorem AllHd.nil_ {w : World} {vs : List Value} (h : AllHd w [] vs) : vs = [] := by
  cases vs with
  | nil => rfl
  | cons u us => exact h.elim
/-- Closed facts of a region. -/
def closedB (ops : Array Oper) (ds : List Nat) : Bool :=
  (List.range ops.size).all (fun i => match ops[i]? with | some o => o.after.all (fun e => !Region.binds .any e || decide (e.on < i)) | none => true) &&
  (List.range ds.length).all (fun i => match ops[i]?, ds[i]? with | some o, some d => o.dst == some d && (match o.guard with | none => true | some (j, _) => decide (j < ds.length) && o.after.any (fun e => Region.binds .any e && e.on == j)) | _, _ => false)
def coverB (ops : Array Oper) (n : Nat) : Bool :=
  (List.range n).all (fun i => (List.range (n + 1)).any (fun j => decide (i < j) && (match ops[j]? with | some o => o.after.any (fun e => Region.binds .any e && e.on == i) | none => false)))
theorem drawB_core {id : Nat} {ops : Array Oper} {Q : Exit → Act → World → Prop} {a0 : Act} {w0 : World} (ds : List Nat) (hs : List Hd) (last : Bool)
    (hm : Try.prog.follows .mixedOrders = true) (hlen : ops.size = ds.length + last.toNat) (hlh : hs.length = ds.length) (hnd : ds.Nodup) (hlt : ds.all (fun k => decide (k < a0.tmps.size)) = true)
    (hcl : closedB ops ds = true) (hcov : last = true → coverB ops ds.length = true)
    (hstep : GSteps a0 w0 ds hs Q ops.toList ds hs)
    (hlast : last = true → ∀ o, ops[ds.length]? = some o → o.guard = none ∧ ∀ vs w', AllHd w' hs vs → Below w0.heap.size w0 w' → ∀ K : Act → World → Prop, (∀ a w, Q .normal a w → K a w) → Oper.wp Try.prog o (puts a0 ds vs) w' K Q)
    (hfin : last = false → ∀ vs w', AllHd w' hs vs → Below w0.heap.size w0 w' → Q .normal (puts a0 ds vs) w') :
    (Code.region id ops true).wp Try.prog Q a0 w0 := by
  unfold closedB at hcl
  rw [Bool.and_eq_true] at hcl
  obtain ⟨hord, hall⟩ := hcl
  have point : ∀ (i : Nat) (o : Oper) (d : Nat), ops[i]? = some o → ds[i]? = some d → o.dst = some d ∧ ∀ j b, o.guard = some (j, b) → j < ds.length ∧ o.after.any (fun e => Region.binds .any e && e.on == j) = true := by
    intro i o d ho hd
    have h := List.all_eq_true.1 hall i (List.mem_range.2 (List.getElem?_eq_some_iff.1 hd).1)
    rw [ho, hd] at h
    simp only [Bool.and_eq_true, beq_iff_eq] at h
    refine ⟨h.1, fun j b hg => ?_⟩
    have h2 := h.2
    rw [hg] at h2
    simpa [Bool.and_eq_true] using h2
  refine drawB_region ds (hd hs) last hm hlen hnd hlt (fun i d hd => ?_) hord hcov (fun i w w' v hb h => ?_) (fun i o d ho hd => ?_) (fun hl o ho => ?_) (fun hl vs w' h1 hv hb => hfin hl vs w' (allHd (h1.trans hlh.symm) hv) hb)
  · have hi := (List.getElem?_eq_some_iff.1 hd).1
    have ho : ops[i]? = some (ops[i]'(by omega)) := Array.getElem?_eq_getElem _
    exact ⟨_, ho, (point i _ d ho hd).1⟩
  · unfold hd at h ⊢
    split at h
    · exact Hd.below hb h
    · trivial
  · obtain ⟨h, e, hh⟩ := hstep.at i o d (by rw [Array.getElem?_toList]; exact ho) hd
    have run : ∀ v w', h.ok w' v → Go.Proofs.Ytgehoflkbckgkaa.hd hs i w' v := fun v w' hv => by unfold Go.Proofs.Ytgehoflkbckgkaa.hd; rw [e]; exact hv
    unfold GStep at hh
    cases hg : o.guard with
    | none =>
      left
      refine ⟨rfl, fun a w hA K hK => ?_⟩
      unfold gway at hh
      rw [hg] at hh
      exact hh a w hA K (fun v w' hv hb => hK v w' (run v w' hv) hb)
    | some jb =>
      obtain ⟨j, b⟩ := jb
      right
      obtain ⟨hj, hdep⟩ := (point i o d ho hd).2 j b hg
      refine ⟨j, b, _, rfl, List.getElem?_eq_getElem hj, hdep, ?_⟩
      unfold gway at hh
      rw [hg] at hh
      simp only at hh
      cases hsj : hs[j]? with
      | none => rw [hsj] at hh; exact hh.elim
      | some hj' =>
        rw [hsj] at hh
        cases hj' with
        | row N => exact hh.elim
        | rat q => exact hh.elim
        | such p => exact hh.elim
        | is v0 =>
          cases v0 with
          | bool c =>
            simp only at hh
            have hval : ∀ w v, Go.Proofs.Ytgehoflkbckgkaa.hd hs j w v → v = .bool c := fun w v hv => by unfold Go.Proofs.Ytgehoflkbckgkaa.hd at hv; rw [hsj] at hv; exact hv
            cases hcb : (c == b) with
            | true =>
              rw [hcb] at hh
              left
              refine ⟨fun w v hv => by rw [hval w v hv, eq_of_beq hcb], fun a w hA K hK => hh a w hA K (fun v w' hv hb => hK v w' (run v w' hv) hb)⟩
            | false =>
              rw [hcb] at hh
              right
              refine ⟨⟨c, hcb, hval⟩, fun w => run _ _ ?_⟩
              have hu : h = .is undef := hh
              rw [hu]
              exact rfl
          | _ => exact hh.elim
  · obtain ⟨g, hh⟩ := hlast hl o ho
    exact ⟨g, fun vs w' h1 hv hb K hK => hh vs w' (allHd (h1.trans hlh.symm) hv) hb K hK⟩
/-- The rule; operations may be guarded. -/
theorem draw_hd {id : Nat} {ops : Array Oper} {Q : Exit → Act → World → Prop} {a0 : Act} {w0 : World} (ds : List Nat) (hs : List Hd)
    (hm : Try.prog.follows .mixedOrders = true) (hlen : ops.size = ds.length) (hlh : hs.length = ds.length) (hnd : ds.Nodup) (hlt : ds.all (fun k => decide (k < a0.tmps.size)) = true)
    (hcl : closedB ops ds = true)
    (hstep : GSteps a0 w0 ds hs Q ops.toList ds hs)
    (hfin : ∀ vs w', AllHd w' hs vs → Below w0.heap.size w0 w' → ∀ a, a = puts a0 ds vs → Q .normal a w') :
    (Code.region id ops true).wp Try.prog Q a0 w0 :=
  drawB_core ds hs false hm hlen hlh hnd hlt hcl (by intro h; cases h) hstep (by intro h; cases h) (fun _ vs w' h1 h2 => hfin vs w' h1 h2 _ rfl)
/-- The rule; the last operation is a store that waits for all. -/
theorem draw_last {id : Nat} {ops : Array Oper} {Q : Exit → Act → World → Prop} {a0 : Act} {w0 : World} (ds : List Nat) (hs : List Hd) {ty ty' : TypeId} {tp tv : Nat} {ps : String} {af : Array Edge}
    (hm : Try.prog.follows .mixedOrders = true) (hlen : ops.size = ds.length + 1) (hlh : hs.length = ds.length) (hnd : ds.Nodup) (hlt : ds.all (fun k => decide (k < a0.tmps.size)) = true)
    (hcl : closedB ops ds = true) (hcov : coverB ops ds.length = true) (ho : ops[ds.length]? = some ⟨none, .store ty (.tmp tp) (.tmp tv), ty', ps, af, none⟩)
    (hstep : GSteps a0 w0 ds hs Q ops.toList ds hs)
    (hfin : ∀ vs w', AllHd w' hs vs → Below w0.heap.size w0 w' → ∀ a, a = puts a0 ds vs → (∀ k v, ds.contains k = false → a0.tmps[k]? = some v → a.tmps.getD k undef = v) → (∀ (i d : Nat) v, ds[i]? = some d → vs[i]? = some v → a.tmps.getD d undef = v) → ∀ K : Act → World → Prop, (∀ a w, Q .normal a w → K a w) → Oper.wp Try.prog ⟨none, .store ty (.tmp tp) (.tmp tv), ty', ps, af, none⟩ a w' K Q) :
    (Code.region id ops true).wp Try.prog Q a0 w0 :=
  drawB_core ds hs true hm hlen hlh hnd hlt hcl (fun _ => hcov) hstep (fun _ o' ho' => by rw [ho] at ho'; injection ho' with ho'; subst ho'; exact ⟨rfl, fun vs w' h1 h2 K hK => hfin vs w' h1 h2 _ rfl
    (fun k v hk hv => getD_of ((puts_other ds vs a0 k (by intro hm; have := List.contains_iff_mem.2 hm; rw [hk] at this; cases this)).trans hv))
    (fun i d v hd hv => getD_of (puts_at ds vs a0 i d v hnd (fun d hd => by simpa using List.all_eq_true.1 hlt d hd) hd hv)) K hK⟩) (by intro h; cases h)
end Go.Proofs.Ytgehoflkbckgkaa
