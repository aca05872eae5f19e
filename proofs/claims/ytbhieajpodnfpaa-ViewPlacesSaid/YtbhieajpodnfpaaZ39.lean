/- A region in whatever order Go carries it out, a last assignment to a slot that the region also reads. Conditions: those that each theorem names. -/
import Derived.Test.YtbhieajpodnfpaaZ17
namespace Go.Proofs.Ytbhieajpodnfpaa
open Go.RowKit Pg
/-- The rule; the last operation is an assignment that waits for all. -/
theorem draw_asg {id : Nat} {ops : Array Oper} {Q : Exit → Act → World → Prop} {a0 : Act} {w0 : World} (ds : List Nat) (hs : List Hd) (d i : Nat) {ty' : TypeId} {tv : Nat} {ps : String} {af : Array Edge}
    (hm : Try.prog.follows .mixedOrders = true) (hlen : ops.size = ds.length + 1) (hlh : hs.length = ds.length) (hnd : ds.Nodup) (hlt : ds.all (fun k => decide (k < a0.tmps.size)) = true)
    (hcl : closedB ops ds = true) (hcov : coverB ops ds.length = true) (ho : ops[ds.length]? = some ⟨some d, .assign (.tmp tv), ty', ps, af, none⟩) (hi : ds[i]? = some tv)
    (hstep : GSteps a0 w0 ds hs Q ops.toList ds hs)
    (hfin : ∀ vs w', AllHd w' hs vs → Below w0.heap.size w0 w' → ∀ a, a = puts a0 ds vs → ∀ v, vs[i]? = some v → Q .normal (a.put (some d) v) w') :
    (Code.region id ops true).wp Try.prog Q a0 w0 := by
  refine drawB_core ds hs true hm hlen hlh hnd hlt hcl (fun _ => hcov) hstep (fun _ o' ho' => ?_) (by intro h; cases h)
  rw [ho] at ho'
  injection ho' with ho'
  subst ho'
  refine ⟨rfl, fun vs w' h1 h2 K hK => ?_⟩
  have h1' := h1
  have hl : ∀ (hs : List Hd) (vs : List Value), AllHd w' hs vs → vs.length = hs.length := by
    intro hs
    induction hs with
    | nil => intro vs h; rw [AllHd.nil_ h]; rfl
    | cons x hs ih =>
      intro vs h
      cases vs with
      | nil => exact h.elim
      | cons v vs => simpa using ih vs h.2
  have hvl := hl _ _ h1
  have hil : i < vs.length := by have := (List.getElem?_eq_some_iff.1 hi).1; omega
  have hv : vs[i]? = some vs[i] := List.getElem?_eq_getElem hil
  have e1 : (puts a0 ds vs).tmps.getD tv undef = vs[i] := getD_of (puts_at ds vs a0 i tv _ hnd (fun d hd => by simpa using List.all_eq_true.1 hlt d hd) hi hv)
  have e2 := hfin vs w' h1' h2 _ rfl _ hv
  generalize puts a0 ds vs = a at *
  go_simp
  exact hK _ _ e2
end Go.Proofs.Ytbhieajpodnfpaa
