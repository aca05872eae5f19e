/- A region in whatever order Go carries it. Conditions: those that each theorem names. -/
import Derived.Test.YtahdlpkncemmaaaW17
import Derived.Test.YtahdlpkncemmaaaW30
set_option maxRecDepth 100000
set_option maxHeartbeats 8000000
set_option linter.unusedSimpArgs false
set_option linter.unusedVariables false
namespace Pg
open Go Go.RowKit
structure DrawInvW (ops : Array Oper) (a0 : Act) (w0 : World) (row : Option Nat) (p : Nat) (ds : List Nat) (V : Nat → World → Value → Prop) (l : Array Bool) (a : Act) (w : World) : Prop where
 frame : ∀ k, k ∉ ds → a.tmps[k]? = a0.tmps[k]?
 size : a.tmps.size = a0.tmps.size
 defers : a.defers = a0.defers
 grown : w0.grownBy w row
 below : l.getD p false = false → Below w0.heap.size w0 w
 has : ∀ i d, ds[i]? = some d → l.getD i false = true → ∃ v, a.tmps[d]? = some v ∧ V i w v
 closed : ∀ i o, ops[i]? = some o → l.getD i false = true → ∀ e ∈ o.after, Region.binds .any e = true → l.getD e.on false = true
 sz : l.size = ops.size
structure DrawAtW (a0 : Act) (w0 : World) (row : Option Nat) (ds : List Nat) (V : Nat → World → Value → Prop) (o : Oper) (a : Act) (w : World) : Prop where
 frame : ∀ k, k ∉ ds → a.tmps[k]? = a0.tmps[k]?
 grown : w0.grownBy w row
 dep : ∀ j d, ds[j]? = some d → o.after.any (fun e => Region.binds .any e && e.on == j) = true → ∃ v, a.tmps[d]? = some v ∧ V j w v
theorem DrawAtW.old {a0 : Act} {w0 : World} {row : Option Nat} {ds : List Nat} {V : Nat → World → Value → Prop} {o : Oper} {a : Act} {w : World} (h : DrawAtW a0 w0 row ds V o a w) (k : Nat) (v : Value) (hk : ds.contains k = false) (hv : a0.tmps[k]? = some v) : a.tmps.getD k undef = v :=
 getD_of ((h.frame k (by intro hm; have := List.contains_iff_mem.2 hm; rw [hk] at this; cases this)).trans hv)
theorem DrawAtW.new {a0 : Act} {w0 : World} {row : Option Nat} {ds : List Nat} {V : Nat → World → Value → Prop} {o : Oper} {a : Act} {w : World} (h : DrawAtW a0 w0 row ds V o a w) (j d : Nat) (hd : ds[j]? = some d) (ho : o.after.any (fun e => Region.binds .any e && e.on == j) = true) :
  ∃ v, a.tmps.getD d undef = v ∧ V j w v := by
 obtain ⟨v, h1, h2⟩ := h.dep j d hd ho
 exact ⟨v, getD_of h1, h2⟩
inductive Hw where
 | is (v : Value)
 | fresh (cs : List Value) (t : TypeId)
 | own (q : World → Value → Prop)
 | such (q : World → Value → Prop)
def Hw.ok (B : Nat) : Hw → World → Value → Prop
 | .is v0, _, v => v = v0
 | .fresh cs t, w, v => ∃ b, v = .slice (some ⟨b, 0, none⟩) 1 1 ∧ B ≤ b ∧ w.heap[b]? = some (.cells cs.toArray t (0, 0))
 | .own q, w, v => ∀ w', Below w.heap.size w w' → q w' v
 | .such q, w, v => ∀ w', Below w.heap.size w w' → q w' v
def Hw.plain : Hw → Bool
 | .own _ => false
 | _ => true
theorem Hw.below {B : Nat} {h : Hw} {w w' : World} {v : Value} (hb : Below w.heap.size w w') (hk : h.ok B w v) : h.ok B w' v := by
 cases h with
 | is v0 => exact hk
 | fresh cs t =>
  obtain ⟨b, e, hB, hh⟩ := hk
  exact ⟨b, e, hB, (hb.block b (Array.getElem?_eq_some_iff.1 hh).1).trans hh⟩
 | own q => exact fun w2 h2 => hk w2 (Below.then_ hb h2)
 | such q => exact fun w2 h2 => hk w2 (Below.then_ hb h2)
theorem Hw.grown {B : Nat} {h : Hw} {w w' : World} {v : Value} {row : Option Nat} (hs : ∀ q, h = .such q → (∀ W, Below w.heap.size w W → q W v) → ∀ W, Below w'.heap.size w' W → q W v) (hr : ∀ g, row = some g → g < B) (hp : h.plain = true) (hb : w.grownBy w' row) (hk : h.ok B w v) : h.ok B w' v := by
 cases h with
 | is v0 => exact hk
 | fresh cs t =>
  obtain ⟨b, e, hB, hh⟩ := hk
  refine ⟨b, e, hB, (hb.block b (Array.getElem?_eq_some_iff.1 hh).1 (fun e => ?_)).trans hh⟩
  have := hr b e.symm
  omega
 | own q => cases hp
 | such q => exact hs q rfl hk
def hw (B : Nat) (hs : List Hw) (i : Nat) (w : World) (v : Value) : Prop := match hs[i]? with | some h => h.ok B w v | none => True
end Pg
