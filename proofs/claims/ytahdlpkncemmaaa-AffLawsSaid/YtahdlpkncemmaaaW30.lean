/- append of a struct onto a slice of the c. Conditions: those that each theorem names. -/
import Derived.Test.YtahdlpkncemmaaaW3
import Derived.Test.YtahdlpkncemmaaaW1
import Derived.Laws.IdiomStrings
set_option maxRecDepth 100000
set_option maxHeartbeats 8000000
set_option linter.unusedSimpArgs false
set_option linter.unusedVariables false
namespace Pg
open Go Go.RowKit
theorem take_all_p {α : Type} {p : α → Prop} {l : List α} {k : Nat} {x : α} (h : ∀ y ∈ l.take k, p y) (hx : l[k]? = some x) (h1 : p x) : ∀ y ∈ l.take (k + 1), p y := by
 intro y hy
 rw [List.take_add_one, hx] at hy
 rcases List.mem_append.1 hy with h3 | h3
 ·exact h y h3
 ·simp at h3; subst h3; exact h1
theorem flat_get {α β : Type} {f : α → List β} {sz : Nat} (hf : ∀ x, (f x).length = sz) : ∀ {l : List α} {j i : Nat} {x : α}, l[j]? = some x → i < sz → (l.flatMap f)[j * sz + i]? = (f x)[i]?
 | y :: l, 0, i, x, hx, hi => by
  simp only [List.getElem?_cons_zero, Option.some.injEq] at hx
  subst hx
  rw [List.flatMap_cons, List.getElem?_append_left (by rw [hf]; omega)]
  congr 1; omega
 | y :: l, j + 1, i, x, hx, hi => by
  rw [List.getElem?_cons_succ] at hx
  rw [List.flatMap_cons, List.getElem?_append_right (by rw [hf, Nat.add_mul]; omega), hf, show (j + 1) * sz + i - sz = j * sz + i by rw [Nat.add_mul]; omega]
  exact flat_get hf hx hi
 | [], _, _, _, hx, _ => by simp at hx
theorem own_cells {α : Type} {f : α → List Value} {sz : Nat} (hf : ∀ x, (f x).length = sz) {w : World} {base : Nat} {e : TypeId} {v : Value} {l : List α} {n : Nat} (hn : l.length = n) (h : w.ownsRow base e sz v n (l.flatMap f)) :
  (v = .slice none 0 0 ∧ l = []) ∨ ∃ g cap, v = .slice (some ⟨g, 0, none⟩) n cap ∧ base ≤ g ∧ g < w.heap.size ∧ n ≤ cap ∧ cap ≤ maxLen ∧ ∀ j x, l[j]? = some x → CellsAt w g (0 + j * sz) (f x) := by
 rcases h.2 with ⟨rfl, h0⟩ | ⟨g, cap, cur, rfl, hb, hh, hnc, hcm, hcs, htk⟩
 ·exact .inl ⟨rfl, List.length_eq_zero_iff.1 (by omega)⟩
 ·refine .inr ⟨g, cap, rfl, hb, (h.lt g rfl).2, hnc, hcm, fun j x hx i hi => ?_⟩
  rw [hf] at hi
  have h1 := h.cells (g := g) rfl (j * sz + i)
  have h2 : (l.flatMap f)[j * sz + i]? = (f x)[i]? := flat_get hf hx hi
  have h5 : i < (f x).length := by rw [hf]; exact hi
  rw [List.getElem?_eq_getElem h5] at h2 ⊢
  have h3 := h1 _ h2
  rw [Addr.add_lit] at h3
  rw [Nat.zero_add]
  simpa using h3
end Pg
