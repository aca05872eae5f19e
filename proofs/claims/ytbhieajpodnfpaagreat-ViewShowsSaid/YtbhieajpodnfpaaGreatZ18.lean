/- append of a struct onto a slice of the call's own. Conditions: those that each theorem names. -/
import Derived.Test.YtbhieajpodnfpaaGreatZ17
import Derived.Test.YtbhieajpodnfpaaGreatZ1
import Derived.Laws.IdiomStrings
namespace Pg
open Go Go.RowKit
theorem take_all_p {α : Type} {p : α → Prop} {l : List α} {k : Nat} {x : α} (h : ∀ y ∈ l.take k, p y) (hx : l[k]? = some x) (h1 : p x) : ∀ y ∈ l.take (k + 1), p y := by
  intro y hy
  rw [List.take_add_one, hx] at hy
  rcases List.mem_append.1 hy with h3 | h3
  · exact h y h3
  · simp at h3; subst h3; exact h1
theorem take_succ_flat {α β : Type} (f : α → List β) {l : List α} {k : Nat} {x : α} (hx : l[k]? = some x) : (l.take (k + 1)).flatMap f = (l.take k).flatMap f ++ f x := by
  rw [List.take_add_one, hx]
  simp
theorem flat_len {α β : Type} {f : α → List β} {sz : Nat} (hf : ∀ x, (f x).length = sz) : ∀ (l : List α), (l.flatMap f).length = l.length * sz
  | [] => by simp
  | x :: l => by rw [List.flatMap_cons, List.length_append, hf, flat_len hf l, List.length_cons, Nat.add_mul]; omega
theorem flat_get {α β : Type} {f : α → List β} {sz : Nat} (hf : ∀ x, (f x).length = sz) : ∀ {l : List α} {j i : Nat} {x : α}, l[j]? = some x → i < sz → (l.flatMap f)[j * sz + i]? = (f x)[i]?
  | y :: l, 0, i, x, hx, hi => by
    simp only [List.getElem?_cons_zero, Option.some.injEq] at hx
    subst hx
    rw [List.flatMap_cons, List.getElem?_append_left (by rw [hf]; omega)]
    congr 1; omega
  | y :: l, j + 1, i, x, hx, hi => by
    rw [List.getElem?_cons_succ] at hx
    rw [List.flatMap_cons, List.getElem?_append_right (by rw [hf, Nat.add_mul]; omega), hf, show (j + 1) * sz + i - sz = j * sz + i by rw [Nat.add_mul]; omega]
    exact flat_get hf hx hi
  | [], _, _, _, hx, _ => by simp at hx
/-- append of one struct. -/
theorem wpList_append_one {P : Program} (w : World) {ops : Array Oper} {rest : List Oper} {o : Oper} {a : Act} {Q : Exit → Act → World → Prop} (hgd : o.guard = none) (s x : Operand) (t : TypeId)
    (ho : o.op = .call { callee := .builtin .append, args := #[s, x], argTypes := #[t, t] })
    (base : Nat) (e : TypeId) (sz bytes : Nat) (z : Value) (ht : P.underlying t = some (.slice e)) (hinf : (P.info? e).map (fun i => (i.zero, i.size, i.bytes)) = some (some z, sz, bytes)) (hzs : z.cells.size = sz) (hsz : 0 < sz)
    (v : Value) (n : Nat) (xs : List Value) (hs : a.eval s = v) (hown : w.ownsRow base e sz v n xs)
    (b c : Nat) (cs : List Value) (t2 : TypeId) (hx : a.eval x = .slice (some ⟨b, 0, none⟩) 1 c) (hl : cs.length = sz) (hc : w.heap[b]? = some (.cells cs.toArray t2 (0, 0))) (h1 : ∀ u ∈ cs, u.oneCell' = true) (hm : n + 1 ≤ maxLen) (hb : (n + 1) * bytes ≤ 140737488355328) (hbase : base ≤ w.heap.size)
    (h : ∀ v' w', w'.ownsRow base e sz v' (n + 1) (xs ++ cs) → w.grownBy w' v.ownBlock → wpList P ops Q rest (a.put o.dst v') w') : wpList P ops Q (o :: rest) a w := by
  obtain ⟨i, hi, hz, hsz', hby⟩ := info_parts hinf
  refine wpList_append_own w hgd s x t ho base e i z sz bytes ht hi hz hsz' hby hzs hsz v n xs hs hown ⟨b, 0, none⟩ 1 c cs hx (by rw [hl, Nat.one_mul]) (fun j u hu => ?_) h1 hm hb hbase
    (fun v' w' h1 h2 _ => h v' w' h1 h2)
  rw [Addr.add_lit, cell_of_row w b _ _ t2 (0, 0) hc]
  simpa using hu
/-- What an own row of structs holds. -/
theorem own_cells {α : Type} {f : α → List Value} {sz : Nat} (hf : ∀ x, (f x).length = sz) {w : World} {base : Nat} {e : TypeId} {v : Value} {l : List α} {n : Nat} (hn : l.length = n) (h : w.ownsRow base e sz v n (l.flatMap f)) :
    (v = .slice none 0 0 ∧ l = []) ∨ ∃ g cap, v = .slice (some ⟨g, 0, none⟩) n cap ∧ base ≤ g ∧ g < w.heap.size ∧ n ≤ cap ∧ cap ≤ maxLen ∧ ∀ j x, l[j]? = some x → CellsAt w g (0 + j * sz) (f x) := by
  rcases h.2 with ⟨rfl, h0⟩ | ⟨g, cap, cur, rfl, hb, hh, hnc, hcm, hcs, htk⟩
  · exact .inl ⟨rfl, List.length_eq_zero_iff.1 (by omega)⟩
  · refine .inr ⟨g, cap, rfl, hb, (h.lt g rfl).2, hnc, hcm, fun j x hx i hi => ?_⟩
    rw [hf] at hi
    have h1 := h.cells (g := g) rfl (j * sz + i)
    have h2 : (l.flatMap f)[j * sz + i]? = (f x)[i]? := flat_get hf hx hi
    have h5 : i < (f x).length := by rw [hf]; exact hi
    rw [List.getElem?_eq_getElem h5] at h2 ⊢
    have h3 := h1 _ h2
    rw [Addr.add_lit] at h3
    rw [Nat.zero_add]
    simpa using h3
theorem own_other {w w' : World} {base : Nat} {e : TypeId} {sz : Nat} {v : Value} {n : Nat} {xs : List Value} (h : w.ownsRow base e sz v n xs) (hg : w.grownBy w' v.ownBlock) {b : Nat} (hb : b < base) (hbw : b < w.heap.size) : w'.heap[b]? = w.heap[b]? :=
  hg.block b hbw (fun e => by have := (h.lt b e.symm).1; omega)
end Pg
