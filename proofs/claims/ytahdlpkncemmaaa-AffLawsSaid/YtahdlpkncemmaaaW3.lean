/- How slices of structs that came in are r. Conditions: those that each theorem names. -/
import Derived.Test.YtahdlpkncemmaaaW2
import Derived.SizedLaws
import Derived.Lib.SmallJoins
set_option maxRecDepth 100000
set_option maxHeartbeats 8000000
set_option linter.unusedSimpArgs false
set_option linter.unusedVariables false
namespace Pg
open Go Go.RowKit
theorem cell_lt {w : World} {b o : Nat} {v : Value} (h : w.cell? ⟨b, o, none⟩ = some v) : b < w.heap.size := by
 rcases Nat.lt_or_ge b w.heap.size with h1 | h1
 ·exact h1
 ·have : w.heap[b]? = none := Array.getElem?_eq_none h1
  simp [World.cell?, this] at h
def CellsAt (w : World) (b o : Nat) (cs : List Value) : Prop := ∀ j, j < cs.length → w.cell? ⟨b, o + j, none⟩ = cs[j]?
theorem CellsAt.below {w w' : World} {b o : Nat} {cs : List Value} (h : CellsAt w b o cs) (hb : b < w.heap.size) (hw : Below w.heap.size w w') : CellsAt w' b o cs :=
 fun j hj => (hw.cell (p := ⟨b, _, none⟩) hb).trans (h j hj)
theorem CellsAt.at_ {w : World} {b o : Nat} {cs : List Value} (h : CellsAt w b o cs) (j : Nat) {v : Value} (hv : cs[j]? = some v) : w.cell? ⟨b, o + j, none⟩ = some v := by
 rw [h j (by have := (List.getElem?_eq_some_iff.1 hv).1; exact this), hv]
def SlAt {α : Type} (sz : Nat) (E : World → Nat → Nat → α → Prop) (w : World) (A : Option Addr) (n c : Nat) (l : List α) : Prop :=
 l.length = n ∧ n ≤ c ∧ n ≤ 140737488355328 ∧ c ≤ 9223372036854775807 ∧ (A = none → c = 0) ∧ (0 < n → ∃ b o, A = some ⟨b, o, none⟩ ∧ b < w.heap.size ∧ ∀ j x, l[j]? = some x → E w b (o + j * sz) x)
def Stays {α : Type} (E : World → Nat → Nat → α → Prop) : Prop := ∀ (w w' : World) (b o : Nat) (x : α), b < w.heap.size → E w b o x → Below w.heap.size w w' → E w' b o x
theorem SlAt.below {α : Type} {sz : Nat} {E : World → Nat → Nat → α → Prop} (hE : Stays E) {w w' : World} {A : Option Addr} {n c : Nat} {l : List α} (h : SlAt sz E w A n c l) (hw : Below w.heap.size w w') : SlAt sz E w' A n c l := by
 obtain ⟨h1, h2, h3, h4, h5, h6⟩ := h
 refine ⟨h1, h2, h3, h4, h5, fun hn => ?_⟩
 obtain ⟨b, o, rfl, hb, hx⟩ := h6 hn
 exact ⟨b, o, rfl, Nat.lt_of_lt_of_le hb hw.size, fun j x hj => hE _ _ _ _ _ hb (hx j x hj) hw⟩
theorem list_of_all {α : Type} {R : Nat → α → Prop} : ∀ n, (∀ i, i < n → ∃ a, R i a) → ∃ l : List α, l.length = n ∧ ∀ j x, l[j]? = some x → R j x
 | 0, _ => ⟨[], rfl, fun j x h => by simp at h⟩
 | n + 1, h => by
  obtain ⟨l, hl, hR⟩ := list_of_all n (fun i hi => h i (by omega))
  obtain ⟨a, ha⟩ := h n (by omega)
  refine ⟨l ++ [a], by simp [hl], fun j x hj => ?_⟩
  rcases Nat.lt_or_ge j n with hjn | hjn
  ·rw [List.getElem?_append_left (by omega)] at hj
   exact hR j x hj
  ·rw [List.getElem?_append_right (by omega), hl] at hj
   have : j = n := by
    have := (List.getElem?_eq_some_iff.1 hj).1
    simp at this; omega
   subst this
   simp at hj
   exact hj ▸ ha
theorem weights_all_mem {H : Type} {P : Program} {e : TypeId} : ∀ {ds : List (DataW H)} {i : Nat} {d : DataW H}, ds[i]? = some d → ∀ n ∈ d.weights P e, n ∈ DataW.weightsAll P e ds
 | d0 :: ds, 0, d, hd, n, hn => by
  simp only [List.getElem?_cons_zero, Option.some.injEq] at hd
  subst hd
  simp only [DataW.weightsAll, List.mem_append]
  exact Or.inl hn
 | d0 :: ds, i + 1, d, hd, n, hn => by
  simp only [List.getElem?_cons_succ] at hd
  simp only [DataW.weightsAll, List.mem_append]
  exact Or.inr (weights_all_mem hd n hn)
 | [], _, _, hd, _, _ => by simp at hd
section
variable {H : Type} {enc : TypeId × Value → H} {P : Program} {w : World} {base : Nat} {spare : Nat → Bool} {held : Bool}
theorem SlAt.of_trod {α : Type} {t e : TypeId} {sz fuel : Nat} {cs : List Value} {x : DataW H × List MemPlace} {E : World → Nat → Nat → α → Prop} (ht : P.underlying t = some (.slice e)) (hC : P.cellsOf e = sz) (hsz : 0 < sz) (hby : 0 < P.bytesOf e)
  (h : DataW.trod enc P w base spare held fuel t cs = some x) (hz : ∀ k ∈ x.1.weights P t, k ≤ reachBytes)
  (hE : ∀ n, n < fuel → ∀ b o ds y, b < w.heap.size → ds.length = sz → CellsAt w b o ds → DataW.trod enc P w base spare held n e ds = some y → (∀ k ∈ y.1.weights P e, k ≤ reachBytes) → ∃ a, E w b o a) :
  ∃ A n c l, cs = [.slice A n c] ∧ SlAt sz E w A n c l := by
 rcases DataW.trod_slice ht h with ⟨rfl, _⟩ | ⟨⟨b, o, s⟩, len, cap, elems, rest, n, rfl, rfl, rfl, hb, hl, hm, hlen, hel, _, _⟩
 ·exact ⟨none, 0, 0, [], rfl, rfl, Nat.le_refl _, by omega, by omega, fun _ => rfl, fun h => absurd h (by omega)⟩
 ·have hrb := reachBytes_lt
  unfold DataW.weights at hz
  rw [ht] at hz
  have hz0 := hz (((elems.map (·.1)).length + (rest.map (·.1)).length) * P.bytesOf e) (List.mem_cons.2 (.inl rfl))
  have hz1 : ∀ (i : Nat) (y : DataW H × List MemPlace), elems[i]? = some y → ∀ k ∈ y.1.weights P e, k ≤ reachBytes := by
   intro i y hy k hk
   refine hz k (List.mem_cons.2 (.inr (List.mem_append.2 (.inl ?_))))
   exact weights_all_mem (ds := elems.map (·.1)) (i := i) (by rw [List.getElem?_map, hy]; rfl) k hk
  have hlb : len ≤ 140737488355328 := by
   simp only [List.length_map] at hz0
   have h1 : (elems.length + rest.length) * 1 ≤ (elems.length + rest.length) * P.bytesOf e := Nat.mul_le_mul_left _ hby
   omega
  have el : ∀ i, i < len → ∃ ds y, w.cells? base (Addr.add ⟨b, o, s⟩ (i * sz)) sz = some ds ∧ DataW.trod enc P w base spare held n e ds = some y ∧ elems[i]? = some y := by
   intro i hi
   have h1 := hel i hi
   rw [hC] at h1
   have hy : elems[i]? = some (elems[i]'(by omega)) := List.getElem?_eq_getElem (by omega)
   rw [hy] at h1
   obtain ⟨ds, hd1, hd2⟩ := Option.bind_eq_some_iff.1 h1
   exact ⟨ds, _, hd1, hd2, hy⟩
  by_cases h0 : len = 0
  ·exact ⟨_, _, _, [], rfl, h0.symm, hl, hlb, by unfold maxLen at hm; omega, (fun e => by cases e), fun h => absurd h (by omega)⟩
  ·have hs : s = none := by
    obtain ⟨ds, y, h1, _, _⟩ := el 0 (by omega)
    obtain ⟨_, h3, h4⟩ := World.cells?_some h1
    have h5 := h4 0 hsz
    rw [List.getElem?_eq_getElem (by omega)] at h5
    simpa [Addr.add] using World.cell?_spot h5
   subst hs
   have elE : ∀ i, i < len → ∃ a, E w b (o + i * sz) a := by
    intro i hi
    obtain ⟨ds, y, h1, h2, h3⟩ := el i hi
    obtain ⟨_, h4, h5⟩ := World.cells?_some h1
    have hca : CellsAt w b (o + i * sz) ds := fun j hj => by
     have := h5 j (by omega)
     rwa [Addr.add_lit, Addr.add_lit] at this
    have hbl : b < w.heap.size := by
     have h6 := hca 0 (by omega)
     rw [List.getElem?_eq_getElem (by omega)] at h6
     exact cell_lt h6
    exact hE n (by omega) b _ ds y hbl h4 hca h2 (hz1 i y h3)
   obtain ⟨l, hll, hR⟩ := list_of_all len elE
   have hbl : b < w.heap.size := by
    obtain ⟨ds, y, h1, _, _⟩ := el 0 (by omega)
    obtain ⟨_, h3, h4⟩ := World.cells?_some h1
    have h5 := h4 0 hsz
    rw [List.getElem?_eq_getElem (by omega), Addr.add_lit, Addr.add_lit] at h5
    exact cell_lt h5
   exact ⟨_, _, _, l, rfl, hll, hl, hlb, by unfold maxLen at hm; omega, (fun e => by cases e), fun _ => ⟨b, o, rfl, hbl, hR⟩⟩
end
end Pg
