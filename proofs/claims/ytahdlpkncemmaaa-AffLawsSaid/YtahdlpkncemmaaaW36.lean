/- Sums, rows of rationals, expressions and · How long a sum's rows may be, by the byt. Conditions: those that each theorem names. -/
import Derived.Test.YtahdlpkncemmaaaW29
import Derived.WideShapes
import Derived.Test.YtahdlpkncemmaaaW31
set_option maxRecDepth 100000
set_option maxHeartbeats 8000000
set_option linter.unusedSimpArgs false
set_option linter.unusedVariables false
namespace Pg
open Go Go.RowKit
theorem CellsAt.sub {w : World} {b o : Nat} {cs : List Value} (h : CellsAt w b o cs) (i n : Nat) (hn : i + n ≤ cs.length) : CellsAt w b (o + i) ((cs.drop i).take n) := by
 intro j hj
 have hj2 : j < n := by simp at hj; omega
 have := h (i + j) (by omega)
 rw [show o + (i + j) = o + i + j by omega] at this
 rw [this, List.getElem?_take_of_lt hj2, List.getElem?_drop]
end Pg
namespace Go.Proofs.Ytahdlpkncemmaaa
open Go.RowKit Pg
theorem reads_rows {w : World} {h : RHdr} {q : Rat} (hr : RHdr.Reads w h q) : ∃ r : RW, RowsAt w r (.bool h.s) (.slice h.A h.n h.c) (.slice h.A' h.n' h.c') := by
 obtain ⟨xs, ys, r1, r2, l1, l2, _⟩ := hr
 exact ⟨⟨h.s, xs, ys⟩, _, _, _, _, _, _, rfl, rfl, rfl, r1, r2, l1, l2⟩
structure EW where
 A0 : Option Addr
 A1 : Option Addr
 A2 : Option Addr
 n0 : Nat
 k0 : Nat
 n1 : Nat
 k1 : Nat
 n2 : Nat
 k2 : Nat
 vars : List (List UInt8)
 names : List (List UInt8)
 vals : List RW
def EW.val (x : EW) : Value := .agg #[.slice x.A0 x.n0 x.k0, .slice x.A1 x.n1 x.k1, .slice x.A2 x.n2 x.k2]
structure EnvAt (w : World) (x : EW) : Prop where
 vars : SlAt 1 NameAt w x.A0 x.n0 x.k0 x.vars
 names : SlAt 1 NameAt w x.A1 x.n1 x.k1 x.names
 vals : SlAt 3 RawAt w x.A2 x.n2 x.k2 x.vals
theorem EnvAt.below {w w' : World} {x : EW} (h : EnvAt w x) (hw : Below w.heap.size w w') : EnvAt w' x := ⟨h.vars.below nameAt_stays hw, h.names.below nameAt_stays hw, h.vals.below rawAt_stays hw⟩
def EW.q (x : EW) : EnvQ := ⟨x.vars, x.names, x.vals.map RW.q⟩
structure LW where
 A : Option Addr
 n : Nat
 k : Nat
 l : List RW
def LW.val (x : LW) : Value := .slice x.A x.n x.k
section
variable {H : Type} {enc : TypeId × Value → H} {base : Nat} {spare : Nat → Bool} {held : Bool} {w : World}
theorem int_of_trod {m : Nat} {c : Value} {y : DataW H × List MemPlace} (hy : DataW.trod enc Try.prog w base spare held m 3 [c] = some y) : ∃ k : Int, c = .int .i64 k := by
 obtain ⟨kd, k0, _⟩ := DataW.trod_int Try.underlying3 hy
 simp at k0
 exact ⟨kd, k0⟩
theorem termAt_of {fuel b o : Nat} {ds : List Value} {y : DataW H × List MemPlace} (hlen : ds.length = 4) (hca : CellsAt w b o ds) (hy : DataW.trod enc Try.prog w base spare held fuel 38 ds = some y) (hzy : ∀ k ∈ y.1.weights Try.prog 38, k ≤ reachBytes) : ∃ a, TermAt w b o a := by
 obtain ⟨xs, n, _, rfl, _, hxl, hg⟩ := DataW.trod_struct Try.underlying38 hy
 match ds, hlen with
 | [c0, c1, c2, c3], _ =>
 match xs, hxl with
 | [x0, x1], _ =>
  have g0 := hg 0 _ rfl
  have g1 := hg 1 _ rfl
  have eint : Try.prog.cellsOf 3 = 1 := by kernel_rfl
  have erat : Try.prog.cellsOf 25 = 3 := by kernel_rfl
  simp [eint] at g0
  simp [erat] at g1
  have hz1 : ∀ (j : Nat) t (d : DataW H), [3, 25][j]? = some t → [x0.1, x1.1][j]? = some d → ∀ x ∈ d.weights Try.prog t, x ≤ reachBytes := by
   intro j t d ht hd x hx
   refine hzy x ?_
   unfold DataW.weights
   rw [Try.underlying38]
   exact DataW.weights_mem_each ht hd x hx
  obtain ⟨l0, rfl⟩ := int_of_trod g0
  obtain ⟨h, q, rfl, rfl, rfl, r⟩ := hdr_of_trod g1 (hz1 1 _ _ rfl rfl)
  obtain ⟨a, ha⟩ := (reads_rows r)
  exact ⟨⟨l0, a⟩, _, _, _, hca, ha⟩
theorem slTerm {fuel : Nat} {cs : List Value} {y : DataW H × List MemPlace} (hy : DataW.trod enc Try.prog w base spare held fuel 22 cs = some y) (hzy : ∀ k ∈ y.1.weights Try.prog 22, k ≤ reachBytes) : ∃ A n c l, cs = [.slice A n c] ∧ SlAt 4 TermAt w A n c l := by
 have e1 : Try.prog.cellsOf 38 = 4 := by kernel_rfl
 have e2 : Try.prog.bytesOf 38 = 64 := by kernel_rfl
 exact SlAt.of_trod Try.underlying22 e1 (by decide) (by rw [e2]; decide) hy hzy (fun m hm b o ds y _ hl hc ht hz => termAt_of hl hc ht hz)
theorem PT.Ats.of_get {w : World} : ∀ {l : List PT} {b o : Nat}, (∀ j x, l[j]? = some x → PT.At w x b (o + j * 6)) → PT.Ats w l b o
 | [], _, _, _ => by unfold PT.Ats; trivial
 | e :: l, b, o, h => by
  unfold PT.Ats
  refine ⟨by simpa using h 0 e rfl, PT.Ats.of_get fun j x hj => ?_⟩
  have := h (j + 1) x (by rw [List.getElem?_cons_succ]; exact hj)
  rwa [show o + 6 + j * 6 = o + (j + 1) * 6 by omega]
theorem ConArg.of_trod {r : Reach} {b0 : Nat} {v : Value} {d : DataW H} {p : List MemPlace} (hv : Value.okWide Try.prog w r b0 27 v) (h : DataW.Trod enc Try.prog w base spare held 27 v d p)
  (hzy : ∀ x ∈ d.weights Try.prog 27, x ≤ reachBytes) : ∃ c, ConVal w v c := by
 obtain ⟨cs, rfl, hsz⟩ := Go.WideShapes.okWide_struct Try.underlying27 hv
 have e6 : Try.prog.cellsOf 27 = 5 := by kernel_rfl
 rw [e6] at hsz
 obtain ⟨ds, rfl⟩ : ∃ ds : List Value, cs = ds.toArray := ⟨cs.toList, by simp⟩
 obtain ⟨fuel, hy⟩ := h
 obtain ⟨xs, n, _, hxe, _, hxl, hg⟩ := DataW.trod_struct Try.underlying27 hy
 match ds, hsz with
 | [c0, c1, c2, c3, c4], _ =>
 match xs, hxl with
 | [x0, x1, x2], _ =>
  simp only [Prod.mk.injEq] at hxe
  obtain ⟨rfl, _⟩ := hxe
  have g0 := hg 0 _ rfl
  have g1 := hg 1 _ rfl
  have g2 := hg 2 _ rfl
  have e0 : Try.prog.cellsOf 3 = 1 := by kernel_rfl
  have e1 : Try.prog.cellsOf 22 = 1 := by kernel_rfl
  have e2 : Try.prog.cellsOf 25 = 3 := by kernel_rfl
  simp [e0, Value.cells] at g0
  simp [e1, Value.cells] at g1
  simp [e2, Value.cells] at g2
  have hz1 : ∀ (j : Nat) t (d : DataW H), [3, 22, 25][j]? = some t → [x0.1, x1.1, x2.1][j]? = some d → ∀ x ∈ d.weights Try.prog t, x ≤ reachBytes := by
   intro j t d ht hd x hx
   refine hzy x ?_
   unfold DataW.weights
   rw [Try.underlying27]
   exact DataW.weights_mem_each ht hd x hx
  obtain ⟨s, rfl⟩ := int_of_trod g0
  obtain ⟨A1, n1, k1, l1, h1, s1⟩ := slTerm g1 (hz1 1 _ _ rfl rfl)
  obtain ⟨hd, q, rfl, rfl, rfl, hr⟩ := hdr_of_trod g2 (hz1 2 _ _ rfl rfl)
  simp at h1
  subst h1
  obtain ⟨r, hrr⟩ := reads_rows hr
  exact ⟨⟨s, l1, r⟩, A1, n1, k1, _, _, _, rfl, s1, hrr⟩
end
end Go.Proofs.Ytahdlpkncemmaaa
namespace Go.Proofs.Ytahdlpkncemmaaa
open Go.RowKit Pg
theorem rv_lens {w : World} {y : RV} {r : RW} (h : y.at w r) : r.xs.length = y.n ∧ r.ys.length = y.n' := by
 obtain ⟨A, n, c, A', n', c', _, e, e', h1, h2, _⟩ := h
 injection e with e1 e2 e3
 injection e' with e1' e2' e3'
 exact ⟨by rw [h1.len, e2], by rw [h2.len, e2']⟩
section
variable {H : Type} {enc : TypeId × Value → H} {base : Nat} {spare : Nat → Bool} {held : Bool} {w : World}
theorem len_of_reach {t e : TypeId} {fuel b : Nat} {A : Option Addr} {n c : Nat} {x : DataW H × List MemPlace} (ht : Try.prog.underlying t = some (.slice e)) (hb : Try.prog.bytesOf e = b) (h : DataW.trod enc Try.prog w base spare held fuel t [.slice A n c] = some x) (hz : ∀ k ∈ x.1.weights Try.prog t, k ≤ reachBytes) : n * b ≤ reachBytes := by
 rcases DataW.trod_slice ht h with ⟨e, _⟩ | ⟨⟨b', o, s⟩, len, cap, elems, rest, m, rfl, e, rfl, hb', hl, hm, hlen, hel, _, _⟩
 ·simp at e
  obtain ⟨_, rfl, _⟩ := e
  rw [Nat.zero_mul]; exact Nat.zero_le _
 ·simp at e
  unfold DataW.weights at hz
  rw [ht] at hz
  have hz0 := hz (((elems.map (·.1)).length + (rest.map (·.1)).length) * Try.prog.bytesOf _) (List.mem_cons.2 (.inl rfl))
  simp only [List.length_map] at hz0
  rw [hb] at hz0
  refine Nat.le_trans (Nat.mul_le_mul_right b ?_) hz0
  omega
theorem elem_of_reach {t e : TypeId} {sz fuel : Nat} {b o : Nat} {n c : Nat} {x : DataW H × List MemPlace} (ht : Try.prog.underlying t = some (.slice e)) (hC : Try.prog.cellsOf e = sz) (hsz : 0 < sz) (h : DataW.trod enc Try.prog w base spare held fuel t [.slice (some ⟨b, o, none⟩) n c] = some x) (hz : ∀ k ∈ x.1.weights Try.prog t, k ≤ reachBytes) (i : Nat) (hi : i < n) :
  ∃ ds y m, ds.length = sz ∧ CellsAt w b (o + i * sz) ds ∧ DataW.trod enc Try.prog w base spare held m e ds = some y ∧ ∀ k ∈ y.1.weights Try.prog e, k ≤ reachBytes := by
 rcases DataW.trod_slice ht h with ⟨e, _⟩ | ⟨⟨b', o', s⟩, len, cap, elems, rest, m, rfl, e, rfl, hb, hl, hm, hlen, hel, _, _⟩
 ·simp at e
 ·simp at e
  obtain ⟨⟨rfl, rfl, rfl⟩, rfl, rfl⟩ := e
  have h1 := hel i hi
  rw [hC] at h1
  have hy : elems[i]? = some (elems[i]'(by omega)) := List.getElem?_eq_getElem (by omega)
  rw [hy] at h1
  obtain ⟨ds, hd1, hd2⟩ := Option.bind_eq_some_iff.1 h1
  obtain ⟨_, h4, h5⟩ := World.cells?_some hd1
  unfold DataW.weights at hz
  rw [ht] at hz
  refine ⟨ds, _, m, h4, fun j hj => ?_, hd2, fun k hk => hz k (List.mem_cons.2 (.inr (List.mem_append.2 (.inl ?_))))⟩
  ·have h6 := h5 j (by omega)
   rw [Addr.add_lit, Addr.add_lit] at h6
   exact h6
  ·exact weights_all_mem (ds := elems.map (·.1)) (i := i) (by rw [List.getElem?_map, hy]; rfl) k hk
theorem rat_of_reach {fuel : Nat} {c0 : Value} {A A' : Option Addr} {n c n' c' : Nat} {y : DataW H × List MemPlace} (hy : DataW.trod enc Try.prog w base spare held fuel 25 [c0, .slice A n c, .slice A' n' c'] = some y) (hz : ∀ k ∈ y.1.weights Try.prog 25, k ≤ reachBytes) : n ≤ 35184372087808 ∧ n' ≤ 35184372087808 := by
 obtain ⟨xs, m, _, rfl, _, hxl, hg⟩ := DataW.trod_struct Try.underlying25 hy
 match xs, hxl with
 | [x0, x1, x2], _ =>
  have g1 := hg 1 _ rfl
  have g2 := hg 2 _ rfl
  have e1 : Try.prog.cellsOf 4 = 1 := by kernel_rfl
  have e2 : Try.prog.cellsOf 23 = 1 := by kernel_rfl
  simp [e1, e2] at g1 g2
  have hz1 : ∀ (j : Nat) t (d : DataW H), [4, 23, 23][j]? = some t → [x0.1, x1.1, x2.1][j]? = some d → ∀ x ∈ d.weights Try.prog t, x ≤ reachBytes := by
   intro j t d ht hd x hx
   refine hz x ?_
   unfold DataW.weights
   rw [Try.underlying25]
   exact DataW.weights_mem_each ht hd x hx
  have h1 := len_of_reach Try.underlying23 (b := 4) (by kernel_rfl) g1 (hz1 1 _ _ rfl rfl)
  have h2 := len_of_reach Try.underlying23 (b := 4) (by kernel_rfl) g2 (hz1 2 _ _ rfl rfl)
  have hr : reachBytes = 140737488351232 := by decide
  omega
theorem con_of_reach {v : Value} {d : DataW H} {p : List MemPlace} {c : CW} (h : DataW.Trod enc Try.prog w base spare held 27 v d p) (hc : ConVal w v c) (hz : ∀ x ∈ d.weights Try.prog 27, x ≤ reachBytes) : c.Le 35184372087808 := by
 obtain ⟨T, n, m, x, rfl, hS, hr⟩ := hc.cv
 obtain ⟨fuel, hy⟩ := h
 obtain ⟨xs, k, _, hxe, _, hxl, hg⟩ := DataW.trod_struct Try.underlying27 hy
 match xs, hxl with
 | [x0, x1, x2], _ =>
  simp only [Prod.mk.injEq] at hxe
  obtain ⟨rfl, _⟩ := hxe
  have g1 := hg 1 _ rfl
  have g2 := hg 2 _ rfl
  have e0 : Try.prog.cellsOf 3 = 1 := by kernel_rfl
  have e1 : Try.prog.cellsOf 22 = 1 := by kernel_rfl
  have e2 : Try.prog.cellsOf 25 = 3 := by kernel_rfl
  have e4 : Try.prog.cellsOf 38 = 4 := by kernel_rfl
  simp [e0, e1, e2, Value.cells] at g1 g2
  have hz1 : ∀ (j : Nat) t (d : DataW H), [3, 22, 25][j]? = some t → [x0.1, x1.1, x2.1][j]? = some d → ∀ x ∈ d.weights Try.prog t, x ≤ reachBytes := by
   intro j t d ht hd x hx
   refine hz x ?_
   unfold DataW.weights
   rw [Try.underlying27]
   exact DataW.weights_mem_each ht hd x hx
  have l2 := rat_of_reach g2 (hz1 2 _ _ rfl rfl)
  have hl := rv_lens hr
  refine ⟨fun t ht => ?_, by omega, by omega⟩
  obtain ⟨i, hi⟩ := List.getElem?_of_mem ht
  have hin : i < n := by rw [← hS.1]; exact (List.getElem?_eq_some_iff.1 hi).1
  obtain ⟨_, _, _, _, _, e6⟩ := hS
  obtain ⟨b, o, rfl, hb, hx⟩ := e6 (by omega)
  obtain ⟨v0, v1, v2, hca, hrt⟩ := hx i t hi
  obtain ⟨u, rfl, rfl, rfl, hu⟩ := rows_rv hrt
  obtain ⟨ds, y, q, hds, hcd, hty, hyw⟩ := elem_of_reach Try.underlying22 e4 (by omega) g1 (hz1 1 _ _ rfl rfl) i hin
  have hdse : ds = [.int .i64 t.v, .bool u.s, .slice u.A u.n u.c, .slice u.A' u.n' u.c'] := by
   apply List.ext_getElem?
   intro j
   rcases Nat.lt_or_ge j 4 with hj | hj
   ·have h1 := hcd j (by omega)
    have h2 := hca j (by simpa using hj)
    rw [← h1, ← h2]
   ·rw [List.getElem?_eq_none (by omega), List.getElem?_eq_none (by simpa using hj)]
  subst hdse
  obtain ⟨ys, k2, _, hye, _, hyl, hg2⟩ := DataW.trod_struct Try.underlying38 hty
  match ys, hyl with
  | [y0, y1], _ =>
   have f1 := hg2 1 _ rfl
   simp [e0, e2] at f1
   have hz2 : ∀ (j : Nat) t (d : DataW H), [3, 25][j]? = some t → [y0.1, y1.1][j]? = some d → ∀ x ∈ d.weights Try.prog t, x ≤ reachBytes := by
    intro j t d ht hd x hx
    refine hyw x ?_
    rw [hye]
    unfold DataW.weights
    rw [Try.underlying38]
    exact DataW.weights_mem_each ht hd x hx
   have l3 := rat_of_reach f1 (hz2 1 _ _ rfl rfl)
   have hl2 := rv_lens hu
   exact ⟨by omega, by omega⟩
end
end Go.Proofs.Ytahdlpkncemmaaa
