/- Sums, rows of rationals, expressions and. Conditions: those that each theorem names. -/
import Derived.Test.YtahdlpkncemmaaaGreatY29
import Derived.WideShapes
set_option maxRecDepth 100000
set_option maxHeartbeats 8000000
set_option linter.unusedSimpArgs false
set_option linter.unusedVariables false
namespace Pg
open Go Go.RowKit
theorem CellsAt.sub {w : World} {b o : Nat} {cs : List Value} (h : CellsAt w b o cs) (i n : Nat) (hn : i + n ≤ cs.length) : CellsAt w b (o + i) ((cs.drop i).take n) := by
 intro j hj
 have hj2 : j < n := by simp at hj; omega
 have := h (i + j) (by omega)
 rw [show o + (i + j) = o + i + j by omega] at this
 rw [this, List.getElem?_take_of_lt hj2, List.getElem?_drop]
end Pg
namespace Go.Proofs.YtahdlpkncemmaaaGreat
open Go.RowKit Pg
theorem reads_rows {w : World} {h : RHdr} {q : Rat} (hr : RHdr.Reads w h q) : ∃ r : RW, RowsAt w r (.bool h.s) (.slice h.A h.n h.c) (.slice h.A' h.n' h.c') := by
 obtain ⟨xs, ys, r1, r2, l1, l2, _⟩ := hr
 exact ⟨⟨h.s, xs, ys⟩, _, _, _, _, _, _, rfl, rfl, rfl, r1, r2, l1, l2⟩
structure EW where
 A0 : Option Addr
 A1 : Option Addr
 A2 : Option Addr
 n0 : Nat
 k0 : Nat
 n1 : Nat
 k1 : Nat
 n2 : Nat
 k2 : Nat
 vars : List (List UInt8)
 names : List (List UInt8)
 vals : List RW
def EW.val (x : EW) : Value := .agg #[.slice x.A0 x.n0 x.k0, .slice x.A1 x.n1 x.k1, .slice x.A2 x.n2 x.k2]
structure EnvAt (w : World) (x : EW) : Prop where
 vars : SlAt 1 NameAt w x.A0 x.n0 x.k0 x.vars
 names : SlAt 1 NameAt w x.A1 x.n1 x.k1 x.names
 vals : SlAt 3 RawAt w x.A2 x.n2 x.k2 x.vals
theorem EnvAt.below {w w' : World} {x : EW} (h : EnvAt w x) (hw : Below w.heap.size w w') : EnvAt w' x := ⟨h.vars.below nameAt_stays hw, h.names.below nameAt_stays hw, h.vals.below rawAt_stays hw⟩
def EW.q (x : EW) : EnvQ := ⟨x.vars, x.names, x.vals.map RW.q⟩
def EnvArg (w : World) (v : Value) (x : EW) : Prop := v = x.val ∧ EnvAt w x
structure LW where
 A : Option Addr
 n : Nat
 k : Nat
 l : List RW
def LW.val (x : LW) : Value := .slice x.A x.n x.k
def RatsArg (w : World) (v : Value) (x : LW) : Prop := v = x.val ∧ SlAt 3 RawAt w x.A x.n x.k x.l
theorem RatsArg.below {w w' : World} {v : Value} {x : LW} (h : RatsArg w v x) (hw : Below w.heap.size w w') : RatsArg w' v x := ⟨h.1, h.2.below rawAt_stays hw⟩
section
variable {H : Type} {enc : TypeId × Value → H} {base : Nat} {spare : Nat → Bool} {held : Bool} {w : World}
theorem text_of_trod {m : Nat} {c : Value} {y : DataW H × List MemPlace} (hy : DataW.trod enc Tryz.prog w base spare held m 9 [c] = some y) (hzy : ∀ x ∈ y.1.weights Tryz.prog 9, x ≤ reachBytes) : ∃ l : List UInt8, c = .string (str l) ∧ l.length ≤ 140737488355328 := by
 obtain ⟨s, k2, hx2, _⟩ := DataW.trod_string Tryz.underlying9 hy
 rw [hx2] at hzy
 have hs2 := hzy s.data.toList.length (by simp [DataW.weights])
 have hrb := reachBytes_lt
 simp at k2
 subst k2
 exact ⟨s.data.toList, rfl, by omega⟩
theorem int_of_trod {m : Nat} {c : Value} {y : DataW H × List MemPlace} (hy : DataW.trod enc Tryz.prog w base spare held m 3 [c] = some y) : ∃ k : Int, c = .int .i64 k := by
 obtain ⟨kd, k0, _⟩ := DataW.trod_int Tryz.underlying3 hy
 simp at k0
 exact ⟨kd, k0⟩
theorem nameAt_of {fuel b o : Nat} {ds : List Value} {y : DataW H × List MemPlace} (hlen : ds.length = 1) (hca : CellsAt w b o ds) (hy : DataW.trod enc Tryz.prog w base spare held fuel 9 ds = some y) (hzy : ∀ k ∈ y.1.weights Tryz.prog 9, k ≤ reachBytes) : ∃ a, NameAt w b o a := by
 match ds, hlen with
 | [c0], _ =>
 obtain ⟨l, rfl, hl⟩ := text_of_trod hy hzy
 exact ⟨l, hca, hl⟩
theorem rawAt_of {fuel b o : Nat} {ds : List Value} {y : DataW H × List MemPlace} (hlen : ds.length = 3) (hca : CellsAt w b o ds) (hy : DataW.trod enc Tryz.prog w base spare held fuel 24 ds = some y) (hzy : ∀ k ∈ y.1.weights Tryz.prog 24, k ≤ reachBytes) : ∃ a, RawAt w b o a := by
 match ds, hlen with
 | [c0, c1, c2], _ =>
 obtain ⟨h, q, rfl, rfl, rfl, r⟩ := hdr_of_trod hy hzy
 obtain ⟨a, ha⟩ := (reads_rows r)
 exact ⟨a, _, _, _, hca, ha⟩
theorem termAt_of {fuel b o : Nat} {ds : List Value} {y : DataW H × List MemPlace} (hlen : ds.length = 4) (hca : CellsAt w b o ds) (hy : DataW.trod enc Tryz.prog w base spare held fuel 65 ds = some y) (hzy : ∀ k ∈ y.1.weights Tryz.prog 65, k ≤ reachBytes) : ∃ a, TermAt w b o a := by
 obtain ⟨xs, n, _, rfl, _, hxl, hg⟩ := DataW.trod_struct Tryz.underlying65 hy
 match ds, hlen with
 | [c0, c1, c2, c3], _ =>
 match xs, hxl with
 | [x0, x1], _ =>
  have g0 := hg 0 _ rfl
  have g1 := hg 1 _ rfl
  have eint : Tryz.prog.cellsOf 3 = 1 := by kernel_rfl
  have erat : Tryz.prog.cellsOf 24 = 3 := by kernel_rfl
  simp [eint] at g0
  simp [erat] at g1
  have hz1 : ∀ (j : Nat) t (d : DataW H), [3, 24][j]? = some t → [x0.1, x1.1][j]? = some d → ∀ x ∈ d.weights Tryz.prog t, x ≤ reachBytes := by
   intro j t d ht hd x hx
   refine hzy x ?_
   unfold DataW.weights
   rw [Tryz.underlying65]
   exact DataW.weights_mem_each ht hd x hx
  obtain ⟨l0, rfl⟩ := int_of_trod g0
  obtain ⟨h, q, rfl, rfl, rfl, r⟩ := hdr_of_trod g1 (hz1 1 _ _ rfl rfl)
  obtain ⟨a, ha⟩ := (reads_rows r)
  exact ⟨⟨l0, a⟩, _, _, _, hca, ha⟩
theorem slName {fuel : Nat} {cs : List Value} {y : DataW H × List MemPlace} (hy : DataW.trod enc Tryz.prog w base spare held fuel 28 cs = some y) (hzy : ∀ k ∈ y.1.weights Tryz.prog 28, k ≤ reachBytes) : ∃ A n c l, cs = [.slice A n c] ∧ SlAt 1 NameAt w A n c l := by
 have e1 : Tryz.prog.cellsOf 9 = 1 := by kernel_rfl
 have e2 : Tryz.prog.bytesOf 9 = 16 := by kernel_rfl
 exact SlAt.of_trod Tryz.underlying28 e1 (by decide) (by rw [e2]; decide) hy hzy (fun m hm b o ds y _ hl hc ht hz => nameAt_of hl hc ht hz)
theorem slRaw {fuel : Nat} {cs : List Value} {y : DataW H × List MemPlace} (hy : DataW.trod enc Tryz.prog w base spare held fuel 29 cs = some y) (hzy : ∀ k ∈ y.1.weights Tryz.prog 29, k ≤ reachBytes) : ∃ A n c l, cs = [.slice A n c] ∧ SlAt 3 RawAt w A n c l := by
 have e1 : Tryz.prog.cellsOf 24 = 3 := by kernel_rfl
 have e2 : Tryz.prog.bytesOf 24 = 56 := by kernel_rfl
 exact SlAt.of_trod Tryz.underlying29 e1 (by decide) (by rw [e2]; decide) hy hzy (fun m hm b o ds y _ hl hc ht hz => rawAt_of hl hc ht hz)
theorem slTerm {fuel : Nat} {cs : List Value} {y : DataW H × List MemPlace} (hy : DataW.trod enc Tryz.prog w base spare held fuel 34 cs = some y) (hzy : ∀ k ∈ y.1.weights Tryz.prog 34, k ≤ reachBytes) : ∃ A n c l, cs = [.slice A n c] ∧ SlAt 4 TermAt w A n c l := by
 have e1 : Tryz.prog.cellsOf 65 = 4 := by kernel_rfl
 have e2 : Tryz.prog.bytesOf 65 = 64 := by kernel_rfl
 exact SlAt.of_trod Tryz.underlying34 e1 (by decide) (by rw [e2]; decide) hy hzy (fun m hm b o ds y _ hl hc ht hz => termAt_of hl hc ht hz)
theorem PT.Ats.of_get {w : World} : ∀ {l : List PT} {b o : Nat}, (∀ j x, l[j]? = some x → PT.At w x b (o + j * 6)) → PT.Ats w l b o
 | [], _, _, _ => by unfold PT.Ats; trivial
 | e :: l, b, o, h => by
  unfold PT.Ats
  refine ⟨by simpa using h 0 e rfl, PT.Ats.of_get fun j x hj => ?_⟩
  have := h (j + 1) x (by rw [List.getElem?_cons_succ]; exact hj)
  rwa [show o + 6 + j * 6 = o + (j + 1) * 6 by omega]
theorem PT.val_of_trod {fuel : Nat} {c0 c1 c2 c3 c4 c5 : Value} {y : DataW H × List MemPlace} (hy : DataW.trod enc Tryz.prog w base spare held fuel 27 [c0, c1, c2, c3, c4, c5] = some y) (hzy : ∀ k ∈ y.1.weights Tryz.prog 27, k ≤ reachBytes) : ∃ t, PT.Val w (.agg #[c0, c1, c2, c3, c4, c5]) t := by
 obtain ⟨xs, n, hfu, rfl, _, hxl, hg⟩ := DataW.trod_struct Tryz.underlying27 hy
 match xs, hxl with
 | [x0, x1, x2, x3], _ =>
  have g0 := hg 0 _ rfl
  have g1 := hg 1 _ rfl
  have g2 := hg 2 _ rfl
  have g3 := hg 3 _ rfl
  have e0 : Tryz.prog.cellsOf 3 = 1 := by kernel_rfl
  have e1 : Tryz.prog.cellsOf 24 = 3 := by kernel_rfl
  have e2 : Tryz.prog.cellsOf 9 = 1 := by kernel_rfl
  have e3 : Tryz.prog.cellsOf 25 = 1 := by kernel_rfl
  have e6 : Tryz.prog.cellsOf 27 = 6 := by kernel_rfl
  simp [e0] at g0
  simp [e1] at g1
  simp [e2] at g2
  simp [e3] at g3
  have hz1 : ∀ (j : Nat) t (d : DataW H), [3, 24, 9, 25][j]? = some t → [x0.1, x1.1, x2.1, x3.1][j]? = some d → ∀ x ∈ d.weights Tryz.prog t, x ≤ reachBytes := by
   intro j t d ht hd x hx
   refine hzy x ?_
   unfold DataW.weights
   rw [Tryz.underlying27]
   exact DataW.weights_mem_each ht hd x hx
  obtain ⟨kd, rfl⟩ := int_of_trod g0
  obtain ⟨h, q, rfl, rfl, rfl, hr⟩ := hdr_of_trod g1 (hz1 1 _ _ rfl rfl)
  obtain ⟨nm, rfl, hnm⟩ := text_of_trod g2 (hz1 2 _ _ rfl rfl)
  have hb4 : Tryz.prog.bytesOf 27 = 104 := by kernel_rfl
  have hby : 0 < Tryz.prog.bytesOf 27 := by rw [hb4]; decide
  obtain ⟨K, kn, kc, l, k3, hsl⟩ := SlAt.of_trod (E := fun w b o e => PT.At w e b o) Tryz.underlying25 e6 (by omega) hby g3 (hz1 3 _ _ rfl rfl) (fun m hm b' o' ds' y' _ hl' hc' ht' hz' => by
   obtain ⟨e, he⟩ := ET.of_trod m b' o' ds' y' hl' hc' ht' hz'
   exact ET.At.pt e b' o' he)
  simp at k3
  subst k3
  obtain ⟨l1, l2, l3, l4, _, l6⟩ := hsl
  obtain ⟨r, hrr⟩ := reads_rows hr
  subst l1
  refine ⟨.mk kd r nm l, _, _, _, K, kc, rfl, hrr, hnm, l2, l3, fun hn => ?_⟩
  obtain ⟨b', o', hK, hb', hk⟩ := l6 hn
  exact ⟨b', o', hK, hb', PT.Ats.of_get hk⟩
theorem ExprArg.of_trod {r : Reach} {b0 : Nat} {v : Value} {d : DataW H} {p : List MemPlace} (hv : Value.okWide Tryz.prog w r b0 27 v) (h : DataW.Trod enc Tryz.prog w base spare held 27 v d p)
  (hzy : ∀ x ∈ d.weights Tryz.prog 27, x ≤ reachBytes) : ∃ t, PT.Val w v t := by
 obtain ⟨cs, rfl, hsz⟩ := Go.WideShapes.okWide_struct Tryz.underlying27 hv
 have e6 : Tryz.prog.cellsOf 27 = 6 := by kernel_rfl
 rw [e6] at hsz
 obtain ⟨ds, rfl⟩ : ∃ ds : List Value, cs = ds.toArray := ⟨cs.toList, by simp⟩
 obtain ⟨fuel, hy⟩ := h
 match ds, hsz with
 | [c0, c1, c2, c3, c4, c5], _ => exact PT.val_of_trod (y := (d, p)) hy hzy
theorem ConArg.of_trod {r : Reach} {b0 : Nat} {v : Value} {d : DataW H} {p : List MemPlace} (hv : Value.okWide Tryz.prog w r b0 36 v) (h : DataW.Trod enc Tryz.prog w base spare held 36 v d p)
  (hzy : ∀ x ∈ d.weights Tryz.prog 36, x ≤ reachBytes) : ∃ c, ConVal w v c := by
 obtain ⟨cs, rfl, hsz⟩ := Go.WideShapes.okWide_struct Tryz.underlying36 hv
 have e6 : Tryz.prog.cellsOf 36 = 5 := by kernel_rfl
 rw [e6] at hsz
 obtain ⟨ds, rfl⟩ : ∃ ds : List Value, cs = ds.toArray := ⟨cs.toList, by simp⟩
 obtain ⟨fuel, hy⟩ := h
 obtain ⟨xs, n, _, hxe, _, hxl, hg⟩ := DataW.trod_struct Tryz.underlying36 hy
 match ds, hsz with
 | [c0, c1, c2, c3, c4], _ =>
 match xs, hxl with
 | [x0, x1, x2], _ =>
  simp only [Prod.mk.injEq] at hxe
  obtain ⟨rfl, _⟩ := hxe
  have g0 := hg 0 _ rfl
  have g1 := hg 1 _ rfl
  have g2 := hg 2 _ rfl
  have e0 : Tryz.prog.cellsOf 3 = 1 := by kernel_rfl
  have e1 : Tryz.prog.cellsOf 34 = 1 := by kernel_rfl
  have e2 : Tryz.prog.cellsOf 24 = 3 := by kernel_rfl
  simp [e0, Value.cells] at g0
  simp [e1, Value.cells] at g1
  simp [e2, Value.cells] at g2
  have hz1 : ∀ (j : Nat) t (d : DataW H), [3, 34, 24][j]? = some t → [x0.1, x1.1, x2.1][j]? = some d → ∀ x ∈ d.weights Tryz.prog t, x ≤ reachBytes := by
   intro j t d ht hd x hx
   refine hzy x ?_
   unfold DataW.weights
   rw [Tryz.underlying36]
   exact DataW.weights_mem_each ht hd x hx
  obtain ⟨s, rfl⟩ := int_of_trod g0
  obtain ⟨A1, n1, k1, l1, h1, s1⟩ := slTerm g1 (hz1 1 _ _ rfl rfl)
  obtain ⟨hd, q, rfl, rfl, rfl, hr⟩ := hdr_of_trod g2 (hz1 2 _ _ rfl rfl)
  simp at h1
  subst h1
  obtain ⟨r, hrr⟩ := reads_rows hr
  exact ⟨⟨s, l1, r⟩, A1, n1, k1, _, _, _, rfl, s1, hrr⟩
theorem EnvArg.of_trod {r : Reach} {b0 : Nat} {v : Value} {d : DataW H} {p : List MemPlace} (hv : Value.okWide Tryz.prog w r b0 31 v) (h : DataW.Trod enc Tryz.prog w base spare held 31 v d p)
  (hzy : ∀ x ∈ d.weights Tryz.prog 31, x ≤ reachBytes) : ∃ x, EnvArg w v x := by
 obtain ⟨cs, rfl, hsz⟩ := Go.WideShapes.okWide_struct Tryz.underlying31 hv
 have e6 : Tryz.prog.cellsOf 31 = 3 := by kernel_rfl
 rw [e6] at hsz
 obtain ⟨ds, rfl⟩ : ∃ ds : List Value, cs = ds.toArray := ⟨cs.toList, by simp⟩
 obtain ⟨fuel, hy⟩ := h
 obtain ⟨xs, n, _, hxe, _, hxl, hg⟩ := DataW.trod_struct Tryz.underlying31 hy
 match ds, hsz with
 | [c0, c1, c2], _ =>
 match xs, hxl with
 | [x0, x1, x2], _ =>
  simp only [Prod.mk.injEq] at hxe
  obtain ⟨rfl, _⟩ := hxe
  have g0 := hg 0 _ rfl
  have g1 := hg 1 _ rfl
  have g2 := hg 2 _ rfl
  have e0 : Tryz.prog.cellsOf 28 = 1 := by kernel_rfl
  have e2 : Tryz.prog.cellsOf 29 = 1 := by kernel_rfl
  simp [e0, Value.cells] at g0
  simp [e0, Value.cells] at g1
  simp [e2, Value.cells] at g2
  have hz1 : ∀ (j : Nat) t (d : DataW H), [28, 28, 29][j]? = some t → [x0.1, x1.1, x2.1][j]? = some d → ∀ x ∈ d.weights Tryz.prog t, x ≤ reachBytes := by
   intro j t d ht hd x hx
   refine hzy x ?_
   unfold DataW.weights
   rw [Tryz.underlying31]
   exact DataW.weights_mem_each ht hd x hx
  obtain ⟨A0, n0, k0, l0, h0, s0⟩ := slName g0 (hz1 0 _ _ rfl rfl)
  obtain ⟨A1, n1, k1, l1, h1, s1⟩ := slName g1 (hz1 1 _ _ rfl rfl)
  obtain ⟨A2, n2, k2, l2, h2, s2⟩ := slRaw g2 (hz1 2 _ _ rfl rfl)
  simp at h0
  simp at h1
  simp at h2
  subst h0 h1 h2
  exact ⟨⟨A0, A1, A2, n0, k0, n1, k1, n2, k2, l0, l1, l2⟩, rfl, ⟨s0, s1, s2⟩⟩
theorem RatsArg.of_trod {r : Reach} {b0 : Nat} {v : Value} {d : DataW H} {p : List MemPlace} (hv : Value.okWide Tryz.prog w r b0 29 v) (h : DataW.Trod enc Tryz.prog w base spare held 29 v d p)
  (hzy : ∀ x ∈ d.weights Tryz.prog 29, x ≤ reachBytes) : ∃ x, RatsArg w v x := by
 obtain ⟨A, n, c, rfl⟩ := Go.WideShapes.okWide_slice Tryz.underlying29 hv
 obtain ⟨fuel, hy⟩ := h
 obtain ⟨A', n', c', l, hc, hs⟩ := slRaw (y := (d, p)) hy hzy
 simp [Value.cells] at hc
 obtain ⟨rfl, rfl, rfl⟩ := hc
 exact ⟨⟨A, n, c, l⟩, rfl, hs⟩
end
end Go.Proofs.YtahdlpkncemmaaaGreat
