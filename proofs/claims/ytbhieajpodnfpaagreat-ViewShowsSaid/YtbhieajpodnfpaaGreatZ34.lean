/- How view reads a form and a document; walks: view.there, Told · How an expression that came in is read: a tree · What an expression's reading says · Walk: pantographlaw19.weight, by induction on the expression · How a whole form is read: its six slices · From a whole form's and a whole document's readings to what view reads · A form's and a document's readings out of the frame · Walks: view.Told, Field. Conditions: those that each theorem names. -/
import Derived.Test.YtbhieajpodnfpaaGreatZ17
import Derived.Test.YtbhieajpodnfpaaGreatZ24
import Derived.Test.YtbhieajpodnfpaaGreatZ33
import Derived.Shelf.Slices.Turned
import Derived.Test.YtbhieajpodnfpaaGreatZ15
import Derived.Test.YtbhieajpodnfpaaGreatZ32
namespace Pg
open Go Go.RowKit
end Pg
namespace Go.Proofs.YtbhieajpodnfpaaGreat
open Go.RowKit Pg
structure Fld where
  name : List UInt8
  page : Int
  must : Bool
  scale : Int
/-- A field's four cells. -/
def FldAt (w : World) (b o : Nat) (x : Fld) : Prop := CellsAt w b o [.string (str x.name), .int .i64 x.page, .bool x.must, .int .i64 x.scale] ∧ x.name.length ≤ 140737488355328
/-- A text's first cell. -/
def NameAt (w : World) (b o : Nat) (x : List UInt8) : Prop := CellsAt w b o [.string (str x)] ∧ x.length ≤ 140737488355328
def IntAt (w : World) (b o : Nat) (x : Int) : Prop := CellsAt w b o [.int .i64 x]
def BoolAt (w : World) (b o : Nat) (x : Bool) : Prop := CellsAt w b o [.bool x]
/-- A rational's three cells, its rows of at most k limbs. -/
def RatAt (k : Nat) (w : World) (b o : Nat) (q : Rat) : Prop := ∃ s A n c A' n' c' xs ys, CellsAt w b o [.bool s, .slice A n c, .slice A' n' c'] ∧ Row w A n c xs ∧ Row w A' n' c' ys ∧ n ≤ k ∧ n' ≤ k ∧ rv s (val xs) (val ys) = q
theorem fldAt_stays : Stays FldAt := fun _ _ _ _ _ hb h hw => ⟨h.1.below hb hw, h.2⟩
theorem nameAt_stays : Stays NameAt := fun _ _ _ _ _ hb h hw => ⟨h.1.below hb hw, h.2⟩
theorem intAt_stays : Stays IntAt := fun _ _ _ _ _ hb h hw => CellsAt.below h hb hw
theorem boolAt_stays : Stays BoolAt := fun _ _ _ _ _ hb h hw => CellsAt.below h hb hw
theorem ratAt_stays (k : Nat) : Stays (RatAt k) := fun _ _ _ _ _ hb ⟨s, A, n, c, A', n', c', xs, ys, h0, h1, h2, h3⟩ hw => ⟨s, A, n, c, A', n', c', xs, ys, h0.below hb hw, h1.below hw, h2.below hw, h3⟩
/-- A block of six cells. -/
def B6n (w : World) (g : Nat) (t : TypeId) (v0 v1 v2 v3 v4 v5 : Value) : Prop := w.heap[g]? = some (.cells #[v0, v1, v2, v3, v4, v5] t (0, 0))
theorem B6n.newg (w : World) (t : TypeId) (v0 v1 v2 v3 v4 v5 : Value) (g : Nat) (hg : g = w.heap.size) : B6n (w.alloc (.cells #[v0, v1, v2, v3, v4, v5] t)) g t v0 v1 v2 v3 v4 v5 := by subst hg; exact heap_alloc_new w _
theorem B6n.lt {w : World} {g : Nat} {t : TypeId} {v0 v1 v2 v3 v4 v5 : Value} (h : B6n w g t v0 v1 v2 v3 v4 v5) : g < w.heap.size := by
  rcases Nat.lt_or_ge g w.heap.size with h1 | h1
  · exact h1
  · unfold B6n at h; rw [Array.getElem?_eq_none h1] at h; cases h
theorem B6n.below {w w' : World} {g : Nat} {t : TypeId} {v0 v1 v2 v3 v4 v5 : Value} (h : B6n w g t v0 v1 v2 v3 v4 v5) (hb : Below w.heap.size w w') : B6n w' g t v0 v1 v2 v3 v4 v5 := (hb.block g h.lt).trans h
theorem B6n.alloc {w : World} {g : Nat} {t : TypeId} {v0 v1 v2 v3 v4 v5 : Value} (h : B6n w g t v0 v1 v2 v3 v4 v5) (o : Obj) : B6n (w.alloc o) g t v0 v1 v2 v3 v4 v5 := (Below.heap_alloc w o g h.lt).trans h
theorem B6n.cells {w : World} {g : Nat} {t : TypeId} {v0 v1 v2 v3 v4 v5 : Value} (h : B6n w g t v0 v1 v2 v3 v4 v5) : w.cell? ⟨g, 0, none⟩ = some v0 ∧ w.cell? ⟨g, 1, none⟩ = some v1 ∧ w.cell? ⟨g, 2, none⟩ = some v2 ∧ w.cell? ⟨g, 3, none⟩ = some v3 ∧ w.cell? ⟨g, 4, none⟩ = some v4 ∧ w.cell? ⟨g, 5, none⟩ = some v5 := by
  refine ⟨?_, ?_, ?_, ?_, ?_, ?_⟩ <;> (rw [cell_of_row w g _ _ t (0, 0) h]; rfl)
/-- What view reads of a form and a document. -/
structure VData where
  pages : List (List UInt8)
  flds : List Fld
  rules : List (List UInt8)
  vals : List Rat
  outs : List Int
  pins : List Bool
  filled : List Bool
/-- Who tells a field: a rule's name, or nothing. -/
def told (D : VData) (z : Int) : List UInt8 := if 0 ≤ z ∧ 0 ≤ Go.Lib.idxOf D.outs z then D.rules.getD (Go.Lib.idxOf D.outs z).toNat [] else []
/-- A form's and a document's values that read as D. -/
structure VRead (w : World) (PA FA RA VA OA QA LA : Option Addr) (pn pc fn fc rn rc vn vc on oc qn qc ln lc k : Nat) (D : VData) : Prop where
  pages : SlAt 2 NameAt w PA pn pc D.pages
  flds : SlAt 4 FldAt w FA fn fc D.flds
  rules : SlAt 15 NameAt w RA rn rc D.rules
  vals : SlAt 3 (RatAt k) w VA vn vc D.vals
  outs : SlAt 1 IntAt w OA on oc D.outs
  pins : SlAt 5 BoolAt w QA qn qc D.pins
  filled : SlAt 1 BoolAt w LA ln lc D.filled
theorem VRead.below {w w' : World} {PA FA RA VA OA QA LA : Option Addr} {pn pc fn fc rn rc vn vc on oc qn qc ln lc k : Nat} {D : VData} (h : VRead w PA FA RA VA OA QA LA pn pc fn fc rn rc vn vc on oc qn qc ln lc k D) (hw : Below w.heap.size w w') : VRead w' PA FA RA VA OA QA LA pn pc fn fc rn rc vn vc on oc qn qc ln lc k D :=
  ⟨h.pages.below nameAt_stays hw, h.flds.below fldAt_stays hw, h.rules.below nameAt_stays hw, h.vals.below (ratAt_stays k) hw, h.outs.below intAt_stays hw, h.pins.below boolAt_stays hw, h.filled.below boolAt_stays hw⟩
set_option maxHeartbeats 1000000 in
/-- view.there. -/
theorem there_any (f0 f1 f2 f4 f5 d0 d1 d3 d4 d5 : Value) (FA VA : Option Addr) (fn fc vn vc : Nat) (z : Int) (w : World) (_hz0 : -9223372036854775808 ≤ z) (_hz1 : z ≤ 9223372036854775807) :
    Calls Tryz.prog 20 #[.agg #[f0, f1, f2, .slice FA fn fc, f4, f5], .agg #[d0, d1, .slice VA vn vc, d3, d4, d5], .int .i64 z] w fun e w' => e = .returned (.bool (decide (0 ≤ z ∧ z < (fn : Int) ∧ z < (vn : Int)))) ∧ Below w.heap.size w w' := by
  have hX := (B6n.newg w 29 f0 f1 f2 (.slice FA fn fc) f4 f5 _ rfl).alloc (.cells #[d0, d1, .slice VA vn vc, d3, d4, d5] 35)
  have hY := B6n.newg (w.alloc (.cells #[f0, f1, f2, .slice FA fn fc, f4, f5] 29)) 35 d0 d1 (.slice VA vn vc) d3 d4 d5 (w.heap.size + 1) (by simp)
  obtain ⟨_, _, _, k3, _, _⟩ := hX.cells
  obtain ⟨_, _, j2, _, _, _⟩ := hY.cells
  by_cases h0 : 0 ≤ z
  · by_cases h1 : z < (fn : Int)
    · by_cases h2 : z < (vn : Int)
      · have hd := hid (decide_eq_true (show 0 ≤ z ∧ z < (fn : Int) ∧ z < (vn : Int) from ⟨h0, h1, h2⟩))
        go_enter Tryz.func20, Tryz.ntmps20
        go_wp2_with fail
        go_ret
        exact ⟨by first | rfl | (rw [hd.out]; rfl), (by repeat first | exact Below.refl _ _ | assumption | refine Pg.Below.then_ ?_ (by assumption) | refine Pg.Below.new_ ?_ _ | refine Pg.Below.drewN_ ?_ _)⟩
      · have hd := hid (decide_eq_false (show ¬ (0 ≤ z ∧ z < (fn : Int) ∧ z < (vn : Int)) from fun h => h2 h.2.2))
        have h2' : decide (z < (vn : Int)) = false := decide_eq_false h2
        go_enter Tryz.func20, Tryz.ntmps20
        go_wp2_with fail
        go_ret
        exact ⟨by first | rfl | (rw [hd.out]; rfl), (by repeat first | exact Below.refl _ _ | assumption | refine Pg.Below.then_ ?_ (by assumption) | refine Pg.Below.new_ ?_ _ | refine Pg.Below.drewN_ ?_ _)⟩
    · have hd := hid (decide_eq_false (show ¬ (0 ≤ z ∧ z < (fn : Int) ∧ z < (vn : Int)) from fun h => h1 h.2.1))
      have h1' : decide (z < (fn : Int)) = false := decide_eq_false h1
      go_enter Tryz.func20, Tryz.ntmps20
      go_wp2_with fail
      go_ret
      exact ⟨by first | rfl | (rw [hd.out]; rfl), (by repeat first | exact Below.refl _ _ | assumption | refine Pg.Below.then_ ?_ (by assumption) | refine Pg.Below.new_ ?_ _ | refine Pg.Below.drewN_ ?_ _)⟩
  · have hd := hid (decide_eq_false (show ¬ (0 ≤ z ∧ z < (fn : Int) ∧ z < (vn : Int)) from fun h => h0 h.1))
    have h0' : decide (0 ≤ z) = false := decide_eq_false h0
    go_enter Tryz.func20, Tryz.ntmps20
    go_wp2_with fail
    go_ret
    exact ⟨by first | rfl | (rw [hd.out]; rfl), (by repeat first | exact Below.refl _ _ | assumption | refine Pg.Below.then_ ?_ (by assumption) | refine Pg.Below.new_ ?_ _ | refine Pg.Below.drewN_ ?_ _)⟩
/-- slices.Index of ints. -/
theorem index_any (A : Option Addr) (n c : Nat) (l : List Int) (z : Int) (w : World) (h : SlAt 1 IntAt w A n c l) :
    Calls Tryz.prog 29 #[.slice A n c, .int .i64 z] w fun e w' => e = .returned (.int .i64 (Lib.idxOf l z)) ∧ w' = w := by
  obtain ⟨hl, hnc, hn, hcm, _, hx⟩ := h
  by_cases h0 : n = 0
  · subst h0
    obtain rfl := List.length_eq_zero_iff.1 hl
    exact Any.slices_Index_int_empty Tryz.lay108 A c z w
  · obtain ⟨b, o, rfl, _, hc⟩ := hx (by omega)
    have := Any.slices_Index_int Tryz.lay108 b o n c l z w (by omega) (by omega) (fun j hj => by
      have h1 := hc j l[j] (List.getElem?_eq_getElem hj)
      have h2 := h1 0 (by simp)
      rw [Nat.mul_one, Nat.add_zero] at h2
      rw [h2]
      simp [List.getD, hj])
    rwa [List.take_of_length_le (by omega)] at this
theorem idx_bounds (l : List Int) (z : Int) : -1 ≤ Lib.idxOf l z ∧ Lib.idxOf l z < (l.length : Int) ∨ Lib.idxOf l z = -1 ∧ l = [] := by
  have key : ∀ (l : List Int) (i : Nat), -1 ≤ Lib.idxFrom l z i ∧ Lib.idxFrom l z i < ((i + l.length : Nat) : Int) ∨ Lib.idxFrom l z i = -1 := by
    intro l
    induction l with
    | nil => intro i; right; rfl
    | cons x l ih =>
      intro i
      unfold Lib.idxFrom
      split
      · left; simp only [List.length_cons]; omega
      · rcases ih (i + 1) with h | h
        · left; simp only [List.length_cons]; omega
        · exact .inr h
  rcases key l 0 with h | h
  · left; rw [Nat.zero_add] at h; exact h
  · by_cases hl : l = []
    · right; exact ⟨h, hl⟩
    · left
      have : Lib.idxOf l z = -1 := h
      rw [this]
      have := List.length_pos_iff.2 hl
      omega
end Go.Proofs.YtbhieajpodnfpaaGreat
namespace Pg
open Go Go.RowKit
/-- The rows of a header read as a rational. -/
def RHdr.Reads (w : World) (h : RHdr) (q : Rat) : Prop := ∃ xs ys, Row w h.A h.n h.c xs ∧ Row w h.A' h.n' h.c' ys ∧ h.n ≤ 140737488355328 ∧ h.n' ≤ 140737488355328 ∧ rv h.s (val xs) (val ys) = q
theorem RHdr.Reads.below {w w' : World} {h : RHdr} {q : Rat} (hr : RHdr.Reads w h q) (hw : Below w.heap.size w w') : RHdr.Reads w' h q := by
  obtain ⟨xs, ys, r1, r2, r3⟩ := hr
  exact ⟨xs, ys, r1.below hw, r2.below hw, r3⟩
end Pg
namespace Go.Proofs.YtbhieajpodnfpaaGreat
open Go.RowKit Pg
/-- An expression: its cells and its kids. -/
inductive ET where
  | mk (kind : Int) (h : RHdr) (q : Rat) (name : List UInt8) (K : Option Addr) (kn kc : Nat) (kids : List ET)
mutual
def ET.At (w : World) : ET → Nat → Nat → Prop
  | .mk kind h q name K kn kc kids, b, o => CellsAt w b o [.int .i64 kind, .bool h.s, .slice h.A h.n h.c, .slice h.A' h.n' h.c', .string (str name), .slice K kn kc] ∧ RHdr.Reads w h q ∧ name.length ≤ 140737488355328 ∧ kids.length = kn ∧ kn ≤ kc ∧ kn ≤ 140737488355328 ∧ kc ≤ 9223372036854775807 ∧ (0 < kn → ∃ b' o', K = some ⟨b', o', none⟩ ∧ b' < w.heap.size ∧ KidsAt w kids b' o')
def KidsAt (w : World) : List ET → Nat → Nat → Prop
  | [], _, _ => True
  | e :: l, b, o => ET.At w e b o ∧ KidsAt w l b (o + 6)
end
mutual
theorem ET.At.below {w w' : World} (hw : Below w.heap.size w w') : ∀ (e : ET) (b o : Nat), b < w.heap.size → ET.At w e b o → ET.At w' e b o
  | .mk kind h q name K kn kc kids, b, o, hb, hA => by
    unfold ET.At at hA ⊢
    obtain ⟨h1, h2, h3, h4, h5, h6, h7, h8⟩ := hA
    refine ⟨h1.below hb hw, h2.below hw, h3, h4, h5, h6, h7, fun hn => ?_⟩
    obtain ⟨b', o', e, hb', hk⟩ := h8 hn
    exact ⟨b', o', e, Nat.lt_of_lt_of_le hb' hw.size, KidsAt.below hw kids b' o' hb' hk⟩
theorem KidsAt.below {w w' : World} (hw : Below w.heap.size w w') : ∀ (l : List ET) (b o : Nat), b < w.heap.size → KidsAt w l b o → KidsAt w' l b o
  | [], _, _, _, _ => by unfold KidsAt; trivial
  | e :: l, b, o, hb, hA => by
    unfold KidsAt at hA ⊢
    exact ⟨ET.At.below hw e b o hb hA.1, KidsAt.below hw l b (o + 6) hb hA.2⟩
end
theorem KidsAt.get {w : World} : ∀ {l : List ET} {b o : Nat}, KidsAt w l b o → ∀ j x, l[j]? = some x → ET.At w x b (o + j * 6)
  | [], _, _, _, j, x, hj => by simp at hj
  | e :: l, b, o, h, j, x, hj => by
    unfold KidsAt at h
    match j with
    | 0 =>
      simp only [List.getElem?_cons_zero, Option.some.injEq] at hj
      subst hj
      simpa using h.1
    | j + 1 =>
      rw [List.getElem?_cons_succ] at hj
      have := KidsAt.get h.2 j x hj
      rwa [show o + 6 + j * 6 = o + (j + 1) * 6 by omega] at this
theorem KidsAt.of_get {w : World} : ∀ {l : List ET} {b o : Nat}, (∀ j x, l[j]? = some x → ET.At w x b (o + j * 6)) → KidsAt w l b o
  | [], _, _, _ => by unfold KidsAt; trivial
  | e :: l, b, o, h => by
    unfold KidsAt
    refine ⟨by simpa using h 0 e rfl, KidsAt.of_get fun j x hj => ?_⟩
    have := h (j + 1) x (by rw [List.getElem?_cons_succ]; exact hj)
    rwa [show o + 6 + j * 6 = o + (j + 1) * 6 by omega]
end Go.Proofs.YtbhieajpodnfpaaGreat
namespace Go.Proofs.YtbhieajpodnfpaaGreat
open Go.RowKit Pg
section
variable {H : Type} {enc : TypeId × Value → H} {base : Nat} {spare : Nat → Bool} {held : Bool} {w : World}
set_option maxRecDepth 100000 in
theorem row_of_trod {m : Nat} {c : Value} {y : DataW H × List MemPlace} (hy : DataW.trod enc Tryz.prog w base spare held m 51 [c] = some y) (hzy : ∀ x ∈ y.1.weights Tryz.prog 51, x ≤ reachBytes) : ∃ A n k xs, c = .slice A n k ∧ Row w A n k xs ∧ n ≤ 140737488355328 := by
  rcases Go.ChangeShapes.open_ints Tryz.underlying51 Tryz.underlying79 (by kernel_rfl) hy with ⟨hcs, _⟩ | ⟨x, l, k, zs, hcs, _, hl, hm, hz, hx, hcell, hwz⟩
  · simp at hcs
    subst hcs
    exact ⟨_, _, _, _, rfl, Row.nil w, by omega⟩
  · simp at hcs
    subst hcs
    subst hx
    have hb := hzy ((zs.length) * 4) (by
      unfold DataW.weights
      rw [Tryz.underlying51]
      refine List.mem_cons.2 (.inl ?_)
      have e4 : Tryz.prog.bytesOf 79 = 4 := by kernel_rfl
      rw [e4]
      simp [Go.ChangeShapes.lits]; omega)
    have hlz : l ≤ zs.length := by rw [hz]; split <;> omega
    have hrb := reachBytes_lt
    obtain ⟨xs, hr⟩ := Row.of_read0 (x := x) (len := l) (cap := k) (zs := zs) hl hm hlz hcell hwz
    exact ⟨_, _, _, _, rfl, hr, by omega⟩
set_option maxRecDepth 100000 in
/-- A rational's three cells. -/
theorem hdr_of_trod {m : Nat} {c0 c1 c2 : Value} {y : DataW H × List MemPlace} (hy : DataW.trod enc Tryz.prog w base spare held m 53 [c0, c1, c2] = some y) (hzy : ∀ x ∈ y.1.weights Tryz.prog 53, x ≤ reachBytes) :
    ∃ (h : RHdr) (q : Rat), c0 = .bool h.s ∧ c1 = .slice h.A h.n h.c ∧ c2 = .slice h.A' h.n' h.c' ∧ RHdr.Reads w h q := by
  obtain ⟨xs, n, _, rfl, _, hxl, hg⟩ := DataW.trod_struct Tryz.underlying53 hy
  match xs, hxl with
  | [x0, x1, x2], _ =>
    have g0 := hg 0 _ rfl
    have g1 := hg 1 _ rfl
    have g2 := hg 2 _ rfl
    have e1 : Tryz.prog.cellsOf 4 = 1 := by kernel_rfl
    have e2 : Tryz.prog.cellsOf 51 = 1 := by kernel_rfl
    simp [e1] at g0
    simp [e2] at g1 g2
    have hz1 : ∀ (j : Nat) t (d : DataW H), [4, 51, 51][j]? = some t → [x0.1, x1.1, x2.1][j]? = some d → ∀ x ∈ d.weights Tryz.prog t, x ≤ reachBytes := by
      intro j t d ht hd x hx
      refine hzy x ?_
      unfold DataW.weights
      rw [Tryz.underlying53]
      exact DataW.weights_mem_each ht hd x hx
    obtain ⟨s, e0, _⟩ := DataW.trod_bool Tryz.underlying4 g0
    obtain ⟨A, a, c, us, rfl, r1, l1⟩ := row_of_trod g1 (hz1 1 _ _ rfl rfl)
    obtain ⟨A', a', c', vs, rfl, r2, l2⟩ := row_of_trod g2 (hz1 2 _ _ rfl rfl)
    simp at e0
    exact ⟨⟨s, A, a, c, A', a', c'⟩, _, e0, rfl, rfl, us, vs, r1, r2, l1, l2, rfl⟩
set_option maxRecDepth 100000 in
/-- An expression's six cells. -/
theorem ET.of_trod : ∀ (fuel b o : Nat) (ds : List Value) (y : DataW H × List MemPlace), ds.length = 6 → CellsAt w b o ds → DataW.trod enc Tryz.prog w base spare held fuel 65 ds = some y → (∀ k ∈ y.1.weights Tryz.prog 65, k ≤ reachBytes) → ∃ e, ET.At w e b o := by
  intro fuel
  induction fuel using Nat.strongRecOn with
  | ind fuel ih =>
    intro b o ds y hlen hca hy hzy
    obtain ⟨xs, n, hfu, rfl, _, hxl, hg⟩ := DataW.trod_struct Tryz.underlying65 hy
    match ds, hlen with
    | [c0, c1, c2, c3, c4, c5], _ =>
    match xs, hxl with
    | [x0, x1, x2, x3], _ =>
      have g0 := hg 0 _ rfl
      have g1 := hg 1 _ rfl
      have g2 := hg 2 _ rfl
      have g3 := hg 3 _ rfl
      have e0 : Tryz.prog.cellsOf 3 = 1 := by kernel_rfl
      have e1 : Tryz.prog.cellsOf 53 = 3 := by kernel_rfl
      have e2 : Tryz.prog.cellsOf 9 = 1 := by kernel_rfl
      have e3 : Tryz.prog.cellsOf 63 = 1 := by kernel_rfl
      have e6 : Tryz.prog.cellsOf 65 = 6 := by kernel_rfl
      simp [e0] at g0
      simp [e1] at g1
      simp [e2] at g2
      simp [e3] at g3
      have hz1 : ∀ (j : Nat) t (d : DataW H), [3, 53, 9, 63][j]? = some t → [x0.1, x1.1, x2.1, x3.1][j]? = some d → ∀ x ∈ d.weights Tryz.prog t, x ≤ reachBytes := by
        intro j t d ht hd x hx
        refine hzy x ?_
        unfold DataW.weights
        rw [Tryz.underlying65]
        exact DataW.weights_mem_each ht hd x hx
      obtain ⟨kd, k0, _⟩ := DataW.trod_int Tryz.underlying3 g0
      obtain ⟨h, q, rfl, rfl, rfl, hr⟩ := hdr_of_trod g1 (hz1 1 _ _ rfl rfl)
      obtain ⟨s, k2, hx2, _⟩ := DataW.trod_string Tryz.underlying9 g2
      have hsz := hz1 2 _ _ rfl rfl
      rw [hx2] at hsz
      have hs2 := hsz s.data.toList.length (by simp [DataW.weights])
      have hb4 : Tryz.prog.bytesOf 65 = 104 := by kernel_rfl
      have hby : 0 < Tryz.prog.bytesOf 65 := by rw [hb4]; decide
      obtain ⟨K, kn, kc, l, k3, hsl⟩ := SlAt.of_trod (E := fun w b o e => ET.At w e b o) Tryz.underlying63 e6 (by omega) hby g3 (hz1 3 _ _ rfl rfl) (fun m hm b' o' ds' y' _ hl' hc' ht' hz' => ih m (by omega) b' o' ds' y' hl' hc' ht' hz')
      simp at k0 k2 k3
      subst k0 k2 k3
      obtain ⟨l1, l2, l3, l4, _, l6⟩ := hsl
      have hrb := reachBytes_lt
      refine ⟨.mk kd h q s.data.toList K kn kc l, ?_⟩
      unfold ET.At
      refine ⟨hca, hr, by omega, l1, l2, l3, l4, fun hn => ?_⟩
      obtain ⟨b', o', hK, hb', hk⟩ := l6 hn
      exact ⟨b', o', hK, hb', KidsAt.of_get hk⟩
end
end Go.Proofs.YtbhieajpodnfpaaGreat
namespace Go.Proofs.YtbhieajpodnfpaaGreat
open Go.RowKit Pg
mutual
/-- How much an expression weighs. -/
def ET.wt : ET → Nat
  | .mk _ h _ name _ _ _ kids => 3 + name.length + 8 * h.n + 8 * h.n' + ET.wts kids
def ET.wts : List ET → Nat
  | [] => 0
  | e :: l => ET.wt e + ET.wts l
end
/-- An expression as a value. -/
def ET.val : ET → Value
  | .mk kind h _ name K kn kc _ =>   .agg #[.int .i64 kind, .bool h.s, .slice h.A h.n h.c, .slice h.A' h.n' h.c', .string (str name), .slice K kn kc]
/-- An expression's value reads as it should. -/
def ET.Ok (w : World) : ET → Prop
  | .mk _ h _ name K kn kc kids => (h.n ≤ 140737488355328 ∧ h.n' ≤ 140737488355328) ∧ name.length ≤ 140737488355328 ∧ kids.length = kn ∧ kn ≤ kc ∧ kn ≤ 140737488355328 ∧ (0 < kn → ∃ b' o', K = some ⟨b', o', none⟩ ∧ b' < w.heap.size ∧ KidsAt w kids b' o')
theorem ET.At.ok {w : World} {e : ET} {b o : Nat} (h : ET.At w e b o) : ET.Ok w e := by
  match e, h with
  | .mk kind hd q name K kn kc kids, h =>
    unfold ET.At at h
    obtain ⟨_, ⟨xs, ys, _, _, a1, a2, _⟩, h3, h4, h5, h6, _, h8⟩ := h
    exact ⟨⟨a1, a2⟩, h3, h4, h5, h6, h8⟩
set_option maxHeartbeats 2000000 in
theorem weight_any : ∀ (m : Nat) (e : ET), SizeOf.sizeOf e ≤ m → ∀ (left : Int) (w : World), ET.Ok w e → -4611686018427387904 ≤ left → left ≤ 4611686018427387904 →
    Calls Tryz.prog 18 #[e.val, .int .i64 left] w fun e' w' => ∃ r : Int, e' = .returned (.int .i64 r) ∧ r ≤ left ∧ (-4503599627370496 ≤ r ∨ left - 4503599627370496 ≤ r) ∧ Below w.heap.size w w' := by
  intro m
  induction m with
  | zero => intro e he; cases e; simp at he
  | succ m ih =>
    intro e he left w hk hlo hhi
    match e, he, hk with
    | .mk kind h q name K kn kc kids, he, hk =>
      obtain ⟨⟨l1, l2⟩, l3, l4, l5, l6, l7⟩ := hk
      unfold ET.val
      have L0 := hid l4
      clear l4
      go_enter Tryz.func18, Tryz.ntmps18
      have e1 : IntKind.i64.wrap (left - 3) = left - 3 := by rw [IntKind.wrap_i64]; omega
      have e2 : IntKind.i64.wrap (left - 3 - (name.length : Int)) = left - 3 - (name.length : Int) := by rw [IntKind.wrap_i64]; omega
      have e3 : IntKind.i64.wrap (8 * (h.n : Int)) = 8 * (h.n : Int) := by rw [IntKind.wrap_i64]; omega
      have e4 : IntKind.i64.wrap (left - 3 - (name.length : Int) - 8 * (h.n : Int)) = left - 3 - (name.length : Int) - 8 * (h.n : Int) := by rw [IntKind.wrap_i64]; omega
      have e5 : IntKind.i64.wrap (8 * (h.n' : Int)) = 8 * (h.n' : Int) := by rw [IntKind.wrap_i64]; omega
      have e6 : IntKind.i64.wrap (left - 3 - (name.length : Int) - 8 * (h.n : Int) - 8 * (h.n' : Int)) = left - 3 - (name.length : Int) - 8 * (h.n : Int) - 8 * (h.n' : Int) := by rw [IntKind.wrap_i64]; omega
      have sz : (str name).size = name.length := str_size name
      have f1 : IntKind.i64.wrap (left - 3 - ((str name).size : Int)) = left - 3 - (name.length : Int) := by rw [sz]; exact e2
      have HB := hid (B6n.newg w 65 (.int .i64 kind) (.bool h.s) (.slice h.A h.n h.c) (.slice h.A' h.n' h.c') (.string (str name)) (.slice K kn kc) _ rfl)
      go_wp2_with fail
      go_loopw [1, 5] (fun s i wr => ∃ (k : Nat) (L : Int), k ≤ kn ∧ i = .int .i64 k ∧ s = .int .i64 L ∧ L ≤ left ∧ (-4503599627370496 ≤ L ∨ left - 4503599627370496 ≤ L) ∧ Below w.heap.size w wr ∧ Hid (B6n wr w.heap.size 65 (.int .i64 kind) (.bool h.s) (.slice h.A h.n h.c) (.slice h.A' h.n' h.c') (.string (str name)) (.slice K kn kc))) (fun _ i _ => kn - (intOf i).toNat)
      case atStart =>
        refine ⟨0, left - 3 - (name.length : Int) - 8 * (h.n : Int) - 8 * (h.n' : Int), Nat.zero_le _, rfl, ?_, by omega, by omega, (by repeat first | exact Below.refl _ _ | assumption | refine Pg.Below.then_ ?_ (by assumption) | refine Pg.Below.new_ ?_ _ | refine Pg.Below.drewN_ ?_ _), HB⟩
        first | rfl | simp [sz]
      case round =>
        obtain ⟨k, L, hk, rfl, rfl, hL1, hL2, hb, HW⟩ := hrel
        obtain ⟨k0, k1, k2, k3, k4, k5⟩ := HW.out.cells
        by_cases hlt : k < kn
        · by_cases hL : 0 ≤ L
          · obtain ⟨b', o', rfl, hb', hkids⟩ := l7 (by omega)
            obtain ⟨x, hx⟩ : ∃ x, kids[k]? = some x := ⟨kids[k]'(by rw [L0.out]; exact hlt), List.getElem?_eq_getElem _⟩
            have hxA := (KidsAt.below hb kids b' o' hb' hkids).get k x hx
            have hsx : SizeOf.sizeOf x ≤ m := by
              have h1 := List.sizeOf_lt_of_mem (List.mem_of_getElem? hx)
              simp at he
              omega
            have HI := hid (ih x hsx L)
            have hok := hxA.ok
            match x, hxA, hok with
            | .mk kind2 h2 q2 name2 K2 kn2 kc2 kids2, hxA, hok =>
              unfold ET.At at hxA
              obtain ⟨hca, _⟩ := hxA
              have c0 : wr.cell? ⟨b', o' + k * 6, none⟩ = some (.int .i64 kind2) := hca.at_ 0 rfl
              have c1 := hca.at_ 1 rfl
              have c2 := hca.at_ 2 rfl
              have c3 := hca.at_ 3 rfl
              have c4 := hca.at_ 4 rfl
              have c5 := hca.at_ 5 rfl
              clear hca
              unfold ET.val at HI
              have HO := hid hok
              clear hok ih hkids hxA l7
              go_wp2_with (go_at_call 18; (with_reducible refine (HI.out _ HO.out (by omega) (by omega)).mono ?_); rintro e w2 ⟨r, rfl, r1, r2, hb2⟩)
              refine ⟨⟨k + 1, r, hlt, by go_num, rfl, by omega, by omega, (by repeat first | exact Below.refl _ _ | assumption | refine Pg.Below.then_ ?_ (by assumption) | refine Pg.Below.new_ ?_ _ | refine Pg.Below.drewN_ ?_ _), hid (HW.out.below (by have := hb.size; exact hb2))⟩, ?_⟩
              simp [intOf]; omega
          · go_wp2_with fail
            go_ret
            exact ⟨L, rfl, hL1, hL2, hb⟩
        · go_wp2_with fail
          go_ret
          exact ⟨L, rfl, hL1, hL2, hb⟩
end Go.Proofs.YtbhieajpodnfpaaGreat
namespace Go.Proofs.YtbhieajpodnfpaaGreat
open Go.RowKit Pg
structure Par where
  name : List UInt8
  h : RHdr
  q : Rat
structure Rul where
  name : List UInt8
  strength : Int
  wh : List UInt8
  L : ET
  R : ET
structure Chk where
  name : List UInt8
  page : Int
  cmp : Int
  L : ET
  R : ET
def SwAt (w : World) (b o : Nat) (x : List UInt8 × Bool) : Prop := CellsAt w b o [.string (str x.1), .bool x.2] ∧ x.1.length ≤ 140737488355328
def ParAt (w : World) (b o : Nat) (x : Par) : Prop := CellsAt w b o [.string (str x.name), .bool x.h.s, .slice x.h.A x.h.n x.h.c, .slice x.h.A' x.h.n' x.h.c'] ∧ x.name.length ≤ 140737488355328 ∧ RHdr.Reads w x.h x.q
def PagAt (w : World) (b o : Nat) (x : List UInt8 × List UInt8) : Prop := CellsAt w b o [.string (str x.1), .string (str x.2)] ∧ x.1.length ≤ 140737488355328 ∧ x.2.length ≤ 140737488355328
def RulAt (w : World) (b o : Nat) (x : Rul) : Prop := CellsAt w b o [.string (str x.name), .int .i64 x.strength, .string (str x.wh)] ∧ x.name.length ≤ 140737488355328 ∧ x.wh.length ≤ 140737488355328 ∧ ET.At w x.L b (o + 3) ∧ ET.At w x.R b (o + 9)
def ChkAt (w : World) (b o : Nat) (x : Chk) : Prop := CellsAt w b o [.string (str x.name), .int .i64 x.page, .int .i64 x.cmp] ∧ x.name.length ≤ 140737488355328 ∧ ET.At w x.L b (o + 3) ∧ ET.At w x.R b (o + 9)
theorem swAt_stays : Stays SwAt := fun _ _ _ _ _ hb h hw => ⟨h.1.below hb hw, h.2⟩
theorem parAt_stays : Stays ParAt := fun _ _ _ _ _ hb h hw => ⟨h.1.below hb hw, h.2.1, h.2.2.below hw⟩
theorem pagAt_stays : Stays PagAt := fun _ _ _ _ _ hb h hw => ⟨h.1.below hb hw, h.2⟩
theorem rulAt_stays : Stays RulAt := fun _ _ _ _ _ hb h hw => ⟨h.1.below hb hw, h.2.1, h.2.2.1, ET.At.below hw _ _ _ hb h.2.2.2.1, ET.At.below hw _ _ _ hb h.2.2.2.2⟩
theorem chkAt_stays : Stays ChkAt := fun _ _ _ _ _ hb h hw => ⟨h.1.below hb hw, h.2.1, ET.At.below hw _ _ _ hb h.2.2.1, ET.At.below hw _ _ _ hb h.2.2.2⟩
/-- A form's six slices, read. -/
structure FormRead (w : World) (SA PA GA FA RA CA : Option Addr) (sn sc pn pc gn gc fn fc rn rc cn cc : Nat) (sw : List (List UInt8 × Bool)) (pa : List Par) (pg : List (List UInt8 × List UInt8)) (fl : List Fld) (ru : List Rul) (ck : List Chk) : Prop where
  sw : SlAt 2 SwAt w SA sn sc sw
  pa : SlAt 4 ParAt w PA pn pc pa
  pg : SlAt 2 PagAt w GA gn gc pg
  fl : SlAt 4 FldAt w FA fn fc fl
  ru : SlAt 15 RulAt w RA rn rc ru
  ck : SlAt 15 ChkAt w CA cn cc ck
theorem FormRead.below {w w' : World} {SA PA GA FA RA CA : Option Addr} {sn sc pn pc gn gc fn fc rn rc cn cc : Nat} {sw : List (List UInt8 × Bool)} {pa : List Par} {pg : List (List UInt8 × List UInt8)} {fl : List Fld} {ru : List Rul} {ck : List Chk} (h : FormRead w SA PA GA FA RA CA sn sc pn pc gn gc fn fc rn rc cn cc sw pa pg fl ru ck) (hw : Below w.heap.size w w') : FormRead w' SA PA GA FA RA CA sn sc pn pc gn gc fn fc rn rc cn cc sw pa pg fl ru ck :=
  ⟨h.sw.below swAt_stays hw, h.pa.below parAt_stays hw, h.pg.below pagAt_stays hw, h.fl.below fldAt_stays hw, h.ru.below rulAt_stays hw, h.ck.below chkAt_stays hw⟩
end Go.Proofs.YtbhieajpodnfpaaGreat
namespace Go.Proofs.YtbhieajpodnfpaaGreat
open Go.RowKit Pg
theorem SlAt.map {α β : Type} {sz : Nat} {E : World → Nat → Nat → α → Prop} {E' : World → Nat → Nat → β → Prop} (f : α → β) (hE : ∀ w b o x, E w b o x → E' w b o (f x)) {w : World} {A : Option Addr} {n c : Nat} {l : List α} (h : SlAt sz E w A n c l) : SlAt sz E' w A n c (l.map f) := by
  obtain ⟨h1, h2, h3, h4, h5, h6⟩ := h
  refine ⟨by simp [h1], h2, h3, h4, h5, fun hn => ?_⟩
  obtain ⟨b, o, e, hb, hx⟩ := h6 hn
  refine ⟨b, o, e, hb, fun j x hj => ?_⟩
  rw [List.getElem?_map] at hj
  match hl : l[j]?, hj with
  | some y, hj =>
    simp at hj
    subst hj
    exact hE _ _ _ _ (hx j y hl)
theorem CellsAt.take {w : World} {b o : Nat} {cs : List Value} (h : CellsAt w b o cs) (k : Nat) : CellsAt w b o (cs.take k) := by
  intro j hj
  simp at hj
  rw [h j (by omega), List.getElem?_take, if_pos (by omega)]
theorem pagAt_name (w : World) (b o : Nat) (x : List UInt8 × List UInt8) (h : PagAt w b o x) : NameAt w b o x.1 := ⟨CellsAt.take h.1 1, h.2.1⟩
theorem rulAt_name (w : World) (b o : Nat) (x : Rul) (h : RulAt w b o x) : NameAt w b o x.name := ⟨CellsAt.take h.1 1, h.2.1⟩
/-- A document's six slices, read: the pins by their three cells' rational besides. -/
structure Pn where
  on : Bool
  tells : Bool
  h : RHdr
  q : Rat
def PnAt (w : World) (b o : Nat) (x : Pn) : Prop := CellsAt w b o [.bool x.on, .bool x.tells, .bool x.h.s, .slice x.h.A x.h.n x.h.c, .slice x.h.A' x.h.n' x.h.c'] ∧ RHdr.Reads w x.h x.q
theorem pnAt_stays : Stays PnAt := fun _ _ _ _ _ hb h hw => ⟨h.1.below hb hw, h.2.below hw⟩
theorem pnAt_on (w : World) (b o : Nat) (x : Pn) (h : PnAt w b o x) : BoolAt w b o x.on := CellsAt.take h.1 1
def RqAt (w : World) (b o : Nat) (x : RHdr × Rat) : Prop := CellsAt w b o [.bool x.1.s, .slice x.1.A x.1.n x.1.c, .slice x.1.A' x.1.n' x.1.c'] ∧ RHdr.Reads w x.1 x.2
theorem rqAt_stays : Stays RqAt := fun _ _ _ _ _ hb h hw => ⟨h.1.below hb hw, h.2.below hw⟩
structure DocRead (w : World) (PA OA VA UA QA LA : Option Addr) (pn pc on oc vn vc un uc qn qc ln lc : Nat) (pa : List (RHdr × Rat)) (on' : List Bool) (va : List (RHdr × Rat)) (ou : List Int) (pi : List Pn) (fi : List Bool) : Prop where
  pa : SlAt 3 RqAt w PA pn pc pa
  on : SlAt 1 BoolAt w OA on oc on'
  va : SlAt 3 RqAt w VA vn vc va
  ou : SlAt 1 IntAt w UA un uc ou
  pi : SlAt 5 PnAt w QA qn qc pi
  fi : SlAt 1 BoolAt w LA ln lc fi
theorem DocRead.below {w w' : World} {PA OA VA UA QA LA : Option Addr} {pn pc on oc vn vc un uc qn qc ln lc : Nat} {pa : List (RHdr × Rat)} {on' : List Bool} {va : List (RHdr × Rat)} {ou : List Int} {pi : List Pn} {fi : List Bool} (h : DocRead w PA OA VA UA QA LA pn pc on oc vn vc un uc qn qc ln lc pa on' va ou pi fi) (hw : Below w.heap.size w w') : DocRead w' PA OA VA UA QA LA pn pc on oc vn vc un uc qn qc ln lc pa on' va ou pi fi :=
  ⟨h.pa.below rqAt_stays hw, h.on.below boolAt_stays hw, h.va.below rqAt_stays hw, h.ou.below intAt_stays hw, h.pi.below pnAt_stays hw, h.fi.below boolAt_stays hw⟩
end Go.Proofs.YtbhieajpodnfpaaGreat
namespace Pg
open Go Go.RowKit
theorem CellsAt.sub {w : World} {b o : Nat} {cs : List Value} (h : CellsAt w b o cs) (i n : Nat) (hn : i + n ≤ cs.length) : CellsAt w b (o + i) ((cs.drop i).take n) := by
  intro j hj
  rw [List.length_take, List.length_drop] at hj
  rw [List.getElem?_take, if_pos (by omega), List.getElem?_drop, Nat.add_assoc]
  exact h (i + j) (by omega)
end Pg
namespace Go.Proofs.YtbhieajpodnfpaaGreat
open Go.RowKit Pg
/-- A form's value and what is read of it. -/
structure FormD where
  SA : Option Addr
  PA : Option Addr
  GA : Option Addr
  FA : Option Addr
  RA : Option Addr
  CA : Option Addr
  sn : Nat
  sc : Nat
  pn : Nat
  pc : Nat
  gn : Nat
  gc : Nat
  fn : Nat
  fc : Nat
  rn : Nat
  rc : Nat
  cn : Nat
  cc : Nat
  sw : List (List UInt8 × Bool)
  pa : List Par
  pg : List (List UInt8 × List UInt8)
  fl : List Fld
  ru : List Rul
  ck : List Chk
def FormD.val (x : FormD) : Value := .agg #[.slice x.SA x.sn x.sc, .slice x.PA x.pn x.pc, .slice x.GA x.gn x.gc, .slice x.FA x.fn x.fc, .slice x.RA x.rn x.rc, .slice x.CA x.cn x.cc]
def FormD.Ok (w : World) (x : FormD) : Prop := FormRead w x.SA x.PA x.GA x.FA x.RA x.CA x.sn x.sc x.pn x.pc x.gn x.gc x.fn x.fc x.rn x.rc x.cn x.cc x.sw x.pa x.pg x.fl x.ru x.ck
def FormArg (w : World) (v : Value) (x : FormD) : Prop := v = x.val ∧ x.Ok w
/-- A document's value and what is read of it. -/
structure DocD where
  PA : Option Addr
  OA : Option Addr
  VA : Option Addr
  UA : Option Addr
  QA : Option Addr
  LA : Option Addr
  pn : Nat
  pc : Nat
  on : Nat
  oc : Nat
  vn : Nat
  vc : Nat
  un : Nat
  uc : Nat
  qn : Nat
  qc : Nat
  ln : Nat
  lc : Nat
  pa : List (RHdr × Rat)
  on' : List Bool
  va : List (RHdr × Rat)
  ou : List Int
  pi : List Pn
  fi : List Bool
def DocD.val (x : DocD) : Value := .agg #[.slice x.PA x.pn x.pc, .slice x.OA x.on x.oc, .slice x.VA x.vn x.vc, .slice x.UA x.un x.uc, .slice x.QA x.qn x.qc, .slice x.LA x.ln x.lc]
def DocD.Ok (w : World) (x : DocD) : Prop := DocRead w x.PA x.OA x.VA x.UA x.QA x.LA x.pn x.pc x.on x.oc x.vn x.vc x.un x.uc x.qn x.qc x.ln x.lc x.pa x.on' x.va x.ou x.pi x.fi
def DocArg (w : World) (v : Value) (x : DocD) : Prop := v = x.val ∧ x.Ok w
section
variable {H : Type} {enc : TypeId × Value → H} {base : Nat} {spare : Nat → Bool} {held : Bool} {w : World}
theorem text_of_trod {m : Nat} {c : Value} {y : DataW H × List MemPlace} (hy : DataW.trod enc Tryz.prog w base spare held m 9 [c] = some y) (hzy : ∀ x ∈ y.1.weights Tryz.prog 9, x ≤ reachBytes) : ∃ l : List UInt8, c = .string (str l) ∧ l.length ≤ 140737488355328 := by
  obtain ⟨s, k2, hx2, _⟩ := DataW.trod_string Tryz.underlying9 hy
  rw [hx2] at hzy
  have hs2 := hzy s.data.toList.length (by simp [DataW.weights])
  have hrb := reachBytes_lt
  simp at k2
  subst k2
  exact ⟨s.data.toList, rfl, by omega⟩
theorem int_of_trod {m : Nat} {c : Value} {y : DataW H × List MemPlace} (hy : DataW.trod enc Tryz.prog w base spare held m 3 [c] = some y) : ∃ k : Int, c = .int .i64 k := by
  obtain ⟨k, k0, _⟩ := DataW.trod_int Tryz.underlying3 hy
  simp at k0
  exact ⟨k, k0⟩
theorem bool_of_trod {m : Nat} {c : Value} {y : DataW H × List MemPlace} (hy : DataW.trod enc Tryz.prog w base spare held m 4 [c] = some y) : ∃ k : Bool, c = .bool k := by
  obtain ⟨k, k0, _⟩ := DataW.trod_bool Tryz.underlying4 hy
  simp at k0
  exact ⟨k, k0⟩
set_option maxRecDepth 100000 in
theorem swAt_of {fuel b o : Nat} {ds : List Value} {y : DataW H × List MemPlace} (hlen : ds.length = 2) (hca : CellsAt w b o ds) (hy : DataW.trod enc Tryz.prog w base spare held fuel 57 ds = some y) (hzy : ∀ k ∈ y.1.weights Tryz.prog 57, k ≤ reachBytes) : ∃ a, SwAt w b o a := by
  obtain ⟨xs, n, _, rfl, _, hxl, hg⟩ := DataW.trod_struct Tryz.underlying57 hy
  match ds, hlen with
  | [c0, c1], _ =>
  match xs, hxl with
  | [x0, x1], _ =>
    have g0 := hg 0 _ rfl
    have g1 := hg 1 _ rfl
    have estring : Tryz.prog.cellsOf 9 = 1 := by kernel_rfl
    have ebool : Tryz.prog.cellsOf 4 = 1 := by kernel_rfl
    simp [estring] at g0
    simp [ebool] at g1
    have hz1 : ∀ (j : Nat) t (d : DataW H), [9, 4][j]? = some t → [x0.1, x1.1][j]? = some d → ∀ x ∈ d.weights Tryz.prog t, x ≤ reachBytes := by
      intro j t d ht hd x hx
      refine hzy x ?_
      unfold DataW.weights
      rw [Tryz.underlying57]
      exact DataW.weights_mem_each ht hd x hx
    obtain ⟨l0, rfl, n0⟩ := text_of_trod g0 (hz1 0 _ _ rfl rfl)
    obtain ⟨l1, rfl⟩ := bool_of_trod g1
    exact ⟨(l0, l1), hca, n0⟩
set_option maxRecDepth 100000 in
theorem parAt_of {fuel b o : Nat} {ds : List Value} {y : DataW H × List MemPlace} (hlen : ds.length = 4) (hca : CellsAt w b o ds) (hy : DataW.trod enc Tryz.prog w base spare held fuel 55 ds = some y) (hzy : ∀ k ∈ y.1.weights Tryz.prog 55, k ≤ reachBytes) : ∃ a, ParAt w b o a := by
  obtain ⟨xs, n, _, rfl, _, hxl, hg⟩ := DataW.trod_struct Tryz.underlying55 hy
  match ds, hlen with
  | [c0, c1, c2, c3], _ =>
  match xs, hxl with
  | [x0, x1], _ =>
    have g0 := hg 0 _ rfl
    have g1 := hg 1 _ rfl
    have estring : Tryz.prog.cellsOf 9 = 1 := by kernel_rfl
    have erat : Tryz.prog.cellsOf 53 = 3 := by kernel_rfl
    simp [estring] at g0
    simp [erat] at g1
    have hz1 : ∀ (j : Nat) t (d : DataW H), [9, 53][j]? = some t → [x0.1, x1.1][j]? = some d → ∀ x ∈ d.weights Tryz.prog t, x ≤ reachBytes := by
      intro j t d ht hd x hx
      refine hzy x ?_
      unfold DataW.weights
      rw [Tryz.underlying55]
      exact DataW.weights_mem_each ht hd x hx
    obtain ⟨l0, rfl, n0⟩ := text_of_trod g0 (hz1 0 _ _ rfl rfl)
    obtain ⟨h1, q1, rfl, rfl, rfl, r1⟩ := hdr_of_trod g1 (hz1 1 _ _ rfl rfl)
    exact ⟨⟨l0, h1, q1⟩, hca, n0, r1⟩
set_option maxRecDepth 100000 in
theorem pagAt_of {fuel b o : Nat} {ds : List Value} {y : DataW H × List MemPlace} (hlen : ds.length = 2) (hca : CellsAt w b o ds) (hy : DataW.trod enc Tryz.prog w base spare held fuel 59 ds = some y) (hzy : ∀ k ∈ y.1.weights Tryz.prog 59, k ≤ reachBytes) : ∃ a, PagAt w b o a := by
  obtain ⟨xs, n, _, rfl, _, hxl, hg⟩ := DataW.trod_struct Tryz.underlying59 hy
  match ds, hlen with
  | [c0, c1], _ =>
  match xs, hxl with
  | [x0, x1], _ =>
    have g0 := hg 0 _ rfl
    have g1 := hg 1 _ rfl
    have estring : Tryz.prog.cellsOf 9 = 1 := by kernel_rfl
    simp [estring] at g0
    simp [estring] at g1
    have hz1 : ∀ (j : Nat) t (d : DataW H), [9, 9][j]? = some t → [x0.1, x1.1][j]? = some d → ∀ x ∈ d.weights Tryz.prog t, x ≤ reachBytes := by
      intro j t d ht hd x hx
      refine hzy x ?_
      unfold DataW.weights
      rw [Tryz.underlying59]
      exact DataW.weights_mem_each ht hd x hx
    obtain ⟨l0, rfl, n0⟩ := text_of_trod g0 (hz1 0 _ _ rfl rfl)
    obtain ⟨l1, rfl, n1⟩ := text_of_trod g1 (hz1 1 _ _ rfl rfl)
    exact ⟨(l0, l1), hca, n0, n1⟩
set_option maxRecDepth 100000 in
theorem fldAt_of {fuel b o : Nat} {ds : List Value} {y : DataW H × List MemPlace} (hlen : ds.length = 4) (hca : CellsAt w b o ds) (hy : DataW.trod enc Tryz.prog w base spare held fuel 61 ds = some y) (hzy : ∀ k ∈ y.1.weights Tryz.prog 61, k ≤ reachBytes) : ∃ a, FldAt w b o a := by
  obtain ⟨xs, n, _, rfl, _, hxl, hg⟩ := DataW.trod_struct Tryz.underlying61 hy
  match ds, hlen with
  | [c0, c1, c2, c3], _ =>
  match xs, hxl with
  | [x0, x1, x2, x3], _ =>
    have g0 := hg 0 _ rfl
    have g1 := hg 1 _ rfl
    have g2 := hg 2 _ rfl
    have g3 := hg 3 _ rfl
    have estring : Tryz.prog.cellsOf 9 = 1 := by kernel_rfl
    have eint : Tryz.prog.cellsOf 3 = 1 := by kernel_rfl
    have ebool : Tryz.prog.cellsOf 4 = 1 := by kernel_rfl
    simp [estring] at g0
    simp [eint] at g1
    simp [ebool] at g2
    simp [eint] at g3
    have hz1 : ∀ (j : Nat) t (d : DataW H), [9, 3, 4, 3][j]? = some t → [x0.1, x1.1, x2.1, x3.1][j]? = some d → ∀ x ∈ d.weights Tryz.prog t, x ≤ reachBytes := by
      intro j t d ht hd x hx
      refine hzy x ?_
      unfold DataW.weights
      rw [Tryz.underlying61]
      exact DataW.weights_mem_each ht hd x hx
    obtain ⟨l0, rfl, n0⟩ := text_of_trod g0 (hz1 0 _ _ rfl rfl)
    obtain ⟨l1, rfl⟩ := int_of_trod g1
    obtain ⟨l2, rfl⟩ := bool_of_trod g2
    obtain ⟨l3, rfl⟩ := int_of_trod g3
    exact ⟨⟨l0, l1, l2, l3⟩, hca, n0⟩
set_option maxRecDepth 100000 in
theorem rulAt_of {fuel b o : Nat} {ds : List Value} {y : DataW H × List MemPlace} (hlen : ds.length = 15) (hca : CellsAt w b o ds) (hy : DataW.trod enc Tryz.prog w base spare held fuel 67 ds = some y) (hzy : ∀ k ∈ y.1.weights Tryz.prog 67, k ≤ reachBytes) : ∃ a, RulAt w b o a := by
  obtain ⟨xs, n, _, rfl, _, hxl, hg⟩ := DataW.trod_struct Tryz.underlying67 hy
  match ds, hlen with
  | [c0, c1, c2, c3, c4, c5, c6, c7, c8, c9, c10, c11, c12, c13, c14], _ =>
  match xs, hxl with
  | [x0, x1, x2, x3, x4], _ =>
    have g0 := hg 0 _ rfl
    have g1 := hg 1 _ rfl
    have g2 := hg 2 _ rfl
    have g3 := hg 3 _ rfl
    have g4 := hg 4 _ rfl
    have estring : Tryz.prog.cellsOf 9 = 1 := by kernel_rfl
    have eint : Tryz.prog.cellsOf 3 = 1 := by kernel_rfl
    have eexpr : Tryz.prog.cellsOf 65 = 6 := by kernel_rfl
    simp [estring] at g0
    simp [eint] at g1
    simp [estring] at g2
    simp [eexpr] at g3
    simp [eexpr] at g4
    have hz1 : ∀ (j : Nat) t (d : DataW H), [9, 3, 9, 65, 65][j]? = some t → [x0.1, x1.1, x2.1, x3.1, x4.1][j]? = some d → ∀ x ∈ d.weights Tryz.prog t, x ≤ reachBytes := by
      intro j t d ht hd x hx
      refine hzy x ?_
      unfold DataW.weights
      rw [Tryz.underlying67]
      exact DataW.weights_mem_each ht hd x hx
    obtain ⟨l0, rfl, n0⟩ := text_of_trod g0 (hz1 0 _ _ rfl rfl)
    obtain ⟨l1, rfl⟩ := int_of_trod g1
    obtain ⟨l2, rfl, n2⟩ := text_of_trod g2 (hz1 2 _ _ rfl rfl)
    obtain ⟨E3, t3⟩ := ET.of_trod n b (o + 3) _ _ rfl (hca.sub 3 6 (by simp)) g3 (hz1 3 _ _ rfl rfl)
    obtain ⟨E4, t4⟩ := ET.of_trod n b (o + 9) _ _ rfl (hca.sub 9 6 (by simp)) g4 (hz1 4 _ _ rfl rfl)
    exact ⟨⟨l0, l1, l2, E3, E4⟩, hca.sub 0 3 (by simp), n0, n2, t3, t4⟩
set_option maxRecDepth 100000 in
theorem chkAt_of {fuel b o : Nat} {ds : List Value} {y : DataW H × List MemPlace} (hlen : ds.length = 15) (hca : CellsAt w b o ds) (hy : DataW.trod enc Tryz.prog w base spare held fuel 69 ds = some y) (hzy : ∀ k ∈ y.1.weights Tryz.prog 69, k ≤ reachBytes) : ∃ a, ChkAt w b o a := by
  obtain ⟨xs, n, _, rfl, _, hxl, hg⟩ := DataW.trod_struct Tryz.underlying69 hy
  match ds, hlen with
  | [c0, c1, c2, c3, c4, c5, c6, c7, c8, c9, c10, c11, c12, c13, c14], _ =>
  match xs, hxl with
  | [x0, x1, x2, x3, x4], _ =>
    have g0 := hg 0 _ rfl
    have g1 := hg 1 _ rfl
    have g2 := hg 2 _ rfl
    have g3 := hg 3 _ rfl
    have g4 := hg 4 _ rfl
    have estring : Tryz.prog.cellsOf 9 = 1 := by kernel_rfl
    have eint : Tryz.prog.cellsOf 3 = 1 := by kernel_rfl
    have eexpr : Tryz.prog.cellsOf 65 = 6 := by kernel_rfl
    simp [estring] at g0
    simp [eint] at g1
    simp [eint] at g2
    simp [eexpr] at g3
    simp [eexpr] at g4
    have hz1 : ∀ (j : Nat) t (d : DataW H), [9, 3, 3, 65, 65][j]? = some t → [x0.1, x1.1, x2.1, x3.1, x4.1][j]? = some d → ∀ x ∈ d.weights Tryz.prog t, x ≤ reachBytes := by
      intro j t d ht hd x hx
      refine hzy x ?_
      unfold DataW.weights
      rw [Tryz.underlying69]
      exact DataW.weights_mem_each ht hd x hx
    obtain ⟨l0, rfl, n0⟩ := text_of_trod g0 (hz1 0 _ _ rfl rfl)
    obtain ⟨l1, rfl⟩ := int_of_trod g1
    obtain ⟨l2, rfl⟩ := int_of_trod g2
    obtain ⟨E3, t3⟩ := ET.of_trod n b (o + 3) _ _ rfl (hca.sub 3 6 (by simp)) g3 (hz1 3 _ _ rfl rfl)
    obtain ⟨E4, t4⟩ := ET.of_trod n b (o + 9) _ _ rfl (hca.sub 9 6 (by simp)) g4 (hz1 4 _ _ rfl rfl)
    exact ⟨⟨l0, l1, l2, E3, E4⟩, hca.sub 0 3 (by simp), n0, t3, t4⟩
set_option maxRecDepth 100000 in
theorem pnAt_of {fuel b o : Nat} {ds : List Value} {y : DataW H × List MemPlace} (hlen : ds.length = 5) (hca : CellsAt w b o ds) (hy : DataW.trod enc Tryz.prog w base spare held fuel 71 ds = some y) (hzy : ∀ k ∈ y.1.weights Tryz.prog 71, k ≤ reachBytes) : ∃ a, PnAt w b o a := by
  obtain ⟨xs, n, _, rfl, _, hxl, hg⟩ := DataW.trod_struct Tryz.underlying71 hy
  match ds, hlen with
  | [c0, c1, c2, c3, c4], _ =>
  match xs, hxl with
  | [x0, x1, x2], _ =>
    have g0 := hg 0 _ rfl
    have g1 := hg 1 _ rfl
    have g2 := hg 2 _ rfl
    have ebool : Tryz.prog.cellsOf 4 = 1 := by kernel_rfl
    have erat : Tryz.prog.cellsOf 53 = 3 := by kernel_rfl
    simp [ebool] at g0
    simp [ebool] at g1
    simp [erat] at g2
    have hz1 : ∀ (j : Nat) t (d : DataW H), [4, 4, 53][j]? = some t → [x0.1, x1.1, x2.1][j]? = some d → ∀ x ∈ d.weights Tryz.prog t, x ≤ reachBytes := by
      intro j t d ht hd x hx
      refine hzy x ?_
      unfold DataW.weights
      rw [Tryz.underlying71]
      exact DataW.weights_mem_each ht hd x hx
    obtain ⟨l0, rfl⟩ := bool_of_trod g0
    obtain ⟨l1, rfl⟩ := bool_of_trod g1
    obtain ⟨h2, q2, rfl, rfl, rfl, r2⟩ := hdr_of_trod g2 (hz1 2 _ _ rfl rfl)
    exact ⟨⟨l0, l1, h2, q2⟩, hca, r2⟩
theorem rqAt_of {fuel b o : Nat} {ds : List Value} {y : DataW H × List MemPlace} (hlen : ds.length = 3) (hca : CellsAt w b o ds) (hy : DataW.trod enc Tryz.prog w base spare held fuel 53 ds = some y) (hzy : ∀ k ∈ y.1.weights Tryz.prog 53, k ≤ reachBytes) : ∃ a, RqAt w b o a := by
  match ds, hlen with
  | [c0, c1, c2], _ =>
  obtain ⟨h, q, rfl, rfl, rfl, r⟩ := hdr_of_trod hy hzy
  exact ⟨(h, q), hca, r⟩
theorem boolAt_of {fuel b o : Nat} {ds : List Value} {y : DataW H × List MemPlace} (hlen : ds.length = 1) (hca : CellsAt w b o ds) (hy : DataW.trod enc Tryz.prog w base spare held fuel 4 ds = some y) : ∃ a, BoolAt w b o a := by
  match ds, hlen with
  | [c0], _ =>
  obtain ⟨k, rfl⟩ := bool_of_trod hy
  exact ⟨k, hca⟩
theorem intAt_of {fuel b o : Nat} {ds : List Value} {y : DataW H × List MemPlace} (hlen : ds.length = 1) (hca : CellsAt w b o ds) (hy : DataW.trod enc Tryz.prog w base spare held fuel 3 ds = some y) : ∃ a, IntAt w b o a := by
  match ds, hlen with
  | [c0], _ =>
  obtain ⟨k, rfl⟩ := int_of_trod hy
  exact ⟨k, hca⟩
set_option maxRecDepth 100000 in
theorem slSw {fuel : Nat} {cs : List Value} {y : DataW H × List MemPlace} (hy : DataW.trod enc Tryz.prog w base spare held fuel 22 cs = some y) (hzy : ∀ k ∈ y.1.weights Tryz.prog 22, k ≤ reachBytes) : ∃ A n c l, cs = [.slice A n c] ∧ SlAt 2 SwAt w A n c l := by
  have e1 : Tryz.prog.cellsOf 57 = 2 := by kernel_rfl
  have e2 : Tryz.prog.bytesOf 57 = 24 := by kernel_rfl
  exact SlAt.of_trod Tryz.underlying22 e1 (by decide) (by rw [e2]; decide) hy hzy (fun m hm b o ds y _ hl hc ht hz => swAt_of hl hc ht hz)
set_option maxRecDepth 100000 in
theorem slPar {fuel : Nat} {cs : List Value} {y : DataW H × List MemPlace} (hy : DataW.trod enc Tryz.prog w base spare held fuel 23 cs = some y) (hzy : ∀ k ∈ y.1.weights Tryz.prog 23, k ≤ reachBytes) : ∃ A n c l, cs = [.slice A n c] ∧ SlAt 4 ParAt w A n c l := by
  have e1 : Tryz.prog.cellsOf 55 = 4 := by kernel_rfl
  have e2 : Tryz.prog.bytesOf 55 = 72 := by kernel_rfl
  exact SlAt.of_trod Tryz.underlying23 e1 (by decide) (by rw [e2]; decide) hy hzy (fun m hm b o ds y _ hl hc ht hz => parAt_of hl hc ht hz)
set_option maxRecDepth 100000 in
theorem slPag {fuel : Nat} {cs : List Value} {y : DataW H × List MemPlace} (hy : DataW.trod enc Tryz.prog w base spare held fuel 24 cs = some y) (hzy : ∀ k ∈ y.1.weights Tryz.prog 24, k ≤ reachBytes) : ∃ A n c l, cs = [.slice A n c] ∧ SlAt 2 PagAt w A n c l := by
  have e1 : Tryz.prog.cellsOf 59 = 2 := by kernel_rfl
  have e2 : Tryz.prog.bytesOf 59 = 32 := by kernel_rfl
  exact SlAt.of_trod Tryz.underlying24 e1 (by decide) (by rw [e2]; decide) hy hzy (fun m hm b o ds y _ hl hc ht hz => pagAt_of hl hc ht hz)
set_option maxRecDepth 100000 in
theorem slFld {fuel : Nat} {cs : List Value} {y : DataW H × List MemPlace} (hy : DataW.trod enc Tryz.prog w base spare held fuel 25 cs = some y) (hzy : ∀ k ∈ y.1.weights Tryz.prog 25, k ≤ reachBytes) : ∃ A n c l, cs = [.slice A n c] ∧ SlAt 4 FldAt w A n c l := by
  have e1 : Tryz.prog.cellsOf 61 = 4 := by kernel_rfl
  have e2 : Tryz.prog.bytesOf 61 = 40 := by kernel_rfl
  exact SlAt.of_trod Tryz.underlying25 e1 (by decide) (by rw [e2]; decide) hy hzy (fun m hm b o ds y _ hl hc ht hz => fldAt_of hl hc ht hz)
set_option maxRecDepth 100000 in
theorem slRul {fuel : Nat} {cs : List Value} {y : DataW H × List MemPlace} (hy : DataW.trod enc Tryz.prog w base spare held fuel 26 cs = some y) (hzy : ∀ k ∈ y.1.weights Tryz.prog 26, k ≤ reachBytes) : ∃ A n c l, cs = [.slice A n c] ∧ SlAt 15 RulAt w A n c l := by
  have e1 : Tryz.prog.cellsOf 67 = 15 := by kernel_rfl
  have e2 : Tryz.prog.bytesOf 67 = 248 := by kernel_rfl
  exact SlAt.of_trod Tryz.underlying26 e1 (by decide) (by rw [e2]; decide) hy hzy (fun m hm b o ds y _ hl hc ht hz => rulAt_of hl hc ht hz)
set_option maxRecDepth 100000 in
theorem slChk {fuel : Nat} {cs : List Value} {y : DataW H × List MemPlace} (hy : DataW.trod enc Tryz.prog w base spare held fuel 27 cs = some y) (hzy : ∀ k ∈ y.1.weights Tryz.prog 27, k ≤ reachBytes) : ∃ A n c l, cs = [.slice A n c] ∧ SlAt 15 ChkAt w A n c l := by
  have e1 : Tryz.prog.cellsOf 69 = 15 := by kernel_rfl
  have e2 : Tryz.prog.bytesOf 69 = 240 := by kernel_rfl
  exact SlAt.of_trod Tryz.underlying27 e1 (by decide) (by rw [e2]; decide) hy hzy (fun m hm b o ds y _ hl hc ht hz => chkAt_of hl hc ht hz)
set_option maxRecDepth 100000 in
theorem slRq {fuel : Nat} {cs : List Value} {y : DataW H × List MemPlace} (hy : DataW.trod enc Tryz.prog w base spare held fuel 30 cs = some y) (hzy : ∀ k ∈ y.1.weights Tryz.prog 30, k ≤ reachBytes) : ∃ A n c l, cs = [.slice A n c] ∧ SlAt 3 RqAt w A n c l := by
  have e1 : Tryz.prog.cellsOf 53 = 3 := by kernel_rfl
  have e2 : Tryz.prog.bytesOf 53 = 56 := by kernel_rfl
  exact SlAt.of_trod Tryz.underlying30 e1 (by decide) (by rw [e2]; decide) hy hzy (fun m hm b o ds y _ hl hc ht hz => rqAt_of hl hc ht hz)
set_option maxRecDepth 100000 in
theorem slBool {fuel : Nat} {cs : List Value} {y : DataW H × List MemPlace} (hy : DataW.trod enc Tryz.prog w base spare held fuel 31 cs = some y) (hzy : ∀ k ∈ y.1.weights Tryz.prog 31, k ≤ reachBytes) : ∃ A n c l, cs = [.slice A n c] ∧ SlAt 1 BoolAt w A n c l := by
  have e1 : Tryz.prog.cellsOf 4 = 1 := by kernel_rfl
  have e2 : Tryz.prog.bytesOf 4 = 1 := by kernel_rfl
  exact SlAt.of_trod Tryz.underlying31 e1 (by decide) (by rw [e2]; decide) hy hzy (fun m hm b o ds y _ hl hc ht hz => boolAt_of hl hc ht)
set_option maxRecDepth 100000 in
theorem slInt {fuel : Nat} {cs : List Value} {y : DataW H × List MemPlace} (hy : DataW.trod enc Tryz.prog w base spare held fuel 32 cs = some y) (hzy : ∀ k ∈ y.1.weights Tryz.prog 32, k ≤ reachBytes) : ∃ A n c l, cs = [.slice A n c] ∧ SlAt 1 IntAt w A n c l := by
  have e1 : Tryz.prog.cellsOf 3 = 1 := by kernel_rfl
  have e2 : Tryz.prog.bytesOf 3 = 8 := by kernel_rfl
  exact SlAt.of_trod Tryz.underlying32 e1 (by decide) (by rw [e2]; decide) hy hzy (fun m hm b o ds y _ hl hc ht hz => intAt_of hl hc ht)
set_option maxRecDepth 100000 in
theorem slPin {fuel : Nat} {cs : List Value} {y : DataW H × List MemPlace} (hy : DataW.trod enc Tryz.prog w base spare held fuel 33 cs = some y) (hzy : ∀ k ∈ y.1.weights Tryz.prog 33, k ≤ reachBytes) : ∃ A n c l, cs = [.slice A n c] ∧ SlAt 5 PnAt w A n c l := by
  have e1 : Tryz.prog.cellsOf 71 = 5 := by kernel_rfl
  have e2 : Tryz.prog.bytesOf 71 = 64 := by kernel_rfl
  exact SlAt.of_trod Tryz.underlying33 e1 (by decide) (by rw [e2]; decide) hy hzy (fun m hm b o ds y _ hl hc ht hz => pnAt_of hl hc ht hz)
set_option maxRecDepth 100000 in
theorem FormArg.of_trod {r : Reach} {b0 : Nat} {v : Value} {d : DataW H} {p : List MemPlace} (hv : Value.okWide Tryz.prog w r b0 29 v) (h : DataW.Trod enc Tryz.prog w base spare held 29 v d p)
    (hzy : ∀ x ∈ d.weights Tryz.prog 29, x ≤ reachBytes) : ∃ x, FormArg w v x := by
  obtain ⟨cs, rfl, hsz⟩ := Go.WideShapes.okWide_struct Tryz.underlying29 hv
  have e6 : Tryz.prog.cellsOf 29 = 6 := by kernel_rfl
  rw [e6] at hsz
  obtain ⟨ds, rfl⟩ : ∃ ds : List Value, cs = ds.toArray := ⟨cs.toList, by simp⟩
  obtain ⟨fuel, hy⟩ := h
  obtain ⟨xs, n, _, hxe, _, hxl, hg⟩ := DataW.trod_struct Tryz.underlying29 hy
  match ds, hsz with
  | [c0, c1, c2, c3, c4, c5], _ =>
  match xs, hxl with
  | [x0, x1, x2, x3, x4, x5], _ =>
    simp only [Prod.mk.injEq] at hxe
    obtain ⟨rfl, _⟩ := hxe
    have g0 := hg 0 _ rfl
    have g1 := hg 1 _ rfl
    have g2 := hg 2 _ rfl
    have g3 := hg 3 _ rfl
    have g4 := hg 4 _ rfl
    have g5 := hg 5 _ rfl
    have e0 : Tryz.prog.cellsOf 22 = 1 := by kernel_rfl
    have e1 : Tryz.prog.cellsOf 23 = 1 := by kernel_rfl
    have e2 : Tryz.prog.cellsOf 24 = 1 := by kernel_rfl
    have e3 : Tryz.prog.cellsOf 25 = 1 := by kernel_rfl
    have e4 : Tryz.prog.cellsOf 26 = 1 := by kernel_rfl
    have e5 : Tryz.prog.cellsOf 27 = 1 := by kernel_rfl
    simp [e0, Value.cells] at g0
    simp [e1, Value.cells] at g1
    simp [e2, Value.cells] at g2
    simp [e3, Value.cells] at g3
    simp [e4, Value.cells] at g4
    simp [e5, Value.cells] at g5
    have hz1 : ∀ (j : Nat) t (d : DataW H), [22, 23, 24, 25, 26, 27][j]? = some t → [x0.1, x1.1, x2.1, x3.1, x4.1, x5.1][j]? = some d → ∀ x ∈ d.weights Tryz.prog t, x ≤ reachBytes := by
      intro j t d ht hd x hx
      refine hzy x ?_
      unfold DataW.weights
      rw [Tryz.underlying29]
      exact DataW.weights_mem_each ht hd x hx
    obtain ⟨A0, n0, k0, l0, h0, s0⟩ := slSw g0 (hz1 0 _ _ rfl rfl)
    obtain ⟨A1, n1, k1, l1, h1, s1⟩ := slPar g1 (hz1 1 _ _ rfl rfl)
    obtain ⟨A2, n2, k2, l2, h2, s2⟩ := slPag g2 (hz1 2 _ _ rfl rfl)
    obtain ⟨A3, n3, k3, l3, h3, s3⟩ := slFld g3 (hz1 3 _ _ rfl rfl)
    obtain ⟨A4, n4, k4, l4, h4, s4⟩ := slRul g4 (hz1 4 _ _ rfl rfl)
    obtain ⟨A5, n5, k5, l5, h5, s5⟩ := slChk g5 (hz1 5 _ _ rfl rfl)
    simp at h0
    simp at h1
    simp at h2
    simp at h3
    simp at h4
    simp at h5
    subst h0 h1 h2 h3 h4 h5
    exact ⟨⟨A0, A1, A2, A3, A4, A5, n0, k0, n1, k1, n2, k2, n3, k3, n4, k4, n5, k5, l0, l1, l2, l3, l4, l5⟩, rfl, ⟨s0, s1, s2, s3, s4, s5⟩⟩
set_option maxRecDepth 100000 in
theorem DocArg.of_trod {r : Reach} {b0 : Nat} {v : Value} {d : DataW H} {p : List MemPlace} (hv : Value.okWide Tryz.prog w r b0 35 v) (h : DataW.Trod enc Tryz.prog w base spare held 35 v d p)
    (hzy : ∀ x ∈ d.weights Tryz.prog 35, x ≤ reachBytes) : ∃ x, DocArg w v x := by
  obtain ⟨cs, rfl, hsz⟩ := Go.WideShapes.okWide_struct Tryz.underlying35 hv
  have e6 : Tryz.prog.cellsOf 35 = 6 := by kernel_rfl
  rw [e6] at hsz
  obtain ⟨ds, rfl⟩ : ∃ ds : List Value, cs = ds.toArray := ⟨cs.toList, by simp⟩
  obtain ⟨fuel, hy⟩ := h
  obtain ⟨xs, n, _, hxe, _, hxl, hg⟩ := DataW.trod_struct Tryz.underlying35 hy
  match ds, hsz with
  | [c0, c1, c2, c3, c4, c5], _ =>
  match xs, hxl with
  | [x0, x1, x2, x3, x4, x5], _ =>
    simp only [Prod.mk.injEq] at hxe
    obtain ⟨rfl, _⟩ := hxe
    have g0 := hg 0 _ rfl
    have g1 := hg 1 _ rfl
    have g2 := hg 2 _ rfl
    have g3 := hg 3 _ rfl
    have g4 := hg 4 _ rfl
    have g5 := hg 5 _ rfl
    have e0 : Tryz.prog.cellsOf 30 = 1 := by kernel_rfl
    have e1 : Tryz.prog.cellsOf 31 = 1 := by kernel_rfl
    have e2 : Tryz.prog.cellsOf 30 = 1 := by kernel_rfl
    have e3 : Tryz.prog.cellsOf 32 = 1 := by kernel_rfl
    have e4 : Tryz.prog.cellsOf 33 = 1 := by kernel_rfl
    have e5 : Tryz.prog.cellsOf 31 = 1 := by kernel_rfl
    simp [e0, Value.cells] at g0
    simp [e1, Value.cells] at g1
    simp [e2, Value.cells] at g2
    simp [e3, Value.cells] at g3
    simp [e4, Value.cells] at g4
    simp [e5, Value.cells] at g5
    have hz1 : ∀ (j : Nat) t (d : DataW H), [30, 31, 30, 32, 33, 31][j]? = some t → [x0.1, x1.1, x2.1, x3.1, x4.1, x5.1][j]? = some d → ∀ x ∈ d.weights Tryz.prog t, x ≤ reachBytes := by
      intro j t d ht hd x hx
      refine hzy x ?_
      unfold DataW.weights
      rw [Tryz.underlying35]
      exact DataW.weights_mem_each ht hd x hx
    obtain ⟨A0, n0, k0, l0, h0, s0⟩ := slRq g0 (hz1 0 _ _ rfl rfl)
    obtain ⟨A1, n1, k1, l1, h1, s1⟩ := slBool g1 (hz1 1 _ _ rfl rfl)
    obtain ⟨A2, n2, k2, l2, h2, s2⟩ := slRq g2 (hz1 2 _ _ rfl rfl)
    obtain ⟨A3, n3, k3, l3, h3, s3⟩ := slInt g3 (hz1 3 _ _ rfl rfl)
    obtain ⟨A4, n4, k4, l4, h4, s4⟩ := slPin g4 (hz1 4 _ _ rfl rfl)
    obtain ⟨A5, n5, k5, l5, h5, s5⟩ := slBool g5 (hz1 5 _ _ rfl rfl)
    simp at h0
    simp at h1
    simp at h2
    simp at h3
    simp at h4
    simp at h5
    subst h0 h1 h2 h3 h4 h5
    exact ⟨⟨A0, A1, A2, A3, A4, A5, n0, k0, n1, k1, n2, k2, n3, k3, n4, k4, n5, k5, l0, l1, l2, l3, l4, l5⟩, rfl, ⟨s0, s1, s2, s3, s4, s5⟩⟩
end
end Go.Proofs.YtbhieajpodnfpaaGreat
namespace Go.Proofs.YtbhieajpodnfpaaGreat
open Go.RowKit Pg
set_option maxHeartbeats 1000000 in
/-- view.Told. -/
theorem Told_any (f0 f1 f2 f3 f5 d0 d1 d2 d4 d5 : Value) (RA OA : Option Addr) (rn rc on oc : Nat) (D : VData) (z : Int) (w : World) (hR : SlAt 15 NameAt w RA rn rc D.rules) (hO : SlAt 1 IntAt w OA on oc D.outs) (_hz0 : -9223372036854775808 ≤ z) (_hz1 : z ≤ 9223372036854775807) :
    Calls Tryz.prog 15 #[.agg #[f0, f1, f2, f3, .slice RA rn rc, f5], .agg #[d0, d1, d2, .slice OA on oc, d4, d5], .int .i64 z] w fun e w' => e = .returned (.string (str (told D z))) ∧ Below w.heap.size w w' := by
  have hX := (B6n.newg w 29 f0 f1 f2 f3 (.slice RA rn rc) f5 _ rfl).alloc (.cells #[d0, d1, d2, .slice OA on oc, d4, d5] 35)
  have hY := B6n.newg (w.alloc (.cells #[f0, f1, f2, f3, .slice RA rn rc, f5] 29)) 35 d0 d1 d2 (.slice OA on oc) d4 d5 (w.heap.size + 1) (by simp)
  have hb0 : Below w.heap.size w ((w.alloc (.cells #[f0, f1, f2, f3, .slice RA rn rc, f5] 29)).alloc (.cells #[d0, d1, d2, .slice OA on oc, d4, d5] 35)) := Below.new_ (Below.new_ (Below.refl _ _) _) _
  have hI := hid (index_any OA on oc D.outs z _ (hO.below intAt_stays hb0))
  have hib := idx_bounds D.outs z
  obtain ⟨hRl, hRc, hRn, _, _, hRx⟩ := hR.below nameAt_stays hb0
  obtain ⟨_, _, _, _, k4, _⟩ := hX.cells
  obtain ⟨_, _, _, j3, _, _⟩ := hY.cells
  have hol := hO.1
  have hon := hO.2.2.1
  have ht : told D z = if 0 ≤ z ∧ 0 ≤ Lib.idxOf D.outs z then D.rules.getD (Lib.idxOf D.outs z).toNat [] else [] := rfl
  clear hX hY hR hO
  generalize Lib.idxOf D.outs z = r at *
  have hr1 : -1 ≤ r := by omega
  have hr2 : r ≤ 140737488355328 := by rcases hib with h | ⟨h, _⟩ <;> omega
  clear hib
  by_cases h0 : 0 ≤ z
  · by_cases h1 : 0 ≤ r
    · by_cases h2 : r < (rn : Int)
      · obtain ⟨b, o, rfl, hbl, hx⟩ := hRx (by omega)
        have hlt : r.toNat < D.rules.length := by omega
        have hc := (hx r.toNat D.rules[r.toNat] (List.getElem?_eq_getElem hlt)).1.at_ 0 rfl
        have ht2 := hid (show told D z = D.rules[r.toNat] by rw [ht, if_pos ⟨h0, h1⟩]; simp [List.getD, hlt])
        obtain ⟨y, hy⟩ : ∃ y, D.rules[r.toNat] = y := ⟨_, rfl⟩
        rw [hy] at hc ht2
        clear ht hx hlt hy hRx hRl hol
        rw [Nat.add_zero] at hc
        go_enter Tryz.func15, Tryz.ntmps15
        go_wp2_with (go_at_call 29; refine hI.out.mono ?_; rintro e w1 ⟨rfl, rfl⟩)
        go_ret
        exact ⟨by rw [ht2.out]; rfl, hb0⟩
      · have ht2 := hid (show told D z = [] by rw [ht, if_pos ⟨h0, h1⟩]; simp [List.getD, List.getElem?_eq_none (show D.rules.length ≤ r.toNat by omega)])
        have h2' : decide (r < (rn : Int)) = false := decide_eq_false h2
        clear ht hRx hRl
        go_enter Tryz.func15, Tryz.ntmps15
        go_wp2_with (go_at_call 29; refine hI.out.mono ?_; rintro e w1 ⟨rfl, rfl⟩)
        go_ret
        exact ⟨by rw [ht2.out]; rfl, hb0⟩
    · have ht2 := hid (show told D z = [] by rw [ht, if_neg (fun h => h1 h.2)])
      have h1' : decide (0 ≤ r) = false := decide_eq_false h1
      clear ht hRx hRl
      go_enter Tryz.func15, Tryz.ntmps15
      go_wp2_with (go_at_call 29; refine hI.out.mono ?_; rintro e w1 ⟨rfl, rfl⟩)
      go_ret
      exact ⟨by rw [ht2.out]; rfl, hb0⟩
  · have ht2 := hid (show told D z = [] by rw [ht, if_neg (fun h => h0 h.1)])
    have h0' : decide (0 ≤ z) = false := decide_eq_false h0
    clear ht hRx hRl
    go_enter Tryz.func15, Tryz.ntmps15
    go_wp2_with (go_at_call 29; refine hI.out.mono ?_; rintro e w1 ⟨rfl, rfl⟩)
    go_ret
    exact ⟨by rw [ht2.out]; rfl, hb0⟩
end Go.Proofs.YtbhieajpodnfpaaGreat
