/- How view reads a form and a document; walks: view.there, Told · Walks: view.Told, Field. Conditions: those that each theorem names. -/
import Derived.Test.YtbhieajpodnfpaaZ3
import Derived.Test.YtbhieajpodnfpaaZ21
import Derived.Test.YtbhieajpodnfpaaZ30
import Derived.Shelf.Slices.Turned
import Derived.Test.YtbhieajpodnfpaaZ29
namespace Pg
open Go Go.RowKit
end Pg
namespace Go.Proofs.Ytbhieajpodnfpaa
open Go.RowKit Pg
structure Fld where
  name : List UInt8
  page : Int
  must : Bool
  scale : Int
/-- A field's four cells. -/
def FldAt (w : World) (b o : Nat) (x : Fld) : Prop := CellsAt w b o [.string (str x.name), .int .i64 x.page, .bool x.must, .int .i64 x.scale] ∧ x.name.length ≤ 140737488355328
/-- A text's first cell. -/
def NameAt (w : World) (b o : Nat) (x : List UInt8) : Prop := CellsAt w b o [.string (str x)] ∧ x.length ≤ 140737488355328
def IntAt (w : World) (b o : Nat) (x : Int) : Prop := CellsAt w b o [.int .i64 x]
def BoolAt (w : World) (b o : Nat) (x : Bool) : Prop := CellsAt w b o [.bool x]
/-- A rational's three cells, its rows of at most k limbs. -/
def RatAt (k : Nat) (w : World) (b o : Nat) (q : Rat) : Prop := ∃ s A n c A' n' c' xs ys, CellsAt w b o [.bool s, .slice A n c, .slice A' n' c'] ∧ Row w A n c xs ∧ Row w A' n' c' ys ∧ n ≤ k ∧ n' ≤ k ∧ rv s (val xs) (val ys) = q
theorem fldAt_stays : Stays FldAt := fun _ _ _ _ _ hb h hw => ⟨h.1.below hb hw, h.2⟩
theorem nameAt_stays : Stays NameAt := fun _ _ _ _ _ hb h hw => ⟨h.1.below hb hw, h.2⟩
theorem intAt_stays : Stays IntAt := fun _ _ _ _ _ hb h hw => CellsAt.below h hb hw
theorem boolAt_stays : Stays BoolAt := fun _ _ _ _ _ hb h hw => CellsAt.below h hb hw
theorem ratAt_stays (k : Nat) : Stays (RatAt k) := fun _ _ _ _ _ hb ⟨s, A, n, c, A', n', c', xs, ys, h0, h1, h2, h3⟩ hw => ⟨s, A, n, c, A', n', c', xs, ys, h0.below hb hw, h1.below hw, h2.below hw, h3⟩
/-- A block of six cells. -/
def B6n (w : World) (g : Nat) (t : TypeId) (v0 v1 v2 v3 v4 v5 : Value) : Prop := w.heap[g]? = some (.cells #[v0, v1, v2, v3, v4, v5] t (0, 0))
theorem B6n.newg (w : World) (t : TypeId) (v0 v1 v2 v3 v4 v5 : Value) (g : Nat) (hg : g = w.heap.size) : B6n (w.alloc (.cells #[v0, v1, v2, v3, v4, v5] t)) g t v0 v1 v2 v3 v4 v5 := by subst hg; exact heap_alloc_new w _
theorem B6n.lt {w : World} {g : Nat} {t : TypeId} {v0 v1 v2 v3 v4 v5 : Value} (h : B6n w g t v0 v1 v2 v3 v4 v5) : g < w.heap.size := by
  rcases Nat.lt_or_ge g w.heap.size with h1 | h1
  · exact h1
  · unfold B6n at h; rw [Array.getElem?_eq_none h1] at h; cases h
theorem B6n.below {w w' : World} {g : Nat} {t : TypeId} {v0 v1 v2 v3 v4 v5 : Value} (h : B6n w g t v0 v1 v2 v3 v4 v5) (hb : Below w.heap.size w w') : B6n w' g t v0 v1 v2 v3 v4 v5 := (hb.block g h.lt).trans h
theorem B6n.alloc {w : World} {g : Nat} {t : TypeId} {v0 v1 v2 v3 v4 v5 : Value} (h : B6n w g t v0 v1 v2 v3 v4 v5) (o : Obj) : B6n (w.alloc o) g t v0 v1 v2 v3 v4 v5 := (Below.heap_alloc w o g h.lt).trans h
theorem B6n.cells {w : World} {g : Nat} {t : TypeId} {v0 v1 v2 v3 v4 v5 : Value} (h : B6n w g t v0 v1 v2 v3 v4 v5) : w.cell? ⟨g, 0, none⟩ = some v0 ∧ w.cell? ⟨g, 1, none⟩ = some v1 ∧ w.cell? ⟨g, 2, none⟩ = some v2 ∧ w.cell? ⟨g, 3, none⟩ = some v3 ∧ w.cell? ⟨g, 4, none⟩ = some v4 ∧ w.cell? ⟨g, 5, none⟩ = some v5 := by
  refine ⟨?_, ?_, ?_, ?_, ?_, ?_⟩ <;> (rw [cell_of_row w g _ _ t (0, 0) h]; rfl)
/-- What view reads of a form and a document. -/
structure VData where
  pages : List (List UInt8)
  flds : List Fld
  rules : List (List UInt8)
  vals : List Rat
  outs : List Int
  pins : List Bool
  filled : List Bool
/-- Who tells a field: a rule's name, or nothing. -/
def told (D : VData) (z : Int) : List UInt8 := if 0 ≤ z ∧ 0 ≤ Go.Lib.idxOf D.outs z then D.rules.getD (Go.Lib.idxOf D.outs z).toNat [] else []
/-- A form's and a document's values that read as D. -/
structure VRead (w : World) (PA FA RA VA OA QA LA : Option Addr) (pn pc fn fc rn rc vn vc on oc qn qc ln lc k : Nat) (D : VData) : Prop where
  pages : SlAt 2 NameAt w PA pn pc D.pages
  flds : SlAt 4 FldAt w FA fn fc D.flds
  rules : SlAt 15 NameAt w RA rn rc D.rules
  vals : SlAt 3 (RatAt k) w VA vn vc D.vals
  outs : SlAt 1 IntAt w OA on oc D.outs
  pins : SlAt 5 BoolAt w QA qn qc D.pins
  filled : SlAt 1 BoolAt w LA ln lc D.filled
theorem VRead.below {w w' : World} {PA FA RA VA OA QA LA : Option Addr} {pn pc fn fc rn rc vn vc on oc qn qc ln lc k : Nat} {D : VData} (h : VRead w PA FA RA VA OA QA LA pn pc fn fc rn rc vn vc on oc qn qc ln lc k D) (hw : Below w.heap.size w w') : VRead w' PA FA RA VA OA QA LA pn pc fn fc rn rc vn vc on oc qn qc ln lc k D :=
  ⟨h.pages.below nameAt_stays hw, h.flds.below fldAt_stays hw, h.rules.below nameAt_stays hw, h.vals.below (ratAt_stays k) hw, h.outs.below intAt_stays hw, h.pins.below boolAt_stays hw, h.filled.below boolAt_stays hw⟩
set_option maxHeartbeats 1000000 in
/-- view.there. -/
theorem there_any (f0 f1 f2 f4 f5 d0 d1 d3 d4 d5 : Value) (FA VA : Option Addr) (fn fc vn vc : Nat) (z : Int) (w : World) (_hz0 : -9223372036854775808 ≤ z) (_hz1 : z ≤ 9223372036854775807) :
    Calls Try.prog 17 #[.agg #[f0, f1, f2, .slice FA fn fc, f4, f5], .agg #[d0, d1, .slice VA vn vc, d3, d4, d5], .int .i64 z] w fun e w' => e = .returned (.bool (decide (0 ≤ z ∧ z < (fn : Int) ∧ z < (vn : Int)))) ∧ Below w.heap.size w w' := by
  have hX := (B6n.newg w 38 f0 f1 f2 (.slice FA fn fc) f4 f5 _ rfl).alloc (.cells #[d0, d1, .slice VA vn vc, d3, d4, d5] 45)
  have hY := B6n.newg (w.alloc (.cells #[f0, f1, f2, .slice FA fn fc, f4, f5] 38)) 45 d0 d1 (.slice VA vn vc) d3 d4 d5 (w.heap.size + 1) (by simp)
  obtain ⟨_, _, _, k3, _, _⟩ := hX.cells
  obtain ⟨_, _, j2, _, _, _⟩ := hY.cells
  by_cases h0 : 0 ≤ z
  · by_cases h1 : z < (fn : Int)
    · by_cases h2 : z < (vn : Int)
      · have hd := hid (decide_eq_true (show 0 ≤ z ∧ z < (fn : Int) ∧ z < (vn : Int) from ⟨h0, h1, h2⟩))
        go_enter Try.func17, Try.ntmps17
        go_wp2_with fail
        go_ret
        exact ⟨by first | rfl | (rw [hd.out]; rfl), (by repeat first | exact Below.refl _ _ | assumption | refine Pg.Below.then_ ?_ (by assumption) | refine Pg.Below.new_ ?_ _ | refine Pg.Below.drewN_ ?_ _)⟩
      · have hd := hid (decide_eq_false (show ¬ (0 ≤ z ∧ z < (fn : Int) ∧ z < (vn : Int)) from fun h => h2 h.2.2))
        have h2' : decide (z < (vn : Int)) = false := decide_eq_false h2
        go_enter Try.func17, Try.ntmps17
        go_wp2_with fail
        go_ret
        exact ⟨by first | rfl | (rw [hd.out]; rfl), (by repeat first | exact Below.refl _ _ | assumption | refine Pg.Below.then_ ?_ (by assumption) | refine Pg.Below.new_ ?_ _ | refine Pg.Below.drewN_ ?_ _)⟩
    · have hd := hid (decide_eq_false (show ¬ (0 ≤ z ∧ z < (fn : Int) ∧ z < (vn : Int)) from fun h => h1 h.2.1))
      have h1' : decide (z < (fn : Int)) = false := decide_eq_false h1
      go_enter Try.func17, Try.ntmps17
      go_wp2_with fail
      go_ret
      exact ⟨by first | rfl | (rw [hd.out]; rfl), (by repeat first | exact Below.refl _ _ | assumption | refine Pg.Below.then_ ?_ (by assumption) | refine Pg.Below.new_ ?_ _ | refine Pg.Below.drewN_ ?_ _)⟩
  · have hd := hid (decide_eq_false (show ¬ (0 ≤ z ∧ z < (fn : Int) ∧ z < (vn : Int)) from fun h => h0 h.1))
    have h0' : decide (0 ≤ z) = false := decide_eq_false h0
    go_enter Try.func17, Try.ntmps17
    go_wp2_with fail
    go_ret
    exact ⟨by first | rfl | (rw [hd.out]; rfl), (by repeat first | exact Below.refl _ _ | assumption | refine Pg.Below.then_ ?_ (by assumption) | refine Pg.Below.new_ ?_ _ | refine Pg.Below.drewN_ ?_ _)⟩
/-- slices.Index of ints. -/
theorem index_any (A : Option Addr) (n c : Nat) (l : List Int) (z : Int) (w : World) (h : SlAt 1 IntAt w A n c l) :
    Calls Try.prog 44 #[.slice A n c, .int .i64 z] w fun e w' => e = .returned (.int .i64 (Lib.idxOf l z)) ∧ w' = w := by
  obtain ⟨hl, hnc, hn, hcm, _, hx⟩ := h
  by_cases h0 : n = 0
  · subst h0
    obtain rfl := List.length_eq_zero_iff.1 hl
    exact Any.slices_Index_int_empty Try.lay108 A c z w
  · obtain ⟨b, o, rfl, _, hc⟩ := hx (by omega)
    have := Any.slices_Index_int Try.lay108 b o n c l z w (by omega) (by omega) (fun j hj => by
      have h1 := hc j l[j] (List.getElem?_eq_getElem hj)
      have h2 := h1 0 (by simp)
      rw [Nat.mul_one, Nat.add_zero] at h2
      rw [h2]
      simp [List.getD, hj])
    rwa [List.take_of_length_le (by omega)] at this
theorem idx_bounds (l : List Int) (z : Int) : -1 ≤ Lib.idxOf l z ∧ Lib.idxOf l z < (l.length : Int) ∨ Lib.idxOf l z = -1 ∧ l = [] := by
  have key : ∀ (l : List Int) (i : Nat), -1 ≤ Lib.idxFrom l z i ∧ Lib.idxFrom l z i < ((i + l.length : Nat) : Int) ∨ Lib.idxFrom l z i = -1 := by
    intro l
    induction l with
    | nil => intro i; right; rfl
    | cons x l ih =>
      intro i
      unfold Lib.idxFrom
      split
      · left; simp only [List.length_cons]; omega
      · rcases ih (i + 1) with h | h
        · left; simp only [List.length_cons]; omega
        · exact .inr h
  rcases key l 0 with h | h
  · left; rw [Nat.zero_add] at h; exact h
  · by_cases hl : l = []
    · right; exact ⟨h, hl⟩
    · left
      have : Lib.idxOf l z = -1 := h
      rw [this]
      have := List.length_pos_iff.2 hl
      omega
end Go.Proofs.Ytbhieajpodnfpaa
namespace Go.Proofs.Ytbhieajpodnfpaa
open Go.RowKit Pg
set_option maxHeartbeats 1000000 in
/-- view.Told. -/
theorem Told_any (f0 f1 f2 f3 f5 d0 d1 d2 d4 d5 : Value) (RA OA : Option Addr) (rn rc on oc : Nat) (D : VData) (z : Int) (w : World) (hR : SlAt 15 NameAt w RA rn rc D.rules) (hO : SlAt 1 IntAt w OA on oc D.outs) (_hz0 : -9223372036854775808 ≤ z) (_hz1 : z ≤ 9223372036854775807) :
    Calls Try.prog 21 #[.agg #[f0, f1, f2, f3, .slice RA rn rc, f5], .agg #[d0, d1, d2, .slice OA on oc, d4, d5], .int .i64 z] w fun e w' => e = .returned (.string (str (told D z))) ∧ Below w.heap.size w w' := by
  have hX := (B6n.newg w 38 f0 f1 f2 f3 (.slice RA rn rc) f5 _ rfl).alloc (.cells #[d0, d1, d2, .slice OA on oc, d4, d5] 45)
  have hY := B6n.newg (w.alloc (.cells #[f0, f1, f2, f3, .slice RA rn rc, f5] 38)) 45 d0 d1 d2 (.slice OA on oc) d4 d5 (w.heap.size + 1) (by simp)
  have hb0 : Below w.heap.size w ((w.alloc (.cells #[f0, f1, f2, f3, .slice RA rn rc, f5] 38)).alloc (.cells #[d0, d1, d2, .slice OA on oc, d4, d5] 45)) := Below.new_ (Below.new_ (Below.refl _ _) _) _
  have hI := hid (index_any OA on oc D.outs z _ (hO.below intAt_stays hb0))
  have hib := idx_bounds D.outs z
  obtain ⟨hRl, hRc, hRn, _, _, hRx⟩ := hR.below nameAt_stays hb0
  obtain ⟨_, _, _, _, k4, _⟩ := hX.cells
  obtain ⟨_, _, _, j3, _, _⟩ := hY.cells
  have hol := hO.1
  have hon := hO.2.2.1
  have ht : told D z = if 0 ≤ z ∧ 0 ≤ Lib.idxOf D.outs z then D.rules.getD (Lib.idxOf D.outs z).toNat [] else [] := rfl
  clear hX hY hR hO
  generalize Lib.idxOf D.outs z = r at *
  have hr1 : -1 ≤ r := by omega
  have hr2 : r ≤ 140737488355328 := by rcases hib with h | ⟨h, _⟩ <;> omega
  clear hib
  by_cases h0 : 0 ≤ z
  · by_cases h1 : 0 ≤ r
    · by_cases h2 : r < (rn : Int)
      · obtain ⟨b, o, rfl, hbl, hx⟩ := hRx (by omega)
        have hlt : r.toNat < D.rules.length := by omega
        have hc := (hx r.toNat D.rules[r.toNat] (List.getElem?_eq_getElem hlt)).1.at_ 0 rfl
        have ht2 := hid (show told D z = D.rules[r.toNat] by rw [ht, if_pos ⟨h0, h1⟩]; simp [List.getD, hlt])
        obtain ⟨y, hy⟩ : ∃ y, D.rules[r.toNat] = y := ⟨_, rfl⟩
        rw [hy] at hc ht2
        clear ht hx hlt hy hRx hRl hol
        rw [Nat.add_zero] at hc
        go_enter Try.func21, Try.ntmps21
        go_wp2_with (go_at_call 44; refine hI.out.mono ?_; rintro e w1 ⟨rfl, rfl⟩)
        go_ret
        exact ⟨by rw [ht2.out]; rfl, hb0⟩
      · have ht2 := hid (show told D z = [] by rw [ht, if_pos ⟨h0, h1⟩]; simp [List.getD, List.getElem?_eq_none (show D.rules.length ≤ r.toNat by omega)])
        have h2' : decide (r < (rn : Int)) = false := decide_eq_false h2
        clear ht hRx hRl
        go_enter Try.func21, Try.ntmps21
        go_wp2_with (go_at_call 44; refine hI.out.mono ?_; rintro e w1 ⟨rfl, rfl⟩)
        go_ret
        exact ⟨by rw [ht2.out]; rfl, hb0⟩
    · have ht2 := hid (show told D z = [] by rw [ht, if_neg (fun h => h1 h.2)])
      have h1' : decide (0 ≤ r) = false := decide_eq_false h1
      clear ht hRx hRl
      go_enter Try.func21, Try.ntmps21
      go_wp2_with (go_at_call 44; refine hI.out.mono ?_; rintro e w1 ⟨rfl, rfl⟩)
      go_ret
      exact ⟨by rw [ht2.out]; rfl, hb0⟩
  · have ht2 := hid (show told D z = [] by rw [ht, if_neg (fun h => h0 h.1)])
    have h0' : decide (0 ≤ z) = false := decide_eq_false h0
    clear ht hRx hRl
    go_enter Try.func21, Try.ntmps21
    go_wp2_with (go_at_call 44; refine hI.out.mono ?_; rintro e w1 ⟨rfl, rfl⟩)
    go_ret
    exact ⟨by rw [ht2.out]; rfl, hb0⟩
end Go.Proofs.Ytbhieajpodnfpaa
