/- view.Field of a form with one field; walk: pantographlaw19.known. Conditions: those that each theorem names. -/
import Derived.Test.YtbhieajpodnfpaaGreatZ36
import Derived.Test.YtbhieajpodnfpaaGreatZ41
import Derived.Test.YtbhieajpodnfpaaGreatZ15
namespace Go.Proofs.YtbhieajpodnfpaaGreat
open Go.RowKit Pg
theorem cellsAt_heap {w : World} {g : Nat} {cs : Array Value} {t : TypeId} (h : w.heap[g]? = some (.cells cs t (0, 0))) : CellsAt w g 0 cs.toList := fun j _ => by
  rw [Nat.zero_add, cell_of_row w g j _ t (0, 0) h, Array.getElem?_toList]
/-- The form and the document of one field, one value. -/
def oneD (fl : Bool) : VData := ⟨[], [], [], [], [], [false], [fl]⟩
def endT (q : Rat) (k : Nat) : List UInt8 := if eqQ (roundQ q k) q then [32, 101, 120, 97, 99, 116] else [32, 97, 98, 111, 117, 116]
theorem lineT_one (nm : List UInt8) (q : Rat) (k : Nat) (fl : Bool) : lineT ⟨nm, 0, false, (k : Int)⟩ q (oneD fl) 0 = nm ++ [32, 61, 32] ++ fixedT q k ++ endT q k := by
  have ht : told (oneD fl) (0 : Nat) = [] := rfl
  unfold lineT endT
  rw [ht]
  simp [oneD]
theorem slAt_nil {α : Type} {sz : Nat} {E : World → Nat → Nat → α → Prop} (w : World) : SlAt sz E w none 0 0 [] := ⟨rfl, Nat.le_refl _, by omega, by omega, fun _ => rfl, fun h => absurd h (by omega)⟩
theorem slAt_one {α : Type} {sz : Nat} {E : World → Nat → Nat → α → Prop} {w : World} {g : Nat} {x : α} (hg : g < w.heap.size) (h : E w g 0 x) : SlAt sz E w (some ⟨g, 0, none⟩) 1 1 [x] :=
  ⟨rfl, Nat.le_refl _, by omega, by omega, (fun e => by cases e), fun _ => ⟨g, 0, rfl, hg, fun j y hj => by
    match j with
    | 0 =>
      simp only [List.getElem?_cons_zero, Option.some.injEq] at hj
      subst hj
      rw [Nat.zero_mul, Nat.add_zero]; exact h
    | j + 1 => simp at hj⟩⟩
/-- view.Field of one field. -/
theorem Field_one (nm : List UInt8) (fl : Bool) (gF gV gP gL : Nat) (p : Value) (s : Bool) (A A' : Option Addr) (n c n' c' : Nat) (q : Rat) (k : Nat) (t1 t2 t3 t4 : TypeId) (w : World) (ha : RArg w (.agg #[.bool s, .slice A n c, .slice A' n' c']) q 1000) (hk : k ≤ 9) (hnm : nm.length ≤ 1000)
    (hF : w.heap[gF]? = some (.cells #[.string (str nm), .int .i64 0, .bool false, .int .i64 (k : Int)] t1 (0, 0))) (hV : w.heap[gV]? = some (.cells #[.bool s, .slice A n c, .slice A' n' c'] t2 (0, 0)))
    (hP : w.heap[gP]? = some (.cells #[.bool false, .bool false, .bool false, .slice none 0 0, .slice none 0 0] t3 (0, 0))) (hL : w.heap[gL]? = some (.cells #[.bool fl] t4 (0, 0))) :
    Calls Tryz.prog 8 #[.agg #[.slice none 0 0, .slice none 0 0, p, .slice (some ⟨gF, 0, none⟩) 1 1, .slice none 0 0, .slice none 0 0], .agg #[.slice none 0 0, .slice none 0 0, .slice (some ⟨gV, 0, none⟩) 1 1, .slice none 0 0, .slice (some ⟨gP, 0, none⟩) 1 1, .slice (some ⟨gL, 0, none⟩) 1 1], .int .i64 0] w fun e w' => e = .returned (.string (str (nm ++ [32, 61, 32] ++ fixedT q k ++ endT q k))) ∧ Below w.heap.size w w' := by
  obtain ⟨s0, A0, n0, c0, A1, n1, c1, xs, ys, e, h1, h2, h3, h4, h5⟩ := ha
  injection e with e
  simp only [Array.mk.injEq, List.cons.injEq, Value.bool.injEq, Value.slice.injEq, and_true] at e
  obtain ⟨rfl, ⟨rfl, rfl, rfl⟩, rfl, rfl, rfl⟩ := e
  have cF := cellsAt_heap hF
  have cV := cellsAt_heap hV
  have cP := cellsAt_heap hP
  have cL := cellsAt_heap hL
  have lF := cell_lt (cF.at_ 0 rfl)
  have lV := cell_lt (cV.at_ 0 rfl)
  have lP := cell_lt (cP.at_ 0 rfl)
  have lL := cell_lt (cL.at_ 0 rfl)
  have := Field_in (.slice none 0 0) (.slice none 0 0) p (.slice none 0 0) (.slice none 0 0) (.slice none 0 0) gF 0 gV 0 none none none none (some ⟨gP, 0, none⟩) (some ⟨gL, 0, none⟩) 1 1 0 0 1 1 0 0 1 1 1 1 0 ⟨nm, 0, false, (k : Int)⟩ q (oneD fl) w
    ⟨cF, by show nm.length ≤ _; omega⟩ ⟨s, A, n, c, A', n', c', xs, ys, cV, h1, h2, h3, h4, h5⟩ lF lV (by omega) (by omega) (by omega) (by omega) k rfl hk (slAt_nil w) (slAt_nil w) (slAt_one lP (fun j hj => by
      have hj0 : j = 0 := by simpa using hj
      subst hj0; exact cP.at_ 0 rfl)) (slAt_one lL cL)
  rwa [lineT_one] at this
theorem heap_new (w : World) (o : Obj) (g : Nat) (hg : g = w.heap.size) : (w.alloc o).heap[g]? = some o := by subst hg; exact heap_alloc_new w o
theorem heap_old {w : World} {g : Nat} {x : Obj} (h : w.heap[g]? = some x) (o : Obj) : (w.alloc o).heap[g]? = some x := (Below.heap_alloc w o g (Array.getElem?_eq_some_iff.1 h).1).trans h
theorem third_text : [97] ++ [32, 61, 32] ++ fixedT (rv false (val [1]) (val [3])) 2 ++ endT (rv false (val [1]) (val [3])) 2 = [97, 32, 61, 32, 48, 46, 51, 51, 32, 97, 98, 111, 117, 116] := by decide +kernel
set_option maxRecDepth 100000 in
set_option maxHeartbeats 2000000 in
theorem known19_any (w : World) : Calls Tryz.prog 17 #[] w fun e w' => e = .returned (.bool true) ∧ Below w.heap.size w w' := by
  have hB : ∀ o0 o1 o2 o3 o4 o5 o6 o7 o8 : Obj, Below w.heap.size w (((((((((w.alloc o0).alloc o1).alloc o2).alloc o3).alloc o4).alloc o5).alloc o6).alloc o7).alloc o8) := fun _ _ _ _ _ _ _ _ _ => Below.new_ (Below.new_ (Below.new_ (Below.new_ (Below.new_ (Below.new_ (Below.new_ (Below.new_ (Below.new_ (Below.refl _ _) _) _) _) _) _) _) _) _) _
  go_enter Tryz.func17, Tryz.ntmps17
  go_wp2_with (go_at_call 8; go_must (refine (Field_one [97] false (w.heap.size + 1) (w.heap.size + 1 + 1 + 1 + 1 + 1) (w.heap.size + 1 + 1 + 1 + 1 + 1 + 1) (w.heap.size + 1 + 1 + 1 + 1 + 1 + 1 + 1) _ false _ _ _ _ _ _ (rv false (val [1]) (val [3])) 2 _ _ _ _ _ (RArg.mk (s := false) (n := 1) (c := 1) (n' := 1) (c' := 1) (A := some ⟨w.heap.size + 1 + 1 + 1, 0, none⟩) (A' := some ⟨w.heap.size + 1 + 1 + 1 + 1, 0, none⟩) (xs := [1]) (ys := [3]) (by repeat first | assumption | exact Pg.Row.one _ _ _ _ _ (by simp) (by first | rfl | omega) (by omega) | apply Pg.Row.drew | apply Pg.Row.below (hb := by assumption) | apply Pg.Row.alloc) (by repeat first | assumption | exact Pg.Row.one _ _ _ _ _ (by simp) (by first | rfl | omega) (by omega) | apply Pg.Row.drew | apply Pg.Row.below (hb := by assumption) | apply Pg.Row.alloc) (by omega) (by omega)) (by omega) (by decide) (by repeat first | exact heap_new _ _ _ (by simp) | apply heap_old) (by repeat first | exact heap_new _ _ _ (by simp) | apply heap_old) (by repeat first | exact heap_new _ _ _ (by simp) | apply heap_old) (by repeat first | exact heap_new _ _ _ (by simp) | apply heap_old)).mono ?_; rintro e w1 ⟨he, hb1⟩; rw [third_text] at he; have he2 : e = Ending.returned (.string ⟨#[97, 32, 61, 32, 48, 46, 51, 51, 32, 97, 98, 111, 117, 116]⟩) := he; clear he; subst he2; have HW := hid (Below.then_ (hB _ _ _ _ _ _ _ _ _) hb1)))
  go_ret
  exact ⟨rfl, HW.out⟩
end Go.Proofs.YtbhieajpodnfpaaGreat
