/- Walks: rat.Of, rat.Norm. Conditions: rows of at most 2^20 limbs. -/
import Derived.Test.YtgehoflkbckgkaaLgcds
import Derived.Test.YtgehoflkbckgkaaRatP
import Derived.Test.YtgehoflkbckgkaaWyr
namespace Go.Proofs.Ytgehoflkbckgkaa
open Go.RowKit Pg

/-- A call hands back the rational q, normal; nothing that was there has turned. -/
def RatRet (w : World) (q : Rat) (e : Ending) (w' : World) : Prop :=
  ∃ A c A' c', e = .returned (.agg #[.bool (rneg q), .slice A (limbs (rnum q)).length c, .slice A' (limbs q.den).length c']) ∧ Row w' A (limbs (rnum q)).length c (limbs (rnum q)) ∧ Row w' A' (limbs q.den).length c' (limbs q.den) ∧ Below w.heap.size w w'
theorem RatRet.of_rows {w w' : World} {q : Rat} {b : Bool} {N D : Nat} {A A' : Option Addr} {n c n' c' : Nat} {xs ys : List Nat} (hb : b = rneg q) (hN : N = rnum q) (hD : D = q.den) (h : Row w' A n c xs) (h' : Row w' A' n' c' ys) (e : xs = limbs N) (e' : ys = limbs D) (hbel : Below w.heap.size w w') :
    RatRet w q (.returned (.agg #[.bool b, .slice A n c, .slice A' n' c'])) w' := by
  subst hb hN hD e e'
  have := h.len
  have := h'.len
  subst_vars
  exact ⟨A, c, A', c', rfl, h, h', hbel⟩
theorem limbs_one' : limbs 1 = [1] := limbs_one

/-- A block of a struct's three cells. -/
def B3 (w : World) (g : Nat) (t : TypeId) (v0 v1 v2 : Value) : Prop := w.heap[g]? = some (.cells #[v0, v1, v2] t (0, 0))
theorem B3.new (w : World) (t : TypeId) (v0 v1 v2 : Value) : B3 (w.alloc (.cells #[v0, v1, v2] t)) w.heap.size t v0 v1 v2 := heap_alloc_new w _
theorem B3.lt {w : World} {g : Nat} {t : TypeId} {v0 v1 v2 : Value} (h : B3 w g t v0 v1 v2) : g < w.heap.size := by
  rcases Nat.lt_or_ge g w.heap.size with hlt | hge
  · exact hlt
  · unfold B3 at h; rw [Array.getElem?_eq_none hge] at h; cases h
theorem B3.below {w w' : World} {g : Nat} {t : TypeId} {v0 v1 v2 : Value} (h : B3 w g t v0 v1 v2) (hb : Below w.heap.size w w') : B3 w' g t v0 v1 v2 := (hb.block g h.lt).trans h
theorem B3.alloc {w : World} {g : Nat} {t : TypeId} {v0 v1 v2 : Value} (h : B3 w g t v0 v1 v2) (o : Obj) : B3 (w.alloc o) g t v0 v1 v2 := (Below.heap_alloc w o g h.lt).trans h
theorem B3.cells {w : World} {g : Nat} {t : TypeId} {v0 v1 v2 : Value} (h : B3 w g t v0 v1 v2) : w.cell? ⟨g, 0, none⟩ = some v0 ∧ w.cell? ⟨g, 1, none⟩ = some v1 ∧ w.cell? ⟨g, 2, none⟩ = some v2 ∧ w.frozen? ⟨g, 0, none⟩ = false ∧ w.frozen? ⟨g, 1, none⟩ = false ∧ w.frozen? ⟨g, 2, none⟩ = false := by
  refine ⟨?_, ?_, ?_, frozen_of_row w g 0 _ t h, frozen_of_row w g 1 _ t h, frozen_of_row w g 2 _ t h⟩ <;> (rw [cell_of_row w g _ _ t (0, 0) h]; rfl)

theorem B3.set {w : World} {g : Nat} {t : TypeId} {v0 v1 v2 : Value} (h : B3 w g t v0 v1 v2) (u0 u1 u2 : Value) : B3 (((w.setCell ⟨g, 0, none⟩ u0).setCell ⟨g, 1, none⟩ u1).setCell ⟨g, 2, none⟩ u2) g t u0 u1 u2 := by
  have h1 := heap_setCell_same w g 0 _ t u0 h
  have h2 := heap_setCell_same _ g 1 _ t u1 h1
  have h3 := heap_setCell_same _ g 2 _ t u2 h2
  unfold B3
  rw [h3]; rfl
/-- A row of limbs lies in another block than a struct of a bool and two slices. -/
theorem B3.apart {w : World} {g : Nat} {t : TypeId} {b0 : Bool} {A0 A1 : Option Addr} {n0 c0 n1 c1 : Nat} (h : B3 w g t (.bool b0) (.slice A0 n0 c0) (.slice A1 n1 c1)) {A : Option Addr} {n c : Nat} {xs : List Nat} (hr : Row w A n c xs) :
    0 < n → ∀ b o, A = some ⟨b, o, none⟩ → b ≠ g := by
  intro hn b o e hbg
  subst hbg
  obtain ⟨b', o', e', hc⟩ := hr.at_ hn
  rw [e] at e'
  injection e' with e'
  injection e' with e1 e2
  subst e1 e2
  have hc0 := hc 0 hn
  rw [cell_of_row w b (o + 0) _ t (0, 0) h] at hc0
  have hlt : o + 0 < 3 := by
    have := (Array.getElem?_eq_some_iff.1 hc0).1; simpa using this
  rcases o with _ | _ | _ | o
  · cases hc0
  · cases hc0
  · cases hc0
  · omega
theorem B3.row {w : World} {g : Nat} {t : TypeId} {b0 : Bool} {A0 A1 : Option Addr} {n0 c0 n1 c1 : Nat} (h : B3 w g t (.bool b0) (.slice A0 n0 c0) (.slice A1 n1 c1)) {A : Option Addr} {n c : Nat} {xs : List Nat} (hr : Row w A n c xs) (u0 u1 u2 : Value) :
    Row (((w.setCell ⟨g, 0, none⟩ u0).setCell ⟨g, 1, none⟩ u1).setCell ⟨g, 2, none⟩ u2) A n c xs := by
  have hne := h.apart hr
  exact row_set_other (row_set_other (row_set_other hr _ _ hne) _ _ hne) _ _ hne
theorem B3.belowSet {w w3 : World} {g B : Nat} (hb : Below B w w3) (hg : B ≤ g) (u0 u1 u2 : Value) : Below B w (((w3.setCell ⟨g, 0, none⟩ u0).setCell ⟨g, 1, none⟩ u1).setCell ⟨g, 2, none⟩ u2) :=
  ((hb.setCell hg _).setCell hg _).setCell hg _
/-- The end of a function that hands back a rational: its three cells are set. -/
theorem RatRet.put {w w3 : World} {q : Rat} {g N D : Nat} {t : TypeId} {b b0 : Bool} {A0 A1 A A' : Option Addr} {n0 c0 n1 c1 n c n' c' : Nat} {xs ys : List Nat} (hB : B3 w3 g t (.bool b0) (.slice A0 n0 c0) (.slice A1 n1 c1)) (hg : w.heap.size ≤ g) (hbel : Below w.heap.size w w3)
    (hb : b = rneg q) (hN : N = rnum q) (hD : D = q.den) (h : Row w3 A n c xs) (h' : Row w3 A' n' c' ys) (e : xs = limbs N) (e' : ys = limbs D) :
    RatRet w q (.returned (.agg #[.bool b, .slice A n c, .slice A' n' c'])) (((w3.setCell ⟨g, 0, none⟩ (.bool b)).setCell ⟨g, 1, none⟩ (.slice A n c)).setCell ⟨g, 2, none⟩ (.slice A' n' c')) :=
  RatRet.of_rows hb hN hD (hB.row h _ _ _) (hB.row h' _ _ _) e e' (B3.belowSet hbel hg _ _ _)

set_option maxHeartbeats 1000000 in
/-- rat.Of. -/
theorem Rof_any (neg : Bool) (A A' : Option Addr) (n c n' c' : Nat) (xs ys : List Nat) (w : World) (h : Row w A n c xs) (h' : Row w A' n' c' ys) (hb : n ≤ 1048576) (hb' : n' ≤ 1048576) :
    Calls Try.prog 34 #[.bool neg, .slice A n c, .slice A' n' c'] w (RatRet w (rv neg (val xs) (val ys))) := by
  have l1 : (limbs (val xs)).length ≤ 1048576 := by have := tl_le h.ok; rw [h.len] at this; unfold tl at this; omega
  have l2 : (limbs (val ys)).length ≤ 1048576 := by have := tl_le h'.ok; rw [h'.len] at this; unfold tl at this; omega
  have hT : Hid (∀ W, Below w.heap.size w W → Calls Try.prog 57 #[.slice A n c] W (Ret W (val xs))) := hid fun W hW => Trim_any A n c xs W (h.below hW) (by omega)
  have hT' : Hid (∀ W, Below w.heap.size w W → Calls Try.prog 57 #[.slice A' n' c'] W (Ret W (val ys))) := hid fun W hW => Trim_any A' n' c' ys W (h'.below hW) (by omega)
  clear h h'
  generalize val xs = N at *
  generalize val ys = D at *
  have hB0 := B3.new w 28 (.bool false) (.slice none 0 0) (.slice none 0 0)
  have HB := hid hB0
  clear hB0
  by_cases hz : N = 0 ∨ D = 0
  · have hz2 : N = 0 ∨ (N ≠ 0 ∧ D = 0) := by omega
    rw [rv_zero hz]
    clear hz
    rcases hz2 with rfl | ⟨hn, rfl⟩
    · have e0 : (limbs 0).length = 0 := rfl
      go_enter Try.func34, Try.ntmps34
      go_wp2_with (first
        | (go_at_call 57; ((with_reducible refine (hT.out _ (Below.new_ (Below.refl _ _) _)).mono ?_); rintro e w1 ⟨A1, c1, rfl, hr1, hb1⟩))
        | (go_at_call 57; ((with_reducible refine (hT'.out _ (by repeat first | exact Below.refl _ _ | assumption | refine Pg.Below.then_ ?_ (by assumption) | refine Pg.Below.new_ ?_ _ | refine Pg.Below.drewN_ ?_ _)).mono ?_); rintro e w2 ⟨A2, c2, rfl, hr2, hb2⟩))
        | (go_at_call 33; refine (Of_any 1 _ (by omega)).mono ?_; rintro e w3 ⟨A3, c3, rfl, hr3, hb3⟩; have hBr := ((HB.out.below hb1).below hb2).below hb3; obtain ⟨k0, k1, k2, f0, f1, f2⟩ := hBr.cells))
      refine bodyPost_ret (by have q0 := fun u0 u1 u2 => (hBr.set u0 u1 u2).cells.1; have q1 := fun u0 u1 u2 => (hBr.set u0 u1 u2).cells.2.1; have q2 := fun u0 u1 u2 => (hBr.set u0 u1 u2).cells.2.2.1; simp [results, Try.results34, go_sem, q0, q1, q2]) rfl (RatRet.put hBr (Nat.le_refl _) (by repeat first | exact Below.refl _ _ | assumption | refine Pg.Below.then_ ?_ (by assumption) | refine Pg.Below.new_ ?_ _ | refine Pg.Below.drewN_ ?_ _) rfl rfl rfl (Row.nil _) hr3 rfl rfl)
    · have e0 : (limbs 0).length = 0 := rfl
      have l0 : (((limbs N).length : Int) == 0) = false := by have := (tl_top hn).1; exact beq_eq_false_iff_ne.2 (by omega)
      clear hn
      go_enter Try.func34, Try.ntmps34
      go_wp2_with (first
        | (go_at_call 57; ((with_reducible refine (hT.out _ (Below.new_ (Below.refl _ _) _)).mono ?_); rintro e w1 ⟨A1, c1, rfl, hr1, hb1⟩))
        | (go_at_call 57; ((with_reducible refine (hT'.out _ (by repeat first | exact Below.refl _ _ | assumption | refine Pg.Below.then_ ?_ (by assumption) | refine Pg.Below.new_ ?_ _ | refine Pg.Below.drewN_ ?_ _)).mono ?_); rintro e w2 ⟨A2, c2, rfl, hr2, hb2⟩))
        | (go_at_call 33; refine (Of_any 1 _ (by omega)).mono ?_; rintro e w3 ⟨A3, c3, rfl, hr3, hb3⟩; have hBr := ((HB.out.below hb1).below hb2).below hb3; obtain ⟨k0, k1, k2, f0, f1, f2⟩ := hBr.cells))
      refine bodyPost_ret (by have q0 := fun u0 u1 u2 => (hBr.set u0 u1 u2).cells.1; have q1 := fun u0 u1 u2 => (hBr.set u0 u1 u2).cells.2.1; have q2 := fun u0 u1 u2 => (hBr.set u0 u1 u2).cells.2.2.1; simp [results, Try.results34, go_sem, q0, q1, q2]) rfl (RatRet.put hBr (Nat.le_refl _) (by repeat first | exact Below.refl _ _ | assumption | refine Pg.Below.then_ ?_ (by assumption) | refine Pg.Below.new_ ?_ _ | refine Pg.Below.drewN_ ?_ _) rfl rfl rfl (Row.nil _) hr3 rfl rfl)
  · have hn : N ≠ 0 := by omega
    have hd : D ≠ 0 := by omega
    have l0 : (((limbs N).length : Int) == 0) = false := by have := (tl_top hn).1; exact beq_eq_false_iff_ne.2 (by omega)
    have l0' : (((limbs D).length : Int) == 0) = false := by have := (tl_top hd).1; exact beq_eq_false_iff_ne.2 (by omega)
    obtain ⟨q, hq⟩ : ∃ q, q = rv neg N D := ⟨_, rfl⟩
    have hq1 : neg = rneg q := by rw [hq, rv_neg hn hd]
    have hq2 : N / Nat.gcd N D = rnum q := by rw [hq, rv_num neg N hd]
    have hq3 : D / Nat.gcd N D = q.den := by rw [hq, rv_den neg N hd]
    have hgp : 0 < Nat.gcd N D := Nat.gcd_pos_of_pos_left _ (by omega)
    have hgl := Nat.le_trans (limbs_mono (Nat.gcd_le_left D (by omega : 0 < N))) l1
    rw [← hq]
    obtain ⟨G, hG⟩ : ∃ G, Nat.gcd N D = G := ⟨_, rfl⟩
    rw [hG] at hq2 hq3 hgp hgl
    have HQ := hid (And.intro hq1 (And.intro hq2 hq3))
    have HG := hid hG
    have E3 : Hid (dmb G = true) := hid (by simp [dmb]; omega)
    clear hq hq1 hq2 hq3 hG hz hn hd hgp
    go_enter Try.func34, Try.ntmps34
    go_wp2_with (first
      | (go_at_call 57; ((with_reducible refine (hT.out _ (Below.new_ (Below.refl _ _) _)).mono ?_); rintro e w1 ⟨A1, c1, rfl, hr1, hb1⟩))
      | (go_at_call 57; ((with_reducible refine (hT'.out _ (by repeat first | exact Below.refl _ _ | assumption | refine Pg.Below.then_ ?_ (by assumption) | refine Pg.Below.new_ ?_ _ | refine Pg.Below.drewN_ ?_ _)).mono ?_); rintro e w2 ⟨A2, c2, rfl, hr2, hb2⟩))
      | (go_at_call 58; ((with_reducible refine (Gcd_E A1 A2 _ c1 _ c2 _ _ _ N D G (hr1.below hb2) hr2 (val_limbs _) (val_limbs _) (by first | omega | assumption) (by first | omega | assumption) HG.out).mono ?_)); rintro e w3 ⟨A3, c3, rfl, hr3, hb3⟩)
      | (go_at_call 45; ((with_reducible refine (DivMod_E A1 A3 _ c1 _ c3 _ _ _ N G (rnum q) _ true ((hr1.below hb2).below hb3) hr3 (val_limbs _) (val_limbs _) (by first | omega | assumption) (by first | omega | assumption) HQ.out.2.1 rfl E3.out).mono ?_)); rintro e w4 ⟨A4, c4, A5, c5, rfl, hr4, hr5, hb4⟩)
      | (go_at_call 45; ((with_reducible refine (DivMod_E A2 A3 _ c2 _ c3 _ _ _ D G q.den _ true ((hr2.below hb3).below hb4) (hr3.below hb4) (val_limbs _) (val_limbs _) (by first | omega | assumption) (by first | omega | assumption) HQ.out.2.2 rfl E3.out).mono ?_)); rintro e w5 ⟨A6, c6, A7, c7, rfl, hr6, hr7, hb5⟩; have hBr := ((((HB.out.below hb1).below hb2).below hb3).below hb4).below hb5; obtain ⟨k0, k1, k2, f0, f1, f2⟩ := hBr.cells))
    refine bodyPost_ret (by have q0 := fun u0 u1 u2 => (hBr.set u0 u1 u2).cells.1; have q1 := fun u0 u1 u2 => (hBr.set u0 u1 u2).cells.2.1; have q2 := fun u0 u1 u2 => (hBr.set u0 u1 u2).cells.2.2.1; simp [results, Try.results34, go_sem, q0, q1, q2]) rfl (RatRet.put hBr (Nat.le_refl _) (by repeat first | exact Below.refl _ _ | assumption | refine Pg.Below.then_ ?_ (by assumption) | refine Pg.Below.new_ ?_ _ | refine Pg.Below.drewN_ ?_ _) HQ.out.1 rfl rfl (hr4.below hb5) hr6 rfl rfl)

theorem B3.new2 (w : World) (o : Obj) (t : TypeId) (v0 v1 v2 : Value) (g : Nat) (hg : g = w.heap.size + 1) : B3 ((w.alloc o).alloc (.cells #[v0, v1, v2] t)) g t v0 v1 v2 := by
  subst hg
  have := B3.new (w.alloc o) t v0 v1 v2
  rwa [show (w.alloc o).heap.size = w.heap.size + 1 by simp] at this

set_option maxHeartbeats 1000000 in
/-- rat.Norm. -/
theorem Rnorm_any (neg : Bool) (A A' : Option Addr) (n c n' c' : Nat) (xs ys : List Nat) (w : World) (h : Row w A n c xs) (h' : Row w A' n' c' ys) (hb : n ≤ 1048576) (hb' : n' ≤ 1048576) :
    Calls Try.prog 42 #[.agg #[.bool neg, .slice A n c, .slice A' n' c']] w (RatRet w (rv neg (val xs) (val ys))) := by
  have HB := hid (B3.new2 w (.cells #[.bool neg, .slice A n c, .slice A' n' c'] 28) 28 (.bool false) (.slice none 0 0) (.slice none 0 0) _ rfl)
  have hO := fun W (hW : Below w.heap.size w W) => Rof_any neg A A' n c n' c' xs ys W (h.below hW) (h'.below hW) hb hb'
  generalize rv neg (val xs) (val ys) = q at *
  have HO := hid hO
  clear hO
  go_enter Try.func42, Try.ntmps42
  go_wp2_with (go_at_call 34; refine (HO.out _ (by repeat first | exact Below.refl _ _ | assumption | refine Pg.Below.then_ ?_ (by assumption) | refine Pg.Below.new_ ?_ _ | refine Pg.Below.drewN_ ?_ _)).mono ?_; rintro e w1 ⟨A1, c1, A2, c2, rfl, hr1, hr2, hb1⟩; have hBr := HB.out.below hb1; obtain ⟨k0, k1, k2, f0, f1, f2⟩ := hBr.cells)
  refine bodyPost_ret (by have q0 := fun u0 u1 u2 => (hBr.set u0 u1 u2).cells.1; have q1 := fun u0 u1 u2 => (hBr.set u0 u1 u2).cells.2.1; have q2 := fun u0 u1 u2 => (hBr.set u0 u1 u2).cells.2.2.1; simp [results, Try.results42, go_sem, q0, q1, q2]) rfl (RatRet.put hBr (by omega) (by repeat first | exact Below.refl _ _ | assumption | refine Pg.Below.then_ ?_ (by assumption) | refine Pg.Below.new_ ?_ _ | refine Pg.Below.drewN_ ?_ _) rfl rfl rfl hr1 hr2 rfl rfl)
end Go.Proofs.Ytgehoflkbckgkaa
