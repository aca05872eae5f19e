/- How view reads a form and a document; wa · Sums of multiples and expressions in mem · How an expression that came in is read. Conditions: those that each theorem names. -/
import Derived.Test.YtahdlpkncemmaaaW3
import Derived.Test.YtahdlpkncemmaaaW21
import Derived.Test.YtahdlpkncemmaaaW28
import Derived.Shelf.Slices.Turned
import Derived.Test.YtahdlpkncemmaaaW0
import Derived.Test.YtahdlpkncemmaaaW17
set_option maxRecDepth 100000
set_option maxHeartbeats 8000000
set_option linter.unusedSimpArgs false
set_option linter.unusedVariables false
namespace Pg
open Go Go.RowKit
end Pg
namespace Go.Proofs.Ytahdlpkncemmaaa
open Go.RowKit Pg
structure Fld where
 name : List UInt8
 page : Int
 must : Bool
 scale : Int
def FldAt (w : World) (b o : Nat) (x : Fld) : Prop := CellsAt w b o [.string (str x.name), .int .i64 x.page, .bool x.must, .int .i64 x.scale] ∧ x.name.length ≤ 140737488355328
def NameAt (w : World) (b o : Nat) (x : List UInt8) : Prop := CellsAt w b o [.string (str x)] ∧ x.length ≤ 140737488355328
def IntAt (w : World) (b o : Nat) (x : Int) : Prop := CellsAt w b o [.int .i64 x]
def BoolAt (w : World) (b o : Nat) (x : Bool) : Prop := CellsAt w b o [.bool x]
def RatAt (k : Nat) (w : World) (b o : Nat) (q : Rat) : Prop := ∃ s A n c A' n' c' xs ys, CellsAt w b o [.bool s, .slice A n c, .slice A' n' c'] ∧ Row w A n c xs ∧ Row w A' n' c' ys ∧ n ≤ k ∧ n' ≤ k ∧ rv s (val xs) (val ys) = q
theorem fldAt_stays : Stays FldAt := fun _ _ _ _ _ hb h hw => ⟨h.1.below hb hw, h.2⟩
theorem nameAt_stays : Stays NameAt := fun _ _ _ _ _ hb h hw => ⟨h.1.below hb hw, h.2⟩
theorem intAt_stays : Stays IntAt := fun _ _ _ _ _ hb h hw => CellsAt.below h hb hw
theorem boolAt_stays : Stays BoolAt := fun _ _ _ _ _ hb h hw => CellsAt.below h hb hw
theorem ratAt_stays (k : Nat) : Stays (RatAt k) := fun _ _ _ _ _ hb ⟨s, A, n, c, A', n', c', xs, ys, h0, h1, h2, h3⟩ hw => ⟨s, A, n, c, A', n', c', xs, ys, h0.below hb hw, h1.below hw, h2.below hw, h3⟩
def B6n (w : World) (g : Nat) (t : TypeId) (v0 v1 v2 v3 v4 v5 : Value) : Prop := w.heap[g]? = some (.cells #[v0, v1, v2, v3, v4, v5] t (0, 0))
theorem B6n.newg (w : World) (t : TypeId) (v0 v1 v2 v3 v4 v5 : Value) (g : Nat) (hg : g = w.heap.size) : B6n (w.alloc (.cells #[v0, v1, v2, v3, v4, v5] t)) g t v0 v1 v2 v3 v4 v5 := by subst hg; exact heap_alloc_new w _
theorem B6n.lt {w : World} {g : Nat} {t : TypeId} {v0 v1 v2 v3 v4 v5 : Value} (h : B6n w g t v0 v1 v2 v3 v4 v5) : g < w.heap.size := by
 rcases Nat.lt_or_ge g w.heap.size with h1 | h1
 ·exact h1
 ·unfold B6n at h; rw [Array.getElem?_eq_none h1] at h; cases h
theorem B6n.below {w w' : World} {g : Nat} {t : TypeId} {v0 v1 v2 v3 v4 v5 : Value} (h : B6n w g t v0 v1 v2 v3 v4 v5) (hb : Below w.heap.size w w') : B6n w' g t v0 v1 v2 v3 v4 v5 := (hb.block g h.lt).trans h
theorem B6n.alloc {w : World} {g : Nat} {t : TypeId} {v0 v1 v2 v3 v4 v5 : Value} (h : B6n w g t v0 v1 v2 v3 v4 v5) (o : Obj) : B6n (w.alloc o) g t v0 v1 v2 v3 v4 v5 := (Below.heap_alloc w o g h.lt).trans h
theorem B6n.cells {w : World} {g : Nat} {t : TypeId} {v0 v1 v2 v3 v4 v5 : Value} (h : B6n w g t v0 v1 v2 v3 v4 v5) : w.cell? ⟨g, 0, none⟩ = some v0 ∧ w.cell? ⟨g, 1, none⟩ = some v1 ∧ w.cell? ⟨g, 2, none⟩ = some v2 ∧ w.cell? ⟨g, 3, none⟩ = some v3 ∧ w.cell? ⟨g, 4, none⟩ = some v4 ∧ w.cell? ⟨g, 5, none⟩ = some v5 := by
 refine ⟨?_, ?_, ?_, ?_, ?_, ?_⟩ <;> (rw [cell_of_row w g _ _ t (0, 0) h]; rfl)
structure VData where
 pages : List (List UInt8)
 flds : List Fld
 rules : List (List UInt8)
 vals : List Rat
 outs : List Int
 pins : List Bool
 filled : List Bool
structure VRead (w : World) (PA FA RA VA OA QA LA : Option Addr) (pn pc fn fc rn rc vn vc on oc qn qc ln lc k : Nat) (D : VData) : Prop where
 pages : SlAt 2 NameAt w PA pn pc D.pages
 flds : SlAt 4 FldAt w FA fn fc D.flds
 rules : SlAt 15 NameAt w RA rn rc D.rules
 vals : SlAt 3 (RatAt k) w VA vn vc D.vals
 outs : SlAt 1 IntAt w OA on oc D.outs
 pins : SlAt 5 BoolAt w QA qn qc D.pins
 filled : SlAt 1 BoolAt w LA ln lc D.filled
theorem VRead.below {w w' : World} {PA FA RA VA OA QA LA : Option Addr} {pn pc fn fc rn rc vn vc on oc qn qc ln lc k : Nat} {D : VData} (h : VRead w PA FA RA VA OA QA LA pn pc fn fc rn rc vn vc on oc qn qc ln lc k D) (hw : Below w.heap.size w w') : VRead w' PA FA RA VA OA QA LA pn pc fn fc rn rc vn vc on oc qn qc ln lc k D :=
 ⟨h.pages.below nameAt_stays hw, h.flds.below fldAt_stays hw, h.rules.below nameAt_stays hw, h.vals.below (ratAt_stays k) hw, h.outs.below intAt_stays hw, h.pins.below boolAt_stays hw, h.filled.below boolAt_stays hw⟩
end Go.Proofs.Ytahdlpkncemmaaa
namespace Pg
open Go Go.RowKit
open Go.Proofs.Ytahdlpkncemmaaa (str)
def RowsAt (w : World) (r : RW) (v0 v1 v2 : Value) : Prop := ∃ A n c A' n' c', v0 = .bool r.s ∧ v1 = .slice A n c ∧ v2 = .slice A' n' c' ∧ Row w A n c r.xs ∧ Row w A' n' c' r.ys ∧ n ≤ 140737488355328 ∧ n' ≤ 140737488355328
theorem RowsAt.below {w w' : World} {r : RW} {v0 v1 v2 : Value} (h : RowsAt w r v0 v1 v2) (hw : Below w.heap.size w w') : RowsAt w' r v0 v1 v2 := by
 obtain ⟨A, n, c, A', n', c', e0, e1, e2, h1, h2, h3⟩ := h
 exact ⟨A, n, c, A', n', c', e0, e1, e2, h1.below hw, h2.below hw, h3⟩
theorem RowsAt.alloc {w : World} {r : RW} {v0 v1 v2 : Value} (h : RowsAt w r v0 v1 v2) (o : Obj) : RowsAt (w.alloc o) r v0 v1 v2 := h.below (Below.new_ (Below.refl _ _) _)
def RawAt (w : World) (b o : Nat) (r : RW) : Prop := ∃ v0 v1 v2, CellsAt w b o [v0, v1, v2] ∧ RowsAt w r v0 v1 v2
def TermAt (w : World) (b o : Nat) (t : TW) : Prop := ∃ v0 v1 v2, CellsAt w b o [.int .i64 t.v, v0, v1, v2] ∧ RowsAt w t.r v0 v1 v2
theorem rawAt_stays : Stays RawAt := fun _ _ _ _ _ hb ⟨v0, v1, v2, h, hr⟩ hw => ⟨v0, v1, v2, h.below hb hw, hr.below hw⟩
theorem termAt_stays : Stays TermAt := fun _ _ _ _ _ hb ⟨v0, v1, v2, h, hr⟩ hw => ⟨v0, v1, v2, h.below hb hw, hr.below hw⟩
def ConVal (w : World) (v : Value) (c : CW) : Prop := ∃ T n m v0 v1 v2, v = .agg #[.int .i64 c.s, .slice T n m, v0, v1, v2] ∧ SlAt 4 TermAt w T n m c.t ∧ RowsAt w c.r v0 v1 v2
theorem ConVal.below {w w' : World} {v : Value} {c : CW} (h : ConVal w v c) (hw : Below w.heap.size w w') : ConVal w' v c := by
 obtain ⟨T, n, m, v0, v1, v2, e, h1, h2⟩ := h
 exact ⟨T, n, m, v0, v1, v2, e, h1.below termAt_stays hw, h2.below hw⟩
def RW.Le (r : RW) (k : Nat) : Prop := r.xs.length ≤ k ∧ r.ys.length ≤ k
def CW.Le (c : CW) (k : Nat) : Prop := (∀ t ∈ c.t, t.r.Le k) ∧ c.r.Le k
theorem RW.Le.mono {r : RW} {k l : Nat} (h : r.Le k) (hl : k ≤ l) : r.Le l := ⟨Nat.le_trans h.1 hl, Nat.le_trans h.2 hl⟩
theorem CW.Le.mono {c : CW} {k l : Nat} (h : c.Le k) (hl : k ≤ l) : c.Le l := ⟨fun t ht => (h.1 t ht).mono hl, h.2.mono hl⟩
def cw0 : CW := ⟨0, [], ⟨false, [], []⟩⟩
theorem cw0_val (w : World) : ConVal w (.agg #[.int .i64 0, .slice none 0 0, .bool false, .slice none 0 0, .slice none 0 0]) cw0 :=
 ⟨none, 0, 0, _, _, _, rfl, ⟨rfl, Nat.le_refl _, by omega, by omega, fun _ => rfl, fun h => absurd h (by omega)⟩, none, 0, 0, none, 0, 0, rfl, rfl, rfl, Row.nil w, Row.nil w, by omega, by omega⟩
def conOf : Except Nat CQ → CW | .ok c => cwOf c | .error _ => cw0
def errOf {α : Type} : Except Nat α → Nat | .ok _ => 0 | .error x => x
def XE.Val (w : World) : XE → Value → Prop
 | .num q, v => ∃ r v0 v1 v2 nm K kn kc, v = .agg #[.int .i64 1, v0, v1, v2, nm, .slice K kn kc] ∧ RowsAt w r v0 v1 v2 ∧ r.q = q ∧ r.Le 100
 | .name s, v => ∃ v0 v1 v2 K kn kc, v = .agg #[.int .i64 2, v0, v1, v2, .string (str s), .slice K kn kc] ∧ s.length ≤ 140737488355328
 | .neg a, v => ∃ v0 v1 v2 nm b o kn kc c0 c1 c2 c3 c4 c5, v = .agg #[.int .i64 7, v0, v1, v2, nm, .slice (some ⟨b, o, none⟩) kn kc] ∧ 1 ≤ kn ∧ kn ≤ 140737488355328 ∧ b < w.heap.size ∧ CellsAt w b o [c0, c1, c2, c3, c4, c5] ∧ XE.Val w a (.agg #[c0, c1, c2, c3, c4, c5])
 | .bin k a a', v => ∃ v0 v1 v2 nm b o kn kc c0 c1 c2 c3 c4 c5 d0 d1 d2 d3 d4 d5, 3 ≤ k ∧ k ≤ 6 ∧ v = .agg #[.int .i64 (k : Int), v0, v1, v2, nm, .slice (some ⟨b, o, none⟩) kn kc] ∧ 2 ≤ kn ∧ kn ≤ 140737488355328 ∧ b < w.heap.size ∧ CellsAt w b o [c0, c1, c2, c3, c4, c5] ∧ CellsAt w b (o + 6) [d0, d1, d2, d3, d4, d5] ∧ XE.Val w a (.agg #[c0, c1, c2, c3, c4, c5]) ∧ XE.Val w a' (.agg #[d0, d1, d2, d3, d4, d5])
theorem XE.Val.below {w w' : World} (hw : Below w.heap.size w w') : ∀ (e : XE) (v : Value), XE.Val w e v → XE.Val w' e v := by
 intro e
 induction e with
 | num q => intro v ⟨r, v0, v1, v2, nm, K, kn, kc, h1, h2, h3⟩; exact ⟨r, v0, v1, v2, nm, K, kn, kc, h1, h2.below hw, h3⟩
 | name s => intro v h; exact h
 | neg a ih =>
  intro v ⟨v0, v1, v2, nm, b, o, kn, kc, c0, c1, c2, c3, c4, c5, h1, h2, h3, h4, h5, h6⟩
  exact ⟨v0, v1, v2, nm, b, o, kn, kc, c0, c1, c2, c3, c4, c5, h1, h2, h3, Nat.lt_of_lt_of_le h4 hw.size, h5.below h4 hw, ih _ h6⟩
 | bin k a a' ih1 ih2 =>
  intro v ⟨v0, v1, v2, nm, b, o, kn, kc, c0, c1, c2, c3, c4, c5, d0, d1, d2, d3, d4, d5, hk1, hk2, h1, h2, h3, h4, h5, h6, h7, h8⟩
  exact ⟨v0, v1, v2, nm, b, o, kn, kc, c0, c1, c2, c3, c4, c5, d0, d1, d2, d3, d4, d5, hk1, hk2, h1, h2, h3, Nat.lt_of_lt_of_le h4 hw.size, h5.below h4 hw, h6.below h4 hw, ih1 _ h7, ih2 _ h8⟩
theorem XE.Val.six {w : World} {e : XE} {v : Value} (h : XE.Val w e v) : ∃ k v0 v1 v2 nm K kn kc, v = .agg #[.int .i64 k, v0, v1, v2, nm, .slice K kn kc] := by
 cases e with
 | num q => obtain ⟨r, v0, v1, v2, nm, K, kn, kc, h1, _⟩ := h; exact ⟨_, _, _, _, _, _, _, _, h1⟩
 | name s => obtain ⟨v0, v1, v2, K, kn, kc, h1, _⟩ := h; exact ⟨_, _, _, _, _, _, _, _, h1⟩
 | neg a => obtain ⟨v0, v1, v2, nm, b, o, kn, kc, c0, c1, c2, c3, c4, c5, h1, _⟩ := h; exact ⟨_, _, _, _, _, _, _, _, h1⟩
 | bin k a a' => obtain ⟨v0, v1, v2, nm, b, o, kn, kc, c0, c1, c2, c3, c4, c5, d0, d1, d2, d3, d4, d5, hk1, hk2, h1, _⟩ := h; exact ⟨_, _, _, _, _, _, _, _, h1⟩
theorem rv_inv {q : Rat} : rv (rneg q) q.den (rnum q) = q⁻¹ := by
 rw [Rat.inv_def]
 unfold rv
 have e : q.num = sg (rneg q) (rnum q) := (sg_num q).symm
 rw [e]
 unfold sg
 cases rneg q with
 | false =>
  simp only [Bool.false_eq_true, if_false]
  exact (Rat.divInt_ofNat _ _).symm
 | true =>
  simp only [if_true]
  rw [← Rat.divInt_ofNat, Rat.divInt_neg']
theorem one_div_inv (q : Rat) : 1 / q = q⁻¹ := by rw [Rat.div_def, Rat.one_mul]
end Pg
namespace Go.Proofs.Ytahdlpkncemmaaa
open Go.RowKit Pg
theorem limbs_mul_len2 {a b k l : Nat} (h1 : (limbs a).length ≤ k) (h2 : (limbs b).length ≤ l) : (limbs (a * b)).length ≤ k + l := length_limbs_le (by
  rw [Nat.pow_add]
  exact Nat.mul_lt_mul'' (Nat.lt_of_lt_of_le (lt_pow_length a) (Nat.pow_le_pow_right (by omega) h1)) (Nat.lt_of_lt_of_le (lt_pow_length b) (Nat.pow_le_pow_right (by omega) h2)))
theorem Short.add {p q : Rat} {k l : Nat} (hp : Short p k) (hq : Short q l) : Short (p + q) (k + l + 1) := by
 have hD : p.den * q.den ≠ 0 := Nat.mul_ne_zero p.den_nz q.den_nz
 have h1 := limbs_mul_len2 hp.1 hq.2
 have h2 := limbs_mul_len2 hq.1 hp.2
 have h3 := limbs_mul_len2 hp.2 hq.2
 rw [Nat.add_comm l k] at h2
 by_cases hs : rneg p = rneg q
 ·rw [← rv_add_same hs]
  exact Short.rv hD (limbs_add_len h1 h2) (by omega)
 ·rcases Nat.lt_or_ge (rnum p * q.den) (rnum q * p.den) with h | h
  ·rw [← rv_add_lt hs h]
   exact Short.rv hD (Nat.le_trans (limbs_mono (Nat.sub_le _ _)) (by omega)) (by omega)
  ·rw [← rv_add_ge hs h]
   exact Short.rv hD (Nat.le_trans (limbs_mono (Nat.sub_le _ _)) (by omega)) (by omega)
theorem Short.one {q : Rat} {k : Nat} (h : Short q k) : 1 ≤ k := by
 have h1 := h.2
 rcases Nat.eq_zero_or_pos k with rfl | h0
 ·have := (tl_top (N := q.den) q.den_nz).1
  omega
 ·exact h0
theorem Short.inv {q : Rat} {k : Nat} (h : Short q k) : Short (q⁻¹) k := by
 by_cases hq : q = 0
 ·subst hq; rw [Rat.inv_zero]; exact h
 ·rw [← rv_inv]
  exact Short.rv (by rw [Ne, rnum_zero_iff]; exact hq) h.2 h.1
theorem Short.val {r : RW} {k : Nat} (h : r.Le k) (hx : Ok r.xs) (hy : Ok r.ys) (hk : 1 ≤ k) : Short r.q k := by
 have l1 : (limbs (Pg.val r.xs)).length ≤ k := by have := tl_le hx; unfold tl at this; have := h.1; omega
 have l2 : (limbs (Pg.val r.ys)).length ≤ k := by have := tl_le hy; unfold tl at this; have := h.2; omega
 by_cases hD : Pg.val r.ys = 0
 ·unfold RW.q
  rw [rv_zero (.inr hD)]
  exact ⟨by rw [rnum_zero, limbs_zero]; simp, by rw [rden_zero, limbs_one]; simpa using hk⟩
 ·exact Short.rv hD l1 l2
def ShortC (c : CQ) (k : Nat) : Prop := (∀ t ∈ c.t, Short t.c k) ∧ Short c.k k
theorem ShortC.mono {c : CQ} {k l : Nat} (h : ShortC c k) (hl : k ≤ l) : ShortC c l := ⟨fun t ht => (h.1 t ht).mono hl, h.2.mono hl⟩
theorem ShortC.le {c : CQ} {k : Nat} (h : ShortC c k) : (cwOf c).Le k := by
 refine ⟨fun t ht => ?_, h.2⟩
 obtain ⟨x, hx, rfl⟩ := List.mem_map.1 ht
 exact h.1 x hx
theorem mem_keep {t x : TQ} {l : List TQ} (h : x ∈ keepT t l) : x = t ∨ x ∈ l := by
 unfold keepT at h
 split at h
 ·exact .inr h
 ·exact List.mem_cons.1 h
theorem mem_foldr_keep {x : TQ} : ∀ {l : List TQ}, x ∈ l.foldr keepT [] → x ∈ l := by
 intro l
 induction l with
 | nil => intro h; exact h
 | cons t l ih =>
  intro h
  rw [List.foldr_cons] at h
  rcases mem_keep h with rfl | h
  ·exact List.mem_cons_self
  ·exact List.mem_cons_of_mem _ (ih h)
theorem shortT_add {k l : Nat} : ∀ a b : List TQ, (∀ t ∈ a, Short t.c k) → (∀ t ∈ b, Short t.c l) → ∀ t ∈ addT a b, Short t.c (k + l + 1) := by
 intro a b
 induction a, b using addT.induct with
 | case1 m => intro _ h t ht; rw [addT] at ht; exact (h t (mem_foldr_keep ht)).mono (by omega)
 | case2 a m => intro h _ t ht; rw [addT] at ht; exact (h t (mem_foldr_keep ht)).mono (by omega)
 | case3 a la b m hv ih =>
  intro h1 h2 t ht
  rw [addT, if_pos hv] at ht
  rcases mem_keep ht with rfl | ht
  ·exact (h1 _ List.mem_cons_self).mono (by omega)
  ·exact ih (fun x hx => h1 x (List.mem_cons_of_mem _ hx)) h2 t ht
 | case4 a la b m hv hv' ih =>
  intro h1 h2 t ht
  rw [addT, if_neg hv, if_pos hv'] at ht
  rcases mem_keep ht with rfl | ht
  ·exact (h2 _ List.mem_cons_self).mono (by omega)
  ·exact ih h1 (fun x hx => h2 x (List.mem_cons_of_mem _ hx)) t ht
 | case5 a la b m hv hv' ih =>
  intro h1 h2 t ht
  rw [addT, if_neg hv, if_neg hv'] at ht
  rcases mem_keep ht with rfl | ht
  ·exact (h1 _ List.mem_cons_self).add (h2 _ List.mem_cons_self)
  ·exact ih (fun x hx => h1 x (List.mem_cons_of_mem _ hx)) (fun x hx => h2 x (List.mem_cons_of_mem _ hx)) t ht
theorem ShortC.add {a b : CQ} {k l : Nat} (ha : ShortC a k) (hb : ShortC b l) : ShortC (addC a b) (k + l + 1) := ⟨shortT_add _ _ ha.1 hb.1, ha.2.add hb.2⟩
theorem ShortC.scale {a : CQ} {q : Rat} {k l : Nat} (ha : ShortC a k) (hq : Short q l) : ShortC (scaleC a q) (k + l) := by
 refine ⟨?_, ha.2.mul hq⟩
 have h := ha.1
 show ∀ t ∈ scaleT a.t q, _
 generalize a.t = L at h
 clear ha
 induction L with
 | nil => intro t ht; simp [scaleT] at ht
 | cons x l ih =>
  intro t ht
  unfold scaleT at ih ht
  rw [List.foldr_cons] at ht
  rcases mem_keep ht with rfl | ht
  ·exact (h x List.mem_cons_self).mul hq
  ·exact ih (fun y hy => h y (List.mem_cons_of_mem _ hy)) t ht
theorem Short.negone {p : Rat} {k : Nat} (h : Short p k) : Short (p * -1) k := by rw [Rat.mul_neg, Rat.mul_one]; exact h.neg
theorem ShortC.negone {a : CQ} {k : Nat} (ha : ShortC a k) : ShortC (scaleC a (-1)) k := by
 refine ⟨?_, ha.2.negone⟩
 have h := ha.1
 show ∀ t ∈ scaleT a.t (-1), _
 generalize a.t = L at h
 clear ha
 induction L with
 | nil => intro t ht; simp [scaleT] at ht
 | cons x l ih =>
  intro t ht
  unfold scaleT at ih ht
  rw [List.foldr_cons] at ht
  rcases mem_keep ht with rfl | ht
  ·exact (h x List.mem_cons_self).negone
  ·exact ih (fun y hy => h y (List.mem_cons_of_mem _ hy)) t ht
def SzX : XE → Nat → Prop
 | .num q, k => Short q k
 | .name _, k => 3 ≤ k
 | .neg a, k => SzX a k
 | .bin _ a b, k => ∃ i j, SzX a i ∧ SzX b j ∧ i + j + 1 ≤ k
theorem SzX.mono : ∀ {e : XE} {k l : Nat}, SzX e k → k ≤ l → SzX e l := by
 intro e
 induction e with
 | num q => intro k l h hl; exact Short.mono h hl
 | name s => intro k l h hl; exact Nat.le_trans h hl
 | neg a ih => intro k l h hl; exact ih h hl
 | bin n a b _ _ => intro k l h hl; obtain ⟨i, j, h1, h2, h3⟩ := h; exact ⟨i, j, h1, h2, by omega⟩
theorem short_zero : Short 0 1 := ⟨by rw [rnum_zero, limbs_zero]; simp, by rw [rden_zero, limbs_one]; simp⟩
theorem short_one : Short 1 1 := ⟨by rw [show rnum 1 = 1 from rfl, limbs_one]; simp, by rw [show (1 : Rat).den = 1 from rfl, limbs_one]; simp⟩
theorem getD_short {l : List Rat} {k : Nat} (h : ∀ q ∈ l, Short q k) (hk : 1 ≤ k) (i : Nat) : Short (l.getD i 0) k := by
 rw [List.getD]
 cases hi : l[i]? with
 | none => exact short_zero.mono hk
 | some q => exact h q (List.mem_of_getElem? hi)
theorem binC_short {n : Nat} {a b c : CQ} {i j : Nat} (h : binC n a b = .ok c) (ha : ShortC a i) (hb : ShortC b j) : ShortC c (i + j + 1) := by
 unfold binC at h
 repeat' split at h
 all_goals first
  | (simp at h; done)
  | (simp only [Except.ok.injEq] at h; subst h; first
    | exact ha.add hb
    | exact ha.add hb.negone
    | exact (ha.scale hb.2).mono (by omega)
    | exact (hb.scale ha.2).mono (by omega)
    | exact (ha.scale (by rw [one_div_inv]; exact hb.2.inv)).mono (by omega))
theorem sumX_short (v : EnvQ) (hv : ∀ q ∈ v.vals, Short q 3) : ∀ (e : XE) (k : Nat) (c : CQ), SzX e k → sumX v e = .ok c → ShortC c k := by
 intro e
 induction e with
 | num q => intro k c hk h; simp only [sumX, Except.ok.injEq] at h; subst h; exact ⟨fun t ht => by simp at ht, hk⟩
 | name s =>
  intro k c hk h
  have hk : 3 ≤ k := hk
  simp only [sumX, nameC] at h
  split at h
  ·simp only [Except.ok.injEq] at h
   subst h
   refine ⟨fun t ht => ?_, short_zero.mono (by omega)⟩
   simp at ht
   subst ht
   exact short_one.mono (by omega)
  ·split at h
   ·simp only [Except.ok.injEq] at h
    subst h
    exact ⟨fun t ht => by simp at ht, (getD_short hv (by omega) _).mono hk⟩
   ·simp at h
 | neg a ih =>
  intro k c hk h
  simp only [sumX] at h
  cases hs : sumX v a with
  | error x => rw [hs] at h; simp at h
  | ok c0 => rw [hs] at h; simp only [Except.ok.injEq] at h; subst h; exact (ih k c0 hk hs).negone
 | bin n a b ih1 ih2 =>
  intro k c ⟨i, j, hi, hj, hk⟩ h
  simp only [sumX] at h
  cases hs : sumX v a with
  | error x => rw [hs] at h; simp at h
  | ok c0 =>
   cases hs2 : sumX v b with
   | error x => rw [hs, hs2] at h; simp at h
   | ok c1 =>
    rw [hs, hs2] at h
    exact (binC_short h (ih1 i c0 hi hs) (ih2 j c1 hj hs2)).mono hk
end Go.Proofs.Ytahdlpkncemmaaa
namespace Pg
open Go Go.RowKit
def RHdr.Reads (w : World) (h : RHdr) (q : Rat) : Prop := ∃ xs ys, Row w h.A h.n h.c xs ∧ Row w h.A' h.n' h.c' ys ∧ h.n ≤ 140737488355328 ∧ h.n' ≤ 140737488355328 ∧ rv h.s (val xs) (val ys) = q
theorem RHdr.Reads.below {w w' : World} {h : RHdr} {q : Rat} (hr : RHdr.Reads w h q) (hw : Below w.heap.size w w') : RHdr.Reads w' h q := by
 obtain ⟨xs, ys, r1, r2, r3⟩ := hr
 exact ⟨xs, ys, r1.below hw, r2.below hw, r3⟩
end Pg
namespace Go.Proofs.Ytahdlpkncemmaaa
open Go.RowKit Pg
inductive ET where
 | mk (kind : Int) (h : RHdr) (q : Rat) (name : List UInt8) (K : Option Addr) (kn kc : Nat) (kids : List ET)
mutual
def ET.At (w : World) : ET → Nat → Nat → Prop
 | .mk kind h q name K kn kc kids, b, o => CellsAt w b o [.int .i64 kind, .bool h.s, .slice h.A h.n h.c, .slice h.A' h.n' h.c', .string (str name), .slice K kn kc] ∧ RHdr.Reads w h q ∧ name.length ≤ 140737488355328 ∧ kids.length = kn ∧ kn ≤ kc ∧ kn ≤ 140737488355328 ∧ kc ≤ 9223372036854775807 ∧ (0 < kn → ∃ b' o', K = some ⟨b', o', none⟩ ∧ b' < w.heap.size ∧ KidsAt w kids b' o')
def KidsAt (w : World) : List ET → Nat → Nat → Prop
 | [], _, _ => True
 | e :: l, b, o => ET.At w e b o ∧ KidsAt w l b (o + 6)
end
mutual
theorem ET.At.below {w w' : World} (hw : Below w.heap.size w w') : ∀ (e : ET) (b o : Nat), b < w.heap.size → ET.At w e b o → ET.At w' e b o
 | .mk kind h q name K kn kc kids, b, o, hb, hA => by
  unfold ET.At at hA ⊢
  obtain ⟨h1, h2, h3, h4, h5, h6, h7, h8⟩ := hA
  refine ⟨h1.below hb hw, h2.below hw, h3, h4, h5, h6, h7, fun hn => ?_⟩
  obtain ⟨b', o', e, hb', hk⟩ := h8 hn
  exact ⟨b', o', e, Nat.lt_of_lt_of_le hb' hw.size, KidsAt.below hw kids b' o' hb' hk⟩
theorem KidsAt.below {w w' : World} (hw : Below w.heap.size w w') : ∀ (l : List ET) (b o : Nat), b < w.heap.size → KidsAt w l b o → KidsAt w' l b o
 | [], _, _, _, _ => by unfold KidsAt; trivial
 | e :: l, b, o, hb, hA => by
  unfold KidsAt at hA ⊢
  exact ⟨ET.At.below hw e b o hb hA.1, KidsAt.below hw l b (o + 6) hb hA.2⟩
end
theorem KidsAt.get {w : World} : ∀ {l : List ET} {b o : Nat}, KidsAt w l b o → ∀ j x, l[j]? = some x → ET.At w x b (o + j * 6)
 | [], _, _, _, j, x, hj => by simp at hj
 | e :: l, b, o, h, j, x, hj => by
  unfold KidsAt at h
  match j with
  | 0 =>
   simp only [List.getElem?_cons_zero, Option.some.injEq] at hj
   subst hj
   simpa using h.1
  | j + 1 =>
   rw [List.getElem?_cons_succ] at hj
   have := KidsAt.get h.2 j x hj
   rwa [show o + 6 + j * 6 = o + (j + 1) * 6 by omega] at this
theorem KidsAt.of_get {w : World} : ∀ {l : List ET} {b o : Nat}, (∀ j x, l[j]? = some x → ET.At w x b (o + j * 6)) → KidsAt w l b o
 | [], _, _, _ => by unfold KidsAt; trivial
 | e :: l, b, o, h => by
  unfold KidsAt
  refine ⟨by simpa using h 0 e rfl, KidsAt.of_get fun j x hj => ?_⟩
  have := h (j + 1) x (by rw [List.getElem?_cons_succ]; exact hj)
  rwa [show o + 6 + j * 6 = o + (j + 1) * 6 by omega]
end Go.Proofs.Ytahdlpkncemmaaa
namespace Go.Proofs.Ytahdlpkncemmaaa
open Go.RowKit Pg
section
variable {H : Type} {enc : TypeId × Value → H} {base : Nat} {spare : Nat → Bool} {held : Bool} {w : World}
theorem row_of_trod {m : Nat} {c : Value} {y : DataW H × List MemPlace} (hy : DataW.trod enc Try.prog w base spare held m 23 [c] = some y) (hzy : ∀ x ∈ y.1.weights Try.prog 23, x ≤ reachBytes) : ∃ A n k xs, c = .slice A n k ∧ Row w A n k xs ∧ n ≤ 140737488355328 := by
 rcases Go.ChangeShapes.open_ints Try.underlying23 Try.underlying44 (by kernel_rfl) hy with ⟨hcs, _⟩ | ⟨x, l, k, zs, hcs, _, hl, hm, hz, hx, hcell, hwz⟩
 ·simp at hcs
  subst hcs
  exact ⟨_, _, _, _, rfl, Row.nil w, by omega⟩
 ·simp at hcs
  subst hcs
  subst hx
  have hb := hzy ((zs.length) * 4) (by
   unfold DataW.weights
   rw [Try.underlying23]
   refine List.mem_cons.2 (.inl ?_)
   have e4 : Try.prog.bytesOf 44 = 4 := by kernel_rfl
   rw [e4]
   simp [Go.ChangeShapes.lits]; omega)
  have hlz : l ≤ zs.length := by rw [hz]; split <;> omega
  have hrb := reachBytes_lt
  obtain ⟨xs, hr⟩ := Row.of_read0 (x := x) (len := l) (cap := k) (zs := zs) hl hm hlz hcell hwz
  exact ⟨_, _, _, _, rfl, hr, by omega⟩
theorem hdr_of_trod {m : Nat} {c0 c1 c2 : Value} {y : DataW H × List MemPlace} (hy : DataW.trod enc Try.prog w base spare held m 25 [c0, c1, c2] = some y) (hzy : ∀ x ∈ y.1.weights Try.prog 25, x ≤ reachBytes) :
  ∃ (h : RHdr) (q : Rat), c0 = .bool h.s ∧ c1 = .slice h.A h.n h.c ∧ c2 = .slice h.A' h.n' h.c' ∧ RHdr.Reads w h q := by
 obtain ⟨xs, n, _, rfl, _, hxl, hg⟩ := DataW.trod_struct Try.underlying25 hy
 match xs, hxl with
 | [x0, x1, x2], _ =>
  have g0 := hg 0 _ rfl
  have g1 := hg 1 _ rfl
  have g2 := hg 2 _ rfl
  have e1 : Try.prog.cellsOf 4 = 1 := by kernel_rfl
  have e2 : Try.prog.cellsOf 23 = 1 := by kernel_rfl
  simp [e1] at g0
  simp [e2] at g1 g2
  have hz1 : ∀ (j : Nat) t (d : DataW H), [4, 23, 23][j]? = some t → [x0.1, x1.1, x2.1][j]? = some d → ∀ x ∈ d.weights Try.prog t, x ≤ reachBytes := by
   intro j t d ht hd x hx
   refine hzy x ?_
   unfold DataW.weights
   rw [Try.underlying25]
   exact DataW.weights_mem_each ht hd x hx
  obtain ⟨s, e0, _⟩ := DataW.trod_bool Try.underlying4 g0
  obtain ⟨A, a, c, us, rfl, r1, l1⟩ := row_of_trod g1 (hz1 1 _ _ rfl rfl)
  obtain ⟨A', a', c', vs, rfl, r2, l2⟩ := row_of_trod g2 (hz1 2 _ _ rfl rfl)
  simp at e0
  exact ⟨⟨s, A, a, c, A', a', c'⟩, _, e0, rfl, rfl, us, vs, r1, r2, l1, l2, rfl⟩
theorem ET.of_trod : ∀ (fuel b o : Nat) (ds : List Value) (y : DataW H × List MemPlace), ds.length = 6 → CellsAt w b o ds → DataW.trod enc Try.prog w base spare held fuel 48 ds = some y → (∀ k ∈ y.1.weights Try.prog 48, k ≤ reachBytes) → ∃ e, ET.At w e b o := by
 intro fuel
 induction fuel using Nat.strongRecOn with
 | ind fuel ih =>
  intro b o ds y hlen hca hy hzy
  obtain ⟨xs, n, hfu, rfl, _, hxl, hg⟩ := DataW.trod_struct Try.underlying48 hy
  match ds, hlen with
  | [c0, c1, c2, c3, c4, c5], _ =>
  match xs, hxl with
  | [x0, x1, x2, x3], _ =>
   have g0 := hg 0 _ rfl
   have g1 := hg 1 _ rfl
   have g2 := hg 2 _ rfl
   have g3 := hg 3 _ rfl
   have e0 : Try.prog.cellsOf 3 = 1 := by kernel_rfl
   have e1 : Try.prog.cellsOf 25 = 3 := by kernel_rfl
   have e2 : Try.prog.cellsOf 9 = 1 := by kernel_rfl
   have e3 : Try.prog.cellsOf 46 = 1 := by kernel_rfl
   have e6 : Try.prog.cellsOf 48 = 6 := by kernel_rfl
   simp [e0] at g0
   simp [e1] at g1
   simp [e2] at g2
   simp [e3] at g3
   have hz1 : ∀ (j : Nat) t (d : DataW H), [3, 25, 9, 46][j]? = some t → [x0.1, x1.1, x2.1, x3.1][j]? = some d → ∀ x ∈ d.weights Try.prog t, x ≤ reachBytes := by
    intro j t d ht hd x hx
    refine hzy x ?_
    unfold DataW.weights
    rw [Try.underlying48]
    exact DataW.weights_mem_each ht hd x hx
   obtain ⟨kd, k0, _⟩ := DataW.trod_int Try.underlying3 g0
   obtain ⟨h, q, rfl, rfl, rfl, hr⟩ := hdr_of_trod g1 (hz1 1 _ _ rfl rfl)
   obtain ⟨s, k2, hx2, _⟩ := DataW.trod_string Try.underlying9 g2
   have hsz := hz1 2 _ _ rfl rfl
   rw [hx2] at hsz
   have hs2 := hsz s.data.toList.length (by simp [DataW.weights])
   have hb4 : Try.prog.bytesOf 48 = 104 := by kernel_rfl
   have hby : 0 < Try.prog.bytesOf 48 := by rw [hb4]; decide
   obtain ⟨K, kn, kc, l, k3, hsl⟩ := SlAt.of_trod (E := fun w b o e => ET.At w e b o) Try.underlying46 e6 (by omega) hby g3 (hz1 3 _ _ rfl rfl) (fun m hm b' o' ds' y' _ hl' hc' ht' hz' => ih m (by omega) b' o' ds' y' hl' hc' ht' hz')
   simp at k0 k2 k3
   subst k0 k2 k3
   obtain ⟨l1, l2, l3, l4, _, l6⟩ := hsl
   have hrb := reachBytes_lt
   refine ⟨.mk kd h q s.data.toList K kn kc l, ?_⟩
   unfold ET.At
   refine ⟨hca, hr, by omega, l1, l2, l3, l4, fun hn => ?_⟩
   obtain ⟨b', o', hK, hb', hk⟩ := l6 hn
   exact ⟨b', o', hK, hb', KidsAt.of_get hk⟩
end
end Go.Proofs.Ytahdlpkncemmaaa
namespace Pg
open Go Go.RowKit
open Go.Proofs.Ytahdlpkncemmaaa (str)
inductive PT where
 | mk (kind : Int) (r : RW) (name : List UInt8) (kids : List PT)
def RW.norm (r : RW) : Bool := r.s == rneg r.q && r.xs == limbs (rnum r.q) && r.ys == limbs r.q.den
def exactQ (q : Rat) : Bool := (List.range 61).any fun k => rnum q * 10 ^ k % q.den == 0
def largeQ (q : Rat) : Bool := decide (16 < (limbs (rnum q)).length) || decide (16 < (limbs q.den).length)
def isNumR (r : RW) : Bool := r.norm && !r.s && !largeQ r.q && exactQ r.q
def isNoneR (r : RW) : Bool := !r.s && r.xs.isEmpty && (r.ys.isEmpty || r.norm)
def letterB (c : UInt8) : Bool := decide (97 ≤ c.toNat) && decide (c.toNat ≤ 122)
def digitB (c : UInt8) : Bool := decide (48 ≤ c.toNat) && decide (c.toNat ≤ 57)
def innerB (c : UInt8) : Bool := letterB c || digitB c || c.toNat == 95
def isNameB : List UInt8 → Bool
 | [] => false
 | c :: l => decide (l.length < 24) && letterB c && l.all innerB
def kidsOf (k : Int) : Int := if k = 1 ∨ k = 2 then 0 else if k = 7 then 1 else if k = 3 ∨ k = 4 ∨ k = 5 ∨ k = 6 then 2 else -1
def nodeOk (k : Int) (r : RW) (name : List UInt8) (n : Nat) : Bool :=
 decide ((n : Int) = kidsOf k) && (if k = 1 then isNumR r && name.isEmpty else if k = 2 then isNoneR r && isNameB name else isNoneR r && name.isEmpty)
mutual
def PT.ok (deep : Nat) : PT → Bool
 | .mk k r name kids => decide (deep < 32) && nodeOk k r name kids.length && PT.oks (deep + 1) kids
def PT.oks (deep : Nat) : List PT → Bool
 | [] => true
 | e :: l => PT.ok deep e && PT.oks deep l
end
mutual
def PT.nodes : PT → Nat
 | .mk _ _ _ kids => 1 + PT.nodess kids
def PT.nodess : List PT → Nat
 | [] => 0
 | e :: l => PT.nodes e + PT.nodess l
end
mutual
def PT.wt : PT → Nat
 | .mk _ r name kids => 3 + name.length + 8 * r.xs.length + 8 * r.ys.length + PT.wts kids
def PT.wts : List PT → Nat
 | [] => 0
 | e :: l => PT.wt e + PT.wts l
end
def PT.is (t : PT) : Bool := PT.ok 0 t && decide (t.nodes ≤ 256)
mutual
def PT.At (w : World) : PT → Nat → Nat → Prop
 | .mk k r name kids, b, o => ∃ v0 v1 v2 K kc, CellsAt w b o [.int .i64 k, v0, v1, v2, .string (str name), .slice K kids.length kc] ∧ RowsAt w r v0 v1 v2 ∧ name.length ≤ 140737488355328 ∧ kids.length ≤ kc ∧ kids.length ≤ 140737488355328 ∧ (0 < kids.length → ∃ b' o', K = some ⟨b', o', none⟩ ∧ b' < w.heap.size ∧ PT.Ats w kids b' o')
def PT.Ats (w : World) : List PT → Nat → Nat → Prop
 | [], _, _ => True
 | e :: l, b, o => PT.At w e b o ∧ PT.Ats w l b (o + 6)
end
def PT.Val (w : World) (v : Value) : PT → Prop
 | .mk k r name kids => ∃ v0 v1 v2 K kc, v = .agg #[.int .i64 k, v0, v1, v2, .string (str name), .slice K kids.length kc] ∧ RowsAt w r v0 v1 v2 ∧ name.length ≤ 140737488355328 ∧ kids.length ≤ kc ∧ kids.length ≤ 140737488355328 ∧ (0 < kids.length → ∃ b' o', K = some ⟨b', o', none⟩ ∧ b' < w.heap.size ∧ PT.Ats w kids b' o')
theorem PT.At.val {w : World} {t : PT} {b o : Nat} (h : PT.At w t b o) : ∃ c0 c1 c2 c3 c4 c5, CellsAt w b o [c0, c1, c2, c3, c4, c5] ∧ PT.Val w (.agg #[c0, c1, c2, c3, c4, c5]) t := by
 cases t with
 | mk k r name kids =>
  unfold PT.At at h
  obtain ⟨v0, v1, v2, K, kc, h1, h2⟩ := h
  exact ⟨_, _, _, _, _, _, h1, v0, v1, v2, K, kc, rfl, h2⟩
mutual
theorem PT.At.below {w w' : World} (hw : Below w.heap.size w w') : ∀ (t : PT) (b o : Nat), b < w.heap.size → PT.At w t b o → PT.At w' t b o
 | .mk k r name kids, b, o, hb, h => by
  unfold PT.At at h ⊢
  obtain ⟨v0, v1, v2, K, kc, h1, h2, h3, h4, h5, h6⟩ := h
  refine ⟨v0, v1, v2, K, kc, h1.below hb hw, h2.below hw, h3, h4, h5, fun hn => ?_⟩
  obtain ⟨b', o', e, hb', hk⟩ := h6 hn
  exact ⟨b', o', e, Nat.lt_of_lt_of_le hb' hw.size, PT.Ats.below hw kids b' o' hb' hk⟩
theorem PT.Ats.below {w w' : World} (hw : Below w.heap.size w w') : ∀ (l : List PT) (b o : Nat), b < w.heap.size → PT.Ats w l b o → PT.Ats w' l b o
 | [], _, _, _, _ => by unfold PT.Ats; trivial
 | e :: l, b, o, hb, h => by
  unfold PT.Ats at h ⊢
  exact ⟨PT.At.below hw e b o hb h.1, PT.Ats.below hw l b (o + 6) hb h.2⟩
end
theorem PT.Val.below {w w' : World} {v : Value} {t : PT} (h : PT.Val w v t) (hw : Below w.heap.size w w') : PT.Val w' v t := by
 cases t with
 | mk k r name kids =>
  obtain ⟨v0, v1, v2, K, kc, h1, h2, h3, h4, h5, h6⟩ := h
  refine ⟨v0, v1, v2, K, kc, h1, h2.below hw, h3, h4, h5, fun hn => ?_⟩
  obtain ⟨b', o', e, hb', hk⟩ := h6 hn
  exact ⟨b', o', e, Nat.lt_of_lt_of_le hb' hw.size, PT.Ats.below hw kids b' o' hb' hk⟩
theorem PT.Ats.get {w : World} : ∀ {l : List PT} {b o : Nat}, PT.Ats w l b o → ∀ j x, l[j]? = some x → PT.At w x b (o + j * 6)
 | [], _, _, _, j, x, hj => by simp at hj
 | e :: l, b, o, h, j, x, hj => by
  unfold PT.Ats at h
  match j with
  | 0 =>
   simp only [List.getElem?_cons_zero, Option.some.injEq] at hj
   subst hj
   simpa using h.1
  | j + 1 =>
   rw [List.getElem?_cons_succ] at hj
   have := PT.Ats.get h.2 j x hj
   rwa [show o + 6 + j * 6 = o + (j + 1) * 6 by omega] at this
theorem PT.wts_mem {l : List PT} {t : PT} (h : t ∈ l) : t.wt ≤ PT.wts l := by
 induction l with
 | nil => simp at h
 | cons a l ih =>
  unfold PT.wts
  rcases List.mem_cons.1 h with rfl | h
  ·omega
  ·have := ih h; omega
inductive PT.As : PT → XE → Prop
 | num (r : RW) (name : List UInt8) (kids : List PT) : PT.As (.mk 1 r name kids) (.num r.q)
 | name (r : RW) (s : List UInt8) (kids : List PT) : PT.As (.mk 2 r s kids) (.name s)
 | neg (r : RW) (s : List UInt8) (a : PT) (x : XE) : PT.As a x → PT.As (.mk 7 r s [a]) (.neg x)
 | bin (k : Nat) (r : RW) (s : List UInt8) (a b : PT) (x y : XE) : 3 ≤ k → k ≤ 6 → PT.As a x → PT.As b y → PT.As (.mk (k : Int) r s [a, b]) (.bin k x y)
theorem PT.As.val {w : World} {t : PT} {x : XE} (h : PT.As t x) : ∀ v, PT.Val w v t → t.wt ≤ 800 → XE.Val w x v := by
 induction h with
 | num r name kids =>
  intro v ⟨v0, v1, v2, K, kc, h1, h2, h3, _⟩ hwt
  unfold PT.wt at hwt
  exact ⟨r, v0, v1, v2, _, K, _, kc, h1, h2, rfl, by omega, by omega⟩
 | name r s kids =>
  intro v ⟨v0, v1, v2, K, kc, h1, h2, h3, _⟩ _
  exact ⟨v0, v1, v2, K, _, kc, h1, h3⟩
 | neg r s a x ha ih =>
  intro v ⟨v0, v1, v2, K, kc, h1, h2, h3, h4, h5, h6⟩ hwt
  obtain ⟨b', o', rfl, hb', hk⟩ := h6 (by simp)
  unfold PT.Ats at hk
  obtain ⟨c0, c1, c2, c3, c4, c5, hc, hv⟩ := hk.1.val
  unfold PT.wt PT.wts at hwt
  exact ⟨v0, v1, v2, _, b', o', _, kc, c0, c1, c2, c3, c4, c5, h1, by simp, h5, hb', hc, ih _ hv (by omega)⟩
 | bin k r s a b x y hk1 hk2 ha hb ih1 ih2 =>
  intro v ⟨v0, v1, v2, K, kc, h1, h2, h3, h4, h5, h6⟩ hwt
  obtain ⟨b', o', rfl, hb', hk⟩ := h6 (by simp)
  unfold PT.Ats at hk
  obtain ⟨c0, c1, c2, c3, c4, c5, hc, hv⟩ := hk.1.val
  have hk2' := hk.2
  unfold PT.Ats at hk2'
  obtain ⟨d0, d1, d2, d3, d4, d5, hd, hv2⟩ := hk2'.1.val
  unfold PT.wt PT.wts PT.wts at hwt
  exact ⟨v0, v1, v2, _, b', o', _, kc, c0, c1, c2, c3, c4, c5, d0, d1, d2, d3, d4, d5, hk1, hk2, h1, by simp, h5, hb', hc, hd, ih1 _ hv (by omega), ih2 _ hv2 (by omega)⟩
end Pg
namespace Go.Proofs.Ytahdlpkncemmaaa
open Go.RowKit Pg
theorem PT.As.sz {w : World} {t : PT} {x : XE} (h : PT.As t x) : ∀ v, PT.Val w v t → SzX x t.wt := by
 induction h with
 | num r name kids =>
  intro v ⟨v0, v1, v2, K, kc, h1, ⟨A, n, c, A', n', c', _, _, _, r1, r2, _⟩, h3, _⟩
  unfold PT.wt
  exact Short.val (k := 3 + name.length + 8 * r.xs.length + 8 * r.ys.length + PT.wts kids) ⟨by omega, by omega⟩ r1.ok r2.ok (by omega)
 | name r s kids =>
  intro v _
  unfold PT.wt
  show 3 ≤ _
  omega
 | neg r s a x ha ih =>
  intro v ⟨v0, v1, v2, K, kc, h1, h2, h3, h4, h5, h6⟩
  obtain ⟨b', o', rfl, hb', hk⟩ := h6 (by simp)
  unfold PT.Ats at hk
  obtain ⟨c0, c1, c2, c3, c4, c5, hc, hv⟩ := hk.1.val
  unfold PT.wt PT.wts
  exact SzX.mono (ih _ hv) (by omega)
 | bin k r s a b x y hk1 hk2 ha hb ih1 ih2 =>
  intro v ⟨v0, v1, v2, K, kc, h1, h2, h3, h4, h5, h6⟩
  obtain ⟨b', o', rfl, hb', hk⟩ := h6 (by simp)
  unfold PT.Ats at hk
  obtain ⟨c0, c1, c2, c3, c4, c5, hc, hv⟩ := hk.1.val
  have hk2' := hk.2
  unfold PT.Ats at hk2'
  obtain ⟨d0, d1, d2, d3, d4, d5, hd, hv2⟩ := hk2'.1.val
  unfold PT.wt PT.wts PT.wts
  exact ⟨_, _, ih1 _ hv, ih2 _ hv2, by omega⟩
mutual
theorem ET.At.pt {w : World} : ∀ (e : ET) (b o : Nat), ET.At w e b o → ∃ t, PT.At w t b o
 | .mk kind h q name K kn kc kids, b, o, hA => by
  unfold ET.At at hA
  obtain ⟨h1, ⟨xs, ys, r1, r2, l1, l2, _⟩, h3, h4, h5, h6, h7, h8⟩ := hA
  by_cases hn : 0 < kn
  ·obtain ⟨b', o', rfl, hb', hk⟩ := h8 hn
   obtain ⟨l, hl, hL⟩ := KidsAt.pt kids b' o' hk
   refine ⟨.mk kind ⟨h.s, xs, ys⟩ name l, ?_⟩
   unfold PT.At
   subst h4
   rw [hl]
   exact ⟨_, _, _, _, _, h1, ⟨_, _, _, _, _, _, rfl, rfl, rfl, r1, r2, l1, l2⟩, h3, h5, h6, fun _ => ⟨b', o', rfl, hb', hL⟩⟩
  ·refine ⟨.mk kind ⟨h.s, xs, ys⟩ name [], ?_⟩
   unfold PT.At
   have e : kn = 0 := by omega
   subst e
   exact ⟨_, _, _, _, _, h1, ⟨_, _, _, _, _, _, rfl, rfl, rfl, r1, r2, l1, l2⟩, h3, Nat.zero_le _, by simp, fun h => absurd h (by simp)⟩
theorem KidsAt.pt {w : World} : ∀ (l : List ET) (b o : Nat), KidsAt w l b o → ∃ m : List PT, m.length = l.length ∧ PT.Ats w m b o
 | [], _, _, _ => ⟨[], rfl, by unfold PT.Ats; trivial⟩
 | e :: l, b, o, h => by
  unfold KidsAt at h
  obtain ⟨t, ht⟩ := ET.At.pt e b o h.1
  obtain ⟨m, hm, hM⟩ := KidsAt.pt l b (o + 6) h.2
  exact ⟨t :: m, by simp [hm], by unfold PT.Ats; exact ⟨ht, hM⟩⟩
end
end Go.Proofs.Ytahdlpkncemmaaa
namespace Pg
open Go Go.RowKit
mutual
theorem PT.nodes_le : ∀ t : PT, t.nodes * 3 ≤ t.wt
 | .mk k r name kids => by
  unfold PT.nodes PT.wt
  have := PT.nodess_le kids
  omega
theorem PT.nodess_le : ∀ l : List PT, PT.nodess l * 3 ≤ PT.wts l
 | [] => by unfold PT.nodess; omega
 | e :: l => by
  unfold PT.nodess PT.wts
  have h1 := PT.nodes_le e
  have h2 := PT.nodess_le l
  omega
end
theorem PT.oks_all (d : Nat) : ∀ l : List PT, PT.oks d l = l.all (PT.ok d)
 | [] => rfl
 | e :: l => by
  unfold PT.oks
  rw [List.all_cons, PT.oks_all d l]
theorem PT.nodes_pos (t : PT) : 1 ≤ t.nodes := by
 cases t
 unfold PT.nodes
 omega
theorem PT.nodess_take : ∀ {l : List PT} {j : Nat} {x : PT}, l[j]? = some x → PT.nodess (l.take (j + 1)) = PT.nodess (l.take j) + x.nodes ∧ PT.nodess (l.take (j + 1)) ≤ PT.nodess l
 | [], _, _, h => by simp at h
 | e :: l, 0, x, h => by
  simp only [List.getElem?_cons_zero, Option.some.injEq] at h
  subst h
  simp [PT.nodess]
 | e :: l, j + 1, x, h => by
  rw [List.getElem?_cons_succ] at h
  have ih := PT.nodess_take h
  simp only [List.take_succ_cons, PT.nodess]
  omega
theorem PT.is_light {t : PT} (h : t.wt ≤ 768) : PT.is t = PT.ok 0 t := by
 have := PT.nodes_le t
 unfold PT.is
 rw [decide_eq_true (by omega), Bool.and_true]
theorem PT.wt_row {k : Int} {r : RW} {name : List UInt8} {kids : List PT} : r.xs.length ≤ (PT.mk k r name kids).wt ∧ r.ys.length ≤ (PT.mk k r name kids).wt ∧ name.length ≤ (PT.mk k r name kids).wt ∧ PT.wts kids ≤ (PT.mk k r name kids).wt := by
 unfold PT.wt
 omega
end Pg
namespace Go.Proofs.Ytahdlpkncemmaaa
open Go.RowKit Pg
def DivRet (w : World) (q : Rat) (b : Bool) (e : Ending) (w' : World) : Prop := ∃ v, e = .returned (.tuple #[v, .bool b]) ∧ RatRet w q (.returned v) w'
theorem Int_E (n : Int) (q : Rat) (w : World) (h1 : -9223372036854775808 ≤ n) (h2 : n ≤ 9223372036854775807) (hq : (n : Rat) = q) :
  Calls Try.prog 47 #[.int .i64 n] w (RatRet w q) := by subst hq; exact Int_any n w h1 h2
theorem RArg.inv {w : World} {q : Rat} {A A' : Option Addr} {c c' k : Nat} (h : Row w A (limbs (rnum q)).length c (limbs (rnum q))) (h' : Row w A' (limbs q.den).length c' (limbs q.den)) (hn : (limbs (rnum q)).length ≤ k) (hn' : (limbs q.den).length ≤ k) :
  RArg w (.agg #[.bool (rneg q), .slice A' (limbs q.den).length c', .slice A (limbs (rnum q)).length c]) (q⁻¹) k :=
 ⟨_, _, _, _, _, _, _, _, _, rfl, h', h, hn', hn, by rw [val_limbs, val_limbs, rv_inv]⟩
theorem nonzero_len {q : Rat} (h : q ≠ 0) : (((limbs (rnum q)).length : Int) == 0) = false := beq_eq_false_iff_ne.2 (fun e => h ((rnum_len q).1 (by omega)))
theorem zero_len {q : Rat} (h : q = 0) : (((limbs (rnum q)).length : Int)) = 0 := by have := (rnum_len q).2 h; omega
theorem Div_R {va vb : Value} {p q : Rat} {k : Nat} (w : World) (ha : RArg w va p k) (hb : RArg w vb q k) (hk : k ≤ 262144) (hk1 : 1 ≤ k) :
  Calls Try.prog 59 #[va, vb] w (DivRet w (p / q) (decide (q ≠ 0))) := by
 obtain ⟨E, hE⟩ : ∃ E, decide (q ≠ 0) = E := ⟨_, rfl⟩
 obtain ⟨r, hr⟩ : ∃ r, p / q = r := ⟨_, rfl⟩
 rw [hE, hr]
 obtain ⟨lq1, lq2⟩ := hb.short hk1
 have HP := hid ha
 obtain ⟨s1, A, n, c, A', n', c', xs, ys, rfl, _, _, _, _, _⟩ := ha
 obtain ⟨s2, C, m, d, C', m', d', us, vs, rfl, g, g', hm, hm', hq⟩ := hb
 have hQ := fun W (hW : Below w.heap.size w W) => Rnorm_any s2 C C' m d m' d' us vs W (g.below hW) (g'.below hW) (by omega) (by omega)
 rw [hq] at hQ
 have HQ := hid hQ
 clear g g' hQ hq
 have HX := hid (((B3.new w 25 (.bool s1) (.slice A n c) (.slice A' n' c')).alloc (.cells #[.bool s2, .slice C m d, .slice C' m' d'] 25)).alloc (.cells #[.bool false, .slice none 0 0, .slice none 0 0] 25))
 have HY := hid ((B3.new2 w (.cells #[.bool s1, .slice A n c, .slice A' n' c'] 25) 25 (.bool s2) (.slice C m d) (.slice C' m' d') _ rfl).alloc (.cells #[.bool false, .slice none 0 0, .slice none 0 0] 25))
 have HZ := hid (B3.newg ((w.alloc (.cells #[.bool s1, .slice A n c, .slice A' n' c'] 25)).alloc (.cells #[.bool s2, .slice C m d, .slice C' m' d'] 25)) 25 (.bool false) (.slice none 0 0) (.slice none 0 0) (w.heap.size + 2) (by simp))
 obtain ⟨k0, k1, k2, _, _, _⟩ := HY.out.cells
 go_enter Try.func59, Try.ntmps59
 go_upto_region 2 with (go_at_call 14; refine (HQ.out _ Pg.bel).mono ?_; rintro e w1 ⟨A1, c1, A2, c2, rfl, hr1, hr2, hb1⟩; have hBr := HY.out.below hb1; clear k0 k1 k2; obtain ⟨k0, k1, k2, f0, f1, f2⟩ := hBr.cells)
 have hw1 : Below w.heap.size w w1 := Pg.bel
 have hB2 := hBr.set (.bool (rneg q)) (.slice A1 (limbs (rnum q)).length c1) (.slice A2 (limbs q.den).length c2)
 have hs1 := hBr.row hr1 (.bool (rneg q)) (.slice A1 (limbs (rnum q)).length c1) (.slice A2 (limbs q.den).length c2)
 have hs2 := hBr.row hr2 (.bool (rneg q)) (.slice A1 (limbs (rnum q)).length c1) (.slice A2 (limbs q.den).length c2)
 have hbs := B3.belowSet hw1 (by omega : w.heap.size ≤ w.heap.size + 1) (.bool (rneg q)) (.slice A1 (limbs (rnum q)).length c1) (.slice A2 (limbs q.den).length c2)
 have HX1 := hid ((HX.out.below hb1).other3 (by omega : w.heap.size ≠ w.heap.size + 1) (.bool (rneg q)) (.slice A1 (limbs (rnum q)).length c1) (.slice A2 (limbs q.den).length c2))
 have HZ1 := hid ((HZ.out.below hb1).other3 (by omega : w.heap.size + 2 ≠ w.heap.size + 1) (.bool (rneg q)) (.slice A1 (limbs (rnum q)).length c1) (.slice A2 (limbs q.den).length c2))
 generalize ((w1.setCell ⟨w.heap.size + 1, 0, none⟩ (.bool (rneg q))).setCell ⟨w.heap.size + 1, 1, none⟩ (.slice A1 (limbs (rnum q)).length c1)).setCell ⟨w.heap.size + 1, 2, none⟩ (.slice A2 (limbs q.den).length c2) = w2 at *
 clear hBr hr1 hr2 hb1 hw1 HX HY HQ HZ k0 k1 k2 f0 f1 f2
 obtain ⟨k0, k1, k2, _, _, _⟩ := hB2.cells
 obtain ⟨j0, j1, j2, _, _, _⟩ := HX1.out.cells
 by_cases hq0 : q = 0
 ·have hl := zero_len hq0
  have hz : r = 0 := by rw [← hr, hq0, Rat.div_def, Rat.inv_zero, Rat.mul_zero]
  clear hr
  subst hz
  have hd : E = false := by rw [← hE]; exact decide_eq_false (fun h : q ≠ 0 => h hq0)
  subst hd
  clear hE
  clear hq0
  go_wp2_with (go_at_call 47; refine (Int_E 0 0 _ (by omega) (by omega) rfl).mono ?_; rintro e w3 ⟨A3, c3, A4, c4, rfl, hr3, hr4, hb3⟩; have hBr := HZ1.out.below hb3; clear k0 k1 k2 j0 j1 j2; obtain ⟨k0, k1, k2, f0, f1, f2⟩ := hBr.cells)
  refine bodyPost_ret (by have q0 := fun u0 u1 u2 => (hBr.set u0 u1 u2).cells.1; have q1 := fun u0 u1 u2 => (hBr.set u0 u1 u2).cells.2.1; have q2 := fun u0 u1 u2 => (hBr.set u0 u1 u2).cells.2.2.1; simp [results, Try.results59, go_sem, q0, q1, q2]) rfl ⟨_, rfl, RatRet.put hBr (by omega) (Below.then_ hbs hb3) rfl rfl rfl hr3 hr4 rfl rfl⟩
 ·have hl := nonzero_len hq0
  have hd : E = true := by rw [← hE]; exact decide_eq_true (show q ≠ 0 from hq0)
  subst hd
  clear hE
  have hz := hid ((Rat.div_def p q).symm.trans hr)
  clear hr
  clear hq0
  go_wp2_with (go_at_call 16; refine (Mul_R _ (HP.out.below hbs) (RArg.inv hs1 hs2 lq1 lq2) hk hk1).mono ?_; rw [hz.out]; rintro e w3 ⟨A3, c3, A4, c4, rfl, hr3, hr4, hb3⟩; have hBr := HZ1.out.below hb3; clear k0 k1 k2 j0 j1 j2; obtain ⟨k0, k1, k2, f0, f1, f2⟩ := hBr.cells)
  refine bodyPost_ret (by have q0 := fun u0 u1 u2 => (hBr.set u0 u1 u2).cells.1; have q1 := fun u0 u1 u2 => (hBr.set u0 u1 u2).cells.2.1; have q2 := fun u0 u1 u2 => (hBr.set u0 u1 u2).cells.2.2.1; simp [results, Try.results59, go_sem, q0, q1, q2]) rfl ⟨_, rfl, RatRet.put hBr (by omega) (Below.then_ hbs hb3) rfl rfl rfl hr3 hr4 rfl rfl⟩
end Go.Proofs.Ytahdlpkncemmaaa
namespace Pg
open Go Go.RowKit
open Go.Proofs.Ytahdlpkncemmaaa (isT)
theorem isT_iff {xs : List Nat} (h : Ok xs) : isT xs = true ↔ limbs (val xs) = xs := by
 unfold isT
 rw [decide_eq_true_eq]
 constructor
 ·intro e
  have := limbs_val_take h
  unfold tl at e
  rw [e, List.take_length] at this
  exact this
 ·intro e; unfold tl; rw [e]
theorem norm_parts (s : Bool) {xs ys : List Nat} (hx : Ok xs) (hy : Ok ys) : RW.norm ⟨s, xs, ys⟩ = (isT xs && isT ys && decide (0 < ys.length) && !(s && decide (xs.length = 0)) && (cmpv (Nat.gcd (val xs) (val ys)) 1 == 0)) := by
 have hc : (cmpv (Nat.gcd (val xs) (val ys)) 1 == 0) = (Nat.gcd (val xs) (val ys) == 1) := by
  generalize Nat.gcd (val xs) (val ys) = G
  rcases Nat.lt_trichotomy G 1 with h | h | h
  ·rw [cmpv_lt h, beq_eq_false_iff_ne.2 (show G ≠ 1 by omega)]; rfl
  ·rw [cmpv_eq h, h]; rfl
  ·rw [cmpv_gt h, beq_eq_false_iff_ne.2 (show G ≠ 1 by omega)]; rfl
 rw [hc]
 rw [Bool.eq_iff_iff]
 simp only [RW.norm, RW.q, Bool.and_eq_true, beq_iff_eq, decide_eq_true_eq, Bool.not_eq_true', Bool.and_eq_false_imp, isT_iff hx, isT_iff hy, decide_eq_false_iff_not]
 constructor
 ·rintro ⟨⟨h1, h2⟩, h3⟩
  generalize rv s (val xs) (val ys) = q at *
  subst h2 h3
  simp only [val_limbs]
  have hd := (tl_top q.den_nz).1
  refine ⟨⟨⟨⟨trivial, trivial⟩, hd⟩, fun hs h0 => ?_⟩, gcd_q q⟩
  have hz : q = 0 := (by
   refine rnum_zero_iff.1 (Classical.byContradiction fun hn => ?_)
   have := (tl_top hn).1
   omega)
  rw [hs, hz, rneg_zero] at h1
  cases h1
 ·rintro ⟨⟨⟨⟨h1, h2⟩, h3⟩, h4⟩, h5⟩
  have hD : val ys ≠ 0 := fun e => by rw [e, limbs_zero] at h2; rw [← h2] at h3; simp at h3
  have e1 : rnum (rv s (val xs) (val ys)) = val xs := by rw [rv_num _ _ hD, h5, Nat.div_one]
  have e2 : (rv s (val xs) (val ys)).den = val ys := by rw [rv_den _ _ hD, h5, Nat.div_one]
  refine ⟨⟨?_, by rw [e1, h1]⟩, by rw [e2, h2]⟩
  by_cases hN : val xs = 0
  ·rw [rv_zero (.inl hN), rneg_zero]
   have hx0 : xs.length = 0 := by rw [← h1, hN]; rfl
   cases s
   ·rfl
   ·exact absurd hx0 (h4 rfl)
  ·exact (rv_neg hN hD).symm
end Pg
namespace Go.Proofs.Ytahdlpkncemmaaa
open Go.RowKit Pg
theorem rIs_any {v0 v1 v2 : Value} {r : RW} (w : World) (h : RowsAt w r v0 v1 v2) (hr : r.Le 262144) :
  Calls Try.prog 73 #[.agg #[v0, v1, v2]] w fun e w' => e = .returned (.bool r.norm) ∧ Below w.heap.size w w' := by
 obtain ⟨s, xs, ys⟩ := r
 obtain ⟨A, n, c, A', n', c', rfl, rfl, rfl, h1, h2, _, _⟩ := h
 obtain ⟨m1, m2⟩ := hr
 have e := norm_parts s h1.ok h2.ok
 have l1 := h1.len
 have l2 := h2.len
 simp only at h1 h2 l1 l2 m1 m2
 rw [l1, l2] at e
 obtain ⟨E, hE⟩ : ∃ E, RW.norm ⟨s, xs, ys⟩ = E := ⟨_, rfl⟩
 rw [hE] at e
 show Calls _ _ _ _ fun e' w' => e' = .returned (.bool (RW.norm ⟨s, xs, ys⟩)) ∧ _
 rw [hE]
 clear hE
 have HX := hid (B3.new w 25 (.bool s) (.slice A n c) (.slice A' n' c'))
 obtain ⟨k0, k1, k2, _, _, _⟩ := HX.out.cells
 have I1 := fun W (hW : Below w.heap.size w W) => is_any A n c xs W (h1.below hW)
 have I2 := fun W (hW : Below w.heap.size w W) => is_any A' n' c' ys W (h2.below hW)
 obtain ⟨G, hG⟩ : ∃ G, Nat.gcd (val xs) (val ys) = G := ⟨_, rfl⟩
 rw [hG] at e
 have HG := hid fun W (hW : Below w.heap.size w W) => Gcd_E A A' n c n' c' xs ys W (val xs) (val ys) G (h1.below hW) (h2.below hW) rfl rfl (by omega) (by omega) hG
 clear hG h1 h2
 obtain ⟨cm, hcm⟩ : ∃ cm, cmpv G 1 = cm := ⟨_, rfl⟩
 rw [hcm] at e
 have HC := hid hcm
 generalize isT xs = b1 at *
 generalize isT ys = b2 at *
 have I1 := hid I1
 have I2 := hid I2
 clear l1 l2 hcm
 by_cases hn : n = 0
 ·have hn1 : (n : Int) = 0 := by omega
  rw [decide_eq_true hn] at e
  by_cases hn' : n' = 0
  ·have hn1' : (n' : Int) = 0 := by omega
   rw [decide_eq_false (show ¬ 0 < n' by omega)] at e
   have He := hid e
   clear e hn hn'
   rcases b1 with _ | _ <;> rcases b2 with _ | _ <;> rcases s with _ | _
   all_goals 
    go_enter Try.func73, Try.ntmps73
    go_wp2_with (first
     | (go_at_call 49; (with_reducible refine (I1.out _ Pg.bel).mono ?_); rintro e w1 ⟨rfl, rfl⟩)
     | (go_at_call 49; (with_reducible refine (I2.out _ Pg.bel).mono ?_); rintro e w1 ⟨rfl, rfl⟩)
     | (go_at_call 35; (with_reducible refine (HG.out _ Pg.bel).mono ?_); rintro e w2 ⟨A2, c2, rfl, hr2, hb2⟩)
     | (go_at_call 34; refine (Of_I 1 _ _ (by omega) (by omega)).mono ?_; rintro e w3 ⟨A3, c3, rfl, hr3, hb3⟩)
     | (go_at_call 37; refine (CmpE A2 A3 _ c2 _ c3 _ _ _ G 1 cm (hr2.below hb3) hr3 (val_limbs _) (val_limbs _) HC.out).mono ?_; rintro e w4 ⟨rfl, hb4⟩))
    go_ret
    exact ⟨by rw [He.out]; rfl, Pg.bel⟩
  ·have hn1' : ((n' : Int) == 0) = false := beq_eq_false_iff_ne.2 (by omega)
   rw [decide_eq_true (show 0 < n' by omega)] at e
   have He := hid e
   clear e hn hn'
   rcases b1 with _ | _ <;> rcases b2 with _ | _ <;> rcases s with _ | _
   all_goals 
    go_enter Try.func73, Try.ntmps73
    go_wp2_with (first
     | (go_at_call 49; (with_reducible refine (I1.out _ Pg.bel).mono ?_); rintro e w1 ⟨rfl, rfl⟩)
     | (go_at_call 49; (with_reducible refine (I2.out _ Pg.bel).mono ?_); rintro e w1 ⟨rfl, rfl⟩)
     | (go_at_call 35; (with_reducible refine (HG.out _ Pg.bel).mono ?_); rintro e w2 ⟨A2, c2, rfl, hr2, hb2⟩)
     | (go_at_call 34; refine (Of_I 1 _ _ (by omega) (by omega)).mono ?_; rintro e w3 ⟨A3, c3, rfl, hr3, hb3⟩)
     | (go_at_call 37; refine (CmpE A2 A3 _ c2 _ c3 _ _ _ G 1 cm (hr2.below hb3) hr3 (val_limbs _) (val_limbs _) HC.out).mono ?_; rintro e w4 ⟨rfl, hb4⟩))
    go_ret
    exact ⟨by rw [He.out]; rfl, Pg.bel⟩
 ·have hn1 : ((n : Int) == 0) = false := beq_eq_false_iff_ne.2 (by omega)
  rw [decide_eq_false hn] at e
  by_cases hn' : n' = 0
  ·have hn1' : (n' : Int) = 0 := by omega
   rw [decide_eq_false (show ¬ 0 < n' by omega)] at e
   have He := hid e
   clear e hn hn'
   rcases b1 with _ | _ <;> rcases b2 with _ | _ <;> rcases s with _ | _
   all_goals 
    go_enter Try.func73, Try.ntmps73
    go_wp2_with (first
     | (go_at_call 49; (with_reducible refine (I1.out _ Pg.bel).mono ?_); rintro e w1 ⟨rfl, rfl⟩)
     | (go_at_call 49; (with_reducible refine (I2.out _ Pg.bel).mono ?_); rintro e w1 ⟨rfl, rfl⟩)
     | (go_at_call 35; (with_reducible refine (HG.out _ Pg.bel).mono ?_); rintro e w2 ⟨A2, c2, rfl, hr2, hb2⟩)
     | (go_at_call 34; refine (Of_I 1 _ _ (by omega) (by omega)).mono ?_; rintro e w3 ⟨A3, c3, rfl, hr3, hb3⟩)
     | (go_at_call 37; refine (CmpE A2 A3 _ c2 _ c3 _ _ _ G 1 cm (hr2.below hb3) hr3 (val_limbs _) (val_limbs _) HC.out).mono ?_; rintro e w4 ⟨rfl, hb4⟩))
    go_ret
    exact ⟨by rw [He.out]; rfl, Pg.bel⟩
  ·have hn1' : ((n' : Int) == 0) = false := beq_eq_false_iff_ne.2 (by omega)
   rw [decide_eq_true (show 0 < n' by omega)] at e
   have He := hid e
   clear e hn hn'
   rcases b1 with _ | _ <;> rcases b2 with _ | _ <;> rcases s with _ | _
   all_goals 
    go_enter Try.func73, Try.ntmps73
    go_wp2_with (first
     | (go_at_call 49; (with_reducible refine (I1.out _ Pg.bel).mono ?_); rintro e w1 ⟨rfl, rfl⟩)
     | (go_at_call 49; (with_reducible refine (I2.out _ Pg.bel).mono ?_); rintro e w1 ⟨rfl, rfl⟩)
     | (go_at_call 35; (with_reducible refine (HG.out _ Pg.bel).mono ?_); rintro e w2 ⟨A2, c2, rfl, hr2, hb2⟩)
     | (go_at_call 34; refine (Of_I 1 _ _ (by omega) (by omega)).mono ?_; rintro e w3 ⟨A3, c3, rfl, hr3, hb3⟩)
     | (go_at_call 37; refine (CmpE A2 A3 _ c2 _ c3 _ _ _ G 1 cm (hr2.below hb3) hr3 (val_limbs _) (val_limbs _) HC.out).mono ?_; rintro e w4 ⟨rfl, hb4⟩))
    go_ret
    exact ⟨by rw [He.out]; rfl, Pg.bel⟩
theorem Large_R {va : Value} {p : Rat} {k : Nat} (w : World) (ha : RArg w va p k) (hk : k ≤ 262144) :
  Calls Try.prog 74 #[va] w fun e w' => e = .returned (.bool (largeQ p)) ∧ Below w.heap.size w w' := by
 obtain ⟨s, A, n, c, A', n', c', xs, ys, rfl, h, h', hn, hn', hp⟩ := ha
 have hP := fun W (hW : Below w.heap.size w W) => Rnorm_any s A A' n c n' c' xs ys W (h.below hW) (h'.below hW) (by omega) (by omega)
 rw [hp] at hP
 have HP := hid hP
 obtain ⟨E, hE⟩ : ∃ E, largeQ p = E := ⟨_, rfl⟩
 rw [hE]
 unfold largeQ at hE
 clear hP h h' hp
 have HX := hid (B3.new w 25 (.bool s) (.slice A n c) (.slice A' n' c'))
 obtain ⟨k0, k1, k2, _, _, _⟩ := HX.out.cells
 go_enter Try.func74, Try.ntmps74
 go_upto_region 2 with (go_at_call 14; refine (HP.out _ Pg.bel).mono ?_; rintro e w1 ⟨A1, c1, A2, c2, rfl, hr1, hr2, hb1⟩; have hBr := HX.out.below hb1; clear k0 k1 k2; obtain ⟨k0, k1, k2, f0, f1, f2⟩ := hBr.cells)
 have hw1 : Below w.heap.size w w1 := Pg.bel
 have hB2 := hBr.set (.bool (rneg p)) (.slice A1 (limbs (rnum p)).length c1) (.slice A2 (limbs p.den).length c2)
 have hbs := B3.belowSet hw1 (Nat.le_refl _) (.bool (rneg p)) (.slice A1 (limbs (rnum p)).length c1) (.slice A2 (limbs p.den).length c2)
 generalize ((w1.setCell ⟨w.heap.size, 0, none⟩ (.bool (rneg p))).setCell ⟨w.heap.size, 1, none⟩ (.slice A1 (limbs (rnum p)).length c1)).setCell ⟨w.heap.size, 2, none⟩ (.slice A2 (limbs p.den).length c2) = w2 at *
 clear hBr hr1 hr2 hb1 hw1 HX HP k0 k1 k2 f0 f1 f2
 obtain ⟨k0, k1, k2, _, _, _⟩ := hB2.cells
 generalize (limbs (rnum p)).length = L1 at *
 generalize (limbs p.den).length = L2 at *
 by_cases g1 : 16 < L1
 ·have d1 : decide ((16 : Int) < (L1 : Int)) = true := decide_eq_true (by omega)
  have HE : Hid (true = E) := hid (by rw [← hE, decide_eq_true g1]; rfl)
  clear hE g1
  go_wp2_with fail
  go_ret
  exact ⟨by rw [← HE.out]; rfl, hbs⟩
 ·have d1 : decide ((16 : Int) < (L1 : Int)) = false := decide_eq_false (by omega)
  have HE : Hid (decide ((16 : Int) < (L2 : Int)) = E) := hid (by rw [← hE, decide_eq_false g1, Bool.false_or, decide_eq_decide]; omega)
  clear hE g1
  go_wp2_with fail
  go_ret
  exact ⟨by rw [← HE.out]; rfl, hbs⟩
theorem norm_eqB (s : Bool) (xs ys : List Nat) : RW.norm ⟨s, xs, ys⟩ = ((s == rneg (rv s (val xs) (val ys))) && eqB xs (limbs (rnum (rv s (val xs) (val ys)))) && eqB ys (limbs (rv s (val xs) (val ys)).den)) := by
 rw [Bool.eq_iff_iff]
 simp only [RW.norm, RW.q, eqB, Bool.and_eq_true, beq_iff_eq, decide_eq_true_eq]
theorem r2Is_any {v0 v1 v2 : Value} {r : RW} (w : World) (h : RowsAt w r v0 v1 v2) (hr : r.Le 35184372087808) :
  Calls Try.prog 12 #[.agg #[v0, v1, v2]] w fun e w' => e = .returned (.bool r.norm) ∧ Below w.heap.size w w' := by
 obtain ⟨s, xs, ys⟩ := r
 obtain ⟨A, n, c, A', n', c', rfl, rfl, rfl, h1, h2, _, _⟩ := h
 obtain ⟨m1, m2⟩ := hr
 have e := norm_eqB s xs ys
 have l1 := h1.len
 have l2 := h2.len
 simp only at h1 h2 l1 l2 m1 m2
 show Calls _ _ _ _ fun e' w' => e' = .returned (.bool (RW.norm ⟨s, xs, ys⟩)) ∧ _
 obtain ⟨E, hE⟩ : ∃ E, RW.norm ⟨s, xs, ys⟩ = E := ⟨_, rfl⟩
 rw [hE] at e ⊢
 clear hE
 have hP := fun W (hW : Below w.heap.size w W) => r2Norm_big s A A' n c n' c' xs ys W (h1.below hW) (h2.below hW) (by omega) (by omega)
 generalize rv s (val xs) (val ys) = q at *
 have HP := hid hP
 clear hP
 have HX := hid (B3.new w 25 (.bool s) (.slice A n c) (.slice A' n' c'))
 obtain ⟨k0, k1, k2, _, _, _⟩ := HX.out.cells
 go_enter Try.func12, Try.ntmps12
 go_upto_region 2 with (go_at_call 20; refine (HP.out _ Pg.bel).mono ?_; rintro e w1 ⟨A1, c1, A2, c2, rfl, hr1, hr2, hb1⟩; clear k0 k1 k2)
 have hB2 := B3.new w1 25 (.bool (rneg q)) (.slice A1 (limbs (rnum q)).length c1) (.slice A2 (limbs q.den).length c2)
 have hB1 := (HX.out.below hb1).alloc (.cells #[.bool (rneg q), .slice A1 (limbs (rnum q)).length c1, .slice A2 (limbs q.den).length c2] 25)
 have hbs : Below w.heap.size w (w1.alloc (.cells #[.bool (rneg q), .slice A1 (limbs (rnum q)).length c1, .slice A2 (limbs q.den).length c2] 25)) := Pg.bel
 have hs1 := hr1.alloc (.cells #[.bool (rneg q), .slice A1 (limbs (rnum q)).length c1, .slice A2 (limbs q.den).length c2] 25)
 have hs2 := hr2.alloc (.cells #[.bool (rneg q), .slice A1 (limbs (rnum q)).length c1, .slice A2 (limbs q.den).length c2] 25)
 generalize w1.alloc (.cells #[.bool (rneg q), .slice A1 (limbs (rnum q)).length c1, .slice A2 (limbs q.den).length c2] 25) = w2 at *
 generalize w1.heap.size = g2 at *
 clear hr1 hr2 hb1 HX HP
 have L1 := hid fun W (hW : Below w2.heap.size w2 W) => limbs_ref2 A A1 n c _ c1 xs _ W ((h1.below hbs).below hW) (hs1.below hW)
 have L2 := hid fun W (hW : Below w2.heap.size w2 W) => limbs_ref2 A' A2 n' c' _ c2 ys _ W ((h2.below hbs).below hW) (hs2.below hW)
 clear h1 h2 hs1 hs2 l1 l2
 obtain ⟨k0, k1, k2, _, _, _⟩ := hB1.cells
 obtain ⟨j0, j1, j2, _, _, _⟩ := hB2.cells
 generalize rneg q = S at *
 generalize eqB xs (limbs (rnum q)) = E1 at *
 generalize eqB ys (limbs q.den) = E2 at *
 generalize (limbs (rnum q)).length = N1 at *
 generalize (limbs q.den).length = N2 at *
 have HB1 := hid hB1
 have HB2 := hid hB2
 clear hB1 hB2
 have He := hid e
 clear e
 rcases s with _ | _ <;> rcases S with _ | _ <;> rcases E1 with _ | _ <;> rcases E2 with _ | _
 all_goals
  go_wp2_with (first
   | (go_at_call 22; (with_reducible refine (L1.out _ (Below.refl _ _)).mono ?_); rintro e w3 ⟨rfl, hb3⟩; clear k0 k1 k2 j0 j1 j2; obtain ⟨k0, k1, k2, _, _, _⟩ := (HB1.out.below hb3).cells; obtain ⟨j0, j1, j2, _, _, _⟩ := (HB2.out.below hb3).cells)
   | (go_at_call 22; (with_reducible refine (L2.out _ hb3).mono ?_); rintro e w4 ⟨rfl, hb4⟩))
  go_ret
  exact ⟨by rw [He.out]; rfl, Pg.bel⟩
theorem rows_arg {w : World} {r : RW} {v0 v1 v2 : Value} {k : Nat} (h : RowsAt w r v0 v1 v2) (hr : r.Le k) : RArg w (.agg #[v0, v1, v2]) r.q k := by
 obtain ⟨A, n, c, A', n', c', rfl, rfl, rfl, h1, h2, _, _⟩ := h
 exact ⟨_, _, _, _, _, _, _, _, _, rfl, h1, h2, by rw [← h1.len]; exact hr.1, by rw [← h2.len]; exact hr.2, rfl⟩
theorem rows_b3 {w : World} {r : RW} {v0 v1 v2 : Value} (h : RowsAt w r v0 v1 v2) : ∃ A n c A' n' c', v0 = .bool r.s ∧ v1 = .slice A n c ∧ v2 = .slice A' n' c' := by
 obtain ⟨A, n, c, A', n', c', rfl, rfl, rfl, _⟩ := h
 exact ⟨A, n, c, A', n', c', rfl, rfl, rfl⟩
end Go.Proofs.Ytahdlpkncemmaaa
namespace Pg
theorem exactQ_hit {q : Rat} {j : Nat} (hj : j < 61) (h : rnum q * 10 ^ j % q.den = 0) : exactQ q = true := by
 unfold exactQ
 rw [List.any_eq_true]
 exact ⟨j, List.mem_range.2 hj, by rw [h]; rfl⟩
theorem exactQ_miss {q : Rat} (h : ∀ j, j < 61 → rnum q * 10 ^ j % q.den ≠ 0) : exactQ q = false := by
 unfold exactQ
 rw [List.any_eq_false]
 intro j hj
 have := h j (List.mem_range.1 hj)
 simpa using this
end Pg
namespace Go.Proofs.Ytahdlpkncemmaaa
open Go.RowKit Pg
theorem ratRet_parts {w : World} {q : Rat} {N D : Nat} {S : Bool} (hN : rnum q = N) (hD : q.den = D) (hS : rneg q = S) : RatRet w q = fun e w' =>
  ∃ A c A' c', e = .returned (.agg #[.bool S, .slice A (limbs N).length c, .slice A' (limbs D).length c']) ∧ Row w' A (limbs N).length c (limbs N) ∧ Row w' A' (limbs D).length c' (limbs D) ∧ Below w.heap.size w w' := by
 subst hN hD hS; rfl
theorem dExact_any {v : Value} {q : Rat} (w : World) (ha : RArg w v q 1000) :
  Calls Try.prog 75 #[v] w fun e w' => ∃ s, e = .returned (.tuple #[.string s, .bool (exactQ q)]) ∧ Below w.heap.size w w' := by
 have hs := ha.short (by omega)
 obtain ⟨E, hE⟩ : ∃ E, exactQ q = E := ⟨_, rfl⟩
 rw [hE]
 obtain ⟨s, A, n, c, A', n', c', xs, ys, rfl, h, h', hn, hn', hp⟩ := ha
 have hO := fun W (hW : Below w.heap.size w W) => Rnorm_any s A A' n c n' c' xs ys W (h.below hW) (h'.below hW) (by omega) (by omega)
 rw [hp] at hO
 obtain ⟨N, hN⟩ : ∃ N, rnum q = N := ⟨_, rfl⟩
 obtain ⟨D, hD⟩ : ∃ D, q.den = D := ⟨_, rfl⟩
 obtain ⟨S, hS⟩ : ∃ S, rneg q = S := ⟨_, rfl⟩
 have lN : (limbs N).length ≤ 1000 := by rw [← hN]; exact hs.1
 have lD : (limbs D).length ≤ 1000 := by rw [← hD]; exact hs.2
 have HO := hid fun W hW => (ratRet_parts hN hD hS) ▸ hO W hW
 have HN := hid hN
 have HD := hid hD
 clear hO h h' hp hn hn' hN hD hS hs
 have HB := hid (B3.new w 25 (.bool s) (.slice A n c) (.slice A' n' c'))
 obtain ⟨k0, k1, k2, _, _, _⟩ := HB.out.cells
 go_enter Try.func75, Try.ntmps75
 go_upto_region 2 with (go_at_call 14; refine (HO.out _ Pg.bel).mono ?_; rintro e w1 ⟨A1, c1, A2, c2, rfl, hr1, hr2, hb1⟩; have hBr := HB.out.below hb1; clear k0 k1 k2; obtain ⟨k0, k1, k2, f0, f1, f2⟩ := hBr.cells)
 have hw1 : Below w.heap.size w w1 := Pg.bel
 have hB2 := hBr.set (.bool (S)) (.slice A1 (limbs N).length c1) (.slice A2 (limbs D).length c2)
 have hs1 := hBr.row hr1 (.bool (S)) (.slice A1 (limbs N).length c1) (.slice A2 (limbs D).length c2)
 have hs2 := hBr.row hr2 (.bool (S)) (.slice A1 (limbs N).length c1) (.slice A2 (limbs D).length c2)
 have hbs := B3.belowSet hw1 (Nat.le_refl _) (.bool (S)) (.slice A1 (limbs N).length c1) (.slice A2 (limbs D).length c2)
 generalize ((w1.setCell ⟨w.heap.size, 0, none⟩ (.bool (S))).setCell ⟨w.heap.size, 1, none⟩ (.slice A1 (limbs N).length c1)).setCell ⟨w.heap.size, 2, none⟩ (.slice A2 (limbs D).length c2) = w2 at *
 clear hBr hr1 hr2 hb1 hw1 HB HO k0 k1 k2 f0 f1 f2
 go_wp2_with fail
 go_loopw [10] (fun i wr => ∃ j : Nat, j ≤ 61 ∧ i = .int .i64 ((j : Nat) : Int) ∧ Hid (∀ k, k < j → rnum q * 10 ^ k % q.den ≠ 0) ∧ Below w2.heap.size w2 wr) (fun i _ => 61 - (intOf i).toNat)
 case atStart => exact ⟨0, by omega, rfl, hid fun k hk => absurd hk (by omega), Below.refl _ _⟩
 case round =>
  obtain ⟨j, hj, rfl, HA, hbel⟩ := hrel
  by_cases hlt : j < 61
  ·have HTen := hid fun W => dten_any j W (by omega)
   obtain ⟨T, hT⟩ : ∃ T, 10 ^ j = T := ⟨_, rfl⟩
   have lT := limbs_ten j
   rw [hT] at lT
   have hD0 : D ≠ 0 := by rw [← HD.out]; exact q.den_nz
   have lNT : (limbs (N * T)).length ≤ 2000 := by
    have := limbs_mul_len (k := 1000) lN (show (limbs T).length ≤ 1000 by omega)
    omega
   obtain ⟨Q, eq⟩ : ∃ x, N * T / D = x := ⟨_, rfl⟩
   obtain ⟨R, er'⟩ : ∃ x, N * T % D = x := ⟨_, rfl⟩
   have er : dmr (N * T) D = R := by unfold dmr; rw [if_neg hD0]; exact er'
   have ebd : dmb D = true := by simp [dmb, hD0]
   have lq := Nat.le_trans (limbs_mono (show Q ≤ N * T by rw [← eq]; exact Nat.div_le_self _ _)) lNT
   have lr := Nat.le_trans (limbs_mono (show R ≤ N * T by rw [← er']; exact Nat.mod_le _ _)) lNT
   have EQ := hid eq
   have ER := hid er
   have EB := hid ebd
   have HM : Hid (rnum q * 10 ^ j % q.den = R) := hid (by rw [hT, HN.out, HD.out]; exact er')
   rw [hT] at HTen
   have HBX := hid (hB2.below hbel)
   have h1 := hs1.below hbel
   have h2 := hs2.below hbel
   have hbw := Below.then_ hbs hbel
   have hb0k := hbel
   clear hB2 hs1 hs2 hbel hbs eq er' er ebd hT
   obtain ⟨k, hk⟩ : ∃ k, k = j := ⟨_, rfl⟩
   subst hk
   go_upto_region 5 with fail
   refine draw_hd [14, 15, 16, 17, 18, 19, 20, 21, 13, 22, 23, 24, 5, 6, 7] [.is (.pointer (some ⟨w.heap.size, 1, none⟩)), .is (.slice A1 (limbs N).length c1), .is (.int .i64 (k : Int)), .row T, .row (N * T), .is (.pointer (some ⟨w.heap.size, 2, none⟩)), .is (.slice A2 (limbs D).length c2), .such (Pr Q R), .such (Pr Q R), .row Q, .row R, .is (.bool true), .row Q, .row R, .is (.bool true)]
    (by kernel_rfl) (by kernel_rfl) (by kernel_rfl) (by decide) (by kernel_rfl) (by kernel_rfl) ?_ ?_
   ·refine ⟨?_, ?_, ?_, ?_, ?_, ?_, ?_, ?_, ?_, ?_, ?_, ?_, ?_, ?_, ?_, trivial⟩
    ·intro a w3 hA K hK
     have t1 := hA.old 1 _ rfl rfl
     go_simp
     exact hK _ _ Pg.fi_ (Below.refl _ _)
    ·intro a w3 hA K hK
     have t14 := bt_is hA 0 14
     obtain ⟨k0, k1, k2, _, _, _⟩ := (HBX.out.below hA.below).cells
     go_simp
     exact hK _ _ Pg.fi_ (Below.refl _ _)
    ·intro a w3 hA K hK
     have t4 := hA.old 4 _ rfl rfl
     go_simp
     exact hK _ _ Pg.fi_ (Below.refl _ _)
    ·intro a w3 hA K hK
     have t16 := bt_is hA 2 16
     have hC := HTen.out w3
     go_simp
     refine hC.mono ?_
     rintro e w4 ⟨A3, c3, rfl, hr, hb⟩
     exact hK _ _ ⟨_, _, rfl, hr⟩ hb
    ·intro a w3 hA K hK
     have t15 := bt_is hA 1 15
     obtain ⟨A17, c17, t17, r17⟩ := bt_row hA 3 17
     have hC := Mul_N A1 A17 _ c1 _ c17 _ _ w3 N T (h1.below hA.below) r17 (val_limbs _) (val_limbs _) (by omega) (by omega)
     go_simp
     refine hC.mono ?_
     rintro e w4 ⟨A3, c3, rfl, hr, hb⟩
     exact hK _ _ ⟨_, _, rfl, hr⟩ hb
    ·intro a w3 hA K hK
     have t1 := hA.old 1 _ rfl rfl
     go_simp
     exact hK _ _ Pg.fi_ (Below.refl _ _)
    ·intro a w3 hA K hK
     have t19 := bt_is hA 5 19
     obtain ⟨k0, k1, k2, _, _, _⟩ := (HBX.out.below hA.below).cells
     go_simp
     exact hK _ _ Pg.fi_ (Below.refl _ _)
    ·intro a w3 hA K hK
     obtain ⟨A18, c18, t18, r18⟩ := bt_row hA 4 18
     have t20 := bt_is hA 6 20
     have hC := DivMod_E A18 A2 _ c18 _ c2 _ _ w3 (N * T) D Q R true r18 (h2.below hA.below) (val_limbs _) (val_limbs _) (by omega) (by omega) EQ.out ER.out EB.out
     go_simp
     refine hC.mono ?_
     rintro e w4 ⟨Aq, cq, Ar, cr, rfl, hq, hr, hb⟩
     exact hK _ _ (fun w5 h5 => ⟨_, _, _, _, rfl, hq.below h5, hr.below h5⟩) hb
    ·intro a w3 hA K hK
     obtain ⟨v21, t21, p21⟩ := bt_such hA 7 21
     go_simp
     exact hK _ _ p21 (Below.refl _ _)
    ·intro a w3 hA K hK
     obtain ⟨v13, t13, p13⟩ := bt_such hA 8 13
     obtain ⟨Aq, cq, Ar, cr, hv, hq, hr⟩ := p13 w3 (Below.refl _ _)
     subst hv
     go_simp
     exact hK _ _ ⟨_, _, rfl, hq⟩ (Below.refl _ _)
    ·intro a w3 hA K hK
     obtain ⟨v13, t13, p13⟩ := bt_such hA 8 13
     obtain ⟨Aq, cq, Ar, cr, hv, hq, hr⟩ := p13 w3 (Below.refl _ _)
     subst hv
     go_simp
     exact hK _ _ ⟨_, _, rfl, hr⟩ (Below.refl _ _)
    ·intro a w3 hA K hK
     obtain ⟨v13, t13, p13⟩ := bt_such hA 8 13
     obtain ⟨Aq, cq, Ar, cr, hv, hq, hr⟩ := p13 w3 (Below.refl _ _)
     subst hv
     go_simp
     exact hK _ _ Pg.fi_ (Below.refl _ _)
    ·intro a w3 hA K hK
     obtain ⟨A22, c22, t22, r22⟩ := bt_row hA 9 22
     go_simp
     exact hK _ _ ⟨_, _, rfl, r22⟩ (Below.refl _ _)
    ·intro a w3 hA K hK
     obtain ⟨A23, c23, t23, r23⟩ := bt_row hA 10 23
     go_simp
     exact hK _ _ ⟨_, _, rfl, r23⟩ (Below.refl _ _)
    ·intro a w3 hA K hK
     have t24 := bt_is hA 11 24
     go_simp
     exact hK _ _ Pg.fi_ (Below.refl _ _)
   rintro vs w5 hV hb5 act hact
   have hV' := hV.is_
   clear hV
   obtain ⟨_, rfl, hV⟩ := hV'
   have hV' := hV.is_
   clear hV
   obtain ⟨_, rfl, hV⟩ := hV'
   have hV' := hV.is_
   clear hV
   obtain ⟨_, rfl, hV⟩ := hV'
   have hV' := hV.row_
   clear hV
   obtain ⟨A17, c17, _, rfl, r17, hV⟩ := hV'
   have hV' := hV.row_
   clear hV
   obtain ⟨A18, c18, _, rfl, r18, hV⟩ := hV'
   have hV' := hV.is_
   clear hV
   obtain ⟨_, rfl, hV⟩ := hV'
   have hV' := hV.is_
   clear hV
   obtain ⟨_, rfl, hV⟩ := hV'
   have hV' := hV.such_
   clear hV
   obtain ⟨v21, _, rfl, p21, hV⟩ := hV'
   have hV' := hV.such_
   clear hV
   obtain ⟨v13, _, rfl, p13, hV⟩ := hV'
   have hV' := hV.row_
   clear hV
   obtain ⟨A22, c22, _, rfl, r22, hV⟩ := hV'
   have hV' := hV.row_
   clear hV
   obtain ⟨A23, c23, _, rfl, r23, hV⟩ := hV'
   have hV' := hV.is_
   clear hV
   obtain ⟨_, rfl, hV⟩ := hV'
   have hV' := hV.row_
   clear hV
   obtain ⟨A5, c5, _, rfl, r5, hV⟩ := hV'
   have hV' := hV.row_
   clear hV
   obtain ⟨A6, c6, _, rfl, r6, hV⟩ := hV'
   have hV' := hV.is_
   clear hV
   obtain ⟨_, rfl, hV⟩ := hV'
   obtain rfl := hV.nil_
   clear hV
   simp only [puts] at hact
   subst hact
   go_simp
   obtain ⟨k0, k1, k2, _, _, _⟩ := (HBX.out.below hb5).cells
   have hq5 := r5
   clear r5 r6
   by_cases hR : R = 0
   ·have hl0 : (((limbs R).length : Int)) = 0 := by rw [hR]; rfl
    have HE : Hid (E = true) := hid (by rw [← hE]; exact exactQ_hit hlt (HM.out.trans hR))
    clear hE hR
    have ldt := dtext_len lq
    have ldp := length_dtext_pos Q
    have lpt := pt_len (dtext Q) k
    have lst := stext_len S
    have q4 : ∀ W, (Op.stringOp .add (str (stext S)) (str (pt (dtext Q) k))).run Try.prog W = .ok (.string (str (stext S ++ pt (dtext Q) k))) W := fun W => add_text _ _ (by omega) W
    go_wp2_with (first
     | (go_at_call 79; refine (dsign_any S _ _ _).mono ?_; rintro e w6 ⟨rfl, hb6⟩)
     | (go_at_call 81; refine (Print_any _ _ _ _ _ (hq5.below hb6) (by omega)).mono ?_; rw [val_limbs]; rintro e w7 ⟨rfl, hb7⟩)
     | (go_at_call 80; refine (pointed_any _ k _ (by omega) ldp (by omega)).mono ?_; rintro e w8 ⟨rfl, hb8⟩))
    go_ret2
    exact ⟨_, by rw [HE.out]; rfl, Pg.bel⟩
   ·have hl0 : (((limbs R).length : Int) == 0) = false := beq_eq_false_iff_ne.2 (by have := (tl_top hR).1; omega)
    have HR := hid hR
    clear hR
    go_wp2_with fail
    go_roundw
    case rel =>
     refine ⟨k + 1, by omega, by go_num, hid fun i hi => ?_, Below.then_ (Below.then_ hb0k hb5) (Below.refl _ _)⟩
     by_cases hik : i = k
     ·subst hik; rw [HM.out]; exact HR.out
     ·exact HA.out i (by omega)
    case measure => simp [intOf]; omega
  ·have hj1 : j = 61 := by omega
   subst hj1
   have HE : Hid (E = false) := hid (by rw [← hE]; exact exactQ_miss HA.out)
   clear hE
   go_wp2_with fail
   go_ret2
   exact ⟨_, by rw [HE.out]; rfl, Below.then_ hbs hbel⟩
end Go.Proofs.Ytahdlpkncemmaaa
namespace Go.Proofs.Ytahdlpkncemmaaa
open Go.RowKit Pg
end Go.Proofs.Ytahdlpkncemmaaa
