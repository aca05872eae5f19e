/- How view reads a form and a document; wa · Sums of multiples and expressions in mem · How an expression that came in is read. Conditions: those that each theorem names. -/
import Derived.Test.YtahdlpkncemmaaaGreatX3
import Derived.Test.YtahdlpkncemmaaaGreatX21
import Derived.Test.YtahdlpkncemmaaaGreatX28
import Derived.Shelf.Slices.Turned
import Derived.Test.YtahdlpkncemmaaaGreatX0
set_option maxRecDepth 100000
set_option maxHeartbeats 8000000
set_option linter.unusedSimpArgs false
set_option linter.unusedVariables false
namespace Pg
open Go Go.RowKit
end Pg
namespace Go.Proofs.YtahdlpkncemmaaaGreat
open Go.RowKit Pg
structure Fld where
 name : List UInt8
 page : Int
 must : Bool
 scale : Int
def FldAt (w : World) (b o : Nat) (x : Fld) : Prop := CellsAt w b o [.string (str x.name), .int .i64 x.page, .bool x.must, .int .i64 x.scale] ∧ x.name.length ≤ 140737488355328
def NameAt (w : World) (b o : Nat) (x : List UInt8) : Prop := CellsAt w b o [.string (str x)] ∧ x.length ≤ 140737488355328
def IntAt (w : World) (b o : Nat) (x : Int) : Prop := CellsAt w b o [.int .i64 x]
def BoolAt (w : World) (b o : Nat) (x : Bool) : Prop := CellsAt w b o [.bool x]
def RatAt (k : Nat) (w : World) (b o : Nat) (q : Rat) : Prop := ∃ s A n c A' n' c' xs ys, CellsAt w b o [.bool s, .slice A n c, .slice A' n' c'] ∧ Row w A n c xs ∧ Row w A' n' c' ys ∧ n ≤ k ∧ n' ≤ k ∧ rv s (val xs) (val ys) = q
theorem fldAt_stays : Stays FldAt := fun _ _ _ _ _ hb h hw => ⟨h.1.below hb hw, h.2⟩
theorem nameAt_stays : Stays NameAt := fun _ _ _ _ _ hb h hw => ⟨h.1.below hb hw, h.2⟩
theorem intAt_stays : Stays IntAt := fun _ _ _ _ _ hb h hw => CellsAt.below h hb hw
theorem boolAt_stays : Stays BoolAt := fun _ _ _ _ _ hb h hw => CellsAt.below h hb hw
theorem ratAt_stays (k : Nat) : Stays (RatAt k) := fun _ _ _ _ _ hb ⟨s, A, n, c, A', n', c', xs, ys, h0, h1, h2, h3⟩ hw => ⟨s, A, n, c, A', n', c', xs, ys, h0.below hb hw, h1.below hw, h2.below hw, h3⟩
def B6n (w : World) (g : Nat) (t : TypeId) (v0 v1 v2 v3 v4 v5 : Value) : Prop := w.heap[g]? = some (.cells #[v0, v1, v2, v3, v4, v5] t (0, 0))
theorem B6n.newg (w : World) (t : TypeId) (v0 v1 v2 v3 v4 v5 : Value) (g : Nat) (hg : g = w.heap.size) : B6n (w.alloc (.cells #[v0, v1, v2, v3, v4, v5] t)) g t v0 v1 v2 v3 v4 v5 := by subst hg; exact heap_alloc_new w _
theorem B6n.lt {w : World} {g : Nat} {t : TypeId} {v0 v1 v2 v3 v4 v5 : Value} (h : B6n w g t v0 v1 v2 v3 v4 v5) : g < w.heap.size := by
 rcases Nat.lt_or_ge g w.heap.size with h1 | h1
 ·exact h1
 ·unfold B6n at h; rw [Array.getElem?_eq_none h1] at h; cases h
theorem B6n.below {w w' : World} {g : Nat} {t : TypeId} {v0 v1 v2 v3 v4 v5 : Value} (h : B6n w g t v0 v1 v2 v3 v4 v5) (hb : Below w.heap.size w w') : B6n w' g t v0 v1 v2 v3 v4 v5 := (hb.block g h.lt).trans h
theorem B6n.alloc {w : World} {g : Nat} {t : TypeId} {v0 v1 v2 v3 v4 v5 : Value} (h : B6n w g t v0 v1 v2 v3 v4 v5) (o : Obj) : B6n (w.alloc o) g t v0 v1 v2 v3 v4 v5 := (Below.heap_alloc w o g h.lt).trans h
theorem B6n.cells {w : World} {g : Nat} {t : TypeId} {v0 v1 v2 v3 v4 v5 : Value} (h : B6n w g t v0 v1 v2 v3 v4 v5) : w.cell? ⟨g, 0, none⟩ = some v0 ∧ w.cell? ⟨g, 1, none⟩ = some v1 ∧ w.cell? ⟨g, 2, none⟩ = some v2 ∧ w.cell? ⟨g, 3, none⟩ = some v3 ∧ w.cell? ⟨g, 4, none⟩ = some v4 ∧ w.cell? ⟨g, 5, none⟩ = some v5 := by
 refine ⟨?_, ?_, ?_, ?_, ?_, ?_⟩ <;> (rw [cell_of_row w g _ _ t (0, 0) h]; rfl)
structure VData where
 pages : List (List UInt8)
 flds : List Fld
 rules : List (List UInt8)
 vals : List Rat
 outs : List Int
 pins : List Bool
 filled : List Bool
structure VRead (w : World) (PA FA RA VA OA QA LA : Option Addr) (pn pc fn fc rn rc vn vc on oc qn qc ln lc k : Nat) (D : VData) : Prop where
 pages : SlAt 2 NameAt w PA pn pc D.pages
 flds : SlAt 4 FldAt w FA fn fc D.flds
 rules : SlAt 15 NameAt w RA rn rc D.rules
 vals : SlAt 3 (RatAt k) w VA vn vc D.vals
 outs : SlAt 1 IntAt w OA on oc D.outs
 pins : SlAt 5 BoolAt w QA qn qc D.pins
 filled : SlAt 1 BoolAt w LA ln lc D.filled
theorem VRead.below {w w' : World} {PA FA RA VA OA QA LA : Option Addr} {pn pc fn fc rn rc vn vc on oc qn qc ln lc k : Nat} {D : VData} (h : VRead w PA FA RA VA OA QA LA pn pc fn fc rn rc vn vc on oc qn qc ln lc k D) (hw : Below w.heap.size w w') : VRead w' PA FA RA VA OA QA LA pn pc fn fc rn rc vn vc on oc qn qc ln lc k D :=
 ⟨h.pages.below nameAt_stays hw, h.flds.below fldAt_stays hw, h.rules.below nameAt_stays hw, h.vals.below (ratAt_stays k) hw, h.outs.below intAt_stays hw, h.pins.below boolAt_stays hw, h.filled.below boolAt_stays hw⟩
end Go.Proofs.YtahdlpkncemmaaaGreat
namespace Pg
open Go Go.RowKit
open Go.Proofs.YtahdlpkncemmaaaGreat (str)
def RowsAt (w : World) (r : RW) (v0 v1 v2 : Value) : Prop := ∃ A n c A' n' c', v0 = .bool r.s ∧ v1 = .slice A n c ∧ v2 = .slice A' n' c' ∧ Row w A n c r.xs ∧ Row w A' n' c' r.ys ∧ n ≤ 140737488355328 ∧ n' ≤ 140737488355328
theorem RowsAt.below {w w' : World} {r : RW} {v0 v1 v2 : Value} (h : RowsAt w r v0 v1 v2) (hw : Below w.heap.size w w') : RowsAt w' r v0 v1 v2 := by
 obtain ⟨A, n, c, A', n', c', e0, e1, e2, h1, h2, h3⟩ := h
 exact ⟨A, n, c, A', n', c', e0, e1, e2, h1.below hw, h2.below hw, h3⟩
theorem RowsAt.alloc {w : World} {r : RW} {v0 v1 v2 : Value} (h : RowsAt w r v0 v1 v2) (o : Obj) : RowsAt (w.alloc o) r v0 v1 v2 := h.below (Below.new_ (Below.refl _ _) _)
def RawAt (w : World) (b o : Nat) (r : RW) : Prop := ∃ v0 v1 v2, CellsAt w b o [v0, v1, v2] ∧ RowsAt w r v0 v1 v2
def TermAt (w : World) (b o : Nat) (t : TW) : Prop := ∃ v0 v1 v2, CellsAt w b o [.int .i64 t.v, v0, v1, v2] ∧ RowsAt w t.r v0 v1 v2
theorem rawAt_stays : Stays RawAt := fun _ _ _ _ _ hb ⟨v0, v1, v2, h, hr⟩ hw => ⟨v0, v1, v2, h.below hb hw, hr.below hw⟩
theorem termAt_stays : Stays TermAt := fun _ _ _ _ _ hb ⟨v0, v1, v2, h, hr⟩ hw => ⟨v0, v1, v2, h.below hb hw, hr.below hw⟩
def ConVal (w : World) (v : Value) (c : CW) : Prop := ∃ T n m v0 v1 v2, v = .agg #[.int .i64 c.s, .slice T n m, v0, v1, v2] ∧ SlAt 4 TermAt w T n m c.t ∧ RowsAt w c.r v0 v1 v2
theorem ConVal.below {w w' : World} {v : Value} {c : CW} (h : ConVal w v c) (hw : Below w.heap.size w w') : ConVal w' v c := by
 obtain ⟨T, n, m, v0, v1, v2, e, h1, h2⟩ := h
 exact ⟨T, n, m, v0, v1, v2, e, h1.below termAt_stays hw, h2.below hw⟩
def RW.Le (r : RW) (k : Nat) : Prop := r.xs.length ≤ k ∧ r.ys.length ≤ k
def CW.Le (c : CW) (k : Nat) : Prop := (∀ t ∈ c.t, t.r.Le k) ∧ c.r.Le k
theorem RW.Le.mono {r : RW} {k l : Nat} (h : r.Le k) (hl : k ≤ l) : r.Le l := ⟨Nat.le_trans h.1 hl, Nat.le_trans h.2 hl⟩
theorem CW.Le.mono {c : CW} {k l : Nat} (h : c.Le k) (hl : k ≤ l) : c.Le l := ⟨fun t ht => (h.1 t ht).mono hl, h.2.mono hl⟩
def cw0 : CW := ⟨0, [], ⟨false, [], []⟩⟩
theorem cw0_val (w : World) : ConVal w (.agg #[.int .i64 0, .slice none 0 0, .bool false, .slice none 0 0, .slice none 0 0]) cw0 :=
 ⟨none, 0, 0, _, _, _, rfl, ⟨rfl, Nat.le_refl _, by omega, by omega, fun _ => rfl, fun h => absurd h (by omega)⟩, none, 0, 0, none, 0, 0, rfl, rfl, rfl, Row.nil w, Row.nil w, by omega, by omega⟩
def conOf : Except Nat CQ → CW | .ok c => cwOf c | .error _ => cw0
def errOf {α : Type} : Except Nat α → Nat | .ok _ => 0 | .error x => x
def XE.Val (w : World) : XE → Value → Prop
 | .num q, v => ∃ r v0 v1 v2 nm K kn kc, v = .agg #[.int .i64 1, v0, v1, v2, nm, .slice K kn kc] ∧ RowsAt w r v0 v1 v2 ∧ r.q = q ∧ r.Le 100
 | .name s, v => ∃ v0 v1 v2 K kn kc, v = .agg #[.int .i64 2, v0, v1, v2, .string (str s), .slice K kn kc] ∧ s.length ≤ 140737488355328
 | .neg a, v => ∃ v0 v1 v2 nm b o kn kc c0 c1 c2 c3 c4 c5, v = .agg #[.int .i64 7, v0, v1, v2, nm, .slice (some ⟨b, o, none⟩) kn kc] ∧ 1 ≤ kn ∧ kn ≤ 140737488355328 ∧ b < w.heap.size ∧ CellsAt w b o [c0, c1, c2, c3, c4, c5] ∧ XE.Val w a (.agg #[c0, c1, c2, c3, c4, c5])
 | .bin k a a', v => ∃ v0 v1 v2 nm b o kn kc c0 c1 c2 c3 c4 c5 d0 d1 d2 d3 d4 d5, 3 ≤ k ∧ k ≤ 6 ∧ v = .agg #[.int .i64 (k : Int), v0, v1, v2, nm, .slice (some ⟨b, o, none⟩) kn kc] ∧ 2 ≤ kn ∧ kn ≤ 140737488355328 ∧ b < w.heap.size ∧ CellsAt w b o [c0, c1, c2, c3, c4, c5] ∧ CellsAt w b (o + 6) [d0, d1, d2, d3, d4, d5] ∧ XE.Val w a (.agg #[c0, c1, c2, c3, c4, c5]) ∧ XE.Val w a' (.agg #[d0, d1, d2, d3, d4, d5])
theorem XE.Val.below {w w' : World} (hw : Below w.heap.size w w') : ∀ (e : XE) (v : Value), XE.Val w e v → XE.Val w' e v := by
 intro e
 induction e with
 | num q => intro v ⟨r, v0, v1, v2, nm, K, kn, kc, h1, h2, h3⟩; exact ⟨r, v0, v1, v2, nm, K, kn, kc, h1, h2.below hw, h3⟩
 | name s => intro v h; exact h
 | neg a ih =>
  intro v ⟨v0, v1, v2, nm, b, o, kn, kc, c0, c1, c2, c3, c4, c5, h1, h2, h3, h4, h5, h6⟩
  exact ⟨v0, v1, v2, nm, b, o, kn, kc, c0, c1, c2, c3, c4, c5, h1, h2, h3, Nat.lt_of_lt_of_le h4 hw.size, h5.below h4 hw, ih _ h6⟩
 | bin k a a' ih1 ih2 =>
  intro v ⟨v0, v1, v2, nm, b, o, kn, kc, c0, c1, c2, c3, c4, c5, d0, d1, d2, d3, d4, d5, hk1, hk2, h1, h2, h3, h4, h5, h6, h7, h8⟩
  exact ⟨v0, v1, v2, nm, b, o, kn, kc, c0, c1, c2, c3, c4, c5, d0, d1, d2, d3, d4, d5, hk1, hk2, h1, h2, h3, Nat.lt_of_lt_of_le h4 hw.size, h5.below h4 hw, h6.below h4 hw, ih1 _ h7, ih2 _ h8⟩
theorem XE.Val.six {w : World} {e : XE} {v : Value} (h : XE.Val w e v) : ∃ k v0 v1 v2 nm K kn kc, v = .agg #[.int .i64 k, v0, v1, v2, nm, .slice K kn kc] := by
 cases e with
 | num q => obtain ⟨r, v0, v1, v2, nm, K, kn, kc, h1, _⟩ := h; exact ⟨_, _, _, _, _, _, _, _, h1⟩
 | name s => obtain ⟨v0, v1, v2, K, kn, kc, h1, _⟩ := h; exact ⟨_, _, _, _, _, _, _, _, h1⟩
 | neg a => obtain ⟨v0, v1, v2, nm, b, o, kn, kc, c0, c1, c2, c3, c4, c5, h1, _⟩ := h; exact ⟨_, _, _, _, _, _, _, _, h1⟩
 | bin k a a' => obtain ⟨v0, v1, v2, nm, b, o, kn, kc, c0, c1, c2, c3, c4, c5, d0, d1, d2, d3, d4, d5, hk1, hk2, h1, _⟩ := h; exact ⟨_, _, _, _, _, _, _, _, h1⟩
theorem rv_inv {q : Rat} : rv (rneg q) q.den (rnum q) = q⁻¹ := by
 rw [Rat.inv_def]
 unfold rv
 have e : q.num = sg (rneg q) (rnum q) := (sg_num q).symm
 rw [e]
 unfold sg
 cases rneg q with
 | false =>
  simp only [Bool.false_eq_true, if_false]
  exact (Rat.divInt_ofNat _ _).symm
 | true =>
  simp only [if_true]
  rw [← Rat.divInt_ofNat, Rat.divInt_neg']
theorem one_div_inv (q : Rat) : 1 / q = q⁻¹ := by rw [Rat.div_def, Rat.one_mul]
end Pg
namespace Go.Proofs.YtahdlpkncemmaaaGreat
open Go.RowKit Pg
theorem limbs_mul_len2 {a b k l : Nat} (h1 : (limbs a).length ≤ k) (h2 : (limbs b).length ≤ l) : (limbs (a * b)).length ≤ k + l := length_limbs_le (by
  rw [Nat.pow_add]
  exact Nat.mul_lt_mul'' (Nat.lt_of_lt_of_le (lt_pow_length a) (Nat.pow_le_pow_right (by omega) h1)) (Nat.lt_of_lt_of_le (lt_pow_length b) (Nat.pow_le_pow_right (by omega) h2)))
theorem Short.add {p q : Rat} {k l : Nat} (hp : Short p k) (hq : Short q l) : Short (p + q) (k + l + 1) := by
 have hD : p.den * q.den ≠ 0 := Nat.mul_ne_zero p.den_nz q.den_nz
 have h1 := limbs_mul_len2 hp.1 hq.2
 have h2 := limbs_mul_len2 hq.1 hp.2
 have h3 := limbs_mul_len2 hp.2 hq.2
 rw [Nat.add_comm l k] at h2
 by_cases hs : rneg p = rneg q
 ·rw [← rv_add_same hs]
  exact Short.rv hD (limbs_add_len h1 h2) (by omega)
 ·rcases Nat.lt_or_ge (rnum p * q.den) (rnum q * p.den) with h | h
  ·rw [← rv_add_lt hs h]
   exact Short.rv hD (Nat.le_trans (limbs_mono (Nat.sub_le _ _)) (by omega)) (by omega)
  ·rw [← rv_add_ge hs h]
   exact Short.rv hD (Nat.le_trans (limbs_mono (Nat.sub_le _ _)) (by omega)) (by omega)
theorem Short.one {q : Rat} {k : Nat} (h : Short q k) : 1 ≤ k := by
 have h1 := h.2
 rcases Nat.eq_zero_or_pos k with rfl | h0
 ·have := (tl_top (N := q.den) q.den_nz).1
  omega
 ·exact h0
theorem Short.inv {q : Rat} {k : Nat} (h : Short q k) : Short (q⁻¹) k := by
 by_cases hq : q = 0
 ·subst hq; rw [Rat.inv_zero]; exact h
 ·rw [← rv_inv]
  exact Short.rv (by rw [Ne, rnum_zero_iff]; exact hq) h.2 h.1
theorem Short.val {r : RW} {k : Nat} (h : r.Le k) (hx : Ok r.xs) (hy : Ok r.ys) (hk : 1 ≤ k) : Short r.q k := by
 have l1 : (limbs (Pg.val r.xs)).length ≤ k := by have := tl_le hx; unfold tl at this; have := h.1; omega
 have l2 : (limbs (Pg.val r.ys)).length ≤ k := by have := tl_le hy; unfold tl at this; have := h.2; omega
 by_cases hD : Pg.val r.ys = 0
 ·unfold RW.q
  rw [rv_zero (.inr hD)]
  exact ⟨by rw [rnum_zero, limbs_zero]; simp, by rw [rden_zero, limbs_one]; simpa using hk⟩
 ·exact Short.rv hD l1 l2
def ShortC (c : CQ) (k : Nat) : Prop := (∀ t ∈ c.t, Short t.c k) ∧ Short c.k k
theorem ShortC.mono {c : CQ} {k l : Nat} (h : ShortC c k) (hl : k ≤ l) : ShortC c l := ⟨fun t ht => (h.1 t ht).mono hl, h.2.mono hl⟩
theorem ShortC.le {c : CQ} {k : Nat} (h : ShortC c k) : (cwOf c).Le k := by
 refine ⟨fun t ht => ?_, h.2⟩
 obtain ⟨x, hx, rfl⟩ := List.mem_map.1 ht
 exact h.1 x hx
theorem mem_keep {t x : TQ} {l : List TQ} (h : x ∈ keepT t l) : x = t ∨ x ∈ l := by
 unfold keepT at h
 split at h
 ·exact .inr h
 ·exact List.mem_cons.1 h
theorem mem_foldr_keep {x : TQ} : ∀ {l : List TQ}, x ∈ l.foldr keepT [] → x ∈ l := by
 intro l
 induction l with
 | nil => intro h; exact h
 | cons t l ih =>
  intro h
  rw [List.foldr_cons] at h
  rcases mem_keep h with rfl | h
  ·exact List.mem_cons_self
  ·exact List.mem_cons_of_mem _ (ih h)
theorem shortT_add {k l : Nat} : ∀ a b : List TQ, (∀ t ∈ a, Short t.c k) → (∀ t ∈ b, Short t.c l) → ∀ t ∈ addT a b, Short t.c (k + l + 1) := by
 intro a b
 induction a, b using addT.induct with
 | case1 m => intro _ h t ht; rw [addT] at ht; exact (h t (mem_foldr_keep ht)).mono (by omega)
 | case2 a m => intro h _ t ht; rw [addT] at ht; exact (h t (mem_foldr_keep ht)).mono (by omega)
 | case3 a la b m hv ih =>
  intro h1 h2 t ht
  rw [addT, if_pos hv] at ht
  rcases mem_keep ht with rfl | ht
  ·exact (h1 _ List.mem_cons_self).mono (by omega)
  ·exact ih (fun x hx => h1 x (List.mem_cons_of_mem _ hx)) h2 t ht
 | case4 a la b m hv hv' ih =>
  intro h1 h2 t ht
  rw [addT, if_neg hv, if_pos hv'] at ht
  rcases mem_keep ht with rfl | ht
  ·exact (h2 _ List.mem_cons_self).mono (by omega)
  ·exact ih h1 (fun x hx => h2 x (List.mem_cons_of_mem _ hx)) t ht
 | case5 a la b m hv hv' ih =>
  intro h1 h2 t ht
  rw [addT, if_neg hv, if_neg hv'] at ht
  rcases mem_keep ht with rfl | ht
  ·exact (h1 _ List.mem_cons_self).add (h2 _ List.mem_cons_self)
  ·exact ih (fun x hx => h1 x (List.mem_cons_of_mem _ hx)) (fun x hx => h2 x (List.mem_cons_of_mem _ hx)) t ht
theorem ShortC.add {a b : CQ} {k l : Nat} (ha : ShortC a k) (hb : ShortC b l) : ShortC (addC a b) (k + l + 1) := ⟨shortT_add _ _ ha.1 hb.1, ha.2.add hb.2⟩
theorem ShortC.scale {a : CQ} {q : Rat} {k l : Nat} (ha : ShortC a k) (hq : Short q l) : ShortC (scaleC a q) (k + l) := by
 refine ⟨?_, ha.2.mul hq⟩
 have h := ha.1
 show ∀ t ∈ scaleT a.t q, _
 generalize a.t = L at h
 clear ha
 induction L with
 | nil => intro t ht; simp [scaleT] at ht
 | cons x l ih =>
  intro t ht
  unfold scaleT at ih ht
  rw [List.foldr_cons] at ht
  rcases mem_keep ht with rfl | ht
  ·exact (h x List.mem_cons_self).mul hq
  ·exact ih (fun y hy => h y (List.mem_cons_of_mem _ hy)) t ht
theorem Short.negone {p : Rat} {k : Nat} (h : Short p k) : Short (p * -1) k := by rw [Rat.mul_neg, Rat.mul_one]; exact h.neg
theorem ShortC.negone {a : CQ} {k : Nat} (ha : ShortC a k) : ShortC (scaleC a (-1)) k := by
 refine ⟨?_, ha.2.negone⟩
 have h := ha.1
 show ∀ t ∈ scaleT a.t (-1), _
 generalize a.t = L at h
 clear ha
 induction L with
 | nil => intro t ht; simp [scaleT] at ht
 | cons x l ih =>
  intro t ht
  unfold scaleT at ih ht
  rw [List.foldr_cons] at ht
  rcases mem_keep ht with rfl | ht
  ·exact (h x List.mem_cons_self).negone
  ·exact ih (fun y hy => h y (List.mem_cons_of_mem _ hy)) t ht
def SzX : XE → Nat → Prop
 | .num q, k => Short q k
 | .name _, k => 3 ≤ k
 | .neg a, k => SzX a k
 | .bin _ a b, k => ∃ i j, SzX a i ∧ SzX b j ∧ i + j + 1 ≤ k
theorem SzX.mono : ∀ {e : XE} {k l : Nat}, SzX e k → k ≤ l → SzX e l := by
 intro e
 induction e with
 | num q => intro k l h hl; exact Short.mono h hl
 | name s => intro k l h hl; exact Nat.le_trans h hl
 | neg a ih => intro k l h hl; exact ih h hl
 | bin n a b _ _ => intro k l h hl; obtain ⟨i, j, h1, h2, h3⟩ := h; exact ⟨i, j, h1, h2, by omega⟩
theorem short_zero : Short 0 1 := ⟨by rw [rnum_zero, limbs_zero]; simp, by rw [rden_zero, limbs_one]; simp⟩
theorem short_one : Short 1 1 := ⟨by rw [show rnum 1 = 1 from rfl, limbs_one]; simp, by rw [show (1 : Rat).den = 1 from rfl, limbs_one]; simp⟩
theorem getD_short {l : List Rat} {k : Nat} (h : ∀ q ∈ l, Short q k) (hk : 1 ≤ k) (i : Nat) : Short (l.getD i 0) k := by
 rw [List.getD]
 cases hi : l[i]? with
 | none => exact short_zero.mono hk
 | some q => exact h q (List.mem_of_getElem? hi)
theorem binC_short {n : Nat} {a b c : CQ} {i j : Nat} (h : binC n a b = .ok c) (ha : ShortC a i) (hb : ShortC b j) : ShortC c (i + j + 1) := by
 unfold binC at h
 repeat' split at h
 all_goals first
  | (simp at h; done)
  | (simp only [Except.ok.injEq] at h; subst h; first
    | exact ha.add hb
    | exact ha.add hb.negone
    | exact (ha.scale hb.2).mono (by omega)
    | exact (hb.scale ha.2).mono (by omega)
    | exact (ha.scale (by rw [one_div_inv]; exact hb.2.inv)).mono (by omega))
theorem sumX_short (v : EnvQ) (hv : ∀ q ∈ v.vals, Short q 3) : ∀ (e : XE) (k : Nat) (c : CQ), SzX e k → sumX v e = .ok c → ShortC c k := by
 intro e
 induction e with
 | num q => intro k c hk h; simp only [sumX, Except.ok.injEq] at h; subst h; exact ⟨fun t ht => by simp at ht, hk⟩
 | name s =>
  intro k c hk h
  have hk : 3 ≤ k := hk
  simp only [sumX, nameC] at h
  split at h
  ·simp only [Except.ok.injEq] at h
   subst h
   refine ⟨fun t ht => ?_, short_zero.mono (by omega)⟩
   simp at ht
   subst ht
   exact short_one.mono (by omega)
  ·split at h
   ·simp only [Except.ok.injEq] at h
    subst h
    exact ⟨fun t ht => by simp at ht, (getD_short hv (by omega) _).mono hk⟩
   ·simp at h
 | neg a ih =>
  intro k c hk h
  simp only [sumX] at h
  cases hs : sumX v a with
  | error x => rw [hs] at h; simp at h
  | ok c0 => rw [hs] at h; simp only [Except.ok.injEq] at h; subst h; exact (ih k c0 hk hs).negone
 | bin n a b ih1 ih2 =>
  intro k c ⟨i, j, hi, hj, hk⟩ h
  simp only [sumX] at h
  cases hs : sumX v a with
  | error x => rw [hs] at h; simp at h
  | ok c0 =>
   cases hs2 : sumX v b with
   | error x => rw [hs, hs2] at h; simp at h
   | ok c1 =>
    rw [hs, hs2] at h
    exact (binC_short h (ih1 i c0 hi hs) (ih2 j c1 hj hs2)).mono hk
end Go.Proofs.YtahdlpkncemmaaaGreat
namespace Pg
open Go Go.RowKit
def RHdr.Reads (w : World) (h : RHdr) (q : Rat) : Prop := ∃ xs ys, Row w h.A h.n h.c xs ∧ Row w h.A' h.n' h.c' ys ∧ h.n ≤ 140737488355328 ∧ h.n' ≤ 140737488355328 ∧ rv h.s (val xs) (val ys) = q
theorem RHdr.Reads.below {w w' : World} {h : RHdr} {q : Rat} (hr : RHdr.Reads w h q) (hw : Below w.heap.size w w') : RHdr.Reads w' h q := by
 obtain ⟨xs, ys, r1, r2, r3⟩ := hr
 exact ⟨xs, ys, r1.below hw, r2.below hw, r3⟩
end Pg
namespace Go.Proofs.YtahdlpkncemmaaaGreat
open Go.RowKit Pg
inductive ET where
 | mk (kind : Int) (h : RHdr) (q : Rat) (name : List UInt8) (K : Option Addr) (kn kc : Nat) (kids : List ET)
mutual
def ET.At (w : World) : ET → Nat → Nat → Prop
 | .mk kind h q name K kn kc kids, b, o => CellsAt w b o [.int .i64 kind, .bool h.s, .slice h.A h.n h.c, .slice h.A' h.n' h.c', .string (str name), .slice K kn kc] ∧ RHdr.Reads w h q ∧ name.length ≤ 140737488355328 ∧ kids.length = kn ∧ kn ≤ kc ∧ kn ≤ 140737488355328 ∧ kc ≤ 9223372036854775807 ∧ (0 < kn → ∃ b' o', K = some ⟨b', o', none⟩ ∧ b' < w.heap.size ∧ KidsAt w kids b' o')
def KidsAt (w : World) : List ET → Nat → Nat → Prop
 | [], _, _ => True
 | e :: l, b, o => ET.At w e b o ∧ KidsAt w l b (o + 6)
end
mutual
theorem ET.At.below {w w' : World} (hw : Below w.heap.size w w') : ∀ (e : ET) (b o : Nat), b < w.heap.size → ET.At w e b o → ET.At w' e b o
 | .mk kind h q name K kn kc kids, b, o, hb, hA => by
  unfold ET.At at hA ⊢
  obtain ⟨h1, h2, h3, h4, h5, h6, h7, h8⟩ := hA
  refine ⟨h1.below hb hw, h2.below hw, h3, h4, h5, h6, h7, fun hn => ?_⟩
  obtain ⟨b', o', e, hb', hk⟩ := h8 hn
  exact ⟨b', o', e, Nat.lt_of_lt_of_le hb' hw.size, KidsAt.below hw kids b' o' hb' hk⟩
theorem KidsAt.below {w w' : World} (hw : Below w.heap.size w w') : ∀ (l : List ET) (b o : Nat), b < w.heap.size → KidsAt w l b o → KidsAt w' l b o
 | [], _, _, _, _ => by unfold KidsAt; trivial
 | e :: l, b, o, hb, hA => by
  unfold KidsAt at hA ⊢
  exact ⟨ET.At.below hw e b o hb hA.1, KidsAt.below hw l b (o + 6) hb hA.2⟩
end
theorem KidsAt.get {w : World} : ∀ {l : List ET} {b o : Nat}, KidsAt w l b o → ∀ j x, l[j]? = some x → ET.At w x b (o + j * 6)
 | [], _, _, _, j, x, hj => by simp at hj
 | e :: l, b, o, h, j, x, hj => by
  unfold KidsAt at h
  match j with
  | 0 =>
   simp only [List.getElem?_cons_zero, Option.some.injEq] at hj
   subst hj
   simpa using h.1
  | j + 1 =>
   rw [List.getElem?_cons_succ] at hj
   have := KidsAt.get h.2 j x hj
   rwa [show o + 6 + j * 6 = o + (j + 1) * 6 by omega] at this
theorem KidsAt.of_get {w : World} : ∀ {l : List ET} {b o : Nat}, (∀ j x, l[j]? = some x → ET.At w x b (o + j * 6)) → KidsAt w l b o
 | [], _, _, _ => by unfold KidsAt; trivial
 | e :: l, b, o, h => by
  unfold KidsAt
  refine ⟨by simpa using h 0 e rfl, KidsAt.of_get fun j x hj => ?_⟩
  have := h (j + 1) x (by rw [List.getElem?_cons_succ]; exact hj)
  rwa [show o + 6 + j * 6 = o + (j + 1) * 6 by omega]
end Go.Proofs.YtahdlpkncemmaaaGreat
namespace Go.Proofs.YtahdlpkncemmaaaGreat
open Go.RowKit Pg
section
variable {H : Type} {enc : TypeId × Value → H} {base : Nat} {spare : Nat → Bool} {held : Bool} {w : World}
theorem row_of_trod {m : Nat} {c : Value} {y : DataW H × List MemPlace} (hy : DataW.trod enc Tryz.prog w base spare held m 22 [c] = some y) (hzy : ∀ x ∈ y.1.weights Tryz.prog 22, x ≤ reachBytes) : ∃ A n k xs, c = .slice A n k ∧ Row w A n k xs ∧ n ≤ 140737488355328 := by
 rcases Go.ChangeShapes.open_ints Tryz.underlying22 Tryz.underlying86 (by kernel_rfl) hy with ⟨hcs, _⟩ | ⟨x, l, k, zs, hcs, _, hl, hm, hz, hx, hcell, hwz⟩
 ·simp at hcs
  subst hcs
  exact ⟨_, _, _, _, rfl, Row.nil w, by omega⟩
 ·simp at hcs
  subst hcs
  subst hx
  have hb := hzy ((zs.length) * 4) (by
   unfold DataW.weights
   rw [Tryz.underlying22]
   refine List.mem_cons.2 (.inl ?_)
   have e4 : Tryz.prog.bytesOf 86 = 4 := by kernel_rfl
   rw [e4]
   simp [Go.ChangeShapes.lits]; omega)
  have hlz : l ≤ zs.length := by rw [hz]; split <;> omega
  have hrb := reachBytes_lt
  obtain ⟨xs, hr⟩ := Row.of_read0 (x := x) (len := l) (cap := k) (zs := zs) hl hm hlz hcell hwz
  exact ⟨_, _, _, _, rfl, hr, by omega⟩
theorem hdr_of_trod {m : Nat} {c0 c1 c2 : Value} {y : DataW H × List MemPlace} (hy : DataW.trod enc Tryz.prog w base spare held m 24 [c0, c1, c2] = some y) (hzy : ∀ x ∈ y.1.weights Tryz.prog 24, x ≤ reachBytes) :
  ∃ (h : RHdr) (q : Rat), c0 = .bool h.s ∧ c1 = .slice h.A h.n h.c ∧ c2 = .slice h.A' h.n' h.c' ∧ RHdr.Reads w h q := by
 obtain ⟨xs, n, _, rfl, _, hxl, hg⟩ := DataW.trod_struct Tryz.underlying24 hy
 match xs, hxl with
 | [x0, x1, x2], _ =>
  have g0 := hg 0 _ rfl
  have g1 := hg 1 _ rfl
  have g2 := hg 2 _ rfl
  have e1 : Tryz.prog.cellsOf 4 = 1 := by kernel_rfl
  have e2 : Tryz.prog.cellsOf 22 = 1 := by kernel_rfl
  simp [e1] at g0
  simp [e2] at g1 g2
  have hz1 : ∀ (j : Nat) t (d : DataW H), [4, 22, 22][j]? = some t → [x0.1, x1.1, x2.1][j]? = some d → ∀ x ∈ d.weights Tryz.prog t, x ≤ reachBytes := by
   intro j t d ht hd x hx
   refine hzy x ?_
   unfold DataW.weights
   rw [Tryz.underlying24]
   exact DataW.weights_mem_each ht hd x hx
  obtain ⟨s, e0, _⟩ := DataW.trod_bool Tryz.underlying4 g0
  obtain ⟨A, a, c, us, rfl, r1, l1⟩ := row_of_trod g1 (hz1 1 _ _ rfl rfl)
  obtain ⟨A', a', c', vs, rfl, r2, l2⟩ := row_of_trod g2 (hz1 2 _ _ rfl rfl)
  simp at e0
  exact ⟨⟨s, A, a, c, A', a', c'⟩, _, e0, rfl, rfl, us, vs, r1, r2, l1, l2, rfl⟩
theorem ET.of_trod : ∀ (fuel b o : Nat) (ds : List Value) (y : DataW H × List MemPlace), ds.length = 6 → CellsAt w b o ds → DataW.trod enc Tryz.prog w base spare held fuel 27 ds = some y → (∀ k ∈ y.1.weights Tryz.prog 27, k ≤ reachBytes) → ∃ e, ET.At w e b o := by
 intro fuel
 induction fuel using Nat.strongRecOn with
 | ind fuel ih =>
  intro b o ds y hlen hca hy hzy
  obtain ⟨xs, n, hfu, rfl, _, hxl, hg⟩ := DataW.trod_struct Tryz.underlying27 hy
  match ds, hlen with
  | [c0, c1, c2, c3, c4, c5], _ =>
  match xs, hxl with
  | [x0, x1, x2, x3], _ =>
   have g0 := hg 0 _ rfl
   have g1 := hg 1 _ rfl
   have g2 := hg 2 _ rfl
   have g3 := hg 3 _ rfl
   have e0 : Tryz.prog.cellsOf 3 = 1 := by kernel_rfl
   have e1 : Tryz.prog.cellsOf 24 = 3 := by kernel_rfl
   have e2 : Tryz.prog.cellsOf 9 = 1 := by kernel_rfl
   have e3 : Tryz.prog.cellsOf 25 = 1 := by kernel_rfl
   have e6 : Tryz.prog.cellsOf 27 = 6 := by kernel_rfl
   simp [e0] at g0
   simp [e1] at g1
   simp [e2] at g2
   simp [e3] at g3
   have hz1 : ∀ (j : Nat) t (d : DataW H), [3, 24, 9, 25][j]? = some t → [x0.1, x1.1, x2.1, x3.1][j]? = some d → ∀ x ∈ d.weights Tryz.prog t, x ≤ reachBytes := by
    intro j t d ht hd x hx
    refine hzy x ?_
    unfold DataW.weights
    rw [Tryz.underlying27]
    exact DataW.weights_mem_each ht hd x hx
   obtain ⟨kd, k0, _⟩ := DataW.trod_int Tryz.underlying3 g0
   obtain ⟨h, q, rfl, rfl, rfl, hr⟩ := hdr_of_trod g1 (hz1 1 _ _ rfl rfl)
   obtain ⟨s, k2, hx2, _⟩ := DataW.trod_string Tryz.underlying9 g2
   have hsz := hz1 2 _ _ rfl rfl
   rw [hx2] at hsz
   have hs2 := hsz s.data.toList.length (by simp [DataW.weights])
   have hb4 : Tryz.prog.bytesOf 27 = 104 := by kernel_rfl
   have hby : 0 < Tryz.prog.bytesOf 27 := by rw [hb4]; decide
   obtain ⟨K, kn, kc, l, k3, hsl⟩ := SlAt.of_trod (E := fun w b o e => ET.At w e b o) Tryz.underlying25 e6 (by omega) hby g3 (hz1 3 _ _ rfl rfl) (fun m hm b' o' ds' y' _ hl' hc' ht' hz' => ih m (by omega) b' o' ds' y' hl' hc' ht' hz')
   simp at k0 k2 k3
   subst k0 k2 k3
   obtain ⟨l1, l2, l3, l4, _, l6⟩ := hsl
   have hrb := reachBytes_lt
   refine ⟨.mk kd h q s.data.toList K kn kc l, ?_⟩
   unfold ET.At
   refine ⟨hca, hr, by omega, l1, l2, l3, l4, fun hn => ?_⟩
   obtain ⟨b', o', hK, hb', hk⟩ := l6 hn
   exact ⟨b', o', hK, hb', KidsAt.of_get hk⟩
end
end Go.Proofs.YtahdlpkncemmaaaGreat
namespace Pg
open Go Go.RowKit
open Go.Proofs.YtahdlpkncemmaaaGreat (str)
inductive PT where
 | mk (kind : Int) (r : RW) (name : List UInt8) (kids : List PT)
def RW.norm (r : RW) : Bool := r.s == rneg r.q && r.xs == limbs (rnum r.q) && r.ys == limbs r.q.den
def exactQ (q : Rat) : Bool := (List.range 61).any fun k => rnum q * 10 ^ k % q.den == 0
def largeQ (q : Rat) : Bool := decide (16 < (limbs (rnum q)).length) || decide (16 < (limbs q.den).length)
def isNumR (r : RW) : Bool := r.norm && !r.s && !largeQ r.q && exactQ r.q
def isNoneR (r : RW) : Bool := !r.s && r.xs.isEmpty && (r.ys.isEmpty || r.norm)
def letterB (c : UInt8) : Bool := decide (97 ≤ c.toNat) && decide (c.toNat ≤ 122)
def digitB (c : UInt8) : Bool := decide (48 ≤ c.toNat) && decide (c.toNat ≤ 57)
def innerB (c : UInt8) : Bool := letterB c || digitB c || c.toNat == 95
def isNameB : List UInt8 → Bool
 | [] => false
 | c :: l => decide (l.length < 24) && letterB c && l.all innerB
def kidsOf (k : Int) : Int := if k = 1 ∨ k = 2 then 0 else if k = 7 then 1 else if k = 3 ∨ k = 4 ∨ k = 5 ∨ k = 6 then 2 else -1
def nodeOk (k : Int) (r : RW) (name : List UInt8) (n : Nat) : Bool :=
 decide ((n : Int) = kidsOf k) && (if k = 1 then isNumR r && name.isEmpty else if k = 2 then isNoneR r && isNameB name else isNoneR r && name.isEmpty)
mutual
def PT.ok (deep : Nat) : PT → Bool
 | .mk k r name kids => decide (deep < 32) && nodeOk k r name kids.length && PT.oks (deep + 1) kids
def PT.oks (deep : Nat) : List PT → Bool
 | [] => true
 | e :: l => PT.ok deep e && PT.oks deep l
end
mutual
def PT.nodes : PT → Nat
 | .mk _ _ _ kids => 1 + PT.nodess kids
def PT.nodess : List PT → Nat
 | [] => 0
 | e :: l => PT.nodes e + PT.nodess l
end
mutual
def PT.wt : PT → Nat
 | .mk _ r name kids => 3 + name.length + 8 * r.xs.length + 8 * r.ys.length + PT.wts kids
def PT.wts : List PT → Nat
 | [] => 0
 | e :: l => PT.wt e + PT.wts l
end
def PT.is (t : PT) : Bool := PT.ok 0 t && decide (t.nodes ≤ 256)
mutual
def PT.At (w : World) : PT → Nat → Nat → Prop
 | .mk k r name kids, b, o => ∃ v0 v1 v2 K kc, CellsAt w b o [.int .i64 k, v0, v1, v2, .string (str name), .slice K kids.length kc] ∧ RowsAt w r v0 v1 v2 ∧ name.length ≤ 140737488355328 ∧ kids.length ≤ kc ∧ kids.length ≤ 140737488355328 ∧ (0 < kids.length → ∃ b' o', K = some ⟨b', o', none⟩ ∧ b' < w.heap.size ∧ PT.Ats w kids b' o')
def PT.Ats (w : World) : List PT → Nat → Nat → Prop
 | [], _, _ => True
 | e :: l, b, o => PT.At w e b o ∧ PT.Ats w l b (o + 6)
end
def PT.Val (w : World) (v : Value) : PT → Prop
 | .mk k r name kids => ∃ v0 v1 v2 K kc, v = .agg #[.int .i64 k, v0, v1, v2, .string (str name), .slice K kids.length kc] ∧ RowsAt w r v0 v1 v2 ∧ name.length ≤ 140737488355328 ∧ kids.length ≤ kc ∧ kids.length ≤ 140737488355328 ∧ (0 < kids.length → ∃ b' o', K = some ⟨b', o', none⟩ ∧ b' < w.heap.size ∧ PT.Ats w kids b' o')
theorem PT.At.val {w : World} {t : PT} {b o : Nat} (h : PT.At w t b o) : ∃ c0 c1 c2 c3 c4 c5, CellsAt w b o [c0, c1, c2, c3, c4, c5] ∧ PT.Val w (.agg #[c0, c1, c2, c3, c4, c5]) t := by
 cases t with
 | mk k r name kids =>
  unfold PT.At at h
  obtain ⟨v0, v1, v2, K, kc, h1, h2⟩ := h
  exact ⟨_, _, _, _, _, _, h1, v0, v1, v2, K, kc, rfl, h2⟩
mutual
theorem PT.At.below {w w' : World} (hw : Below w.heap.size w w') : ∀ (t : PT) (b o : Nat), b < w.heap.size → PT.At w t b o → PT.At w' t b o
 | .mk k r name kids, b, o, hb, h => by
  unfold PT.At at h ⊢
  obtain ⟨v0, v1, v2, K, kc, h1, h2, h3, h4, h5, h6⟩ := h
  refine ⟨v0, v1, v2, K, kc, h1.below hb hw, h2.below hw, h3, h4, h5, fun hn => ?_⟩
  obtain ⟨b', o', e, hb', hk⟩ := h6 hn
  exact ⟨b', o', e, Nat.lt_of_lt_of_le hb' hw.size, PT.Ats.below hw kids b' o' hb' hk⟩
theorem PT.Ats.below {w w' : World} (hw : Below w.heap.size w w') : ∀ (l : List PT) (b o : Nat), b < w.heap.size → PT.Ats w l b o → PT.Ats w' l b o
 | [], _, _, _, _ => by unfold PT.Ats; trivial
 | e :: l, b, o, hb, h => by
  unfold PT.Ats at h ⊢
  exact ⟨PT.At.below hw e b o hb h.1, PT.Ats.below hw l b (o + 6) hb h.2⟩
end
theorem PT.Val.below {w w' : World} {v : Value} {t : PT} (h : PT.Val w v t) (hw : Below w.heap.size w w') : PT.Val w' v t := by
 cases t with
 | mk k r name kids =>
  obtain ⟨v0, v1, v2, K, kc, h1, h2, h3, h4, h5, h6⟩ := h
  refine ⟨v0, v1, v2, K, kc, h1, h2.below hw, h3, h4, h5, fun hn => ?_⟩
  obtain ⟨b', o', e, hb', hk⟩ := h6 hn
  exact ⟨b', o', e, Nat.lt_of_lt_of_le hb' hw.size, PT.Ats.below hw kids b' o' hb' hk⟩
theorem PT.Ats.get {w : World} : ∀ {l : List PT} {b o : Nat}, PT.Ats w l b o → ∀ j x, l[j]? = some x → PT.At w x b (o + j * 6)
 | [], _, _, _, j, x, hj => by simp at hj
 | e :: l, b, o, h, j, x, hj => by
  unfold PT.Ats at h
  match j with
  | 0 =>
   simp only [List.getElem?_cons_zero, Option.some.injEq] at hj
   subst hj
   simpa using h.1
  | j + 1 =>
   rw [List.getElem?_cons_succ] at hj
   have := PT.Ats.get h.2 j x hj
   rwa [show o + 6 + j * 6 = o + (j + 1) * 6 by omega] at this
theorem PT.wts_mem {l : List PT} {t : PT} (h : t ∈ l) : t.wt ≤ PT.wts l := by
 induction l with
 | nil => simp at h
 | cons a l ih =>
  unfold PT.wts
  rcases List.mem_cons.1 h with rfl | h
  ·omega
  ·have := ih h; omega
inductive PT.As : PT → XE → Prop
 | num (r : RW) (name : List UInt8) (kids : List PT) : PT.As (.mk 1 r name kids) (.num r.q)
 | name (r : RW) (s : List UInt8) (kids : List PT) : PT.As (.mk 2 r s kids) (.name s)
 | neg (r : RW) (s : List UInt8) (a : PT) (x : XE) : PT.As a x → PT.As (.mk 7 r s [a]) (.neg x)
 | bin (k : Nat) (r : RW) (s : List UInt8) (a b : PT) (x y : XE) : 3 ≤ k → k ≤ 6 → PT.As a x → PT.As b y → PT.As (.mk (k : Int) r s [a, b]) (.bin k x y)
theorem PT.As.val {w : World} {t : PT} {x : XE} (h : PT.As t x) : ∀ v, PT.Val w v t → t.wt ≤ 800 → XE.Val w x v := by
 induction h with
 | num r name kids =>
  intro v ⟨v0, v1, v2, K, kc, h1, h2, h3, _⟩ hwt
  unfold PT.wt at hwt
  exact ⟨r, v0, v1, v2, _, K, _, kc, h1, h2, rfl, by omega, by omega⟩
 | name r s kids =>
  intro v ⟨v0, v1, v2, K, kc, h1, h2, h3, _⟩ _
  exact ⟨v0, v1, v2, K, _, kc, h1, h3⟩
 | neg r s a x ha ih =>
  intro v ⟨v0, v1, v2, K, kc, h1, h2, h3, h4, h5, h6⟩ hwt
  obtain ⟨b', o', rfl, hb', hk⟩ := h6 (by simp)
  unfold PT.Ats at hk
  obtain ⟨c0, c1, c2, c3, c4, c5, hc, hv⟩ := hk.1.val
  unfold PT.wt PT.wts at hwt
  exact ⟨v0, v1, v2, _, b', o', _, kc, c0, c1, c2, c3, c4, c5, h1, by simp, h5, hb', hc, ih _ hv (by omega)⟩
 | bin k r s a b x y hk1 hk2 ha hb ih1 ih2 =>
  intro v ⟨v0, v1, v2, K, kc, h1, h2, h3, h4, h5, h6⟩ hwt
  obtain ⟨b', o', rfl, hb', hk⟩ := h6 (by simp)
  unfold PT.Ats at hk
  obtain ⟨c0, c1, c2, c3, c4, c5, hc, hv⟩ := hk.1.val
  have hk2' := hk.2
  unfold PT.Ats at hk2'
  obtain ⟨d0, d1, d2, d3, d4, d5, hd, hv2⟩ := hk2'.1.val
  unfold PT.wt PT.wts PT.wts at hwt
  exact ⟨v0, v1, v2, _, b', o', _, kc, c0, c1, c2, c3, c4, c5, d0, d1, d2, d3, d4, d5, hk1, hk2, h1, by simp, h5, hb', hc, hd, ih1 _ hv (by omega), ih2 _ hv2 (by omega)⟩
end Pg
namespace Go.Proofs.YtahdlpkncemmaaaGreat
open Go.RowKit Pg
theorem PT.As.sz {w : World} {t : PT} {x : XE} (h : PT.As t x) : ∀ v, PT.Val w v t → SzX x t.wt := by
 induction h with
 | num r name kids =>
  intro v ⟨v0, v1, v2, K, kc, h1, ⟨A, n, c, A', n', c', _, _, _, r1, r2, _⟩, h3, _⟩
  unfold PT.wt
  exact Short.val (k := 3 + name.length + 8 * r.xs.length + 8 * r.ys.length + PT.wts kids) ⟨by omega, by omega⟩ r1.ok r2.ok (by omega)
 | name r s kids =>
  intro v _
  unfold PT.wt
  show 3 ≤ _
  omega
 | neg r s a x ha ih =>
  intro v ⟨v0, v1, v2, K, kc, h1, h2, h3, h4, h5, h6⟩
  obtain ⟨b', o', rfl, hb', hk⟩ := h6 (by simp)
  unfold PT.Ats at hk
  obtain ⟨c0, c1, c2, c3, c4, c5, hc, hv⟩ := hk.1.val
  unfold PT.wt PT.wts
  exact SzX.mono (ih _ hv) (by omega)
 | bin k r s a b x y hk1 hk2 ha hb ih1 ih2 =>
  intro v ⟨v0, v1, v2, K, kc, h1, h2, h3, h4, h5, h6⟩
  obtain ⟨b', o', rfl, hb', hk⟩ := h6 (by simp)
  unfold PT.Ats at hk
  obtain ⟨c0, c1, c2, c3, c4, c5, hc, hv⟩ := hk.1.val
  have hk2' := hk.2
  unfold PT.Ats at hk2'
  obtain ⟨d0, d1, d2, d3, d4, d5, hd, hv2⟩ := hk2'.1.val
  unfold PT.wt PT.wts PT.wts
  exact ⟨_, _, ih1 _ hv, ih2 _ hv2, by omega⟩
mutual
theorem ET.At.pt {w : World} : ∀ (e : ET) (b o : Nat), ET.At w e b o → ∃ t, PT.At w t b o
 | .mk kind h q name K kn kc kids, b, o, hA => by
  unfold ET.At at hA
  obtain ⟨h1, ⟨xs, ys, r1, r2, l1, l2, _⟩, h3, h4, h5, h6, h7, h8⟩ := hA
  by_cases hn : 0 < kn
  ·obtain ⟨b', o', rfl, hb', hk⟩ := h8 hn
   obtain ⟨l, hl, hL⟩ := KidsAt.pt kids b' o' hk
   refine ⟨.mk kind ⟨h.s, xs, ys⟩ name l, ?_⟩
   unfold PT.At
   subst h4
   rw [hl]
   exact ⟨_, _, _, _, _, h1, ⟨_, _, _, _, _, _, rfl, rfl, rfl, r1, r2, l1, l2⟩, h3, h5, h6, fun _ => ⟨b', o', rfl, hb', hL⟩⟩
  ·refine ⟨.mk kind ⟨h.s, xs, ys⟩ name [], ?_⟩
   unfold PT.At
   have e : kn = 0 := by omega
   subst e
   exact ⟨_, _, _, _, _, h1, ⟨_, _, _, _, _, _, rfl, rfl, rfl, r1, r2, l1, l2⟩, h3, Nat.zero_le _, by simp, fun h => absurd h (by simp)⟩
theorem KidsAt.pt {w : World} : ∀ (l : List ET) (b o : Nat), KidsAt w l b o → ∃ m : List PT, m.length = l.length ∧ PT.Ats w m b o
 | [], _, _, _ => ⟨[], rfl, by unfold PT.Ats; trivial⟩
 | e :: l, b, o, h => by
  unfold KidsAt at h
  obtain ⟨t, ht⟩ := ET.At.pt e b o h.1
  obtain ⟨m, hm, hM⟩ := KidsAt.pt l b (o + 6) h.2
  exact ⟨t :: m, by simp [hm], by unfold PT.Ats; exact ⟨ht, hM⟩⟩
end
end Go.Proofs.YtahdlpkncemmaaaGreat
namespace Pg
open Go Go.RowKit
mutual
theorem PT.nodes_le : ∀ t : PT, t.nodes * 3 ≤ t.wt
 | .mk k r name kids => by
  unfold PT.nodes PT.wt
  have := PT.nodess_le kids
  omega
theorem PT.nodess_le : ∀ l : List PT, PT.nodess l * 3 ≤ PT.wts l
 | [] => by unfold PT.nodess; omega
 | e :: l => by
  unfold PT.nodess PT.wts
  have h1 := PT.nodes_le e
  have h2 := PT.nodess_le l
  omega
end
theorem PT.oks_all (d : Nat) : ∀ l : List PT, PT.oks d l = l.all (PT.ok d)
 | [] => rfl
 | e :: l => by
  unfold PT.oks
  rw [List.all_cons, PT.oks_all d l]
theorem PT.nodes_pos (t : PT) : 1 ≤ t.nodes := by
 cases t
 unfold PT.nodes
 omega
theorem PT.nodess_take : ∀ {l : List PT} {j : Nat} {x : PT}, l[j]? = some x → PT.nodess (l.take (j + 1)) = PT.nodess (l.take j) + x.nodes ∧ PT.nodess (l.take (j + 1)) ≤ PT.nodess l
 | [], _, _, h => by simp at h
 | e :: l, 0, x, h => by
  simp only [List.getElem?_cons_zero, Option.some.injEq] at h
  subst h
  simp [PT.nodess]
 | e :: l, j + 1, x, h => by
  rw [List.getElem?_cons_succ] at h
  have ih := PT.nodess_take h
  simp only [List.take_succ_cons, PT.nodess]
  omega
theorem PT.is_light {t : PT} (h : t.wt ≤ 768) : PT.is t = PT.ok 0 t := by
 have := PT.nodes_le t
 unfold PT.is
 rw [decide_eq_true (by omega), Bool.and_true]
theorem PT.wt_row {k : Int} {r : RW} {name : List UInt8} {kids : List PT} : r.xs.length ≤ (PT.mk k r name kids).wt ∧ r.ys.length ≤ (PT.mk k r name kids).wt ∧ name.length ≤ (PT.mk k r name kids).wt ∧ PT.wts kids ≤ (PT.mk k r name kids).wt := by
 unfold PT.wt
 omega
end Pg
