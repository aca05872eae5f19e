/- Walk · Walks. Conditions: those that each theorem names. -/
import Derived.Test.YtahdlpkncemmaaaW32
import Derived.Test.YtahdlpkncemmaaaW33
set_option maxRecDepth 100000
set_option maxHeartbeats 8000000
set_option linter.unusedSimpArgs false
set_option linter.unusedVariables false
namespace Go.Proofs.Ytahdlpkncemmaaa
open Go.RowKit Pg
end Go.Proofs.Ytahdlpkncemmaaa
namespace Pg
open Go Go.RowKit
theorem valAt_out {l : List Rat} {i : Int} (h : i < 0 ∨ (l.length : Int) ≤ i) : valAt l i = 0 := by
 unfold valAt
 split
 ·rw [List.getD_eq_getElem?_getD, List.getElem?_eq_none (by omega)]; rfl
 ·rfl
theorem valAt_in {l : List Rat} {i : Nat} {q : Rat} (h : l[i]? = some q) : valAt l (i : Int) = q := by
 unfold valAt
 rw [if_pos (by omega), List.getD_eq_getElem?_getD, Int.toNat_natCast, h]; rfl
theorem ratU0 : noU [.bool false, .slice none 0 0, .slice none 0 0] := noU_bool (noU_slice (noU_slice noU_nil))
end Pg
namespace Go.Proofs.Ytahdlpkncemmaaa
open Go.RowKit Pg
theorem value_Q {A : Option Addr} {n c k : Nat} {l : List RW} (w : World) (hS : SlAt 3 RawAt w A n c l) (hl : ∀ r ∈ l, r.Le k) (hk : k ≤ 262144) (hk1 : 1 ≤ k) (i : Int) {q : Rat} (hq : valAt (l.map RW.q) i = q) :
  Calls Try.prog 58 #[.slice A n c, .int .i64 i] w (RetQ w q) := by
 have HZ := hid (Bs.new w 25 [.bool false, .slice none 0 0, .slice none 0 0] _ rfl)
 obtain ⟨e1, e2, e3, e4, _, e6⟩ := hS
 by_cases h0 : i < 0
 ·have hz : q = 0 := hq.symm.trans (valAt_out (.inl h0))
  subst hz
  have hd : decide (i < 0) = true := decide_eq_true h0
  clear hq e1 e6
  go_enter Try.func58, Try.ntmps58
  go_wp2_with (go_at_call 47; (with_reducible refine (Int_Q 0 _ (by omega) (by omega) rfl).mono ?_); rintro e w2 ⟨y, rfl, hy, hb2⟩; have HB := HZ.out.below hb2; have f0 := HB.frozen 0; have f1 := HB.frozen 1; have f2 := HB.frozen 2; have z0 := HB.cell 0 rfl; have z1 := HB.cell 1 rfl; have z2 := HB.cell 2 rfl)
  refine bp_world (F := Stored w2 w.heap.size 25 [.bool y.s, .slice y.A y.n y.c, .slice y.A' y.n' y.c']) (stored3 HB) ?_
  rintro wz ⟨HS, ks, ss⟩
  have q0 := HS.cell 0 rfl
  have q1 := HS.cell 1 rfl
  have q2 := HS.cell 2 rfl
  refine bodyPost_ret (v := .agg #[.bool y.s, .slice y.A y.n y.c, .slice y.A' y.n' y.c']) (by simp [results, Try.results58, go_sem, q0, q1, q2]) rfl ?_
  exact ⟨y, rfl, hy.kp (Kp.stored (B := 0) HB ratU0 ks (Nat.zero_le _)), (Below.then_ (Below.new_ (Below.refl _ _) _) hb2).trans (Below.kept ks (Nat.le_refl _) (by have := HB.lt; omega))⟩
 ·obtain ⟨j, rfl⟩ : ∃ j : Nat, i = (j : Int) := ⟨i.toNat, by omega⟩
  by_cases h1 : j < n
  ·obtain ⟨b', o', rfl, hbl, hx⟩ := e6 (by omega)
   obtain ⟨r, hr⟩ : ∃ r, l[j]? = some r := ⟨l[j]'(by omega), List.getElem?_eq_getElem _⟩
   have hz : q = r.q := hq.symm.trans (valAt_in (by rw [List.getElem?_map, hr]; rfl))
   subst hz
   obtain ⟨v0, v1, v2, hca, hrr⟩ := hx j r hr
   obtain ⟨u, rfl, rfl, rfl, hru⟩ := rows_rv hrr
   have hrm := hl r (List.mem_of_getElem? hr)
   have HN := hid fun W (hW : Below w.heap.size w W) => Norm_Q W (hru.below hW) hrm hk hk1
   have hcb := hca.below hbl (Below.new_ (Below.refl _ _) (.cells #[.bool false, .slice none 0 0, .slice none 0 0] 25))
   have c0 : (w.alloc (.cells #[.bool false, .slice none 0 0, .slice none 0 0] 25)).cell? ⟨b', o' + j * 3, none⟩ = some (.bool u.s) := hcb.at_ 0 rfl
   have c1 := hcb.at_ 1 rfl
   have c2 := hcb.at_ 2 rfl
   clear hq e1 e6 hx hr hca hcb hrr hru h0
   have hd : decide ((j : Int) < 0) = false := decide_eq_false (by omega)
   go_enter Try.func58, Try.ntmps58
   go_wp2_with (go_at_call 14; (with_reducible refine (HN.out _ Pg.bel).mono ?_); rintro e w2 ⟨y, rfl, hy, hb2⟩; clear c0 c1 c2; have HB := HZ.out.below hb2; have f0 := HB.frozen 0; have f1 := HB.frozen 1; have f2 := HB.frozen 2; have z0 := HB.cell 0 rfl; have z1 := HB.cell 1 rfl; have z2 := HB.cell 2 rfl)
   refine bp_world (F := Stored w2 w.heap.size 25 [.bool y.s, .slice y.A y.n y.c, .slice y.A' y.n' y.c']) (stored3 HB) ?_
   rintro wz ⟨HS, ks, ss⟩
   have q0 := HS.cell 0 rfl
   have q1 := HS.cell 1 rfl
   have q2 := HS.cell 2 rfl
   refine bodyPost_ret (v := .agg #[.bool y.s, .slice y.A y.n y.c, .slice y.A' y.n' y.c']) (by simp [results, Try.results58, go_sem, q0, q1, q2]) rfl ?_
   exact ⟨y, rfl, hy.kp (Kp.stored (B := 0) HB ratU0 ks (Nat.zero_le _)), (Below.then_ (Below.new_ (Below.refl _ _) _) hb2).trans (Below.kept ks (Nat.le_refl _) (by have := HB.lt; omega))⟩
  ·have hz : q = 0 := hq.symm.trans (valAt_out (.inr (by rw [List.length_map]; omega)))
   subst hz
   clear hq e1 e6
   have hd : decide ((j : Int) < 0) = false := decide_eq_false (by omega)
   go_enter Try.func58, Try.ntmps58
   go_wp2_with (go_at_call 47; (with_reducible refine (Int_Q 0 _ (by omega) (by omega) rfl).mono ?_); rintro e w2 ⟨y, rfl, hy, hb2⟩; have HB := HZ.out.below hb2; have f0 := HB.frozen 0; have f1 := HB.frozen 1; have f2 := HB.frozen 2; have z0 := HB.cell 0 rfl; have z1 := HB.cell 1 rfl; have z2 := HB.cell 2 rfl)
   refine bp_world (F := Stored w2 w.heap.size 25 [.bool y.s, .slice y.A y.n y.c, .slice y.A' y.n' y.c']) (stored3 HB) ?_
   rintro wz ⟨HS, ks, ss⟩
   have q0 := HS.cell 0 rfl
   have q1 := HS.cell 1 rfl
   have q2 := HS.cell 2 rfl
   refine bodyPost_ret (v := .agg #[.bool y.s, .slice y.A y.n y.c, .slice y.A' y.n' y.c']) (by simp [results, Try.results58, go_sem, q0, q1, q2]) rfl ?_
   exact ⟨y, rfl, hy.kp (Kp.stored (B := 0) HB ratU0 ks (Nat.zero_le _)), (Below.then_ (Below.new_ (Below.refl _ _) _) hb2).trans (Below.kept ks (Nat.le_refl _) (by have := HB.lt; omega))⟩
theorem short_of_at {w : World} {A : Option Addr} {n c k : Nat} {l : List RW} (hS : SlAt 3 RawAt w A n c l) (hl : ∀ r ∈ l, r.Le k) (hk : 1 ≤ k) : ∀ q ∈ l.map RW.q, Short q k := by
 intro q hq
 obtain ⟨r, hr, rfl⟩ := List.mem_map.1 hq
 obtain ⟨j, hj⟩ := List.getElem?_of_mem hr
 obtain ⟨e1, _, _, _, _, e6⟩ := hS
 obtain ⟨b', o', rfl, hbl, hx⟩ := e6 (by have := (List.getElem?_eq_some_iff.1 hj).1; omega)
 obtain ⟨v0, v1, v2, _, hrr⟩ := hx j r hj
 exact (rows_arg hrr (hl r hr)).short hk
end Go.Proofs.Ytahdlpkncemmaaa
