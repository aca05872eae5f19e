/- flt.To and pantographref4.To by rational · Walks. Conditions: those that each theorem names. -/
import Derived.Test.YtahdlpkncemmaaaGreatX20
import Derived.Test.YtahdlpkncemmaaaGreatX17
import Derived.Lib.SmallJoins
import Derived.SizedLaws
set_option maxRecDepth 100000
set_option maxHeartbeats 8000000
set_option linter.unusedSimpArgs false
set_option linter.unusedVariables false
namespace Pg
open Go Go.RowKit
theorem Row.of_read0 {w : World} {x : Addr} {len cap : Nat} {zs : List Int} (hl : len ≤ cap) (hm : cap ≤ maxLen) (hz : len ≤ zs.length) (hc : ∀ i, i < zs.length → w.cell? (x.add i) = some (.int .u32 (zs.getD i 0))) (hw : ∀ n ∈ zs, (Lit.int .u32 n).wf = true) :
  ∃ xs, Row w (some x) len cap xs := by
 obtain ⟨b, o, s⟩ := x
 have hbd : ∀ n ∈ zs, 0 ≤ n ∧ n < 4294967296 := by
  intro n hn
  have := bounds_u32 (hw n hn)
  omega
 refine ⟨(zs.take len).map Int.toNat, by simp; omega, hl, by unfold maxLen at hm; omega, ?_, (fun e => by cases e), fun h0 => ?_⟩
 ·intro x hx
  obtain ⟨n, hn, rfl⟩ := List.mem_map.1 hx
  have := hbd n (List.mem_of_mem_take hn)
  omega
 ·have h0c := hc 0 (by omega)
  have hs : s = none := by simpa [Addr.add] using World.cell?_spot h0c
  subst hs
  refine ⟨b, o, rfl, fun j hj => ?_⟩
  have hj' := hc j (by omega)
  rw [Addr.add_lit] at hj'
  rw [hj']
  have hjz : j < zs.length := by omega
  have hb := hbd zs[j] (List.getElem_mem hjz)
  have e1 : zs.getD j 0 = zs[j] := by simp [List.getD, hjz]
  have e2 : lim ((zs.take len).map Int.toNat) j = zs[j].toNat := by simp [lim, List.getD, hj, hjz]
  rw [e1, e2]
  congr 2
  omega
end Pg
namespace Go.Proofs.YtahdlpkncemmaaaGreat
open Go.RowKit Pg
theorem Short.blen {q : Rat} {k : Nat} (h : Short q k) : Pg.blen (rnum q) ≤ 32 * k ∧ Pg.blen q.den ≤ 32 * k := by
 have key : ∀ N, (limbs N).length ≤ k → Pg.blen N ≤ 32 * k := fun N hN => blen_upto (by
  have h1 := Nat.lt_of_lt_of_le (lt_pow_length N) (Nat.pow_le_pow_right (by omega) hN)
  rwa [base_pow] at h1)
 exact ⟨key _ h.1, key _ h.2⟩
theorem Short.mono {q : Rat} {k l : Nat} (h : Short q k) (hl : k ≤ l) : Short q l := ⟨Nat.le_trans h.1 hl, Nat.le_trans h.2 hl⟩
theorem RArg.mono {w : World} {v : Value} {q : Rat} {k l : Nat} (h : RArg w v q k) (hl : k ≤ l) : RArg w v q l := by
 obtain ⟨s, A, n, c, A', n', c', xs, ys, e, h1, h2, h3, h4, h5⟩ := h
 exact ⟨s, A, n, c, A', n', c', xs, ys, e, h1, h2, Nat.le_trans h3 hl, Nat.le_trans h4 hl, h5⟩
theorem Short.mul {p q : Rat} {k l : Nat} (hp : Short p k) (hq : Short q l) : Short (p * q) (k + l) := by
 rw [rv_mul]
 have hD : p.den * q.den ≠ 0 := Nat.mul_ne_zero p.den_nz q.den_nz
 have key : ∀ {a b : Nat}, (limbs a).length ≤ k → (limbs b).length ≤ l → (limbs (a * b)).length ≤ k + l := fun {a b} h1 h2 => length_limbs_le (by
  rw [Nat.pow_add]
  exact Nat.mul_lt_mul'' (Nat.lt_of_lt_of_le (lt_pow_length a) (Nat.pow_le_pow_right (by omega) h1)) (Nat.lt_of_lt_of_le (lt_pow_length b) (Nat.pow_le_pow_right (by omega) h2)))
 unfold Short
 rw [rv_num _ _ hD, rv_den _ _ hD]
 exact ⟨Nat.le_trans (limbs_mono (Nat.div_le_self _ _)) (key hp.1 hq.1), Nat.le_trans (limbs_mono (Nat.div_le_self _ _)) (key hp.2 hq.2)⟩
theorem Short.rv {s : Bool} {N D k : Nat} (hD : D ≠ 0) (h1 : (limbs N).length ≤ k) (h2 : (limbs D).length ≤ k) : Short (rv s N D) k := by
 unfold Short
 rw [rv_num _ _ hD, rv_den _ _ hD]
 exact ⟨Nat.le_trans (limbs_mono (Nat.div_le_self _ _)) h1, Nat.le_trans (limbs_mono (Nat.div_le_self _ _)) h2⟩
theorem RArg.of_trod {H : Type} {enc : TypeId × Value → H} {r : Reach} {b0 base : Nat} {spare : Nat → Bool} {held : Bool} {w : World} {v : Value} {d : DataW H} {p : List MemPlace} (hv : Value.okWide Tryz.prog w r b0 24 v) (h : DataW.Trod enc Tryz.prog w base spare held 24 v d p)
  (hz : ∀ x ∈ d.weights Tryz.prog 24, x ≤ reachBytes) : ∃ q, RArg w v q 140737488355328 := by
 obtain ⟨c0, c1, c2, y0, y1, y2, m, rfl, rfl, rfl, h0, h1, h2⟩ := Go.Joins.open_agg3 Tryz.underlying24 (by kernel_rfl) (by kernel_rfl) hv h
 have hz1 : ∀ (j : Nat) t (d : DataW H), [4, 22, 22][j]? = some t → [y0.1, y1.1, y2.1][j]? = some d → ∀ x ∈ d.weights Tryz.prog t, x ≤ reachBytes := by
  intro j t d ht hd x hx
  refine hz x ?_
  unfold DataW.weights
  rw [Tryz.underlying24]
  exact DataW.weights_mem_each ht hd x hx
 obtain ⟨s, e0, rfl⟩ := DataW.trod_bool Tryz.underlying4 h0
 have key : ∀ {c : Value} {y : DataW H × List MemPlace}, DataW.trod enc Tryz.prog w base spare held m 22 [c] = some y → (∀ x ∈ y.1.weights Tryz.prog 22, x ≤ reachBytes) → ∃ A n k xs, c = .slice A n k ∧ Row w A n k xs ∧ n ≤ 140737488355328 := by
  intro c y hy hzy
  rcases Go.ChangeShapes.open_ints Tryz.underlying22 Tryz.underlying86 (by kernel_rfl) hy with ⟨hcs, _⟩ | ⟨x, l, k, zs, hcs, _, hl, hm, hz, hx, hcell, hwz⟩
  ·simp at hcs
   subst hcs
   exact ⟨_, _, _, _, rfl, Row.nil w, by omega⟩
  ·simp at hcs
   subst hcs
   subst hx
   have hb := hzy ((zs.length) * 4) (by
    unfold DataW.weights
    rw [Tryz.underlying22]
    refine List.mem_cons.2 (.inl ?_)
    have e4 : Tryz.prog.bytesOf 86 = 4 := by kernel_rfl
    rw [e4]
    simp [Go.ChangeShapes.lits]; omega)
   have hlz : l ≤ zs.length := by rw [hz]; split <;> omega
   have hrb := reachBytes_lt
   obtain ⟨xs, hr⟩ := Row.of_read0 (x := x) (len := l) (cap := k) (zs := zs) hl hm hlz hcell hwz
   exact ⟨_, _, _, _, rfl, hr, by omega⟩
 obtain ⟨A, n, c, xs, rfl, hr, hn⟩ := key h1 (hz1 1 _ _ rfl rfl)
 obtain ⟨A', n', c', ys, rfl, hr', hn'⟩ := key h2 (hz1 2 _ _ rfl rfl)
 simp at e0
 subst e0
 exact ⟨_, RArg.mk hr hr' hn hn'⟩
end Go.Proofs.YtahdlpkncemmaaaGreat
namespace Pg
theorem rneg_int (n : Int) : rneg (n : Rat) = decide (n < 0) := by unfold rneg; rw [decide_eq_decide]; simp
theorem rnum_int (n : Int) : rnum (n : Rat) = n.natAbs := by unfold rnum; simp
theorem rden_int (n : Int) : (n : Rat).den = 1 := by simp
theorem rnum_len (q : Rat) : ((limbs (rnum q)).length = 0) ↔ q = 0 := by
 constructor
 ·intro h
  exact rnum_zero_iff.1 (Classical.byContradiction fun h0 => by have := (tl_top h0).1; omega)
 ·rintro rfl; rfl
theorem rnum_len_b (q : Rat) : decide (((limbs (rnum q)).length : Int) = 0) = decide (q = 0) := by
 rw [decide_eq_decide, ← rnum_len]; omega
end Pg
namespace Go.Proofs.YtahdlpkncemmaaaGreat
open Go.RowKit Pg
theorem Of_I (n : Nat) (w : World) (z : Int) (hz : z = (n : Int)) (hn : n < 18446744073709551616) : Calls Tryz.prog 68 #[.int .u64 z] w (Ret w n) := by
 subst hz; exact Of_any n w hn
theorem field_N (b : Bool) (A A' : Option Addr) (n c n' c' : Nat) (W : World) : (Instr.field 24 (.agg #[.bool b, .slice A n c, .slice A' n' c']) 1).run Tryz.prog W = .ok (.slice A n c) W := by kernel_rfl
theorem Int_any (n : Int) (w : World) (h1 : -9223372036854775808 ≤ n) (h2 : n ≤ 9223372036854775807) :
  Calls Tryz.prog 58 #[.int .i64 n] w (RatRet w (n : Rat)) := by
 have HB := hid (B3.new w 24 (.bool false) (.slice none 0 0) (.slice none 0 0))
 have q1 := rneg_int n
 have q2 := rnum_int n
 have q3 := rden_int n
 generalize (n : Rat) = q at *
 obtain ⟨N, hN⟩ : ∃ N : Nat, n.natAbs = N := ⟨_, rfl⟩
 rw [hN] at q2
 by_cases hn : n < 0
 ·have hnN : n = -(N : Int) := by omega
  rw [decide_eq_true hn] at q1
  have Q := hid (And.intro q1 (And.intro q2 q3))
  clear q1 q2 q3
  have hN1 : 1 ≤ N := by omega
  have hN2 : N ≤ 9223372036854775808 := by omega
  subst hnN
  clear hN
  have w1 : IntKind.u64.wrap (-(N : Int)) = 18446744073709551616 - (N : Int) := by
   rw [IntKind.wrap_u64]; omega
  have w2 : IntKind.u64.wrap (-(18446744073709551616 - (N : Int))) = (N : Int) := by
   rw [IntKind.wrap_u64]; omega
  go_enter Tryz.func58, Tryz.ntmps58
  go_wp2_with (first
   | (go_at_call 68; refine (Of_I N _ _ (by omega) (by omega)).mono ?_; rintro e w3 ⟨A3, c3, rfl, hr3, hb3⟩)
   | (go_at_call 68; refine (Of_I 1 _ _ (by omega) (by omega)).mono ?_; rintro e w5 ⟨A5, c5, rfl, hr5, hb5⟩; have hBr : B3 w5 w.heap.size 24 (.bool false) (.slice none 0 0) (.slice none 0 0) := (by repeat first | exact (HB).out | refine B3.below ?_ (by assumption) | refine B3.drew ?_ | refine B3.alloc ?_ _); obtain ⟨k0, k1, k2, f0, f1, f2⟩ := hBr.cells))
  refine bodyPost_ret (by have q0 := fun u0 u1 u2 => (hBr.set u0 u1 u2).cells.1; have q1 := fun u0 u1 u2 => (hBr.set u0 u1 u2).cells.2.1; have q2 := fun u0 u1 u2 => (hBr.set u0 u1 u2).cells.2.2.1; simp [results, Tryz.results58, go_sem, q0, q1, q2]) rfl (RatRet.put hBr (Nat.le_refl _) Pg.bel Q.out.1.symm Q.out.2.1.symm Q.out.2.2.symm (by repeat first | assumption | apply Pg.Row.below (hb := by assumption) | apply Pg.Row.alloc | apply Pg.Row.drewN) hr5 rfl rfl)
 ·have hnN : n = (N : Int) := by omega
  rw [decide_eq_false hn] at q1
  have Q := hid (And.intro q1 (And.intro q2 q3))
  clear q1 q2 q3
  have hN2 : N ≤ 9223372036854775807 := by omega
  subst hnN
  clear hN
  go_enter Tryz.func58, Tryz.ntmps58
  go_wp2_with (first
   | (go_at_call 68; refine (Of_I N _ _ (by omega) (by omega)).mono ?_; rintro e w3 ⟨A3, c3, rfl, hr3, hb3⟩)
   | (go_at_call 68; refine (Of_I 1 _ _ (by omega) (by omega)).mono ?_; rintro e w5 ⟨A5, c5, rfl, hr5, hb5⟩; have hBr : B3 w5 w.heap.size 24 (.bool false) (.slice none 0 0) (.slice none 0 0) := (by repeat first | exact (HB).out | refine B3.below ?_ (by assumption) | refine B3.drew ?_ | refine B3.alloc ?_ _); obtain ⟨k0, k1, k2, f0, f1, f2⟩ := hBr.cells))
  refine bodyPost_ret (by have q0 := fun u0 u1 u2 => (hBr.set u0 u1 u2).cells.1; have q1 := fun u0 u1 u2 => (hBr.set u0 u1 u2).cells.2.1; have q2 := fun u0 u1 u2 => (hBr.set u0 u1 u2).cells.2.2.1; simp [results, Tryz.results58, go_sem, q0, q1, q2]) rfl (RatRet.put hBr (Nat.le_refl _) Pg.bel Q.out.1.symm Q.out.2.1.symm Q.out.2.2.symm (by repeat first | assumption | apply Pg.Row.below (hb := by assumption) | apply Pg.Row.alloc | apply Pg.Row.drewN) hr5 rfl rfl)
theorem Zero_R {va : Value} {p : Rat} {k : Nat} (w : World) (ha : RArg w va p k) (hk : k ≤ 262144) :
  Calls Tryz.prog 41 #[va] w fun e w' => e = .returned (.bool (decide (p = 0))) ∧ Below w.heap.size w w' := by
 obtain ⟨s, A, n, c, A', n', c', xs, ys, rfl, h, h', hn, hn', hp⟩ := ha
 have hP := fun W (hW : Below w.heap.size w W) => Rnorm_any s A A' n c n' c' xs ys W (h.below hW) (h'.below hW) (by omega) (by omega)
 rw [hp] at hP
 have HP := hid hP
 have HZ := hid (rnum_len_b p)
 generalize decide (p = 0) = E at *
 clear hP h h' hp
 have HX := hid (B3.new w 24 (.bool s) (.slice A n c) (.slice A' n' c'))
 obtain ⟨k0, k1, k2, _, _, _⟩ := HX.out.cells
 go_enter Tryz.func41, Tryz.ntmps41
 go_wp2_with (go_at_call 40; refine (HP.out _ Pg.bel).mono ?_; rintro e w1 ⟨A1, c1, A2, c2, rfl, hr1, hr2, hb1⟩; have qf := fun W => field_N (rneg p) A1 A2 (limbs (rnum p)).length c1 (limbs p.den).length c2 W)
 go_ret
 exact ⟨by rw [← HZ.out]; rfl, Pg.bel⟩
theorem r2Zero_R {va : Value} {p : Rat} {k : Nat} (w : World) (ha : RArg w va p k) (hk : k ≤ 262144) :
  Calls Tryz.prog 77 #[va] w fun e w' => e = .returned (.bool (decide (p = 0))) ∧ Below w.heap.size w w' := by
 obtain ⟨s, A, n, c, A', n', c', xs, ys, rfl, h, h', hn, hn', hp⟩ := ha
 have hP := fun W (hW : Below w.heap.size w W) => r2Norm_any s A A' n c n' c' xs ys W (h.below hW) (h'.below hW) (by omega) (by omega)
 rw [hp] at hP
 have HP := hid hP
 have HZ := hid (rnum_len_b p)
 generalize decide (p = 0) = E at *
 clear hP h h' hp
 have HX := hid (B3.new w 24 (.bool s) (.slice A n c) (.slice A' n' c'))
 obtain ⟨k0, k1, k2, _, _, _⟩ := HX.out.cells
 go_enter Tryz.func77, Tryz.ntmps77
 go_wp2_with (go_at_call 46; refine (HP.out _ Pg.bel).mono ?_; rintro e w1 ⟨A1, c1, A2, c2, rfl, hr1, hr2, hb1⟩; have qf := fun W => field_N (rneg p) A1 A2 (limbs (rnum p)).length c1 (limbs p.den).length c2 W)
 go_ret
 exact ⟨by rw [← HZ.out]; rfl, Pg.bel⟩
end Go.Proofs.YtahdlpkncemmaaaGreat
