/- flt.To and pantographref4.To by rational · Walks · Walks. Conditions: those that each theorem names. -/
import Derived.Test.YtahdlpkncemmaaaW20
import Derived.Test.YtahdlpkncemmaaaW17
import Derived.Lib.SmallJoins
import Derived.SizedLaws
set_option maxRecDepth 100000
set_option maxHeartbeats 8000000
set_option linter.unusedSimpArgs false
set_option linter.unusedVariables false
namespace Pg
open Go Go.RowKit
theorem Row.of_read0 {w : World} {x : Addr} {len cap : Nat} {zs : List Int} (hl : len ≤ cap) (hm : cap ≤ maxLen) (hz : len ≤ zs.length) (hc : ∀ i, i < zs.length → w.cell? (x.add i) = some (.int .u32 (zs.getD i 0))) (hw : ∀ n ∈ zs, (Lit.int .u32 n).wf = true) :
  ∃ xs, Row w (some x) len cap xs := by
 obtain ⟨b, o, s⟩ := x
 have hbd : ∀ n ∈ zs, 0 ≤ n ∧ n < 4294967296 := by
  intro n hn
  have := bounds_u32 (hw n hn)
  omega
 refine ⟨(zs.take len).map Int.toNat, by simp; omega, hl, by unfold maxLen at hm; omega, ?_, (fun e => by cases e), fun h0 => ?_⟩
 ·intro x hx
  obtain ⟨n, hn, rfl⟩ := List.mem_map.1 hx
  have := hbd n (List.mem_of_mem_take hn)
  omega
 ·have h0c := hc 0 (by omega)
  have hs : s = none := by simpa [Addr.add] using World.cell?_spot h0c
  subst hs
  refine ⟨b, o, rfl, fun j hj => ?_⟩
  have hj' := hc j (by omega)
  rw [Addr.add_lit] at hj'
  rw [hj']
  have hjz : j < zs.length := by omega
  have hb := hbd zs[j] (List.getElem_mem hjz)
  have e1 : zs.getD j 0 = zs[j] := by simp [List.getD, hjz]
  have e2 : lim ((zs.take len).map Int.toNat) j = zs[j].toNat := by simp [lim, List.getD, hj, hjz]
  rw [e1, e2]
  congr 2
  omega
end Pg
namespace Go.Proofs.Ytahdlpkncemmaaa
open Go.RowKit Pg
theorem Short.blen {q : Rat} {k : Nat} (h : Short q k) : Pg.blen (rnum q) ≤ 32 * k ∧ Pg.blen q.den ≤ 32 * k := by
 have key : ∀ N, (limbs N).length ≤ k → Pg.blen N ≤ 32 * k := fun N hN => blen_upto (by
  have h1 := Nat.lt_of_lt_of_le (lt_pow_length N) (Nat.pow_le_pow_right (by omega) hN)
  rwa [base_pow] at h1)
 exact ⟨key _ h.1, key _ h.2⟩
theorem Short.mono {q : Rat} {k l : Nat} (h : Short q k) (hl : k ≤ l) : Short q l := ⟨Nat.le_trans h.1 hl, Nat.le_trans h.2 hl⟩
theorem RArg.mono {w : World} {v : Value} {q : Rat} {k l : Nat} (h : RArg w v q k) (hl : k ≤ l) : RArg w v q l := by
 obtain ⟨s, A, n, c, A', n', c', xs, ys, e, h1, h2, h3, h4, h5⟩ := h
 exact ⟨s, A, n, c, A', n', c', xs, ys, e, h1, h2, Nat.le_trans h3 hl, Nat.le_trans h4 hl, h5⟩
theorem Short.mul {p q : Rat} {k l : Nat} (hp : Short p k) (hq : Short q l) : Short (p * q) (k + l) := by
 rw [rv_mul]
 have hD : p.den * q.den ≠ 0 := Nat.mul_ne_zero p.den_nz q.den_nz
 have key : ∀ {a b : Nat}, (limbs a).length ≤ k → (limbs b).length ≤ l → (limbs (a * b)).length ≤ k + l := fun {a b} h1 h2 => length_limbs_le (by
  rw [Nat.pow_add]
  exact Nat.mul_lt_mul'' (Nat.lt_of_lt_of_le (lt_pow_length a) (Nat.pow_le_pow_right (by omega) h1)) (Nat.lt_of_lt_of_le (lt_pow_length b) (Nat.pow_le_pow_right (by omega) h2)))
 unfold Short
 rw [rv_num _ _ hD, rv_den _ _ hD]
 exact ⟨Nat.le_trans (limbs_mono (Nat.div_le_self _ _)) (key hp.1 hq.1), Nat.le_trans (limbs_mono (Nat.div_le_self _ _)) (key hp.2 hq.2)⟩
theorem Short.rv {s : Bool} {N D k : Nat} (hD : D ≠ 0) (h1 : (limbs N).length ≤ k) (h2 : (limbs D).length ≤ k) : Short (rv s N D) k := by
 unfold Short
 rw [rv_num _ _ hD, rv_den _ _ hD]
 exact ⟨Nat.le_trans (limbs_mono (Nat.div_le_self _ _)) h1, Nat.le_trans (limbs_mono (Nat.div_le_self _ _)) h2⟩
theorem RArg.of_trod {H : Type} {enc : TypeId × Value → H} {r : Reach} {b0 base : Nat} {spare : Nat → Bool} {held : Bool} {w : World} {v : Value} {d : DataW H} {p : List MemPlace} (hv : Value.okWide Try.prog w r b0 25 v) (h : DataW.Trod enc Try.prog w base spare held 25 v d p)
  (hz : ∀ x ∈ d.weights Try.prog 25, x ≤ reachBytes) : ∃ q, RArg w v q 140737488355328 := by
 obtain ⟨c0, c1, c2, y0, y1, y2, m, rfl, rfl, rfl, h0, h1, h2⟩ := Go.Joins.open_agg3 Try.underlying25 (by kernel_rfl) (by kernel_rfl) hv h
 have hz1 : ∀ (j : Nat) t (d : DataW H), [4, 23, 23][j]? = some t → [y0.1, y1.1, y2.1][j]? = some d → ∀ x ∈ d.weights Try.prog t, x ≤ reachBytes := by
  intro j t d ht hd x hx
  refine hz x ?_
  unfold DataW.weights
  rw [Try.underlying25]
  exact DataW.weights_mem_each ht hd x hx
 obtain ⟨s, e0, rfl⟩ := DataW.trod_bool Try.underlying4 h0
 have key : ∀ {c : Value} {y : DataW H × List MemPlace}, DataW.trod enc Try.prog w base spare held m 23 [c] = some y → (∀ x ∈ y.1.weights Try.prog 23, x ≤ reachBytes) → ∃ A n k xs, c = .slice A n k ∧ Row w A n k xs ∧ n ≤ 140737488355328 := by
  intro c y hy hzy
  rcases Go.ChangeShapes.open_ints Try.underlying23 Try.underlying44 (by kernel_rfl) hy with ⟨hcs, _⟩ | ⟨x, l, k, zs, hcs, _, hl, hm, hz, hx, hcell, hwz⟩
  ·simp at hcs
   subst hcs
   exact ⟨_, _, _, _, rfl, Row.nil w, by omega⟩
  ·simp at hcs
   subst hcs
   subst hx
   have hb := hzy ((zs.length) * 4) (by
    unfold DataW.weights
    rw [Try.underlying23]
    refine List.mem_cons.2 (.inl ?_)
    have e4 : Try.prog.bytesOf 44 = 4 := by kernel_rfl
    rw [e4]
    simp [Go.ChangeShapes.lits]; omega)
   have hlz : l ≤ zs.length := by rw [hz]; split <;> omega
   have hrb := reachBytes_lt
   obtain ⟨xs, hr⟩ := Row.of_read0 (x := x) (len := l) (cap := k) (zs := zs) hl hm hlz hcell hwz
   exact ⟨_, _, _, _, rfl, hr, by omega⟩
 obtain ⟨A, n, c, xs, rfl, hr, hn⟩ := key h1 (hz1 1 _ _ rfl rfl)
 obtain ⟨A', n', c', ys, rfl, hr', hn'⟩ := key h2 (hz1 2 _ _ rfl rfl)
 simp at e0
 subst e0
 exact ⟨_, RArg.mk hr hr' hn hn'⟩
end Go.Proofs.Ytahdlpkncemmaaa
namespace Pg
theorem rneg_int (n : Int) : rneg (n : Rat) = decide (n < 0) := by unfold rneg; rw [decide_eq_decide]; simp
theorem rnum_int (n : Int) : rnum (n : Rat) = n.natAbs := by unfold rnum; simp
theorem rden_int (n : Int) : (n : Rat).den = 1 := by simp
theorem rnum_len (q : Rat) : ((limbs (rnum q)).length = 0) ↔ q = 0 := by
 constructor
 ·intro h
  exact rnum_zero_iff.1 (Classical.byContradiction fun h0 => by have := (tl_top h0).1; omega)
 ·rintro rfl; rfl
theorem rnum_len_b (q : Rat) : decide (((limbs (rnum q)).length : Int) = 0) = decide (q = 0) := by
 rw [decide_eq_decide, ← rnum_len]; omega
end Pg
namespace Go.Proofs.Ytahdlpkncemmaaa
open Go.RowKit Pg
theorem Of_I (n : Nat) (w : World) (z : Int) (hz : z = (n : Int)) (hn : n < 18446744073709551616) : Calls Try.prog 34 #[.int .u64 z] w (Ret w n) := by
 subst hz; exact Of_any n w hn
theorem field_N (b : Bool) (A A' : Option Addr) (n c n' c' : Nat) (W : World) : (Instr.field 25 (.agg #[.bool b, .slice A n c, .slice A' n' c']) 1).run Try.prog W = .ok (.slice A n c) W := by kernel_rfl
theorem Int_any (n : Int) (w : World) (h1 : -9223372036854775808 ≤ n) (h2 : n ≤ 9223372036854775807) :
  Calls Try.prog 47 #[.int .i64 n] w (RatRet w (n : Rat)) := by
 have HB := hid (B3.new w 25 (.bool false) (.slice none 0 0) (.slice none 0 0))
 have q1 := rneg_int n
 have q2 := rnum_int n
 have q3 := rden_int n
 generalize (n : Rat) = q at *
 obtain ⟨N, hN⟩ : ∃ N : Nat, n.natAbs = N := ⟨_, rfl⟩
 rw [hN] at q2
 by_cases hn : n < 0
 ·have hnN : n = -(N : Int) := by omega
  rw [decide_eq_true hn] at q1
  have Q := hid (And.intro q1 (And.intro q2 q3))
  clear q1 q2 q3
  have hN1 : 1 ≤ N := by omega
  have hN2 : N ≤ 9223372036854775808 := by omega
  subst hnN
  clear hN
  have w1 : IntKind.u64.wrap (-(N : Int)) = 18446744073709551616 - (N : Int) := by
   rw [IntKind.wrap_u64]; omega
  have w2 : IntKind.u64.wrap (-(18446744073709551616 - (N : Int))) = (N : Int) := by
   rw [IntKind.wrap_u64]; omega
  go_enter Try.func47, Try.ntmps47
  go_wp2_with (first
   | (go_at_call 34; refine (Of_I N _ _ (by omega) (by omega)).mono ?_; rintro e w3 ⟨A3, c3, rfl, hr3, hb3⟩)
   | (go_at_call 34; refine (Of_I 1 _ _ (by omega) (by omega)).mono ?_; rintro e w5 ⟨A5, c5, rfl, hr5, hb5⟩; have hBr : B3 w5 w.heap.size 25 (.bool false) (.slice none 0 0) (.slice none 0 0) := (by repeat first | exact (HB).out | refine B3.below ?_ (by assumption) | refine B3.drew ?_ | refine B3.alloc ?_ _); obtain ⟨k0, k1, k2, f0, f1, f2⟩ := hBr.cells))
  refine bodyPost_ret (by have q0 := fun u0 u1 u2 => (hBr.set u0 u1 u2).cells.1; have q1 := fun u0 u1 u2 => (hBr.set u0 u1 u2).cells.2.1; have q2 := fun u0 u1 u2 => (hBr.set u0 u1 u2).cells.2.2.1; simp [results, Try.results47, go_sem, q0, q1, q2]) rfl (RatRet.put hBr (Nat.le_refl _) Pg.bel Q.out.1.symm Q.out.2.1.symm Q.out.2.2.symm (by repeat first | assumption | apply Pg.Row.below (hb := by assumption) | apply Pg.Row.alloc | apply Pg.Row.drewN) hr5 rfl rfl)
 ·have hnN : n = (N : Int) := by omega
  rw [decide_eq_false hn] at q1
  have Q := hid (And.intro q1 (And.intro q2 q3))
  clear q1 q2 q3
  have hN2 : N ≤ 9223372036854775807 := by omega
  subst hnN
  clear hN
  go_enter Try.func47, Try.ntmps47
  go_wp2_with (first
   | (go_at_call 34; refine (Of_I N _ _ (by omega) (by omega)).mono ?_; rintro e w3 ⟨A3, c3, rfl, hr3, hb3⟩)
   | (go_at_call 34; refine (Of_I 1 _ _ (by omega) (by omega)).mono ?_; rintro e w5 ⟨A5, c5, rfl, hr5, hb5⟩; have hBr : B3 w5 w.heap.size 25 (.bool false) (.slice none 0 0) (.slice none 0 0) := (by repeat first | exact (HB).out | refine B3.below ?_ (by assumption) | refine B3.drew ?_ | refine B3.alloc ?_ _); obtain ⟨k0, k1, k2, f0, f1, f2⟩ := hBr.cells))
  refine bodyPost_ret (by have q0 := fun u0 u1 u2 => (hBr.set u0 u1 u2).cells.1; have q1 := fun u0 u1 u2 => (hBr.set u0 u1 u2).cells.2.1; have q2 := fun u0 u1 u2 => (hBr.set u0 u1 u2).cells.2.2.1; simp [results, Try.results47, go_sem, q0, q1, q2]) rfl (RatRet.put hBr (Nat.le_refl _) Pg.bel Q.out.1.symm Q.out.2.1.symm Q.out.2.2.symm (by repeat first | assumption | apply Pg.Row.below (hb := by assumption) | apply Pg.Row.alloc | apply Pg.Row.drewN) hr5 rfl rfl)
theorem Zero_R {va : Value} {p : Rat} {k : Nat} (w : World) (ha : RArg w va p k) (hk : k ≤ 262144) :
  Calls Try.prog 15 #[va] w fun e w' => e = .returned (.bool (decide (p = 0))) ∧ Below w.heap.size w w' := by
 obtain ⟨s, A, n, c, A', n', c', xs, ys, rfl, h, h', hn, hn', hp⟩ := ha
 have hP := fun W (hW : Below w.heap.size w W) => Rnorm_any s A A' n c n' c' xs ys W (h.below hW) (h'.below hW) (by omega) (by omega)
 rw [hp] at hP
 have HP := hid hP
 have HZ := hid (rnum_len_b p)
 generalize decide (p = 0) = E at *
 clear hP h h' hp
 have HX := hid (B3.new w 25 (.bool s) (.slice A n c) (.slice A' n' c'))
 obtain ⟨k0, k1, k2, _, _, _⟩ := HX.out.cells
 go_enter Try.func15, Try.ntmps15
 go_wp2_with (go_at_call 14; refine (HP.out _ Pg.bel).mono ?_; rintro e w1 ⟨A1, c1, A2, c2, rfl, hr1, hr2, hb1⟩; have qf := fun W => field_N (rneg p) A1 A2 (limbs (rnum p)).length c1 (limbs p.den).length c2 W)
 go_ret
 exact ⟨by rw [← HZ.out]; rfl, Pg.bel⟩
theorem r2Zero_R {va : Value} {p : Rat} {k : Nat} (w : World) (ha : RArg w va p k) (hk : k ≤ 262144) :
  Calls Try.prog 10 #[va] w fun e w' => e = .returned (.bool (decide (p = 0))) ∧ Below w.heap.size w w' := by
 obtain ⟨s, A, n, c, A', n', c', xs, ys, rfl, h, h', hn, hn', hp⟩ := ha
 have hP := fun W (hW : Below w.heap.size w W) => r2Norm_any s A A' n c n' c' xs ys W (h.below hW) (h'.below hW) (by omega) (by omega)
 rw [hp] at hP
 have HP := hid hP
 have HZ := hid (rnum_len_b p)
 generalize decide (p = 0) = E at *
 clear hP h h' hp
 have HX := hid (B3.new w 25 (.bool s) (.slice A n c) (.slice A' n' c'))
 obtain ⟨k0, k1, k2, _, _, _⟩ := HX.out.cells
 go_enter Try.func10, Try.ntmps10
 go_wp2_with (go_at_call 20; refine (HP.out _ Pg.bel).mono ?_; rintro e w1 ⟨A1, c1, A2, c2, rfl, hr1, hr2, hb1⟩; have qf := fun W => field_N (rneg p) A1 A2 (limbs (rnum p)).length c1 (limbs p.den).length c2 W)
 go_ret
 exact ⟨by rw [← HZ.out]; rfl, Pg.bel⟩
end Go.Proofs.Ytahdlpkncemmaaa
namespace Go.Proofs.Ytahdlpkncemmaaa
open Go.RowKit Pg
theorem Mul_E (A A' : Option Addr) (n c n' c' : Nat) (xs ys : List Nat) (w : World) (a b r : Nat) (h : Row w A n c xs) (h' : Row w A' n' c' ys) (ea : val xs = a) (eb : val ys = b) (hb : n ≤ 1073741824) (hb' : n' ≤ 1073741824) (er : a * b = r) :
  Calls Try.prog 23 #[.slice A n c, .slice A' n' c'] w (Ret w r) := by
 subst er; exact Mul_N A A' n c n' c' xs ys w a b h h' ea eb hb hb'
theorem Sub_E (A A' : Option Addr) (n c n' c' : Nat) (xs ys : List Nat) (w : World) (a b r : Nat) (B : Bool) (h : Row w A n c xs) (h' : Row w A' n' c' ys) (ea : val xs = a) (eb : val ys = b) (hb : n ≤ 1073741824) (hb' : n' ≤ 1073741824) (er : a - b = r) (eB : geB a b = B) :
  Calls Try.prog 26 #[.slice A n c, .slice A' n' c'] w (Ret2 w r B) := by
 subst er eB; exact Sub_N A A' n c n' c' xs ys w a b h h' ea eb hb hb'
theorem Mul_R {va vb : Value} {p q : Rat} {k : Nat} (w : World) (ha : RArg w va p k) (hb : RArg w vb q k) (hk : k ≤ 262144) (hk1 : 1 ≤ k) :
  Calls Try.prog 16 #[va, vb] w (RatRet w (p * q)) := by
 obtain ⟨lp1, lp2⟩ := ha.short hk1
 obtain ⟨lq1, lq2⟩ := hb.short hk1
 obtain ⟨s1, A, n, c, A', n', c', xs, ys, rfl, h, h', hn, hn', hp⟩ := ha
 obtain ⟨s2, C, m, d, C', m', d', us, vs, rfl, g, g', hm, hm', hq⟩ := hb
 have hP := fun W (hW : Below w.heap.size w W) => Rnorm_any s1 A A' n c n' c' xs ys W (h.below hW) (h'.below hW) (by omega) (by omega)
 have hQ := fun W (hW : Below w.heap.size w W) => Rnorm_any s2 C C' m d m' d' us vs W (g.below hW) (g'.below hW) (by omega) (by omega)
 rw [hp] at hP
 rw [hq] at hQ
 have HP := hid hP
 have HQ := hid hQ
 clear h h' g g' hP hQ hp hq
 have HX := hid (((B3.new w 25 (.bool s1) (.slice A n c) (.slice A' n' c')).alloc (.cells #[.bool s2, .slice C m d, .slice C' m' d'] 25)).alloc (.cells #[.bool false, .slice none 0 0, .slice none 0 0] 25))
 have HY := hid ((B3.new2 w (.cells #[.bool s1, .slice A n c, .slice A' n' c'] 25) 25 (.bool s2) (.slice C m d) (.slice C' m' d') _ rfl).alloc (.cells #[.bool false, .slice none 0 0, .slice none 0 0] 25))
 have HZ := hid (B3.newg ((w.alloc (.cells #[.bool s1, .slice A n c, .slice A' n' c'] 25)).alloc (.cells #[.bool s2, .slice C m d, .slice C' m' d'] 25)) 25 (.bool false) (.slice none 0 0) (.slice none 0 0) (w.heap.size + 2) (by simp))
 obtain ⟨w0, hw0⟩ : ∃ w0, w0 = ((w.alloc (.cells #[.bool s1, .slice A n c, .slice A' n' c'] 25)).alloc (.cells #[.bool s2, .slice C m d, .slice C' m' d'] 25)).alloc (.cells #[.bool false, .slice none 0 0, .slice none 0 0] 25) := ⟨_, rfl⟩
 go_enter Try.func16, Try.ntmps16
 go_upto_region 1 with fail
 have hb0 : Below w.heap.size w w0 := by rw [hw0]; exact Below.new_ (Below.new_ (Below.new_ (Below.refl _ _) _) _) _
 rw [← hw0] at HX HY HZ ⊢
 clear hw0
 refine pairT_region 14 14 2 3 5 6 7 8 w.heap.size w.heap.size (w.heap.size + 1) s1 s2 A A' C C' n c n' c' m d m' d' p q rfl (by decide) (by kernel_rfl) (by kernel_rfl) (by kernel_rfl) (by kernel_rfl) (by kernel_rfl) (by kernel_rfl) rfl rfl (by omega) hb0.size (Nat.le_refl _) (Nat.le_succ _) HX.out HY.out (fun _ _ => by kernel_rfl) (fun _ _ => by kernel_rfl) (fun W hW => HP.out W (hb0.trans hW)) (fun W hW => HQ.out W (hb0.trans hW)) ?_
 rintro v1 v3 wc ⟨A1, c1, A2, c2, rfl, hr1, hr2⟩ ⟨A3, c3, A4, c4, rfl, hr3, hr4⟩ hH1 hH2 hbc hkp
 have hbw := hb0.trans hbc
 have hB1 := hH1.b3
 have hB2 := hH2.b3
 have hBz := HZ.out.keep2 hkp (by omega) (by omega)
 clear HX HY HP HQ hH1 hH2 HZ hbc hb0 hkp
 go_simp
 go_upto_region 2 with fail
 have hmn := limbs_mul_len (k := k) lp1 lq1
 have hmd := limbs_mul_len (k := k) lp2 lq2
 have hpq := hid (rv_mul p q)
 refine draw_last [9, 10, 11, 12, 13, 14, 15, 16, 17, 18, 19, 20, 21, 22, 23, 24] [.is (.pointer (some ⟨w.heap.size, 0, none⟩)), .is (.bool (rneg p)), .is (.pointer (some ⟨w.heap.size + 1, 0, none⟩)), .is (.bool (rneg q)), .is (.bool (rneg p != rneg q)), .is (.pointer (some ⟨w.heap.size, 1, none⟩)), .is (.slice A1 (limbs (rnum p)).length c1), .is (.pointer (some ⟨w.heap.size + 1, 1, none⟩)), .is (.slice A3 (limbs (rnum q)).length c3), .row (rnum p * rnum q), .is (.pointer (some ⟨w.heap.size, 2, none⟩)), .is (.slice A2 (limbs p.den).length c2), .is (.pointer (some ⟨w.heap.size + 1, 2, none⟩)), .is (.slice A4 (limbs q.den).length c4), .row (p.den * q.den), .rat (p * q)]
  (by kernel_rfl) (by kernel_rfl) (by kernel_rfl) (by decide) (by kernel_rfl) (by kernel_rfl) (by kernel_rfl) rfl ?_ ?_
 ·refine ⟨?_, ?_, ?_, ?_, ?_, ?_, ?_, ?_, ?_, ?_, ?_, ?_, ?_, ?_, ?_, ?_, trivial⟩
  ·intro a w3 hA K hK
   have t2 := hA.old 2 _ rfl rfl
   go_simp
   exact hK _ _ Pg.fi_ (Below.refl _ _)
  ·intro a w3 hA K hK
   have t9 := bt_is hA 0 9
   obtain ⟨k0, k1, k2, _, _, _⟩ := (hB1.below (hA.below)).cells
   go_simp
   exact hK _ _ Pg.fi_ (Below.refl _ _)
  ·intro a w3 hA K hK
   have t3 := hA.old 3 _ rfl rfl
   go_simp
   exact hK _ _ Pg.fi_ (Below.refl _ _)
  ·intro a w3 hA K hK
   have t11 := bt_is hA 2 11
   obtain ⟨k0, k1, k2, _, _, _⟩ := (hB2.below (hA.below)).cells
   go_simp
   exact hK _ _ Pg.fi_ (Below.refl _ _)
  ·intro a w3 hA K hK
   have t10 := bt_is hA 1 10
   have t12 := bt_is hA 3 12
   go_simp
   exact hK _ _ Pg.fi_ (Below.refl _ _)
  ·intro a w3 hA K hK
   have t2 := hA.old 2 _ rfl rfl
   go_simp
   exact hK _ _ Pg.fi_ (Below.refl _ _)
  ·intro a w3 hA K hK
   have t14 := bt_is hA 5 14
   obtain ⟨k0, k1, k2, _, _, _⟩ := (hB1.below (hA.below)).cells
   go_simp
   exact hK _ _ Pg.fi_ (Below.refl _ _)
  ·intro a w3 hA K hK
   have t3 := hA.old 3 _ rfl rfl
   go_simp
   exact hK _ _ Pg.fi_ (Below.refl _ _)
  ·intro a w3 hA K hK
   have t16 := bt_is hA 7 16
   obtain ⟨k0, k1, k2, _, _, _⟩ := (hB2.below (hA.below)).cells
   go_simp
   exact hK _ _ Pg.fi_ (Below.refl _ _)
  ·intro a w3 hA K hK
   have t15 := bt_is hA 6 15
   have t17 := bt_is hA 8 17
   have hC := Mul_N A1 A3 _ c1 _ c3 _ _ w3 (rnum p) (rnum q) (hr1.below (hA.below)) (hr3.below (hA.below)) (val_limbs _) (val_limbs _) (by omega) (by omega)
   go_simp
   refine hC.mono ?_
   rintro e w4 ⟨A3, c3, rfl, hr, hb⟩
   exact hK _ _ ⟨_, _, rfl, hr⟩ hb
  ·intro a w3 hA K hK
   have t2 := hA.old 2 _ rfl rfl
   go_simp
   exact hK _ _ Pg.fi_ (Below.refl _ _)
  ·intro a w3 hA K hK
   have t19 := bt_is hA 10 19
   obtain ⟨k0, k1, k2, _, _, _⟩ := (hB1.below (hA.below)).cells
   go_simp
   exact hK _ _ Pg.fi_ (Below.refl _ _)
  ·intro a w3 hA K hK
   have t3 := hA.old 3 _ rfl rfl
   go_simp
   exact hK _ _ Pg.fi_ (Below.refl _ _)
  ·intro a w3 hA K hK
   have t21 := bt_is hA 12 21
   obtain ⟨k0, k1, k2, _, _, _⟩ := (hB2.below (hA.below)).cells
   go_simp
   exact hK _ _ Pg.fi_ (Below.refl _ _)
  ·intro a w3 hA K hK
   have t20 := bt_is hA 11 20
   have t22 := bt_is hA 13 22
   have hC := Mul_N A2 A4 _ c2 _ c4 _ _ w3 p.den q.den (hr2.below (hA.below)) (hr4.below (hA.below)) (val_limbs _) (val_limbs _) (by omega) (by omega)
   go_simp
   refine hC.mono ?_
   rintro e w4 ⟨A3, c3, rfl, hr, hb⟩
   exact hK _ _ ⟨_, _, rfl, hr⟩ hb
  ·intro a w3 hA K hK
   have t13 := bt_is hA 4 13
   obtain ⟨A18, c18, t18, r18⟩ := bt_row hA 9 18
   obtain ⟨A23, c23, t23, r23⟩ := bt_row hA 14 23
   have hC := Rof_E (rneg p != rneg q) A18 A23 _ c18 _ c23 (rnum p * rnum q) (p.den * q.den) _ _ (p * q) w3 r18 r23 (val_limbs _) (val_limbs _) (by omega) (by omega) hpq.out.symm
   go_simp
   refine hC.mono ?_
   rintro e w4 ⟨A3, c3, A4, c4, rfl, hr, hr', hb⟩
   exact hK _ _ ⟨_, _, _, _, rfl, hr, hr'⟩ hb
 rintro vs w5 hV hb5 act hact hold hnew K hK
 have hV' := hV.is_
 clear hV
 obtain ⟨_, rfl, hV⟩ := hV'
 have hV' := hV.is_
 clear hV
 obtain ⟨_, rfl, hV⟩ := hV'
 have hV' := hV.is_
 clear hV
 obtain ⟨_, rfl, hV⟩ := hV'
 have hV' := hV.is_
 clear hV
 obtain ⟨_, rfl, hV⟩ := hV'
 have hV' := hV.is_
 clear hV
 obtain ⟨_, rfl, hV⟩ := hV'
 have hV' := hV.is_
 clear hV
 obtain ⟨_, rfl, hV⟩ := hV'
 have hV' := hV.is_
 clear hV
 obtain ⟨_, rfl, hV⟩ := hV'
 have hV' := hV.is_
 clear hV
 obtain ⟨_, rfl, hV⟩ := hV'
 have hV' := hV.is_
 clear hV
 obtain ⟨_, rfl, hV⟩ := hV'
 have hV' := hV.row_
 clear hV
 obtain ⟨A18, c18, _, rfl, r18, hV⟩ := hV'
 have hV' := hV.is_
 clear hV
 obtain ⟨_, rfl, hV⟩ := hV'
 have hV' := hV.is_
 clear hV
 obtain ⟨_, rfl, hV⟩ := hV'
 have hV' := hV.is_
 clear hV
 obtain ⟨_, rfl, hV⟩ := hV'
 have hV' := hV.is_
 clear hV
 obtain ⟨_, rfl, hV⟩ := hV'
 have hV' := hV.row_
 clear hV
 obtain ⟨A23, c23, _, rfl, r23, hV⟩ := hV'
 have hV' := hV.rat_
 clear hV
 obtain ⟨A24, c24, B24, d24, _, rfl, r24, s24, hV⟩ := hV'
 obtain rfl := hV.nil_
 clear hV
 simp only [puts] at hact
 have tq1 := hold 4 _ rfl rfl
 have tq2 := hnew 15 24 _ rfl rfl
 clear hold hnew
 have Hact := hid hact
 clear hact
 have hBr := hBz.below hb5
 obtain ⟨k0, k1, k2, f0, f1, f2⟩ := hBr.cells
 go_simp
 refine hK _ _ ?_
 have hact := Hact.out
 clear Hact tq1 tq2
 subst hact
 go_simp
 go_wp2_with fail
 refine bodyPost_ret (by have q0 := fun u0 u1 u2 => (hBr.set u0 u1 u2).cells.1; have q1 := fun u0 u1 u2 => (hBr.set u0 u1 u2).cells.2.1; have q2 := fun u0 u1 u2 => (hBr.set u0 u1 u2).cells.2.2.1; simp [results, Try.results16, go_sem, q0, q1, q2]) rfl (RatRet.put hBr (by omega) (Below.then_ hbw hb5) rfl rfl rfl r24 s24 rfl rfl)
theorem Add_R {va vb : Value} {p q : Rat} {k : Nat} (w : World) (ha : RArg w va p k) (hb : RArg w vb q k) (hk : k ≤ 262144) (hk1 : 1 ≤ k) :
  Calls Try.prog 13 #[va, vb] w (RatRet w (p + q)) := by
 obtain ⟨lp1, lp2⟩ := ha.short hk1
 obtain ⟨lq1, lq2⟩ := hb.short hk1
 obtain ⟨s1, A, n, c, A', n', c', xs, ys, rfl, h, h', hn, hn', hp⟩ := ha
 obtain ⟨s2, C, m, d, C', m', d', us, vs, rfl, g, g', hm, hm', hq⟩ := hb
 have hP := fun W (hW : Below w.heap.size w W) => Rnorm_any s1 A A' n c n' c' xs ys W (h.below hW) (h'.below hW) (by omega) (by omega)
 have hQ := fun W (hW : Below w.heap.size w W) => Rnorm_any s2 C C' m d m' d' us vs W (g.below hW) (g'.below hW) (by omega) (by omega)
 rw [hp] at hP
 rw [hq] at hQ
 have HP := hid hP
 have HQ := hid hQ
 clear h h' g g' hP hQ hp hq
 have HX := hid (((B3.new w 25 (.bool s1) (.slice A n c) (.slice A' n' c')).alloc (.cells #[.bool s2, .slice C m d, .slice C' m' d'] 25)).alloc (.cells #[.bool false, .slice none 0 0, .slice none 0 0] 25))
 have HY := hid ((B3.new2 w (.cells #[.bool s1, .slice A n c, .slice A' n' c'] 25) 25 (.bool s2) (.slice C m d) (.slice C' m' d') _ rfl).alloc (.cells #[.bool false, .slice none 0 0, .slice none 0 0] 25))
 have HZ := hid (B3.newg ((w.alloc (.cells #[.bool s1, .slice A n c, .slice A' n' c'] 25)).alloc (.cells #[.bool s2, .slice C m d, .slice C' m' d'] 25)) 25 (.bool false) (.slice none 0 0) (.slice none 0 0) (w.heap.size + 2) (by simp))
 obtain ⟨w0, hw0⟩ : ∃ w0, w0 = ((w.alloc (.cells #[.bool s1, .slice A n c, .slice A' n' c'] 25)).alloc (.cells #[.bool s2, .slice C m d, .slice C' m' d'] 25)).alloc (.cells #[.bool false, .slice none 0 0, .slice none 0 0] 25) := ⟨_, rfl⟩
 go_enter Try.func13, Try.ntmps13
 go_upto_region 1 with fail
 have hb0 : Below w.heap.size w w0 := by rw [hw0]; exact Below.new_ (Below.new_ (Below.new_ (Below.refl _ _) _) _) _
 rw [← hw0] at HX HY HZ ⊢
 clear hw0
 refine pairT_region 14 14 2 3 12 13 14 15 w.heap.size w.heap.size (w.heap.size + 1) s1 s2 A A' C C' n c n' c' m d m' d' p q rfl (by decide) (by kernel_rfl) (by kernel_rfl) (by kernel_rfl) (by kernel_rfl) (by kernel_rfl) (by kernel_rfl) rfl rfl (by omega) hb0.size (Nat.le_refl _) (Nat.le_succ _) HX.out HY.out (fun _ _ => by kernel_rfl) (fun _ _ => by kernel_rfl) (fun W hW => HP.out W (hb0.trans hW)) (fun W hW => HQ.out W (hb0.trans hW)) ?_
 rintro v1 v3 wc ⟨A1, c1, A2, c2, rfl, hr1, hr2⟩ ⟨A3, c3, A4, c4, rfl, hr3, hr4⟩ hH1 hH2 hbc hkp
 have hbw := hb0.trans hbc
 have hB1 := hH1.b3
 have hB2 := hH2.b3
 have hBz := HZ.out.keep2 hkp (by omega) (by omega)
 clear HX HY HP HQ hH1 hH2 HZ hbc hb0 hkp
 go_simp
 go_upto_region 2 with fail
 obtain ⟨n1, hn1⟩ : ∃ x, rnum p * q.den = x := ⟨_, rfl⟩
 obtain ⟨n2, hn2⟩ : ∃ x, rnum q * p.den = x := ⟨_, rfl⟩
 obtain ⟨dd, hdd⟩ : ∃ x, p.den * q.den = x := ⟨_, rfl⟩
 have ln1 := limbs_mul_len (k := k) lp1 lq2
 have ln2 := limbs_mul_len (k := k) lq1 lp2
 have ldd := limbs_mul_len (k := k) lp2 lq2
 have hadd := @rv_add_same p q
 have hge := @rv_add_ge p q
 have hlt := @rv_add_lt p q
 rw [hn1] at ln1
 rw [hn2] at ln2
 rw [hdd] at ldd
 rw [hn1, hn2, hdd] at hadd hge hlt
 have lsum := limbs_add_len (k := k + k) ln1 ln2
 have Hn1 := hid hn1
 have Hn2 := hid hn2
 have Hdd := hid hdd
 have Hadd := hid hadd
 have Hge := hid hge
 have Hlt := hid hlt
 clear hn1 hn2 hdd hadd hge hlt
 refine draw_hd [16, 17, 18, 19, 20, 21, 22, 23, 24, 25, 26, 27, 28, 29, 30, 5, 6, 7] [.is (.pointer (some ⟨w.heap.size, 1, none⟩)), .is (.slice A1 (limbs (rnum p)).length c1), .is (.pointer (some ⟨w.heap.size + 1, 2, none⟩)), .is (.slice A4 (limbs q.den).length c4), .row n1, .is (.pointer (some ⟨w.heap.size + 1, 1, none⟩)), .is (.slice A3 (limbs (rnum q)).length c3), .is (.pointer (some ⟨w.heap.size, 2, none⟩)), .is (.slice A2 (limbs p.den).length c2), .row n2, .is (.pointer (some ⟨w.heap.size, 2, none⟩)), .is (.slice A2 (limbs p.den).length c2), .is (.pointer (some ⟨w.heap.size + 1, 2, none⟩)), .is (.slice A4 (limbs q.den).length c4), .row dd, .row n1, .row n2, .row dd]
  (by kernel_rfl) (by kernel_rfl) (by kernel_rfl) (by decide) (by kernel_rfl) (by kernel_rfl) ?_ ?_
 ·refine ⟨?_, ?_, ?_, ?_, ?_, ?_, ?_, ?_, ?_, ?_, ?_, ?_, ?_, ?_, ?_, ?_, ?_, ?_, trivial⟩
  ·intro a w3 hA K hK
   have t2 := hA.old 2 _ rfl rfl
   go_simp
   exact hK _ _ Pg.fi_ (Below.refl _ _)
  ·intro a w3 hA K hK
   have t16 := bt_is hA 0 16
   obtain ⟨k0, k1, k2, _, _, _⟩ := (hB1.below (hA.below)).cells
   go_simp
   exact hK _ _ Pg.fi_ (Below.refl _ _)
  ·intro a w3 hA K hK
   have t3 := hA.old 3 _ rfl rfl
   go_simp
   exact hK _ _ Pg.fi_ (Below.refl _ _)
  ·intro a w3 hA K hK
   have t18 := bt_is hA 2 18
   obtain ⟨k0, k1, k2, _, _, _⟩ := (hB2.below (hA.below)).cells
   go_simp
   exact hK _ _ Pg.fi_ (Below.refl _ _)
  ·intro a w3 hA K hK
   have t17 := bt_is hA 1 17
   have t19 := bt_is hA 3 19
   have hC := Mul_E A1 A4 _ c1 _ c4 _ _ w3 (rnum p) q.den n1 (hr1.below (hA.below)) (hr4.below (hA.below)) (val_limbs _) (val_limbs _) (by omega) (by omega) Hn1.out
   go_simp
   refine hC.mono ?_
   rintro e w4 ⟨A3, c3, rfl, hr, hb⟩
   exact hK _ _ ⟨_, _, rfl, hr⟩ hb
  ·intro a w3 hA K hK
   have t3 := hA.old 3 _ rfl rfl
   go_simp
   exact hK _ _ Pg.fi_ (Below.refl _ _)
  ·intro a w3 hA K hK
   have t21 := bt_is hA 5 21
   obtain ⟨k0, k1, k2, _, _, _⟩ := (hB2.below (hA.below)).cells
   go_simp
   exact hK _ _ Pg.fi_ (Below.refl _ _)
  ·intro a w3 hA K hK
   have t2 := hA.old 2 _ rfl rfl
   go_simp
   exact hK _ _ Pg.fi_ (Below.refl _ _)
  ·intro a w3 hA K hK
   have t23 := bt_is hA 7 23
   obtain ⟨k0, k1, k2, _, _, _⟩ := (hB1.below (hA.below)).cells
   go_simp
   exact hK _ _ Pg.fi_ (Below.refl _ _)
  ·intro a w3 hA K hK
   have t22 := bt_is hA 6 22
   have t24 := bt_is hA 8 24
   have hC := Mul_E A3 A2 _ c3 _ c2 _ _ w3 (rnum q) p.den n2 (hr3.below (hA.below)) (hr2.below (hA.below)) (val_limbs _) (val_limbs _) (by omega) (by omega) Hn2.out
   go_simp
   refine hC.mono ?_
   rintro e w4 ⟨A3, c3, rfl, hr, hb⟩
   exact hK _ _ ⟨_, _, rfl, hr⟩ hb
  ·intro a w3 hA K hK
   have t2 := hA.old 2 _ rfl rfl
   go_simp
   exact hK _ _ Pg.fi_ (Below.refl _ _)
  ·intro a w3 hA K hK
   have t26 := bt_is hA 10 26
   obtain ⟨k0, k1, k2, _, _, _⟩ := (hB1.below (hA.below)).cells
   go_simp
   exact hK _ _ Pg.fi_ (Below.refl _ _)
  ·intro a w3 hA K hK
   have t3 := hA.old 3 _ rfl rfl
   go_simp
   exact hK _ _ Pg.fi_ (Below.refl _ _)
  ·intro a w3 hA K hK
   have t28 := bt_is hA 12 28
   obtain ⟨k0, k1, k2, _, _, _⟩ := (hB2.below (hA.below)).cells
   go_simp
   exact hK _ _ Pg.fi_ (Below.refl _ _)
  ·intro a w3 hA K hK
   have t27 := bt_is hA 11 27
   have t29 := bt_is hA 13 29
   have hC := Mul_E A2 A4 _ c2 _ c4 _ _ w3 p.den q.den dd (hr2.below (hA.below)) (hr4.below (hA.below)) (val_limbs _) (val_limbs _) (by omega) (by omega) Hdd.out
   go_simp
   refine hC.mono ?_
   rintro e w4 ⟨A3, c3, rfl, hr, hb⟩
   exact hK _ _ ⟨_, _, rfl, hr⟩ hb
  ·intro a w3 hA K hK
   obtain ⟨A20, c20, t20, r20⟩ := bt_row hA 4 20
   go_simp
   exact hK _ _ ⟨_, _, rfl, r20⟩ (Below.refl _ _)
  ·intro a w3 hA K hK
   obtain ⟨A25, c25, t25, r25⟩ := bt_row hA 9 25
   go_simp
   exact hK _ _ ⟨_, _, rfl, r25⟩ (Below.refl _ _)
  ·intro a w3 hA K hK
   obtain ⟨A30, c30, t30, r30⟩ := bt_row hA 14 30
   go_simp
   exact hK _ _ ⟨_, _, rfl, r30⟩ (Below.refl _ _)
 rintro vs w5 hV hb5 act hact
 have hV' := hV.is_
 clear hV
 obtain ⟨_, rfl, hV⟩ := hV'
 have hV' := hV.is_
 clear hV
 obtain ⟨_, rfl, hV⟩ := hV'
 have hV' := hV.is_
 clear hV
 obtain ⟨_, rfl, hV⟩ := hV'
 have hV' := hV.is_
 clear hV
 obtain ⟨_, rfl, hV⟩ := hV'
 have hV' := hV.row_
 clear hV
 obtain ⟨A20, c20, _, rfl, r20, hV⟩ := hV'
 have hV' := hV.is_
 clear hV
 obtain ⟨_, rfl, hV⟩ := hV'
 have hV' := hV.is_
 clear hV
 obtain ⟨_, rfl, hV⟩ := hV'
 have hV' := hV.is_
 clear hV
 obtain ⟨_, rfl, hV⟩ := hV'
 have hV' := hV.is_
 clear hV
 obtain ⟨_, rfl, hV⟩ := hV'
 have hV' := hV.row_
 clear hV
 obtain ⟨A25, c25, _, rfl, r25, hV⟩ := hV'
 have hV' := hV.is_
 clear hV
 obtain ⟨_, rfl, hV⟩ := hV'
 have hV' := hV.is_
 clear hV
 obtain ⟨_, rfl, hV⟩ := hV'
 have hV' := hV.is_
 clear hV
 obtain ⟨_, rfl, hV⟩ := hV'
 have hV' := hV.is_
 clear hV
 obtain ⟨_, rfl, hV⟩ := hV'
 have hV' := hV.row_
 clear hV
 obtain ⟨A30, c30, _, rfl, r30, hV⟩ := hV'
 have hV' := hV.row_
 clear hV
 obtain ⟨A5, c5, _, rfl, r5, hV⟩ := hV'
 have hV' := hV.row_
 clear hV
 obtain ⟨A6, c6, _, rfl, r6, hV⟩ := hV'
 have hV' := hV.row_
 clear hV
 obtain ⟨A7, c7, _, rfl, r7, hV⟩ := hV'
 obtain rfl := hV.nil_
 clear hV
 simp only [puts] at hact
 subst hact
 go_simp
 have h5 := r5
 have h6 := r6
 have h7 := r7
 clear r5 r6 r7 r20 r25 r30
 have hB1 := hB1.below hb5
 have hB2 := hB2.below hb5
 have hBz := hBz.below hb5
 have hbw := Below.then_ hbw hb5
 clear hr1 hr2 hr3 hr4 hb5 Hn1 Hn2 Hdd
 obtain ⟨k0, k1, k2, _, _, _⟩ := hB1.cells
 obtain ⟨j0, j1, j2, _, _, _⟩ := hB2.cells
 by_cases hs : rneg p = rneg q
 ·have hE : (rneg p == rneg q) = true := by rw [hs]; simp
  have Hsame := hid (Hadd.out hs)
  clear hs Hadd Hge Hlt
  go_upto_region 4 with fail
  clear k0 k1 k2 j0 j1 j2
  refine draw_last [36, 37, 38, 39, 40, 41, 42] [.is (.pointer (some ⟨w.heap.size, 0, none⟩)), .is (.bool (rneg p)), .is (.slice A5 (limbs n1).length c5), .is (.slice A6 (limbs n2).length c6), .row (n1 + n2), .is (.slice A7 (limbs dd).length c7), .rat (p + q)]
   (by kernel_rfl) (by kernel_rfl) (by kernel_rfl) (by decide) (by kernel_rfl) (by kernel_rfl) (by kernel_rfl) rfl ?_ ?_
  ·refine ⟨?_, ?_, ?_, ?_, ?_, ?_, ?_, trivial⟩
   ·intro a w3 hA K hK
    have t2 := hA.old 2 _ rfl rfl
    go_simp
    exact hK _ _ Pg.fi_ (Below.refl _ _)
   ·intro a w3 hA K hK
    have t36 := bt_is hA 0 36
    obtain ⟨k0, k1, k2, _, _, _⟩ := (hB1.below hA.below).cells
    go_simp
    exact hK _ _ Pg.fi_ (Below.refl _ _)
   ·intro a w3 hA K hK
    have t5 := hA.old 5 _ rfl rfl
    go_simp
    exact hK _ _ Pg.fi_ (Below.refl _ _)
   ·intro a w3 hA K hK
    have t6 := hA.old 6 _ rfl rfl
    go_simp
    exact hK _ _ Pg.fi_ (Below.refl _ _)
   ·intro a w3 hA K hK
    have t38 := bt_is hA 2 38
    have t39 := bt_is hA 3 39
    have hC := Add_N A5 A6 _ c5 _ c6 _ _ w3 n1 n2 (h5.below hA.below) (h6.below hA.below) (val_limbs _) (val_limbs _) (by omega) (by omega)
    go_simp
    refine hC.mono ?_
    rintro e w4 ⟨A3, c3, rfl, hr, hb⟩
    exact hK _ _ ⟨_, _, rfl, hr⟩ hb
   ·intro a w3 hA K hK
    have t7 := hA.old 7 _ rfl rfl
    go_simp
    exact hK _ _ Pg.fi_ (Below.refl _ _)
   ·intro a w3 hA K hK
    have t37 := bt_is hA 1 37
    obtain ⟨A40, c40, t40, r40⟩ := bt_row hA 4 40
    have t41 := bt_is hA 5 41
    have hC := Rof_E (rneg p) A40 A7 _ c40 _ c7 (n1 + n2) dd _ _ (p + q) w3 r40 (h7.below hA.below) (val_limbs _) (val_limbs _) (by omega) (by omega) Hsame.out
    go_simp
    refine hC.mono ?_
    rintro e w4 ⟨A3, c3, A4, c4, rfl, hr, hr', hb⟩
    exact hK _ _ ⟨_, _, _, _, rfl, hr, hr'⟩ hb
  rintro vs w7 hV hb7 act hact hold hnew K hK
  have hV' := hV.is_
  clear hV
  obtain ⟨_, rfl, hV⟩ := hV'
  have hV' := hV.is_
  clear hV
  obtain ⟨_, rfl, hV⟩ := hV'
  have hV' := hV.is_
  clear hV
  obtain ⟨_, rfl, hV⟩ := hV'
  have hV' := hV.is_
  clear hV
  obtain ⟨_, rfl, hV⟩ := hV'
  have hV' := hV.row_
  clear hV
  obtain ⟨A40, c40, _, rfl, r40, hV⟩ := hV'
  have hV' := hV.is_
  clear hV
  obtain ⟨_, rfl, hV⟩ := hV'
  have hV' := hV.rat_
  clear hV
  obtain ⟨A42, c42, B42, d42, _, rfl, r42, s42, hV⟩ := hV'
  obtain rfl := hV.nil_
  clear hV
  simp only [puts] at hact
  have tq1 := hold 4 _ rfl rfl
  have tq2 := hnew 6 42 _ rfl rfl
  clear hold hnew
  have Hact := hid hact
  clear hact
  have hBr := hBz.below hb7
  obtain ⟨k0, k1, k2, f0, f1, f2⟩ := hBr.cells
  go_simp
  refine hK _ _ ?_
  have hact := Hact.out
  clear Hact tq1 tq2
  subst hact
  go_simp
  go_wp2_with fail
  refine bodyPost_ret (by have q0 := fun u0 u1 u2 => (hBr.set u0 u1 u2).cells.1; have q1 := fun u0 u1 u2 => (hBr.set u0 u1 u2).cells.2.1; have q2 := fun u0 u1 u2 => (hBr.set u0 u1 u2).cells.2.2.1; simp [results, Try.results13, go_sem, q0, q1, q2]) rfl (RatRet.put hBr (by omega) (Below.then_ hbw hb7) rfl rfl rfl r42 s42 rfl rfl)
 ·have hE : (rneg p == rneg q) = false := beq_eq_false_iff_ne.2 hs
  rcases Nat.lt_or_ge n1 n2 with hc | hc
  ·have Hq := hid (Hlt.out hs hc)
   have hg1 : Hid (geB n1 n2 = false) := hid (by unfold geB; simp; omega)
   have hg2 : Hid (geB n2 n1 = true) := hid (by unfold geB; simp; omega)
   have lsub := Nat.le_trans (limbs_mono (Nat.sub_le n2 n1)) ln2
   have HS1 := hid fun W (hW : Below w5.heap.size w5 W) => Sub_E A5 A6 _ c5 _ c6 _ _ W n1 n2 (n1 - n2) false (h5.below hW) (h6.below hW) (val_limbs _) (val_limbs _) (by omega) (by omega) rfl hg1.out
   have HS2 := hid fun W (hW : Below w5.heap.size w5 W) => Sub_E A6 A5 _ c6 _ c5 _ _ W n2 n1 (n2 - n1) true (h6.below hW) (h5.below hW) (val_limbs _) (val_limbs _) (by omega) (by omega) rfl hg2.out
   clear hs Hadd Hge Hlt hc
   go_wp2_with (first
    | (go_at_call 26; (with_reducible refine (HS1.out _ Pg.bel).mono ?_); rintro e w8 ⟨A9, c9, rfl, h9, hb8⟩)
    | (go_at_call 26; (with_reducible refine (HS2.out _ hb8).mono ?_); rintro e w7 ⟨A10, c10, rfl, h10, hb7⟩; clear j0 j1 j2; obtain ⟨j0, j1, j2, _, _, _⟩ := ((hB2.below hb8).below hb7).cells)
    | (go_at_call 24; refine (Rof_E (rneg q) A10 A7 _ c10 _ c7 (n2 - n1) dd _ _ (p + q) _ (by repeat first | assumption | apply Pg.Row.below (hb := by assumption) | apply Pg.Row.alloc | apply Pg.Row.drewN) (by repeat first | assumption | apply Pg.Row.below (hb := by assumption) | apply Pg.Row.alloc | apply Pg.Row.drewN) (val_limbs _) (val_limbs _) (by first | omega | assumption) (by first | omega | assumption) Hq.out).mono ?_; rintro e w9 ⟨A11, c11, A12, c12, rfl, h11, h12, hb9⟩; have hBr := ((hBz.below hb8).below hb7).below hb9; obtain ⟨i0, i1, i2, f0, f1, f2⟩ := hBr.cells))
   refine bodyPost_ret (by have q0 := fun u0 u1 u2 => (hBr.set u0 u1 u2).cells.1; have q1 := fun u0 u1 u2 => (hBr.set u0 u1 u2).cells.2.1; have q2 := fun u0 u1 u2 => (hBr.set u0 u1 u2).cells.2.2.1; simp [results, Try.results13, go_sem, q0, q1, q2]) rfl (RatRet.put hBr (by omega) Pg.bel rfl rfl rfl h11 h12 rfl rfl)
  ·have Hq := hid (Hge.out hs hc)
   have hg1 : Hid (geB n1 n2 = true) := hid (by unfold geB; simp; omega)
   have lsub := Nat.le_trans (limbs_mono (Nat.sub_le n1 n2)) ln1
   clear hs Hadd Hge Hlt hc
   go_wp2_with (first
    | (go_at_call 26; refine (Sub_E A5 A6 _ c5 _ c6 _ _ _ n1 n2 (n1 - n2) true (by repeat first | assumption | apply Pg.Row.below (hb := by assumption) | apply Pg.Row.alloc | apply Pg.Row.drewN) (by repeat first | assumption | apply Pg.Row.below (hb := by assumption) | apply Pg.Row.alloc | apply Pg.Row.drewN) (val_limbs _) (val_limbs _) (by first | omega | assumption) (by first | omega | assumption) rfl hg1.out).mono ?_; rintro e w8 ⟨A10, c10, rfl, h10, hb8⟩; clear k0 k1 k2; obtain ⟨k0, k1, k2, _, _, _⟩ := (hB1.below hb8).cells)
    | (go_at_call 24; refine (Rof_E (rneg p) A10 A7 _ c10 _ c7 (n1 - n2) dd _ _ (p + q) _ (by repeat first | assumption | apply Pg.Row.below (hb := by assumption) | apply Pg.Row.alloc | apply Pg.Row.drewN) (by repeat first | assumption | apply Pg.Row.below (hb := by assumption) | apply Pg.Row.alloc | apply Pg.Row.drewN) (val_limbs _) (val_limbs _) (by first | omega | assumption) (by first | omega | assumption) Hq.out).mono ?_; rintro e w9 ⟨A11, c11, A12, c12, rfl, h11, h12, hb9⟩; have hBr := (hBz.below hb8).below hb9; obtain ⟨i0, i1, i2, f0, f1, f2⟩ := hBr.cells))
   refine bodyPost_ret (by have q0 := fun u0 u1 u2 => (hBr.set u0 u1 u2).cells.1; have q1 := fun u0 u1 u2 => (hBr.set u0 u1 u2).cells.2.1; have q2 := fun u0 u1 u2 => (hBr.set u0 u1 u2).cells.2.2.1; simp [results, Try.results13, go_sem, q0, q1, q2]) rfl (RatRet.put hBr (by omega) Pg.bel rfl rfl rfl h11 h12 rfl rfl)
end Go.Proofs.Ytahdlpkncemmaaa
