/- Walks · Walk · Walk. Conditions: those that each theorem names. -/
import Derived.Test.YtahdlpkncemmaaaW35
import Derived.Test.YtahdlpkncemmaaaW34
import Derived.Test.YtahdlpkncemmaaaW36
import Derived.Test.YtahdlpkncemmaaaW31
set_option maxRecDepth 100000
set_option maxHeartbeats 8000000
set_option linter.unusedSimpArgs false
set_option linter.unusedVariables false
namespace Pg
open Go Go.RowKit
open Go.Proofs.Ytahdlpkncemmaaa (str)
theorem idx_some {l : List (List UInt8)} {s : List UInt8} {j : Nat} (h : l[j]? = some s) (hn : ∀ i, i < j → l[i]? ≠ some s) : idx l s = some j := by
 unfold idx
 obtain ⟨hlt, e⟩ := List.getElem?_eq_some_iff.1 h
 rw [List.findIdx?_eq_some_iff_getElem]
 refine ⟨hlt, by simp [e], fun i hi => ?_⟩
 have := hn i hi
 rw [List.getElem?_eq_getElem (by omega)] at this
 simpa using fun e => this (by rw [e])
theorem idx_end {l : List (List UInt8)} {s : List UInt8} (hn : ∀ i, i < l.length → l[i]? ≠ some s) : idx l s = none := by
 rw [idx_none]
 intro hm
 obtain ⟨i, hi⟩ := List.getElem?_of_mem hm
 exact hn i (List.getElem?_eq_some_iff.1 hi).1 hi
theorem idx_get {l : List (List UInt8)} {s : List UInt8} {j : Nat} (h : idx l s = some j) : j < l.length := findIdx_lt h
theorem one_term {w : World} {b : Nat} {t : TypeId} {i : Int} {y y' : RV} {p q : Rat} (h : Bs w b t [.int .i64 i, .bool y.s, .slice y.A y.n y.c, .slice y.A' y.n' y.c']) (hy : y.at w (rwOf p)) (hy' : y'.at w (rwOf q)) :
  ConVal w (.agg #[.int .i64 0, .slice (some ⟨b, 0, none⟩) 1 1, .bool y'.s, .slice y'.A y'.n y'.c, .slice y'.A' y'.n' y'.c']) (cwOf ⟨0, [⟨i, p⟩], q⟩) :=
 ⟨_, _, _, _, _, _, rfl, ⟨rfl, Nat.le_refl _, by omega, by omega, (fun e => by cases e), fun _ => ⟨b, 0, rfl, h.lt, fun j t' ht => by
  match j, ht with
  | 0, ht =>
   simp only [cwOf, List.map_cons, List.map_nil, List.getElem?_cons_zero, Option.some.injEq] at ht
   subst ht
   exact ⟨_, _, _, h.at, hy⟩
  | j + 1, ht => simp [cwOf] at ht⟩⟩, hy'⟩
theorem no_term {w : World} {y : RV} {q : Rat} (hy : y.at w (rwOf q)) : ConVal w (.agg #[.int .i64 0, .slice none 0 0, .bool y.s, .slice y.A y.n y.c, .slice y.A' y.n' y.c']) (cwOf ⟨0, [], q⟩) :=
 ⟨none, 0, 0, _, _, _, rfl, ⟨rfl, Nat.le_refl _, by omega, by omega, fun _ => rfl, fun h => absurd h (by omega)⟩, hy⟩
theorem valAt_nat (l : List Rat) (i : Nat) : valAt l (i : Int) = l.getD i 0 := by unfold valAt; rw [if_pos (by omega), Int.toNat_natCast]
end Pg
namespace Go.Proofs.Ytahdlpkncemmaaa
open Go.RowKit Pg
def idxZ : Option Nat → Int | some i => i | none => -1
theorem str_beq {a b : List UInt8} (h : a ≠ b) : ((str a).toList == (str b).toList) = false := beq_eq_false_iff_ne.2 fun e => h (by rw [Lib.toList_data, Lib.toList_data] at e; simpa [str] using e)
theorem Index_S {A : Option Addr} {n c : Nat} {l : List (List UInt8)} (w : World) (s : List UInt8) (h : SlAt 1 NameAt w A n c l) :
  Calls Try.prog 57 #[.slice A n c, .string (str s)] w fun e w' => e = .returned (.int .i64 (idxZ (idx l s))) ∧ Below w.heap.size w w' := by
 have HS := hid h
 have hn := h.2.2.1
 clear h
 go_enter Try.func57, Try.ntmps57
 go_wp2_with fail
 go_loopw [8] (fun i wr => ∃ j : Nat, j ≤ n ∧ i = .int .i64 (j : Int) ∧ Hid (∀ i, i < j → l[i]? ≠ some s) ∧ Below w.heap.size w wr) (fun i _ => n - (intOf i).toNat)
 case atStart => exact ⟨0, Nat.zero_le _, rfl, hid (fun i hi => absurd hi (by omega)), Below.refl _ _⟩
 case round =>
  obtain ⟨j, hj, rfl, HN, hb⟩ := hrel
  by_cases hlt : j < n
  ·obtain ⟨e1, _, _, _, _, e6⟩ := HS.out
   obtain ⟨b', o', rfl, hbl, hx'⟩ := e6 (by omega)
   obtain ⟨t, ht⟩ : ∃ t, l[j]? = some t := ⟨l[j]'(by omega), List.getElem?_eq_getElem _⟩
   obtain ⟨hca, _⟩ := nameAt_stays _ _ _ _ _ hbl (hx' j t ht) hb
   have c0 : wr.cell? ⟨b', o' + j, none⟩ = some (.string (str t)) := by have := hca.at_ 0 (v := .string (str t)) rfl; rwa [Nat.mul_one] at this
   have HT := hid ht
   clear e1 e6 hx' ht hca
   by_cases hs : s = t
   ·subst hs
    go_wp2_with fail
    go_ret
    exact ⟨by rw [idx_some HT.out HN.out]; rfl, hb⟩
   ·have h1 := str_beq hs
    have HD := hid hs
    clear hs
    go_wp2_with fail
    refine ⟨⟨j + 1, hlt, by go_num, hid (fun i hi => ?_), hb⟩, ?_⟩
    ·rcases Nat.lt_or_ge i j with h | h
     ·exact HN.out i h
     ·obtain rfl : i = j := by omega
      rw [HT.out]
      exact fun e => HD.out (by injection e with e; exact e.symm)
    ·simp [intOf]; omega
  ·obtain rfl : j = n := by omega
   go_wp2_with fail
   go_ret
   exact ⟨by rw [idx_end (fun i hi => HN.out i (by rw [← HS.out.1]; exact hi))]; rfl, hb⟩
def SumRet (w : World) (x : Except Nat CQ) (e : Ending) (w' : World) : Prop := ∃ v, e = .returned (.tuple #[v, .int .i64 (errOf x : Int)]) ∧ ConVal w' v (conOf x) ∧ Below w.heap.size w w'
theorem named_C {x : EW} {k : Nat} (w : World) (s : List UInt8) (hE : EnvAt w x) (hl : ∀ r ∈ x.vals, r.Le k) (hk : k ≤ 262144) (hk1 : 1 ≤ k) :
  Calls Try.prog 46 #[.string (str s), .agg #[.slice x.A0 x.n0 x.k0, .slice x.A1 x.n1 x.k1, .slice x.A2 x.n2 x.k2]] w (SumRet w (nameC s x.q)) := by
 have HI0 := hid fun W (hW : Below w.heap.size w W) => Index_S W s (hE.vars.below nameAt_stays hW)
 have HI1 := hid fun W (hW : Below w.heap.size w W) => Index_S W s (hE.names.below nameAt_stays hW)
 have HV := hid fun W (hW : Below w.heap.size w W) (i : Nat) => value_Q W (hE.vals.below rawAt_stays hW) hl hk hk1 (i : Int) (valAt_nat _ i)
 have HX := hid ((Bs.new w 55 [.slice x.A0 x.n0 x.k0, .slice x.A1 x.n1 x.k1, .slice x.A2 x.n2 x.k2] _ rfl).alloc (.cells #[.int .i64 0, .slice none 0 0, .bool false, .slice none 0 0, .slice none 0 0] 27))
 have HZ := hid (Bs.new (w.alloc (.cells #[.slice x.A0 x.n0 x.k0, .slice x.A1 x.n1 x.k1, .slice x.A2 x.n2 x.k2] 55)) 27 [.int .i64 0, .slice none 0 0, .bool false, .slice none 0 0, .slice none 0 0] (w.heap.size + 1) (by simp))
 have c0 := HX.out.cell 0 rfl
 have c1 := HX.out.cell 1 rfl
 have c2 := HX.out.cell 2 rfl
 cases h0 : idx x.vars s with
 | some i =>
  have hlt := idx_get h0
  have hbd : (i : Int) ≤ 140737488355328 := by have := hE.vars.1; have := hE.vars.2.2.1; omega
  have hi0 : (0 : Int) ≤ (i : Int) := Int.natCast_nonneg _
  have hN : nameC s x.q = .ok ⟨0, [⟨i, 1⟩], 0⟩ := by unfold nameC EW.q; simp only; rw [h0]
  rw [hN]
  rw [h0] at HI0
  clear h0 hN HV HI1 hE hlt
  go_enter Try.func46, Try.ntmps46
  go_wp2_with (first
   | (go_at_call 57; (with_reducible refine (HI0.out _ Pg.bel).mono ?_); rintro e w2 ⟨rfl, hb2⟩; simp only [idxZ])
   | (go_at_call 47; (with_reducible refine (Int_Q 1 _ (by omega) (by omega) rfl).mono ?_); rintro e w3 ⟨y, rfl, hy, hb3⟩)
   | (go_at_call 47; (with_reducible refine (Int_Q 0 _ (by omega) (by omega) rfl).mono ?_); rintro e w5 ⟨y', rfl, hy', hb5⟩; have HZ5 := (((HZ.out.below hb2).below hb3).alloc (.cells #[.int .i64 (i : Int), .bool y.s, .slice y.A y.n y.c, .slice y.A' y.n' y.c'] 38)).below hb5; have HT5 := (Bs.new w3 38 [.int .i64 (i : Int), .bool y.s, .slice y.A y.n y.c, .slice y.A' y.n' y.c'] _ rfl).below hb5; have hyT := (hy.below (Below.new_ (Below.refl _ _) (.cells #[.int .i64 (i : Int), .bool y.s, .slice y.A y.n y.c, .slice y.A' y.n' y.c'] 38))).below hb5; have hbw : Below w.heap.size w w5 := Pg.bel; have f0 := HZ5.frozen 0; have f1 := HZ5.frozen 1; have f2 := HZ5.frozen 2; have f3 := HZ5.frozen 3; have f4 := HZ5.frozen 4; have z0 := HZ5.cell 0 rfl; have z1 := HZ5.cell 1 rfl; have z2 := HZ5.cell 2 rfl; have z3 := HZ5.cell 3 rfl; have z4 := HZ5.cell 4 rfl))
  refine bp_world (F := Stored w5 (w.heap.size + 1) 27 [.int .i64 0, .slice (some ⟨w3.heap.size, 0, none⟩) 1 1, .bool y'.s, .slice y'.A y'.n y'.c, .slice y'.A' y'.n' y'.c']) (stored5 HZ5) ?_
  rintro wz ⟨HS, ks, ss⟩
  have q0 := HS.cell 0 rfl
  have q1 := HS.cell 1 rfl
  have q2 := HS.cell 2 rfl
  have q3 := HS.cell 3 rfl
  have q4 := HS.cell 4 rfl
  refine bodyPost_ret (v := .tuple #[.agg #[.int .i64 0, .slice (some ⟨w3.heap.size, 0, none⟩) 1 1, .bool y'.s, .slice y'.A y'.n y'.c, .slice y'.A' y'.n' y'.c'], .int .i64 0]) (by simp [results, Try.results46, go_sem, q0, q1, q2, q3, q4]) rfl ?_
  have kz : Kp w.heap.size w5 wz := Kp.stored HZ5 conU0 ks (by omega)
  have hne : some w3.heap.size ≠ some (w.heap.size + 1) := by have := (HZ.out.below hb2).lt; have := hb3.size; intro e; injection e with e; omega
  exact ⟨_, rfl, one_term (HT5.grown ks hne) (hyT.kp kz) (hy'.kp kz), hbw.trans kz.below⟩
 | none =>
  cases h1 : idx x.names s with
  | some i =>
   have hlt := idx_get h1
   have hbd : (i : Int) ≤ 140737488355328 := by have := hE.names.1; have := hE.names.2.2.1; omega
   have hi0 : (0 : Int) ≤ (i : Int) := Int.natCast_nonneg _
   have hN : nameC s x.q = .ok ⟨0, [], (x.vals.map RW.q).getD i 0⟩ := by unfold nameC EW.q; simp only; rw [h0]; simp only; rw [h1]
   rw [hN]
   rw [h0] at HI0
   rw [h1] at HI1
   clear h0 h1 hN hE hlt
   go_enter Try.func46, Try.ntmps46
   go_wp2_with (first
    | (go_at_call 57; (with_reducible refine (HI0.out _ Pg.bel).mono ?_); rintro e w2 ⟨rfl, hb2⟩; simp only [idxZ]; clear c0 c1 c2; have HX2 := HX.out.below hb2; have c0 := HX2.cell 0 rfl; have c1 := HX2.cell 1 rfl; have c2 := HX2.cell 2 rfl)
    | (go_at_call 57; (with_reducible refine (HI1.out _ Pg.bel).mono ?_); rintro e w3 ⟨rfl, hb3⟩; simp only [idxZ]; clear c0 c1 c2; have HX3 := HX2.below hb3; have c0 := HX3.cell 0 rfl; have c1 := HX3.cell 1 rfl; have c2 := HX3.cell 2 rfl)
    | (go_at_call 58; (with_reducible refine (HV.out _ Pg.bel i).mono ?_); rintro e w5 ⟨y', rfl, hy', hb5⟩; have HZ5 := ((HZ.out.below hb2).below hb3).below hb5; have hbw : Below w.heap.size w w5 := Pg.bel; have f0 := HZ5.frozen 0; have f1 := HZ5.frozen 1; have f2 := HZ5.frozen 2; have f3 := HZ5.frozen 3; have f4 := HZ5.frozen 4; have z0 := HZ5.cell 0 rfl; have z1 := HZ5.cell 1 rfl; have z2 := HZ5.cell 2 rfl; have z3 := HZ5.cell 3 rfl; have z4 := HZ5.cell 4 rfl))
   refine bp_world (F := Stored w5 (w.heap.size + 1) 27 [.int .i64 0, .slice none 0 0, .bool y'.s, .slice y'.A y'.n y'.c, .slice y'.A' y'.n' y'.c']) (stored5 HZ5) ?_
   rintro wz ⟨HS, ks, ss⟩
   have q0 := HS.cell 0 rfl
   have q1 := HS.cell 1 rfl
   have q2 := HS.cell 2 rfl
   have q3 := HS.cell 3 rfl
   have q4 := HS.cell 4 rfl
   refine bodyPost_ret (v := .tuple #[.agg #[.int .i64 0, .slice none 0 0, .bool y'.s, .slice y'.A y'.n y'.c, .slice y'.A' y'.n' y'.c'], .int .i64 0]) (by simp [results, Try.results46, go_sem, q0, q1, q2, q3, q4]) rfl ?_
   have kz : Kp w.heap.size w5 wz := Kp.stored HZ5 conU0 ks (by omega)
   exact ⟨_, rfl, no_term (hy'.kp kz), hbw.trans kz.below⟩
  | none =>
   have hN : nameC s x.q = .error 5 := by unfold nameC EW.q; simp only; rw [h0]; simp only; rw [h1]
   rw [hN]
   rw [h0] at HI0
   rw [h1] at HI1
   clear h0 h1 hN hE HV
   go_enter Try.func46, Try.ntmps46
   go_wp2_with (first
    | (go_at_call 57; (with_reducible refine (HI0.out _ Pg.bel).mono ?_); rintro e w2 ⟨rfl, hb2⟩; simp only [idxZ]; clear c0 c1 c2; have HX2 := HX.out.below hb2; have c0 := HX2.cell 0 rfl; have c1 := HX2.cell 1 rfl; have c2 := HX2.cell 2 rfl)
    | (go_at_call 57; (with_reducible refine (HI1.out _ Pg.bel).mono ?_); rintro e w3 ⟨rfl, hb3⟩; simp only [idxZ]; have HZ5 := (HZ.out.below hb2).below hb3; have hbw : Below w.heap.size w w3 := Pg.bel; have f0 := HZ5.frozen 0; have f1 := HZ5.frozen 1; have f2 := HZ5.frozen 2; have f3 := HZ5.frozen 3; have f4 := HZ5.frozen 4; have z0 := HZ5.cell 0 rfl; have z1 := HZ5.cell 1 rfl; have z2 := HZ5.cell 2 rfl; have z3 := HZ5.cell 3 rfl; have z4 := HZ5.cell 4 rfl))
   refine bp_world (F := Stored w3 (w.heap.size + 1) 27 [.int .i64 0, .slice none 0 0, .bool false, .slice none 0 0, .slice none 0 0]) (stored5 HZ5) ?_
   rintro wz ⟨HS, ks, ss⟩
   have q0 := HS.cell 0 rfl
   have q1 := HS.cell 1 rfl
   have q2 := HS.cell 2 rfl
   have q3 := HS.cell 3 rfl
   have q4 := HS.cell 4 rfl
   refine bodyPost_ret (v := .tuple #[.agg #[.int .i64 0, .slice none 0 0, .bool false, .slice none 0 0, .slice none 0 0], .int .i64 5]) (by simp [results, Try.results46, go_sem, q0, q1, q2, q3, q4]) rfl ?_
   exact ⟨_, rfl, cw0_val _, hbw.trans (Below.kept ks (by omega) hbw.size)⟩
end Go.Proofs.Ytahdlpkncemmaaa
namespace Pg
open Go Go.RowKit
def rw0 : RW := ⟨false, [], []⟩
theorem rw0_at (w : World) : RV.at w ⟨false, none, 0, 0, none, 0, 0⟩ rw0 := ⟨none, 0, 0, none, 0, 0, rfl, rfl, rfl, Row.nil w, Row.nil w, by omega, by omega⟩
end Pg
namespace Go.Proofs.Ytahdlpkncemmaaa
open Go.RowKit Pg
end Go.Proofs.Ytahdlpkncemmaaa
namespace Pg
theorem scaleT_len (l : List TQ) (q : Rat) : (scaleT l q).length ≤ l.length := by
 induction l with
 | nil => exact Nat.le_refl _
 | cons t l ih =>
  unfold scaleT at ih ⊢
  rw [List.foldr_cons]
  unfold keepT
  split
  ·exact Nat.le_succ_of_le ih
  ·exact Nat.succ_le_succ ih
theorem cwOf_len (c : CQ) : (cwOf c).t.length = c.t.length := List.length_map _
theorem not_nil_len {α : Type} {l : List α} : l ≠ [] ↔ 0 < l.length := by cases l <;> simp
end Pg
namespace Go.Proofs.Ytahdlpkncemmaaa
open Go.RowKit Pg
theorem cw_short {w : World} {v : Value} {c : CQ} {K : Nat} (_ : ConVal w v (cwOf c)) (hl : (cwOf c).Le K) : ShortC c K := by
 refine ⟨fun t ht => ?_, hl.2⟩
 exact hl.1 (twOf t) (List.mem_map.2 ⟨t, ht, rfl⟩)
theorem joined_C {va vb : Value} {a b : CQ} {k K : Nat} (w : World) (ha : ConVal w va (cwOf a)) (hb : ConVal w vb (cwOf b)) (hla : (cwOf a).Le K) (hlb : (cwOf b).Le K) (hK : K ≤ 20000) (hK1 : 1 ≤ K) (hta : a.t.length ≤ 1000) (htb : b.t.length ≤ 1000) (k3 : 3 ≤ k) (k6 : k ≤ 6) :
  Calls Try.prog 48 #[.int .i64 (k : Int), va, vb] w (SumRet w (binC k a b)) := by
 obtain ⟨T, n, m, x, rfl, hca⟩ := ha.cv
 obtain ⟨T', n', m', x', rfl, hcb⟩ := hb.cv
 have hn : n = a.t.length := by rw [← hca.1.1]; exact cwOf_len a
 have hn' : n' = b.t.length := by rw [← hcb.1.1]; exact cwOf_len b
 have sa := cw_short ha hla
 have sb := cw_short hb hlb
 have HSA := hid fun W (hW : Below w.heap.size w W) (y : RV) (q : Rat) (hq : (rwOf q).Le K) (hy : y.at W (rwOf q)) => Scale_C W (ha.below hW) hy hla hq (by omega) hK1 (by rw [cwOf_len]; omega)
 have HSB := hid fun W (hW : Below w.heap.size w W) (y : RV) (q : Rat) (hq : (rwOf q).Le K) (hy : y.at W (rwOf q)) => Scale_C W (hb.below hW) hy hlb hq (by omega) hK1 (by rw [cwOf_len]; omega)
 simp only [cwOf_q, rwOf_q] at HSA HSB
 have HCA := hid hca
 have HCB := hid hcb
 have hna : (n : Int) ≤ 1000 := by omega
 have hnb : (n' : Int) ≤ 1000 := by omega
 rcases (by omega : k = 3 ∨ k = 4 ∨ k = 5 ∨ k = 6) with rfl | rfl | rfl | rfl
 ·have HA3 := hid fun W (hW : Below w.heap.size w W) => Add_C W (ha.below hW) (hb.below hW) hla hlb (by omega) hK1 (by rw [cwOf_len]; omega) (by rw [cwOf_len]; omega)
  simp only [cwOf_q] at HA3
  have hC : cwOf (addC a b) = conOf (binC 3 a b) := rfl
  have hE : binC 3 a b = .ok (addC a b) := rfl
  rw [hE] at hC ⊢
  obtain ⟨c, hc⟩ : ∃ c, cwOf (addC a b) = c := ⟨_, rfl⟩
  rw [hc] at HA3 hC
  have HC := hid hC
  clear hC hE hc HSA HSB ha hb hca hcb hn hn' sa sb
  go_enter Try.func48, Try.ntmps48
  go_upto_region 1 with fail
  refine wp_world (F := fun W => (Bs W w.heap.size 27 [.int .i64 (cwOf a).s, .slice T n m, .bool x.s, .slice x.A x.n x.c, .slice x.A' x.n' x.c'] ∧ Bs W (w.heap.size + 1) 27 [.int .i64 (cwOf b).s, .slice T' n' m', .bool x'.s, .slice x'.A x'.n x'.c, .slice x'.A' x'.n' x'.c'] ∧ Bs W (w.heap.size + 2) 27 [.int .i64 0, .slice none 0 0, .bool false, .slice none 0 0, .slice none 0 0]) ∧ Below w.heap.size w W)
   ⟨⟨((Bs.new w _ _ _ rfl).alloc _).alloc _, (Bs.new _ _ _ _ (by simp)).alloc _, Bs.new _ _ _ _ (by simp)⟩, Pg.bel⟩ ?_
  rintro w1 ⟨⟨HA, HB, HZ⟩, hb1⟩
  have a0 := HA.cell 0 rfl
  have a1 := HA.cell 1 rfl
  have a2 := HA.cell 2 rfl
  have a3 := HA.cell 3 rfl
  have a4 := HA.cell 4 rfl
  have b0 := HB.cell 0 rfl
  have b1 := HB.cell 1 rfl
  have b2 := HB.cell 2 rfl
  have b3 := HB.cell 3 rfl
  have b4 := HB.cell 4 rfl
  go_wp2_with (go_at_call 6; (with_reducible refine (HA3.out _ hb1).mono ?_); rintro e w5 ⟨v5, rfl, hv5, hb5⟩; obtain ⟨T5, n5, m5, y5, rfl, hc5⟩ := hv5.cv; have HZ5 := HZ.below hb5; have hbw := Below.then_ hb1 hb5; have f0 := HZ5.frozen 0; have f1 := HZ5.frozen 1; have f2 := HZ5.frozen 2; have f3 := HZ5.frozen 3; have f4 := HZ5.frozen 4; have z0 := HZ5.cell 0 rfl; have z1 := HZ5.cell 1 rfl; have z2 := HZ5.cell 2 rfl; have z3 := HZ5.cell 3 rfl; have z4 := HZ5.cell 4 rfl)
  refine bp_world (F := Stored w5 (w.heap.size + 1 + 1) 27 [.int .i64 c.s, .slice T5 n5 m5, .bool y5.s, .slice y5.A y5.n y5.c, .slice y5.A' y5.n' y5.c']) (stored5 HZ5) ?_
  rintro wz ⟨HS, ks, ss⟩
  have q0 := HS.cell 0 rfl
  have q1 := HS.cell 1 rfl
  have q2 := HS.cell 2 rfl
  have q3 := HS.cell 3 rfl
  have q4 := HS.cell 4 rfl
  refine bodyPost_ret (v := .tuple #[.agg #[.int .i64 c.s, .slice T5 n5 m5, .bool y5.s, .slice y5.A y5.n y5.c, .slice y5.A' y5.n' y5.c'], .int .i64 0]) (by simp [results, Try.results48, go_sem, q0, q1, q2, q3, q4]) rfl ?_
  exact ⟨_, rfl, by rw [← HC.out]; exact (hc5.kept HZ5 conU0 noT_con ks).val, hbw.trans (Below.kept ks (by omega) hbw.size)⟩
 ·have hC : cwOf (addC a (scaleC b (-1))) = conOf (binC 4 a b) := rfl
  have hE : binC 4 a b = .ok (addC a (scaleC b (-1))) := rfl
  rw [hE] at hC ⊢
  have hm1 : (rwOf (-1)).Le K := (short_le short_one.neg).mono hK1
  obtain ⟨c1, hc1⟩ : ∃ c1, cwOf (scaleC b (-1)) = c1 := ⟨_, rfl⟩
  obtain ⟨c, hc⟩ : ∃ c, cwOf (addC a (scaleC b (-1))) = c := ⟨_, rfl⟩
  have hl1 : c1.Le (K + 1) := by rw [← hc1]; exact (sb.scale short_one.neg).le
  have hq1 : c1.q = scaleC b (-1) := by rw [← hc1, cwOf_q]
  have hlc1 : c1.t.length ≤ 100000 := by rw [← hc1, cwOf_len]; exact Nat.le_trans (scaleT_len _ _) (by omega)
  have HSc := hid fun W (hW : Below w.heap.size w W) (y : RV) (hy : y.at W (rwOf (-1))) => (hc1 ▸ HSB.out W hW y (-1) hm1 hy : Calls Try.prog 7 _ W (ConRet W c1))
  have HAd := hid fun W (hW : Below w.heap.size w W) (v : Value) (hv : ConVal W v c1) => Add_C W (ha.below hW) hv (hla.mono (Nat.le_succ K)) hl1 (by omega) (by omega) (by rw [cwOf_len]; omega) hlc1
  rw [cwOf_q, hq1, hc] at HAd
  rw [hc] at hC
  have HC := hid hC
  clear hC hE hc hc1 hq1 HSA HSB ha hb hca hcb hn hn' sa sb
  go_enter Try.func48, Try.ntmps48
  go_upto_region 1 with fail
  refine wp_world (F := fun W => (Bs W w.heap.size 27 [.int .i64 (cwOf a).s, .slice T n m, .bool x.s, .slice x.A x.n x.c, .slice x.A' x.n' x.c'] ∧ Bs W (w.heap.size + 1) 27 [.int .i64 (cwOf b).s, .slice T' n' m', .bool x'.s, .slice x'.A x'.n x'.c, .slice x'.A' x'.n' x'.c'] ∧ Bs W (w.heap.size + 2) 27 [.int .i64 0, .slice none 0 0, .bool false, .slice none 0 0, .slice none 0 0]) ∧ Below w.heap.size w W)
   ⟨⟨((Bs.new w _ _ _ rfl).alloc _).alloc _, (Bs.new _ _ _ _ (by simp)).alloc _, Bs.new _ _ _ _ (by simp)⟩, Pg.bel⟩ ?_
  rintro w1 ⟨⟨HA, HB, HZ⟩, hb1⟩
  go_upto_region 5 with fail
  refine draw_G (fun W W' => W.grownBy W' (some (w.heap.size + 2))) (fun W => w1.grownBy W (some (w.heap.size + 2))) 5 none [some 18, some 19, some 20, some 21, some 22, none, some 7] [.is (.agg #[.int .i64 (cwOf a).s, .slice T n m, .bool x.s, .slice x.A x.n x.c, .slice x.A' x.n' x.c']), .is (.agg #[.int .i64 (cwOf b).s, .slice T' n' m', .bool x'.s, .slice x'.A x'.n x'.c, .slice x'.A' x'.n' x'.c']), .such (fun W v => ∃ (yX : RV), v = .agg #[.bool yX.s, .slice yX.A yX.n yX.c, .slice yX.A' yX.n' yX.c'] ∧ yX.at W (rwOf (-1))), .such (fun W v => ∃ (TX : Option Addr) (nX : Nat) (mX : Nat) (yX : RV), v = .agg #[.int .i64 c1.s, .slice TX nX mX, .bool yX.s, .slice yX.A yX.n yX.c, .slice yX.A' yX.n' yX.c'] ∧ CV W TX nX mX yX (c1)), .such (fun W v => ∃ (TX : Option Addr) (nX : Nat) (mX : Nat) (yX : RV), v = .agg #[.int .i64 c.s, .slice TX nX mX, .bool yX.s, .slice yX.A yX.n yX.c, .slice yX.A' yX.n' yX.c'] ∧ CV W TX nX mX yX (c)), .own (fun W _ => ∃ (T22s : Option Addr) (n22s : Nat) (m22s : Nat) (y22s : RV), Bs W (w.heap.size + 2) 27 [.int .i64 c.s, .slice T22s n22s m22s, .bool y22s.s, .slice y22s.A y22s.n y22s.c, .slice y22s.A' y22s.n' y22s.c'] ∧ CV W T22s n22s m22s y22s (c)), .is (.int .i64 0)]
   (by kernel_rfl) (by kernel_rfl) (by kernel_rfl) (by kernel_rfl) rfl (by kernel_rfl) (fun _ h => grown_of h _) (fun _ _ h hb => kept_then h (grown_of hb _)) (fun _ _ hb h => kept_then (grown_of hb _) h) (fun q W1 W2 v hm hbw hk hq => by simp at hm; rcases hm with rfl | rfl | rfl <;> first | (obtain ⟨yX, rfl, hyX⟩ := hq W1 (Below.refl _ _); exact fun W hW => ⟨_, rfl, (RV.at.kp hyX (Kp.stored (B := 0) (HZ.below hbw) (noU_i64 (noU_slice (noU_bool (noU_slice (noU_slice noU_nil))))) hk (Nat.zero_le _))).below hW⟩) | (obtain ⟨TX, nX, mX, yX, rfl, hcX⟩ := hq W1 (Below.refl _ _); exact fun W hW => ⟨_, _, _, _, rfl, (CV.kept hcX (HZ.below hbw) (noU_i64 (noU_slice (noU_bool (noU_slice (noU_slice noU_nil))))) noT_con hk).below hW⟩)) ?_ ?_
  ·refine ⟨?_, ?_, ?_, ?_, ?_, ?_, ?_, trivial⟩
   ·intro a w3 hA K hK
    have t4 := hA.old 4 _ rfl rfl
    have k0 := (HA.below hA.below).cell 0 rfl
    have k1 := (HA.below hA.below).cell 1 rfl
    have k2 := (HA.below hA.below).cell 2 rfl
    have k3 := (HA.below hA.below).cell 3 rfl
    have k4 := (HA.below hA.below).cell 4 rfl
    go_simp
    exact hK _ _ rfl (Below.refl _ _)
   ·intro a w3 hA K hK
    have t5 := hA.old 5 _ rfl rfl
    have k0 := (HB.below hA.below).cell 0 rfl
    have k1 := (HB.below hA.below).cell 1 rfl
    have k2 := (HB.below hA.below).cell 2 rfl
    have k3 := (HB.below hA.below).cell 3 rfl
    have k4 := (HB.below hA.below).cell 4 rfl
    go_simp
    exact hK _ _ rfl (Below.refl _ _)
   ·intro a w3 hA K hK
    have hC := Int_Q (-1) w3 (by omega) (by omega) rfl
    go_simp
    refine hC.mono ?_
    rintro e w4 ⟨y, rfl, hy, hb⟩
    exact hK _ _ (fun W hW => ⟨_, rfl, hy.below hW⟩) hb
   ·intro a w3 hA K hK
    have t19 := bg_is hA 1 19
    obtain ⟨v20, t20, p20⟩ := bg_such hA 2 20
    obtain ⟨y20, rfl, hy20⟩ := p20 w3 (Below.refl _ _)
    have hC := HSc.out _ (Below.then_ hb1 hA.below) _ hy20
    go_simp
    refine hC.mono ?_
    rintro e w4 ⟨v, rfl, hv, hb⟩
    obtain ⟨_, _, _, _, rfl, hc⟩ := hv.cv; exact hK _ _ (fun W hW => ⟨_, _, _, _, rfl, hc.below hW⟩) hb
   ·intro a w3 hA K hK
    have t18 := bg_is hA 0 18
    obtain ⟨v21, t21, p21⟩ := bg_such hA 3 21
    obtain ⟨T21, n21, m21, y21, rfl, hc21⟩ := p21 w3 (Below.refl _ _)
    have hC := HAd.out _ (Below.then_ hb1 hA.below) _ hc21.val
    go_simp
    refine hC.mono ?_
    rintro e w4 ⟨v, rfl, hv, hb⟩
    obtain ⟨_, _, _, _, rfl, hc⟩ := hv.cv; exact hK _ _ (fun W hW => ⟨_, _, _, _, rfl, hc.below hW⟩) hb
   ·intro a w3 hA K hK
    have t6 := hA.old 6 _ rfl rfl
    obtain ⟨v22, t22, p22⟩ := bg_such hA 4 22
    obtain ⟨T22s, n22s, m22s, y22s, rfl, hc22s⟩ := p22 w3 (Below.refl _ _)
    have hB := HZ.below hA.below
    have f0 := hB.frozen 0
    have c0 := hB.cell 0 rfl
    have f1 := hB.frozen 1
    have c1 := hB.cell 1 rfl
    have f2 := hB.frozen 2
    have c2 := hB.cell 2 rfl
    have f3 := hB.frozen 3
    have c3 := hB.cell 3 rfl
    have f4 := hB.frozen 4
    have c4 := hB.cell 4 rfl
    go_simp
    exact hK undef _ (fun W hW => ⟨_, _, _, _, (stored5 hB).1.below hW, (CV.kept hc22s hB (noU_i64 (noU_slice (noU_bool (noU_slice (noU_slice noU_nil))))) noT_con (stored5 hB).2.1).below hW⟩) ⟨(stored5 hB).2.1, fun j d h => by cases h⟩
   ·intro a w3 hA K hK
    go_simp
    exact hK _ _ Pg.fi_ (Below.refl _ _)
  rintro vs wv hV hgv hlk act hact
  repeat (replace hV := hV.is_; obtain ⟨_, rfl, hV⟩ := hV)
  replace hV := hV.such_; obtain ⟨v20, _, rfl, p20, hV⟩ := hV
  replace hV := hV.such_; obtain ⟨v21, _, rfl, p21, hV⟩ := hV
  replace hV := hV.such_; obtain ⟨v22, _, rfl, p22, hV⟩ := hV
  replace hV := hV.own_; obtain ⟨vP, _, rfl, pP, hV⟩ := hV
  replace hV := hV.is_; obtain ⟨_, rfl, hV⟩ := hV
  obtain rfl := hV.nil_
  clear hV
  clear hlk
  obtain ⟨y20, rfl, hy20⟩ := p20 wv (Below.refl _ _)
  clear p20
  obtain ⟨T21, n21, m21, y21, rfl, hc21⟩ := p21 wv (Below.refl _ _)
  clear p21
  obtain ⟨T22, n22, m22, y22, rfl, hc22⟩ := p22 wv (Below.refl _ _)
  clear p22
  obtain ⟨T22s, n22s, m22s, y22s, hBS, hc22s⟩ := pP wv (Below.refl _ _)
  clear pP
  simp only [putsO] at hact
  subst hact
  go_simp
  have hzw : Below w.heap.size w wv := hb1.trans (Below.kept hgv (by omega) hb1.size)
  have hBS' : Bs wv (w.heap.size + 1 + 1) 27 [.int .i64 c.s, .slice T22s n22s m22s, .bool y22s.s, .slice y22s.A y22s.n y22s.c, .slice y22s.A' y22s.n' y22s.c'] := hBS
  have q0 := hBS'.cell 0 rfl
  have q1 := hBS'.cell 1 rfl
  have q2 := hBS'.cell 2 rfl
  have q3 := hBS'.cell 3 rfl
  have q4 := hBS'.cell 4 rfl
  go_wp2_with fail
  refine bodyPost_ret (v := .tuple #[.agg #[.int .i64 c.s, .slice T22s n22s m22s, .bool y22s.s, .slice y22s.A y22s.n y22s.c, .slice y22s.A' y22s.n' y22s.c'], .int .i64 0]) (by simp [results, Try.results48, go_sem, q0, q1, q2, q3, q4]) rfl ?_
  exact ⟨_, rfl, by rw [← HC.out]; exact hc22s.val, hzw⟩
 ·-- the product
  by_cases h1 : a.t ≠ []
  ·by_cases h2 : b.t ≠ []
   ·have hE : binC 5 a b = .error 6 := by unfold binC; rw [if_neg (by decide), if_neg (by decide), if_pos rfl, if_pos ⟨h1, h2⟩]
    rw [hE]
    have hp1 : 0 < n := by rw [hn]; exact not_nil_len.1 h1
    have hp2 : 0 < n' := by rw [hn']; exact not_nil_len.1 h2
    clear hE h1 h2 HSA HSB ha hb hca hcb hn hn' sa sb
    have dn : decide ((0 : Int) < (n : Int)) = true := decide_eq_true (by omega)
    have dn' : decide ((0 : Int) < (n' : Int)) = true := decide_eq_true (by omega)
    go_enter Try.func48, Try.ntmps48
    go_upto_region 1 with fail
    refine wp_world (F := fun W => (Bs W w.heap.size 27 [.int .i64 (cwOf a).s, .slice T n m, .bool x.s, .slice x.A x.n x.c, .slice x.A' x.n' x.c'] ∧ Bs W (w.heap.size + 1) 27 [.int .i64 (cwOf b).s, .slice T' n' m', .bool x'.s, .slice x'.A x'.n x'.c, .slice x'.A' x'.n' x'.c'] ∧ Bs W (w.heap.size + 2) 27 [.int .i64 0, .slice none 0 0, .bool false, .slice none 0 0, .slice none 0 0]) ∧ Below w.heap.size w W)
     ⟨⟨((Bs.new w _ _ _ rfl).alloc _).alloc _, (Bs.new _ _ _ _ (by simp)).alloc _, Bs.new _ _ _ _ (by simp)⟩, Pg.bel⟩ ?_
    rintro w1 ⟨⟨HA, HB, HZ⟩, hb1⟩
    have a0 := HA.cell 0 rfl
    have a1 := HA.cell 1 rfl
    have a2 := HA.cell 2 rfl
    have a3 := HA.cell 3 rfl
    have a4 := HA.cell 4 rfl
    have b0 := HB.cell 0 rfl
    have b1 := HB.cell 1 rfl
    have b2 := HB.cell 2 rfl
    have b3 := HB.cell 3 rfl
    have b4 := HB.cell 4 rfl
    have z0 := HZ.cell 0 rfl
    have z1 := HZ.cell 1 rfl
    have z2 := HZ.cell 2 rfl
    have z3 := HZ.cell 3 rfl
    have z4 := HZ.cell 4 rfl
    have f0 := HZ.frozen 0
    have f1 := HZ.frozen 1
    have f2 := HZ.frozen 2
    have f3 := HZ.frozen 3
    have f4 := HZ.frozen 4
    go_wp2_with fail
    refine bp_world (F := Stored w1 (w.heap.size + 1 + 1) 27 [.int .i64 0, .slice none 0 0, .bool false, .slice none 0 0, .slice none 0 0]) (stored5 HZ) ?_
    rintro wz ⟨HS, ks, ss⟩
    have q0 := HS.cell 0 rfl
    have q1 := HS.cell 1 rfl
    have q2 := HS.cell 2 rfl
    have q3 := HS.cell 3 rfl
    have q4 := HS.cell 4 rfl
    refine bodyPost_ret (v := .tuple #[.agg #[.int .i64 0, .slice none 0 0, .bool false, .slice none 0 0, .slice none 0 0], .int .i64 6]) (by simp [results, Try.results48, go_sem, q0, q1, q2, q3, q4]) rfl ?_
    exact ⟨_, rfl, cw0_val _, hb1.trans (Below.kept ks (by omega) hb1.size)⟩
   ·have hE : binC 5 a b = .ok (scaleC a b.k) := by unfold binC; rw [if_neg (by decide), if_neg (by decide), if_pos rfl, if_neg (fun h => h2 h.2), if_pos h1]
    have hC : cwOf (scaleC a b.k) = conOf (binC 5 a b) := by rw [hE]; rfl
    rw [hE] at hC ⊢
    have HS3 := hid fun W (hW : Below w.heap.size w W) => HSA.out W hW x' b.k hlb.2 (HCB.out.2.below hW)
    obtain ⟨c, hc⟩ : ∃ c, cwOf (scaleC a b.k) = c := ⟨_, rfl⟩
    rw [hc] at HS3 hC
    have HC := hid hC
    have hp1 : 0 < n := by rw [hn]; exact not_nil_len.1 h1
    have hp2 : n' = 0 := by rw [hn']; exact List.length_eq_zero_iff.2 (Classical.not_not.1 h2)
    have dn' : decide ((0 : Int) < (n' : Int)) = false := decide_eq_false (by omega)
    have dn2 : ¬ 0 < n' := by omega
    replace hp2 := Nat.le_of_eq hp2
    clear hC hE hc h1 h2 HSA HSB ha hb hca hcb hn hn' sa sb
    have dn : decide ((0 : Int) < (n : Int)) = true := decide_eq_true (by omega)
    go_enter Try.func48, Try.ntmps48
    go_upto_region 1 with fail
    refine wp_world (F := fun W => (Bs W w.heap.size 27 [.int .i64 (cwOf a).s, .slice T n m, .bool x.s, .slice x.A x.n x.c, .slice x.A' x.n' x.c'] ∧ Bs W (w.heap.size + 1) 27 [.int .i64 (cwOf b).s, .slice T' n' m', .bool x'.s, .slice x'.A x'.n x'.c, .slice x'.A' x'.n' x'.c'] ∧ Bs W (w.heap.size + 2) 27 [.int .i64 0, .slice none 0 0, .bool false, .slice none 0 0, .slice none 0 0]) ∧ Below w.heap.size w W)
     ⟨⟨((Bs.new w _ _ _ rfl).alloc _).alloc _, (Bs.new _ _ _ _ (by simp)).alloc _, Bs.new _ _ _ _ (by simp)⟩, Pg.bel⟩ ?_
    rintro w1 ⟨⟨HA, HB, HZ⟩, hb1⟩
    have a0 := HA.cell 0 rfl
    have a1 := HA.cell 1 rfl
    have a2 := HA.cell 2 rfl
    have a3 := HA.cell 3 rfl
    have a4 := HA.cell 4 rfl
    have b0 := HB.cell 0 rfl
    have b1 := HB.cell 1 rfl
    have b2 := HB.cell 2 rfl
    have b3 := HB.cell 3 rfl
    have b4 := HB.cell 4 rfl
    go_wp2_with (go_at_call 7; (with_reducible refine (HS3.out _ hb1).mono ?_); rintro e w5 ⟨v5, rfl, hv5, hb5⟩; obtain ⟨T5, n5, m5, y5, rfl, hc5⟩ := hv5.cv; have HZ5 := HZ.below hb5; have hbw := Below.then_ hb1 hb5; have f0 := HZ5.frozen 0; have f1 := HZ5.frozen 1; have f2 := HZ5.frozen 2; have f3 := HZ5.frozen 3; have f4 := HZ5.frozen 4; have z0 := HZ5.cell 0 rfl; have z1 := HZ5.cell 1 rfl; have z2 := HZ5.cell 2 rfl; have z3 := HZ5.cell 3 rfl; have z4 := HZ5.cell 4 rfl)
    refine bp_world (F := Stored w5 (w.heap.size + 1 + 1) 27 [.int .i64 c.s, .slice T5 n5 m5, .bool y5.s, .slice y5.A y5.n y5.c, .slice y5.A' y5.n' y5.c']) (stored5 HZ5) ?_
    rintro wz ⟨HS, ks, ss⟩
    have q0 := HS.cell 0 rfl
    have q1 := HS.cell 1 rfl
    have q2 := HS.cell 2 rfl
    have q3 := HS.cell 3 rfl
    have q4 := HS.cell 4 rfl
    refine bodyPost_ret (v := .tuple #[.agg #[.int .i64 c.s, .slice T5 n5 m5, .bool y5.s, .slice y5.A y5.n y5.c, .slice y5.A' y5.n' y5.c'], .int .i64 0]) (by simp [results, Try.results48, go_sem, q0, q1, q2, q3, q4]) rfl ?_
    exact ⟨_, rfl, by rw [← HC.out]; exact (hc5.kept HZ5 conU0 noT_con ks).val, hbw.trans (Below.kept ks (by omega) hbw.size)⟩
  ·have hE : binC 5 a b = .ok (scaleC b a.k) := by unfold binC; rw [if_neg (by decide), if_neg (by decide), if_pos rfl, if_neg (fun h => h1 h.1), if_neg h1]
   have hC : cwOf (scaleC b a.k) = conOf (binC 5 a b) := by rw [hE]; rfl
   rw [hE] at hC ⊢
   have HS3 := hid fun W (hW : Below w.heap.size w W) => HSB.out W hW x a.k hla.2 (HCA.out.2.below hW)
   obtain ⟨c, hc⟩ : ∃ c, cwOf (scaleC b a.k) = c := ⟨_, rfl⟩
   rw [hc] at HS3 hC
   have HC := hid hC
   have hp1 : n = 0 := by rw [hn]; exact List.length_eq_zero_iff.2 (Classical.not_not.1 h1)
   have dn : decide ((0 : Int) < (n : Int)) = false := decide_eq_false (by omega)
   have dn2 : ¬ 0 < n := by omega
   replace hp1 := Nat.le_of_eq hp1
   clear hC hE hc h1 HSA HSB ha hb hca hcb hn hn' sa sb
   go_enter Try.func48, Try.ntmps48
   go_upto_region 1 with fail
   refine wp_world (F := fun W => (Bs W w.heap.size 27 [.int .i64 (cwOf a).s, .slice T n m, .bool x.s, .slice x.A x.n x.c, .slice x.A' x.n' x.c'] ∧ Bs W (w.heap.size + 1) 27 [.int .i64 (cwOf b).s, .slice T' n' m', .bool x'.s, .slice x'.A x'.n x'.c, .slice x'.A' x'.n' x'.c'] ∧ Bs W (w.heap.size + 2) 27 [.int .i64 0, .slice none 0 0, .bool false, .slice none 0 0, .slice none 0 0]) ∧ Below w.heap.size w W)
    ⟨⟨((Bs.new w _ _ _ rfl).alloc _).alloc _, (Bs.new _ _ _ _ (by simp)).alloc _, Bs.new _ _ _ _ (by simp)⟩, Pg.bel⟩ ?_
   rintro w1 ⟨⟨HA, HB, HZ⟩, hb1⟩
   have a0 := HA.cell 0 rfl
   have a1 := HA.cell 1 rfl
   have a2 := HA.cell 2 rfl
   have a3 := HA.cell 3 rfl
   have a4 := HA.cell 4 rfl
   have b0 := HB.cell 0 rfl
   have b1 := HB.cell 1 rfl
   have b2 := HB.cell 2 rfl
   have b3 := HB.cell 3 rfl
   have b4 := HB.cell 4 rfl
   go_wp2_with (go_at_call 7; (with_reducible refine (HS3.out _ hb1).mono ?_); rintro e w5 ⟨v5, rfl, hv5, hb5⟩; obtain ⟨T5, n5, m5, y5, rfl, hc5⟩ := hv5.cv; have HZ5 := HZ.below hb5; have hbw := Below.then_ hb1 hb5; have f0 := HZ5.frozen 0; have f1 := HZ5.frozen 1; have f2 := HZ5.frozen 2; have f3 := HZ5.frozen 3; have f4 := HZ5.frozen 4; have z0 := HZ5.cell 0 rfl; have z1 := HZ5.cell 1 rfl; have z2 := HZ5.cell 2 rfl; have z3 := HZ5.cell 3 rfl; have z4 := HZ5.cell 4 rfl)
   refine bp_world (F := Stored w5 (w.heap.size + 1 + 1) 27 [.int .i64 c.s, .slice T5 n5 m5, .bool y5.s, .slice y5.A y5.n y5.c, .slice y5.A' y5.n' y5.c']) (stored5 HZ5) ?_
   rintro wz ⟨HS, ks, ss⟩
   have q0 := HS.cell 0 rfl
   have q1 := HS.cell 1 rfl
   have q2 := HS.cell 2 rfl
   have q3 := HS.cell 3 rfl
   have q4 := HS.cell 4 rfl
   refine bodyPost_ret (v := .tuple #[.agg #[.int .i64 c.s, .slice T5 n5 m5, .bool y5.s, .slice y5.A y5.n y5.c, .slice y5.A' y5.n' y5.c'], .int .i64 0]) (by simp [results, Try.results48, go_sem, q0, q1, q2, q3, q4]) rfl ?_
   exact ⟨_, rfl, by rw [← HC.out]; exact (hc5.kept HZ5 conU0 noT_con ks).val, hbw.trans (Below.kept ks (by omega) hbw.size)⟩
 ·-- the quotient
  by_cases h2 : b.t ≠ []
  ·have hE : binC 6 a b = .error 6 := by unfold binC; rw [if_neg (by decide), if_neg (by decide), if_neg (by decide), if_pos h2]
   rw [hE]
   obtain ⟨q, hq⟩ : ∃ q, 1 / b.k = q := ⟨_, rfl⟩
   obtain ⟨B, hB⟩ : ∃ B, decide (b.k ≠ 0) = B := ⟨_, rfl⟩
   have HD := hid fun W (hW : Below w.heap.size w W) (y : RV) (hy : y.at W (rwOf 1)) => Div_Q (q := q) (b := B) W hy (HCB.out.2.below hW) ((short_le short_one).mono hK1) hlb.2 (by omega) hK1 (by rw [rwOf_q]; show 1 / (rwOf b.k).q = q; rw [rwOf_q]; exact hq) (by show decide ((rwOf b.k).q ≠ 0) = B; rw [rwOf_q]; exact hB)
   have hp2 : 0 < n' := by rw [hn']; exact not_nil_len.1 h2
   clear hE h2 hq hB HSA HSB ha hb hca hcb hn hn' sa sb
   have dn' : decide ((0 : Int) < (n' : Int)) = true := decide_eq_true (by omega)
   go_enter Try.func48, Try.ntmps48
   go_upto_region 1 with fail
   refine wp_world (F := fun W => (Bs W w.heap.size 27 [.int .i64 (cwOf a).s, .slice T n m, .bool x.s, .slice x.A x.n x.c, .slice x.A' x.n' x.c'] ∧ Bs W (w.heap.size + 1) 27 [.int .i64 (cwOf b).s, .slice T' n' m', .bool x'.s, .slice x'.A x'.n x'.c, .slice x'.A' x'.n' x'.c'] ∧ Bs W (w.heap.size + 2) 27 [.int .i64 0, .slice none 0 0, .bool false, .slice none 0 0, .slice none 0 0]) ∧ Below w.heap.size w W)
    ⟨⟨((Bs.new w _ _ _ rfl).alloc _).alloc _, (Bs.new _ _ _ _ (by simp)).alloc _, Bs.new _ _ _ _ (by simp)⟩, Pg.bel⟩ ?_
   rintro w1 ⟨⟨HA, HB, HZ⟩, hb1⟩
   go_upto_region 12 with fail
   refine draw_G (FreshR w1 25 3) (fun W => Below w1.heap.size w1 W) 8 (some 7) [some 49, some 50, some 51, some 52, some 48, some 53, some 54, some 8, none, some 9] [.such (fun W v => ∃ (yX : RV), v = .agg #[.bool yX.s, .slice yX.A yX.n yX.c, .slice yX.A' yX.n' yX.c'] ∧ yX.at W (rwOf (1))), .is (.pointer (some ⟨w.heap.size + 1, 2, none⟩)), .is (.agg #[.bool x'.s, .slice x'.A x'.n x'.c, .slice x'.A' x'.n' x'.c']), .such (fun W v => ∃ (yX : RV), v = .tuple #[.agg #[.bool yX.s, .slice yX.A yX.n yX.c, .slice yX.A' yX.n' yX.c'], .bool B] ∧ yX.at W (rwOf (q))), .such (fun W v => ∃ (yX : RV), v = .tuple #[.agg #[.bool yX.s, .slice yX.A yX.n yX.c, .slice yX.A' yX.n' yX.c'], .bool B] ∧ yX.at W (rwOf (q))), .such (fun W v => ∃ (yX : RV), v = .agg #[.bool yX.s, .slice yX.A yX.n yX.c, .slice yX.A' yX.n' yX.c'] ∧ yX.at W (rwOf (q))), .is (.bool B), .such (FreshAt w1 25 3), .own (fun W v => ∃ (gF : Nat) (y53s : RV), v = .pointer (some ⟨gF, 0, none⟩) ∧ w1.heap.size ≤ gF ∧ Bs W gF 25 [.bool y53s.s, .slice y53s.A y53s.n y53s.c, .slice y53s.A' y53s.n' y53s.c'] ∧ y53s.at W (rwOf (q))), .is (.bool B)]
    (by kernel_rfl) (by kernel_rfl) (by kernel_rfl) (by kernel_rfl) rfl (by kernel_rfl) (fun _ h => h) (fun _ _ h hb => Below.then_ h hb) (fun _ _ hb h => FreshR.bel hb h) (fun q W1 W2 v hm hbw hk hq => by simp at hm; rcases hm with rfl | rfl | rfl | rfl | rfl <;> first | (obtain ⟨yX, rfl, hyX⟩ := hq W1 (Below.refl _ _); exact fun W hW => ⟨_, rfl, (FreshR.rows hk hyX).below hW⟩) | (exact fun W hW => (FreshAt.after (hq W1 (Below.refl _ _)) hk).below hW)) ?_ ?_
   ·refine ⟨?_, ?_, ?_, ?_, ?_, ?_, ?_, ?_, ?_, ?_, trivial⟩
    ·intro a w3 hA K hK
     have hC := Int_Q 1 w3 (by omega) (by omega) rfl
     go_simp
     refine hC.mono ?_
     rintro e w4 ⟨y, rfl, hy, hb⟩
     exact hK _ _ (fun W hW => ⟨_, rfl, hy.below hW⟩) hb
    ·intro a w3 hA K hK
     have t5 := hA.old 5 _ rfl rfl
     go_simp
     exact hK _ _ rfl (Below.refl _ _)
    ·intro a w3 hA K hK
     have t50 := bg_is hA 1 50
     have k0 := (HB.below hA.grown).cell 2 rfl
     have k1 := (HB.below hA.grown).cell 3 rfl
     have k2 := (HB.below hA.grown).cell 4 rfl
     go_simp
     exact hK _ _ rfl (Below.refl _ _)
    ·intro a w3 hA K hK
     obtain ⟨v49, t49, p49⟩ := bg_such hA 0 49
     obtain ⟨y49, rfl, hy49⟩ := p49 w3 (Below.refl _ _)
     have t51 := bg_is hA 2 51
     have hC := HD.out _ (Below.then_ hb1 hA.grown) _ hy49
     go_simp
     refine hC.mono ?_
     rintro e w4 ⟨y, rfl, hy, hb⟩
     exact hK _ _ (fun W hW => ⟨_, rfl, hy.below hW⟩) hb
    ·intro a w3 hA K hK
     obtain ⟨v52, t52, p52⟩ := bg_such hA 3 52
     obtain ⟨y52, rfl, hy52⟩ := p52 w3 (Below.refl _ _)
     go_simp
     exact hK _ _ (fun W hW => ⟨_, rfl, hy52.below hW⟩) (Below.refl _ _)
    ·intro a w3 hA K hK
     obtain ⟨v48, t48, p48⟩ := bg_such hA 4 48
     obtain ⟨y48, rfl, hy48⟩ := p48 w3 (Below.refl _ _)
     go_simp
     exact hK _ _ (fun W hW => ⟨_, rfl, hy48.below hW⟩) (Below.refl _ _)
    ·intro a w3 hA K hK
     obtain ⟨v48, t48, p48⟩ := bg_such hA 4 48
     obtain ⟨y48, rfl, hy48⟩ := p48 w3 (Below.refl _ _)
     go_simp
     exact hK _ _ rfl (Below.refl _ _)
    ·intro a w3 hA K hK
     go_simp
     exact hK _ _ (fun W hW => FreshAt.below ⟨_, _, rfl, hA.grown.size, Bs.new w3 _ [.bool false, .slice none 0 0, .slice none 0 0] _ rfl, ⟨(noU_bool (noU_slice (noU_slice noU_nil))), noT_rat⟩, rfl⟩ hW) (Below.new_ (Below.refl _ _) _)
    ·intro a w3 hA K hK
     obtain ⟨v8, lk8, t8, p8⟩ := bg_link hA 7 8
     obtain ⟨g8, cs8, rfl, lg8, hB8, hU8, hl8⟩ := p8 w3 (Below.refl _ _)
     obtain ⟨x0, x1, x2, rfl⟩ := len3 hl8
     have f0 := hB8.frozen 0
     have c0 := hB8.cell 0 rfl
     have f1 := hB8.frozen 1
     have c1 := hB8.cell 1 rfl
     have f2 := hB8.frozen 2
     have c2 := hB8.cell 2 rfl
     obtain ⟨v53, t53, p53⟩ := bg_such hA 5 53
     obtain ⟨y53s, rfl, hy53s⟩ := p53 w3 (Below.refl _ _)
     go_simp
     exact hK (.pointer (some ⟨g8, 0, none⟩)) _ (fun W hW => ⟨g8, _, rfl, lg8, (stored3 hB8).1.below hW, (RV.at.kp hy53s (Kp.stored (B := 0) hB8 hU8.1 (stored3 hB8).2.1 (Nat.zero_le _))).below hW⟩) ⟨⟨g8, _, _, lg8, hB8, hU8, rfl, (stored3 hB8).1, ⟨(noU_bool (noU_slice (noU_slice noU_nil))), noT_rat⟩, rfl, (stored3 hB8).2.1⟩, fun j d h1 h2 => by cases h1; cases h2; exact lk8⟩
    ·intro a w3 hA K hK
     have t54 := bg_is hA 6 54
     go_simp
     exact hK _ _ Pg.fi_ (Below.refl _ _)
   rintro vs wv hV hbv hlk act hact
   replace hV := hV.such_; obtain ⟨v49, _, rfl, p49, hV⟩ := hV
   repeat (replace hV := hV.is_; obtain ⟨_, rfl, hV⟩ := hV)
   replace hV := hV.such_; obtain ⟨v52, _, rfl, p52, hV⟩ := hV
   replace hV := hV.such_; obtain ⟨v48, _, rfl, p48, hV⟩ := hV
   replace hV := hV.such_; obtain ⟨v53, _, rfl, p53, hV⟩ := hV
   replace hV := hV.is_; obtain ⟨_, rfl, hV⟩ := hV
   replace hV := hV.such_; obtain ⟨v8, _, rfl, p8, hV⟩ := hV
   replace hV := hV.own_; obtain ⟨vP, _, rfl, pP, hV⟩ := hV
   replace hV := hV.is_; obtain ⟨_, rfl, hV⟩ := hV
   obtain rfl := hV.nil_
   clear hV
   replace hlk := hlk _ rfl
   simp only [List.getElem?_cons_succ, List.getElem?_cons_zero, Option.some.injEq] at hlk
   subst hlk; clear p8
   obtain ⟨y49, rfl, hy49⟩ := p49 wv (Below.refl _ _)
   clear p49
   obtain ⟨y52, rfl, hy52⟩ := p52 wv (Below.refl _ _)
   clear p52
   obtain ⟨y48, rfl, hy48⟩ := p48 wv (Below.refl _ _)
   clear p48
   obtain ⟨y53, rfl, hy53⟩ := p53 wv (Below.refl _ _)
   clear p53
   obtain ⟨gF, y53s, rfl, lgF, hBF, hy53s⟩ := pP wv (Below.refl _ _)
   clear pP
   simp only [putsO] at hact
   subst hact
   go_simp
   have HB2 := HB.below hbv
   have HZ2 := HZ.below hbv
   have hw2 := Below.then_ hb1 hbv
   have b0 := HB2.cell 0 rfl
   have b1 := HB2.cell 1 rfl
   have b2 := HB2.cell 2 rfl
   have b3 := HB2.cell 3 rfl
   have b4 := HB2.cell 4 rfl
   have z0 := HZ2.cell 0 rfl
   have z1 := HZ2.cell 1 rfl
   have z2 := HZ2.cell 2 rfl
   have z3 := HZ2.cell 3 rfl
   have z4 := HZ2.cell 4 rfl
   have f0 := HZ2.frozen 0
   have f1 := HZ2.frozen 1
   have f2 := HZ2.frozen 2
   have f3 := HZ2.frozen 3
   have f4 := HZ2.frozen 4
   go_wp2_with fail
   refine bp_world (F := Stored wv (w.heap.size + 1 + 1) 27 [.int .i64 0, .slice none 0 0, .bool false, .slice none 0 0, .slice none 0 0]) (stored5 HZ2) ?_
   rintro wz ⟨HS, ks, ss⟩
   have q0 := HS.cell 0 rfl
   have q1 := HS.cell 1 rfl
   have q2 := HS.cell 2 rfl
   have q3 := HS.cell 3 rfl
   have q4 := HS.cell 4 rfl
   refine bodyPost_ret (v := .tuple #[.agg #[.int .i64 0, .slice none 0 0, .bool false, .slice none 0 0, .slice none 0 0], .int .i64 6]) (by simp [results, Try.results48, go_sem, q0, q1, q2, q3, q4]) rfl ?_
   exact ⟨_, rfl, cw0_val _, hw2.trans (Below.kept ks (by omega) hw2.size)⟩
  ·by_cases h0 : b.k = 0
   ·have hE : binC 6 a b = .error 7 := by unfold binC; rw [if_neg (by decide), if_neg (by decide), if_neg (by decide), if_neg h2, if_pos h0]
    rw [hE]
    obtain ⟨q, hq⟩ : ∃ q, 1 / b.k = q := ⟨_, rfl⟩
    obtain ⟨B, hB⟩ : ∃ B, decide (b.k ≠ 0) = B := ⟨_, rfl⟩
    have HD := hid fun W (hW : Below w.heap.size w W) (y : RV) (hy : y.at W (rwOf 1)) => Div_Q (q := q) (b := B) W hy (HCB.out.2.below hW) ((short_le short_one).mono hK1) hlb.2 (by omega) hK1 (by rw [rwOf_q]; show 1 / (rwOf b.k).q = q; rw [rwOf_q]; exact hq) (by show decide ((rwOf b.k).q ≠ 0) = B; rw [rwOf_q]; exact hB)
    have hBf : B = false := by rw [← hB]; exact decide_eq_false (fun h => h h0)
    have hp2 : n' = 0 := by rw [hn']; exact List.length_eq_zero_iff.2 (Classical.not_not.1 h2)
    clear hE h2 h0 hq hB HSA HSB ha hb hca hcb hn hn' sa sb
    subst hBf
    have dn' : decide ((0 : Int) < (n' : Int)) = false := decide_eq_false (by omega)
    have dn2 : ¬ 0 < n' := by omega
    replace hp2 := Nat.le_of_eq hp2
    go_enter Try.func48, Try.ntmps48
    go_upto_region 1 with fail
    refine wp_world (F := fun W => (Bs W w.heap.size 27 [.int .i64 (cwOf a).s, .slice T n m, .bool x.s, .slice x.A x.n x.c, .slice x.A' x.n' x.c'] ∧ Bs W (w.heap.size + 1) 27 [.int .i64 (cwOf b).s, .slice T' n' m', .bool x'.s, .slice x'.A x'.n x'.c, .slice x'.A' x'.n' x'.c'] ∧ Bs W (w.heap.size + 2) 27 [.int .i64 0, .slice none 0 0, .bool false, .slice none 0 0, .slice none 0 0]) ∧ Below w.heap.size w W)
     ⟨⟨((Bs.new w _ _ _ rfl).alloc _).alloc _, (Bs.new _ _ _ _ (by simp)).alloc _, Bs.new _ _ _ _ (by simp)⟩, Pg.bel⟩ ?_
    rintro w1 ⟨⟨HA, HB, HZ⟩, hb1⟩
    go_upto_region 12 with fail
    refine draw_G (FreshR w1 25 3) (fun W => Below w1.heap.size w1 W) 8 (some 7) [some 49, some 50, some 51, some 52, some 48, some 53, some 54, some 8, none, some 9] [.such (fun W v => ∃ (yX : RV), v = .agg #[.bool yX.s, .slice yX.A yX.n yX.c, .slice yX.A' yX.n' yX.c'] ∧ yX.at W (rwOf (1))), .is (.pointer (some ⟨w.heap.size + 1, 2, none⟩)), .is (.agg #[.bool x'.s, .slice x'.A x'.n x'.c, .slice x'.A' x'.n' x'.c']), .such (fun W v => ∃ (yX : RV), v = .tuple #[.agg #[.bool yX.s, .slice yX.A yX.n yX.c, .slice yX.A' yX.n' yX.c'], .bool false] ∧ yX.at W (rwOf (q))), .such (fun W v => ∃ (yX : RV), v = .tuple #[.agg #[.bool yX.s, .slice yX.A yX.n yX.c, .slice yX.A' yX.n' yX.c'], .bool false] ∧ yX.at W (rwOf (q))), .such (fun W v => ∃ (yX : RV), v = .agg #[.bool yX.s, .slice yX.A yX.n yX.c, .slice yX.A' yX.n' yX.c'] ∧ yX.at W (rwOf (q))), .is (.bool false), .such (FreshAt w1 25 3), .own (fun W v => ∃ (gF : Nat) (y53s : RV), v = .pointer (some ⟨gF, 0, none⟩) ∧ w1.heap.size ≤ gF ∧ Bs W gF 25 [.bool y53s.s, .slice y53s.A y53s.n y53s.c, .slice y53s.A' y53s.n' y53s.c'] ∧ y53s.at W (rwOf (q))), .is (.bool false)]
     (by kernel_rfl) (by kernel_rfl) (by kernel_rfl) (by kernel_rfl) rfl (by kernel_rfl) (fun _ h => h) (fun _ _ h hb => Below.then_ h hb) (fun _ _ hb h => FreshR.bel hb h) (fun q W1 W2 v hm hbw hk hq => by simp at hm; rcases hm with rfl | rfl | rfl | rfl | rfl <;> first | (obtain ⟨yX, rfl, hyX⟩ := hq W1 (Below.refl _ _); exact fun W hW => ⟨_, rfl, (FreshR.rows hk hyX).below hW⟩) | (exact fun W hW => (FreshAt.after (hq W1 (Below.refl _ _)) hk).below hW)) ?_ ?_
    ·refine ⟨?_, ?_, ?_, ?_, ?_, ?_, ?_, ?_, ?_, ?_, trivial⟩
     ·intro a w3 hA K hK
      have hC := Int_Q 1 w3 (by omega) (by omega) rfl
      go_simp
      refine hC.mono ?_
      rintro e w4 ⟨y, rfl, hy, hb⟩
      exact hK _ _ (fun W hW => ⟨_, rfl, hy.below hW⟩) hb
     ·intro a w3 hA K hK
      have t5 := hA.old 5 _ rfl rfl
      go_simp
      exact hK _ _ rfl (Below.refl _ _)
     ·intro a w3 hA K hK
      have t50 := bg_is hA 1 50
      have k0 := (HB.below hA.grown).cell 2 rfl
      have k1 := (HB.below hA.grown).cell 3 rfl
      have k2 := (HB.below hA.grown).cell 4 rfl
      go_simp
      exact hK _ _ rfl (Below.refl _ _)
     ·intro a w3 hA K hK
      obtain ⟨v49, t49, p49⟩ := bg_such hA 0 49
      obtain ⟨y49, rfl, hy49⟩ := p49 w3 (Below.refl _ _)
      have t51 := bg_is hA 2 51
      have hC := HD.out _ (Below.then_ hb1 hA.grown) _ hy49
      go_simp
      refine hC.mono ?_
      rintro e w4 ⟨y, rfl, hy, hb⟩
      exact hK _ _ (fun W hW => ⟨_, rfl, hy.below hW⟩) hb
     ·intro a w3 hA K hK
      obtain ⟨v52, t52, p52⟩ := bg_such hA 3 52
      obtain ⟨y52, rfl, hy52⟩ := p52 w3 (Below.refl _ _)
      go_simp
      exact hK _ _ (fun W hW => ⟨_, rfl, hy52.below hW⟩) (Below.refl _ _)
     ·intro a w3 hA K hK
      obtain ⟨v48, t48, p48⟩ := bg_such hA 4 48
      obtain ⟨y48, rfl, hy48⟩ := p48 w3 (Below.refl _ _)
      go_simp
      exact hK _ _ (fun W hW => ⟨_, rfl, hy48.below hW⟩) (Below.refl _ _)
     ·intro a w3 hA K hK
      obtain ⟨v48, t48, p48⟩ := bg_such hA 4 48
      obtain ⟨y48, rfl, hy48⟩ := p48 w3 (Below.refl _ _)
      go_simp
      exact hK _ _ rfl (Below.refl _ _)
     ·intro a w3 hA K hK
      go_simp
      exact hK _ _ (fun W hW => FreshAt.below ⟨_, _, rfl, hA.grown.size, Bs.new w3 _ [.bool false, .slice none 0 0, .slice none 0 0] _ rfl, ⟨(noU_bool (noU_slice (noU_slice noU_nil))), noT_rat⟩, rfl⟩ hW) (Below.new_ (Below.refl _ _) _)
     ·intro a w3 hA K hK
      obtain ⟨v8, lk8, t8, p8⟩ := bg_link hA 7 8
      obtain ⟨g8, cs8, rfl, lg8, hB8, hU8, hl8⟩ := p8 w3 (Below.refl _ _)
      obtain ⟨x0, x1, x2, rfl⟩ := len3 hl8
      have f0 := hB8.frozen 0
      have c0 := hB8.cell 0 rfl
      have f1 := hB8.frozen 1
      have c1 := hB8.cell 1 rfl
      have f2 := hB8.frozen 2
      have c2 := hB8.cell 2 rfl
      obtain ⟨v53, t53, p53⟩ := bg_such hA 5 53
      obtain ⟨y53s, rfl, hy53s⟩ := p53 w3 (Below.refl _ _)
      go_simp
      exact hK (.pointer (some ⟨g8, 0, none⟩)) _ (fun W hW => ⟨g8, _, rfl, lg8, (stored3 hB8).1.below hW, (RV.at.kp hy53s (Kp.stored (B := 0) hB8 hU8.1 (stored3 hB8).2.1 (Nat.zero_le _))).below hW⟩) ⟨⟨g8, _, _, lg8, hB8, hU8, rfl, (stored3 hB8).1, ⟨(noU_bool (noU_slice (noU_slice noU_nil))), noT_rat⟩, rfl, (stored3 hB8).2.1⟩, fun j d h1 h2 => by cases h1; cases h2; exact lk8⟩
     ·intro a w3 hA K hK
      have t54 := bg_is hA 6 54
      go_simp
      exact hK _ _ Pg.fi_ (Below.refl _ _)
    rintro vs wv hV hbv hlk act hact
    replace hV := hV.such_; obtain ⟨v49, _, rfl, p49, hV⟩ := hV
    repeat (replace hV := hV.is_; obtain ⟨_, rfl, hV⟩ := hV)
    replace hV := hV.such_; obtain ⟨v52, _, rfl, p52, hV⟩ := hV
    replace hV := hV.such_; obtain ⟨v48, _, rfl, p48, hV⟩ := hV
    replace hV := hV.such_; obtain ⟨v53, _, rfl, p53, hV⟩ := hV
    replace hV := hV.is_; obtain ⟨_, rfl, hV⟩ := hV
    replace hV := hV.such_; obtain ⟨v8, _, rfl, p8, hV⟩ := hV
    replace hV := hV.own_; obtain ⟨vP, _, rfl, pP, hV⟩ := hV
    replace hV := hV.is_; obtain ⟨_, rfl, hV⟩ := hV
    obtain rfl := hV.nil_
    clear hV
    replace hlk := hlk _ rfl
    simp only [List.getElem?_cons_succ, List.getElem?_cons_zero, Option.some.injEq] at hlk
    subst hlk; clear p8
    obtain ⟨y49, rfl, hy49⟩ := p49 wv (Below.refl _ _)
    clear p49
    obtain ⟨y52, rfl, hy52⟩ := p52 wv (Below.refl _ _)
    clear p52
    obtain ⟨y48, rfl, hy48⟩ := p48 wv (Below.refl _ _)
    clear p48
    obtain ⟨y53, rfl, hy53⟩ := p53 wv (Below.refl _ _)
    clear p53
    obtain ⟨gF, y53s, rfl, lgF, hBF, hy53s⟩ := pP wv (Below.refl _ _)
    clear pP
    simp only [putsO] at hact
    subst hact
    go_simp
    have HB2 := HB.below hbv
    have HZ2 := HZ.below hbv
    have hw2 := Below.then_ hb1 hbv
    have b0 := HB2.cell 0 rfl
    have b1 := HB2.cell 1 rfl
    have b2 := HB2.cell 2 rfl
    have b3 := HB2.cell 3 rfl
    have b4 := HB2.cell 4 rfl
    have z0 := HZ2.cell 0 rfl
    have z1 := HZ2.cell 1 rfl
    have z2 := HZ2.cell 2 rfl
    have z3 := HZ2.cell 3 rfl
    have z4 := HZ2.cell 4 rfl
    have f0 := HZ2.frozen 0
    have f1 := HZ2.frozen 1
    have f2 := HZ2.frozen 2
    have f3 := HZ2.frozen 3
    have f4 := HZ2.frozen 4
    go_wp2_with fail
    refine bp_world (F := Stored wv (w.heap.size + 1 + 1) 27 [.int .i64 0, .slice none 0 0, .bool false, .slice none 0 0, .slice none 0 0]) (stored5 HZ2) ?_
    rintro wz ⟨HS, ks, ss⟩
    have q0 := HS.cell 0 rfl
    have q1 := HS.cell 1 rfl
    have q2 := HS.cell 2 rfl
    have q3 := HS.cell 3 rfl
    have q4 := HS.cell 4 rfl
    refine bodyPost_ret (v := .tuple #[.agg #[.int .i64 0, .slice none 0 0, .bool false, .slice none 0 0, .slice none 0 0], .int .i64 7]) (by simp [results, Try.results48, go_sem, q0, q1, q2, q3, q4]) rfl ?_
    exact ⟨_, rfl, cw0_val _, hw2.trans (Below.kept ks (by omega) hw2.size)⟩
   ·have hE : binC 6 a b = .ok (scaleC a (1 / b.k)) := by unfold binC; rw [if_neg (by decide), if_neg (by decide), if_neg (by decide), if_neg h2, if_neg h0]
    have hC : cwOf (scaleC a (1 / b.k)) = conOf (binC 6 a b) := by rw [hE]; rfl
    rw [hE] at hC ⊢
    obtain ⟨q, hq⟩ : ∃ q, 1 / b.k = q := ⟨_, rfl⟩
    obtain ⟨B, hB⟩ : ∃ B, decide (b.k ≠ 0) = B := ⟨_, rfl⟩
    have HD := hid fun W (hW : Below w.heap.size w W) (y : RV) (hy : y.at W (rwOf 1)) => Div_Q (q := q) (b := B) W hy (HCB.out.2.below hW) ((short_le short_one).mono hK1) hlb.2 (by omega) hK1 (by rw [rwOf_q]; show 1 / (rwOf b.k).q = q; rw [rwOf_q]; exact hq) (by show decide ((rwOf b.k).q ≠ 0) = B; rw [rwOf_q]; exact hB)
    have hBf : B = true := by rw [← hB]; exact decide_eq_true (show b.k ≠ 0 from h0)
    have hp2 : n' = 0 := by rw [hn']; exact List.length_eq_zero_iff.2 (Classical.not_not.1 h2)
    have hqs : (rwOf q).Le K := by rw [← hq, one_div_inv]; exact short_le sb.2.inv
    have HS3 := hid fun W (hW : Below w.heap.size w W) (y : RV) (hy : y.at W (rwOf q)) => HSA.out W hW y q hqs hy
    rw [hq] at hC
    obtain ⟨c, hc⟩ : ∃ c, cwOf (scaleC a q) = c := ⟨_, rfl⟩
    rw [hc] at HS3 hC
    rw [hq]
    have HC := hid hC
    clear hC hE hc h2 h0 hq hB hqs HSA HSB ha hb hca hcb hn hn' sa sb
    subst hBf
    have dn' : decide ((0 : Int) < (n' : Int)) = false := decide_eq_false (by omega)
    have dn2 : ¬ 0 < n' := by omega
    replace hp2 := Nat.le_of_eq hp2
    go_enter Try.func48, Try.ntmps48
    go_upto_region 1 with fail
    refine wp_world (F := fun W => (Bs W w.heap.size 27 [.int .i64 (cwOf a).s, .slice T n m, .bool x.s, .slice x.A x.n x.c, .slice x.A' x.n' x.c'] ∧ Bs W (w.heap.size + 1) 27 [.int .i64 (cwOf b).s, .slice T' n' m', .bool x'.s, .slice x'.A x'.n x'.c, .slice x'.A' x'.n' x'.c'] ∧ Bs W (w.heap.size + 2) 27 [.int .i64 0, .slice none 0 0, .bool false, .slice none 0 0, .slice none 0 0]) ∧ Below w.heap.size w W)
     ⟨⟨((Bs.new w _ _ _ rfl).alloc _).alloc _, (Bs.new _ _ _ _ (by simp)).alloc _, Bs.new _ _ _ _ (by simp)⟩, Pg.bel⟩ ?_
    rintro w1 ⟨⟨HA, HB, HZ⟩, hb1⟩
    go_upto_region 12 with fail
    refine draw_G (FreshR w1 25 3) (fun W => Below w1.heap.size w1 W) 8 (some 7) [some 49, some 50, some 51, some 52, some 48, some 53, some 54, some 8, none, some 9] [.such (fun W v => ∃ (yX : RV), v = .agg #[.bool yX.s, .slice yX.A yX.n yX.c, .slice yX.A' yX.n' yX.c'] ∧ yX.at W (rwOf (1))), .is (.pointer (some ⟨w.heap.size + 1, 2, none⟩)), .is (.agg #[.bool x'.s, .slice x'.A x'.n x'.c, .slice x'.A' x'.n' x'.c']), .such (fun W v => ∃ (yX : RV), v = .tuple #[.agg #[.bool yX.s, .slice yX.A yX.n yX.c, .slice yX.A' yX.n' yX.c'], .bool true] ∧ yX.at W (rwOf (q))), .such (fun W v => ∃ (yX : RV), v = .tuple #[.agg #[.bool yX.s, .slice yX.A yX.n yX.c, .slice yX.A' yX.n' yX.c'], .bool true] ∧ yX.at W (rwOf (q))), .such (fun W v => ∃ (yX : RV), v = .agg #[.bool yX.s, .slice yX.A yX.n yX.c, .slice yX.A' yX.n' yX.c'] ∧ yX.at W (rwOf (q))), .is (.bool true), .such (FreshAt w1 25 3), .own (fun W v => ∃ (gF : Nat) (y53s : RV), v = .pointer (some ⟨gF, 0, none⟩) ∧ w1.heap.size ≤ gF ∧ Bs W gF 25 [.bool y53s.s, .slice y53s.A y53s.n y53s.c, .slice y53s.A' y53s.n' y53s.c'] ∧ y53s.at W (rwOf (q))), .is (.bool true)]
     (by kernel_rfl) (by kernel_rfl) (by kernel_rfl) (by kernel_rfl) rfl (by kernel_rfl) (fun _ h => h) (fun _ _ h hb => Below.then_ h hb) (fun _ _ hb h => FreshR.bel hb h) (fun q W1 W2 v hm hbw hk hq => by simp at hm; rcases hm with rfl | rfl | rfl | rfl | rfl <;> first | (obtain ⟨yX, rfl, hyX⟩ := hq W1 (Below.refl _ _); exact fun W hW => ⟨_, rfl, (FreshR.rows hk hyX).below hW⟩) | (exact fun W hW => (FreshAt.after (hq W1 (Below.refl _ _)) hk).below hW)) ?_ ?_
    ·refine ⟨?_, ?_, ?_, ?_, ?_, ?_, ?_, ?_, ?_, ?_, trivial⟩
     ·intro a w3 hA K hK
      have hC := Int_Q 1 w3 (by omega) (by omega) rfl
      go_simp
      refine hC.mono ?_
      rintro e w4 ⟨y, rfl, hy, hb⟩
      exact hK _ _ (fun W hW => ⟨_, rfl, hy.below hW⟩) hb
     ·intro a w3 hA K hK
      have t5 := hA.old 5 _ rfl rfl
      go_simp
      exact hK _ _ rfl (Below.refl _ _)
     ·intro a w3 hA K hK
      have t50 := bg_is hA 1 50
      have k0 := (HB.below hA.grown).cell 2 rfl
      have k1 := (HB.below hA.grown).cell 3 rfl
      have k2 := (HB.below hA.grown).cell 4 rfl
      go_simp
      exact hK _ _ rfl (Below.refl _ _)
     ·intro a w3 hA K hK
      obtain ⟨v49, t49, p49⟩ := bg_such hA 0 49
      obtain ⟨y49, rfl, hy49⟩ := p49 w3 (Below.refl _ _)
      have t51 := bg_is hA 2 51
      have hC := HD.out _ (Below.then_ hb1 hA.grown) _ hy49
      go_simp
      refine hC.mono ?_
      rintro e w4 ⟨y, rfl, hy, hb⟩
      exact hK _ _ (fun W hW => ⟨_, rfl, hy.below hW⟩) hb
     ·intro a w3 hA K hK
      obtain ⟨v52, t52, p52⟩ := bg_such hA 3 52
      obtain ⟨y52, rfl, hy52⟩ := p52 w3 (Below.refl _ _)
      go_simp
      exact hK _ _ (fun W hW => ⟨_, rfl, hy52.below hW⟩) (Below.refl _ _)
     ·intro a w3 hA K hK
      obtain ⟨v48, t48, p48⟩ := bg_such hA 4 48
      obtain ⟨y48, rfl, hy48⟩ := p48 w3 (Below.refl _ _)
      go_simp
      exact hK _ _ (fun W hW => ⟨_, rfl, hy48.below hW⟩) (Below.refl _ _)
     ·intro a w3 hA K hK
      obtain ⟨v48, t48, p48⟩ := bg_such hA 4 48
      obtain ⟨y48, rfl, hy48⟩ := p48 w3 (Below.refl _ _)
      go_simp
      exact hK _ _ rfl (Below.refl _ _)
     ·intro a w3 hA K hK
      go_simp
      exact hK _ _ (fun W hW => FreshAt.below ⟨_, _, rfl, hA.grown.size, Bs.new w3 _ [.bool false, .slice none 0 0, .slice none 0 0] _ rfl, ⟨(noU_bool (noU_slice (noU_slice noU_nil))), noT_rat⟩, rfl⟩ hW) (Below.new_ (Below.refl _ _) _)
     ·intro a w3 hA K hK
      obtain ⟨v8, lk8, t8, p8⟩ := bg_link hA 7 8
      obtain ⟨g8, cs8, rfl, lg8, hB8, hU8, hl8⟩ := p8 w3 (Below.refl _ _)
      obtain ⟨x0, x1, x2, rfl⟩ := len3 hl8
      have f0 := hB8.frozen 0
      have c0 := hB8.cell 0 rfl
      have f1 := hB8.frozen 1
      have c1 := hB8.cell 1 rfl
      have f2 := hB8.frozen 2
      have c2 := hB8.cell 2 rfl
      obtain ⟨v53, t53, p53⟩ := bg_such hA 5 53
      obtain ⟨y53s, rfl, hy53s⟩ := p53 w3 (Below.refl _ _)
      go_simp
      exact hK (.pointer (some ⟨g8, 0, none⟩)) _ (fun W hW => ⟨g8, _, rfl, lg8, (stored3 hB8).1.below hW, (RV.at.kp hy53s (Kp.stored (B := 0) hB8 hU8.1 (stored3 hB8).2.1 (Nat.zero_le _))).below hW⟩) ⟨⟨g8, _, _, lg8, hB8, hU8, rfl, (stored3 hB8).1, ⟨(noU_bool (noU_slice (noU_slice noU_nil))), noT_rat⟩, rfl, (stored3 hB8).2.1⟩, fun j d h1 h2 => by cases h1; cases h2; exact lk8⟩
     ·intro a w3 hA K hK
      have t54 := bg_is hA 6 54
      go_simp
      exact hK _ _ Pg.fi_ (Below.refl _ _)
    rintro vs wv hV hbv hlk act hact
    replace hV := hV.such_; obtain ⟨v49, _, rfl, p49, hV⟩ := hV
    repeat (replace hV := hV.is_; obtain ⟨_, rfl, hV⟩ := hV)
    replace hV := hV.such_; obtain ⟨v52, _, rfl, p52, hV⟩ := hV
    replace hV := hV.such_; obtain ⟨v48, _, rfl, p48, hV⟩ := hV
    replace hV := hV.such_; obtain ⟨v53, _, rfl, p53, hV⟩ := hV
    replace hV := hV.is_; obtain ⟨_, rfl, hV⟩ := hV
    replace hV := hV.such_; obtain ⟨v8, _, rfl, p8, hV⟩ := hV
    replace hV := hV.own_; obtain ⟨vP, _, rfl, pP, hV⟩ := hV
    replace hV := hV.is_; obtain ⟨_, rfl, hV⟩ := hV
    obtain rfl := hV.nil_
    clear hV
    replace hlk := hlk _ rfl
    simp only [List.getElem?_cons_succ, List.getElem?_cons_zero, Option.some.injEq] at hlk
    subst hlk; clear p8
    obtain ⟨y49, rfl, hy49⟩ := p49 wv (Below.refl _ _)
    clear p49
    obtain ⟨y52, rfl, hy52⟩ := p52 wv (Below.refl _ _)
    clear p52
    obtain ⟨y48, rfl, hy48⟩ := p48 wv (Below.refl _ _)
    clear p48
    obtain ⟨y53, rfl, hy53⟩ := p53 wv (Below.refl _ _)
    clear p53
    obtain ⟨gF, y53s, rfl, lgF, hBF, hy53s⟩ := pP wv (Below.refl _ _)
    clear pP
    simp only [putsO] at hact
    subst hact
    go_simp
    have HB2 := HB.below hbv
    have HZ2 := HZ.below hbv
    have hw2 := Below.then_ hb1 hbv
    have HA2 := HA.below hbv
    have a0 := HA2.cell 0 rfl
    have a1 := HA2.cell 1 rfl
    have a2 := HA2.cell 2 rfl
    have a3 := HA2.cell 3 rfl
    have a4 := HA2.cell 4 rfl
    have b0 := HB2.cell 0 rfl
    have b1 := HB2.cell 1 rfl
    have b2 := HB2.cell 2 rfl
    have b3 := HB2.cell 3 rfl
    have b4 := HB2.cell 4 rfl
    have g0 := hBF.cell 0 rfl
    have g1 := hBF.cell 1 rfl
    have g2 := hBF.cell 2 rfl
    go_wp2_with (go_at_call 7; (with_reducible refine (HS3.out _ hw2 _ hy53s).mono ?_); rintro e w5 ⟨v5, rfl, hv5, hb5⟩; obtain ⟨T5, n5, m5, y5, rfl, hc5⟩ := hv5.cv; have HZ5 := HZ2.below hb5; have hbw := Below.then_ hw2 hb5; have f0 := HZ5.frozen 0; have f1 := HZ5.frozen 1; have f2 := HZ5.frozen 2; have f3 := HZ5.frozen 3; have f4 := HZ5.frozen 4; have z0 := HZ5.cell 0 rfl; have z1 := HZ5.cell 1 rfl; have z2 := HZ5.cell 2 rfl; have z3 := HZ5.cell 3 rfl; have z4 := HZ5.cell 4 rfl)
    refine bp_world (F := Stored w5 (w.heap.size + 1 + 1) 27 [.int .i64 c.s, .slice T5 n5 m5, .bool y5.s, .slice y5.A y5.n y5.c, .slice y5.A' y5.n' y5.c']) (stored5 HZ5) ?_
    rintro wz ⟨HS, ks, ss⟩
    have q0 := HS.cell 0 rfl
    have q1 := HS.cell 1 rfl
    have q2 := HS.cell 2 rfl
    have q3 := HS.cell 3 rfl
    have q4 := HS.cell 4 rfl
    refine bodyPost_ret (v := .tuple #[.agg #[.int .i64 c.s, .slice T5 n5 m5, .bool y5.s, .slice y5.A y5.n y5.c, .slice y5.A' y5.n' y5.c'], .int .i64 0]) (by simp [results, Try.results48, go_sem, q0, q1, q2, q3, q4]) rfl ?_
    exact ⟨_, rfl, by rw [← HC.out]; exact (hc5.kept HZ5 conU0 noT_con ks).val, hbw.trans (Below.kept ks (by omega) hbw.size)⟩
end Go.Proofs.Ytahdlpkncemmaaa
namespace Pg
theorem termsOk_len {n : Int} : ∀ {l : List TQ} {a : Int}, termsOk n a l = true → 0 ≤ a → (l.length : Int) ≤ max 0 (n - a)
 | [], a, _, _ => by simp only [List.length_nil]; omega
 | t :: l, a, h, ha => by
  simp only [termsOk, Bool.and_eq_true, decide_eq_true_eq] at h
  have := termsOk_len h.2 (by omega)
  rw [List.length_cons]
  omega
theorem sumX_len {v : EnvQ} {e : XE} {c : CQ} (h : sumX v e = .ok c) : c.t.length ≤ v.vars.length := by
 have := termsOk_len (sumX_ok v e c h).2 (Int.le_refl 0)
 omega
theorem sumX_err {v : EnvQ} {e : XE} {x : Nat} (h : sumX v e = .error x) : x ≠ 0 := by
 rcases sumX_names v e with ⟨c, h1, _⟩ | ⟨y, h1, h2⟩ | ⟨h1, _⟩
 ·rw [h] at h1; cases h1
 ·rw [h] at h1; injection h1 with h1; omega
 ·rw [h] at h1; injection h1 with h1; omega
end Pg
namespace Go.Proofs.Ytahdlpkncemmaaa
open Go.RowKit Pg
theorem SumRet.to {w w' : World} {X Y : Except Nat CQ} {e : Ending} (h : X = Y) (hp : SumRet w X e w') : SumRet w Y e w' := h ▸ hp
def SumAt (x : EW) (e : XE) : Prop := ∀ (K : Nat) (w : World) (v : Value), XE.Val w e v → SzX e K → K ≤ 10000 → 1 ≤ K → EnvAt w x →
 Calls Try.prog 31 #[v, .agg #[.slice x.A0 x.n0 x.k0, .slice x.A1 x.n1 x.k1, .slice x.A2 x.n2 x.k2]] w (SumRet w (sumX x.q e))
theorem SumAt.neg {x : EW} {a : XE} (hl : ∀ r ∈ x.vals, r.Le 3) (hn : x.vars.length ≤ 1000) (IH : SumAt x a) : SumAt x (.neg a) := by
 rintro K w v ⟨v0, v1, v2, nm, b, o, kn, kc, d0, d1, d2, d3, d4, d5, rfl, hk1, hk2, hbl, hck, hv⟩ hsz hK hK1 hE
 have HS1 := hid fun W (hW : Below w.heap.size w W) => IH K W _ (XE.Val.below hW a _ hv) hsz hK hK1 (hE.below hW)
 have hkp : 0 < kn := hk1
 simp only [sumX]
 have hvs : ∀ q ∈ x.q.vals, Short q 3 := short_of_at hE.vals hl (by omega)
 obtain ⟨X, hX⟩ : ∃ X, sumX x.q a = X := ⟨_, rfl⟩
 rw [hX] at HS1 ⊢
 have HE1 := hid fun (y : Nat) (h : X = .error y) => sumX_err (hX.trans h)
 have HF1 := hid fun (C : CQ) (h : X = .ok C) => And.intro (sumX_short x.q hvs a K C hsz (hX.trans h)) (Nat.le_trans (sumX_len (hX.trans h)) hn)
 have HCK := hid hck
 clear hX hv hE hsz hck hvs
 go_enter Try.func31, Try.ntmps31
 go_upto_region 1 with fail
 refine wp_world (F := fun W => (Bs W w.heap.size 48 [.int .i64 7, v0, v1, v2, nm, .slice (some ⟨b, o, none⟩) kn kc] ∧ Bs W (w.heap.size + 1) 55 [.slice x.A0 x.n0 x.k0, .slice x.A1 x.n1 x.k1, .slice x.A2 x.n2 x.k2] ∧ Bs W (w.heap.size + 2) 27 [.int .i64 0, .slice none 0 0, .bool false, .slice none 0 0, .slice none 0 0]) ∧ Below w.heap.size w W)
  ⟨⟨((Bs.new w _ _ _ rfl).alloc _).alloc _, (Bs.new _ _ _ _ (by simp)).alloc _, Bs.new _ _ _ _ (by simp)⟩, Pg.bel⟩ ?_
 rintro w1 ⟨⟨HX, HV, HZ⟩, hb1⟩
 have a0 := HX.cell 0 rfl
 have HK0 := HCK.out.below hbl hb1
 have hbk : b < w1.heap.size := Nat.lt_of_lt_of_le hbl hb1.size
 go_upto_region 6 with fail
 refine draw_G (FreshR w1 27 5) (fun W => Below w1.heap.size w1 W) 10 (some 9) [some 26, some 27, some 28, some 29, some 30, some 31, some 25, some 32, some 33, some 6, none, some 7] [.is (.pointer (some ⟨w.heap.size, 5, none⟩)), .is (.slice (some ⟨b, o, none⟩) kn kc), .is (.pointer (some ⟨b, o, none⟩)), .is (.agg #[d0, d1, d2, d3, d4, d5]), .is (.agg #[.slice x.A0 x.n0 x.k0, .slice x.A1 x.n1 x.k1, .slice x.A2 x.n2 x.k2]), .such (fun W v => ∃ (TX : Option Addr) (nX : Nat) (mX : Nat) (yX : RV), v = .tuple #[.agg #[.int .i64 (conOf X).s, .slice TX nX mX, .bool yX.s, .slice yX.A yX.n yX.c, .slice yX.A' yX.n' yX.c'], .int .i64 (errOf X : Int)] ∧ CV W TX nX mX yX ((conOf X))), .such (fun W v => ∃ (TX : Option Addr) (nX : Nat) (mX : Nat) (yX : RV), v = .tuple #[.agg #[.int .i64 (conOf X).s, .slice TX nX mX, .bool yX.s, .slice yX.A yX.n yX.c, .slice yX.A' yX.n' yX.c'], .int .i64 (errOf X : Int)] ∧ CV W TX nX mX yX ((conOf X))), .such (fun W v => ∃ (TX : Option Addr) (nX : Nat) (mX : Nat) (yX : RV), v = .agg #[.int .i64 (conOf X).s, .slice TX nX mX, .bool yX.s, .slice yX.A yX.n yX.c, .slice yX.A' yX.n' yX.c'] ∧ CV W TX nX mX yX ((conOf X))), .is (.int .i64 (errOf X : Int)), .such (FreshAt w1 27 5), .own (fun W v => ∃ (gFa : Nat) (T32s : Option Addr) (n32s : Nat) (m32s : Nat) (y32s : RV), v = .pointer (some ⟨gFa, 0, none⟩) ∧ w1.heap.size ≤ gFa ∧ Bs W gFa 27 [.int .i64 (conOf X).s, .slice T32s n32s m32s, .bool y32s.s, .slice y32s.A y32s.n y32s.c, .slice y32s.A' y32s.n' y32s.c'] ∧ CV W T32s n32s m32s y32s ((conOf X))), .is (.int .i64 (errOf X : Int))]
  (by kernel_rfl) (by kernel_rfl) (by kernel_rfl) (by kernel_rfl) rfl (by kernel_rfl) (fun _ h => h) (fun _ _ h hb => Below.then_ h hb) (fun _ _ hb h => FreshR.bel hb h) (fun q W1 W2 v hm hbw hk hq => by simp at hm; rcases hm with rfl | rfl | rfl | rfl <;> first | (obtain ⟨TX, nX, mX, yX, rfl, hcX⟩ := hq W1 (Below.refl _ _); exact fun W hW => ⟨_, _, _, _, rfl, (FreshR.cv hk hcX).below hW⟩) | (exact fun W hW => (FreshAt.after (hq W1 (Below.refl _ _)) hk).below hW)) ?_ ?_
 ·refine ⟨?_, ?_, ?_, ?_, ?_, ?_, ?_, ?_, ?_, ?_, ?_, ?_, trivial⟩
  ·intro a w3 hA K hK
   have t2 := hA.old 2 _ rfl rfl
   go_simp
   exact hK _ _ rfl (Below.refl _ _)
  ·intro a w3 hA K hK
   have t26 := bg_is hA 0 26
   have k0 := (HX.below hA.grown).cell 5 rfl
   go_simp
   exact hK _ _ rfl (Below.refl _ _)
  ·intro a w3 hA K hK
   have t27 := bg_is hA 1 27
   go_simp
   exact hK _ _ Pg.fi_ (Below.refl _ _)
  ·intro a w3 hA K hK
   have t28 := bg_is hA 2 28
   have k0 : w3.cell? ⟨b, o, none⟩ = some (d0) := (HK0.below hbk hA.grown).at_ 0 rfl
   have k1 := (HK0.below hbk hA.grown).at_ 1 rfl
   have k2 := (HK0.below hbk hA.grown).at_ 2 rfl
   have k3 := (HK0.below hbk hA.grown).at_ 3 rfl
   have k4 := (HK0.below hbk hA.grown).at_ 4 rfl
   have k5 := (HK0.below hbk hA.grown).at_ 5 rfl
   go_simp
   exact hK _ _ rfl (Below.refl _ _)
  ·intro a w3 hA K hK
   have t3 := hA.old 3 _ rfl rfl
   have k0 := (HV.below hA.grown).cell 0 rfl
   have k1 := (HV.below hA.grown).cell 1 rfl
   have k2 := (HV.below hA.grown).cell 2 rfl
   go_simp
   exact hK _ _ rfl (Below.refl _ _)
  ·intro a w3 hA K hK
   have t29 := bg_is hA 3 29
   have t30 := bg_is hA 4 30
   have hC := HS1.out w3 (Below.then_ hb1 hA.grown)
   go_simp
   refine hC.mono ?_
   rintro e w4 ⟨v, rfl, hv, hb⟩
   obtain ⟨_, _, _, _, rfl, hc⟩ := hv.cv; exact hK _ _ (fun W hW => ⟨_, _, _, _, rfl, hc.below hW⟩) hb
  ·intro a w3 hA K hK
   obtain ⟨v31, t31, p31⟩ := bg_such hA 5 31
   obtain ⟨T31, n31, m31, y31, rfl, hc31⟩ := p31 w3 (Below.refl _ _)
   go_simp
   exact hK _ _ (fun W hW => ⟨_, _, _, _, rfl, hc31.below hW⟩) (Below.refl _ _)
  ·intro a w3 hA K hK
   obtain ⟨v25, t25, p25⟩ := bg_such hA 6 25
   obtain ⟨T25, n25, m25, y25, rfl, hc25⟩ := p25 w3 (Below.refl _ _)
   go_simp
   exact hK _ _ (fun W hW => ⟨_, _, _, _, rfl, hc25.below hW⟩) (Below.refl _ _)
  ·intro a w3 hA K hK
   obtain ⟨v25, t25, p25⟩ := bg_such hA 6 25
   obtain ⟨T25, n25, m25, y25, rfl, hc25⟩ := p25 w3 (Below.refl _ _)
   go_simp
   exact hK _ _ rfl (Below.refl _ _)
  ·intro a w3 hA K hK
   go_simp
   exact hK _ _ (fun W hW => FreshAt.below ⟨_, _, rfl, hA.grown.size, Bs.new w3 _ [.int .i64 0, .slice none 0 0, .bool false, .slice none 0 0, .slice none 0 0] _ rfl, ⟨(noU_i64 (noU_slice (noU_bool (noU_slice (noU_slice noU_nil))))), noT_con⟩, rfl⟩ hW) (Below.new_ (Below.refl _ _) _)
  ·intro a w3 hA K hK
   obtain ⟨v6, lk6, t6, p6⟩ := bg_link hA 9 6
   obtain ⟨g6, cs6, rfl, lg6, hB6, hU6, hl6⟩ := p6 w3 (Below.refl _ _)
   obtain ⟨x0, x1, x2, x3, x4, rfl⟩ := len5 hl6
   have f0 := hB6.frozen 0
   have c0 := hB6.cell 0 rfl
   have f1 := hB6.frozen 1
   have c1 := hB6.cell 1 rfl
   have f2 := hB6.frozen 2
   have c2 := hB6.cell 2 rfl
   have f3 := hB6.frozen 3
   have c3 := hB6.cell 3 rfl
   have f4 := hB6.frozen 4
   have c4 := hB6.cell 4 rfl
   obtain ⟨v32, t32, p32⟩ := bg_such hA 7 32
   obtain ⟨T32s, n32s, m32s, y32s, rfl, hc32s⟩ := p32 w3 (Below.refl _ _)
   go_simp
   exact hK (.pointer (some ⟨g6, 0, none⟩)) _ (fun W hW => ⟨g6, _, _, _, _, rfl, lg6, (stored5 hB6).1.below hW, (CV.kept hc32s hB6 hU6.1 hU6.2 (stored5 hB6).2.1).below hW⟩) ⟨⟨g6, _, _, lg6, hB6, hU6, rfl, (stored5 hB6).1, ⟨(noU_i64 (noU_slice (noU_bool (noU_slice (noU_slice noU_nil))))), noT_con⟩, rfl, (stored5 hB6).2.1⟩, fun j d h1 h2 => by cases h1; cases h2; exact lk6⟩
  ·intro a w3 hA K hK
   have t33 := bg_is hA 8 33
   go_simp
   exact hK _ _ Pg.fi_ (Below.refl _ _)
 rintro vs wv hV hbv hlk act hact
 repeat (replace hV := hV.is_; obtain ⟨_, rfl, hV⟩ := hV)
 replace hV := hV.such_; obtain ⟨v31, _, rfl, p31, hV⟩ := hV
 replace hV := hV.such_; obtain ⟨v25, _, rfl, p25, hV⟩ := hV
 replace hV := hV.such_; obtain ⟨v32, _, rfl, p32, hV⟩ := hV
 replace hV := hV.is_; obtain ⟨_, rfl, hV⟩ := hV
 replace hV := hV.such_; obtain ⟨v6, _, rfl, p6, hV⟩ := hV
 replace hV := hV.own_; obtain ⟨vP, _, rfl, pP, hV⟩ := hV
 replace hV := hV.is_; obtain ⟨_, rfl, hV⟩ := hV
 obtain rfl := hV.nil_
 clear hV
 replace hlk := hlk _ rfl
 simp only [List.getElem?_cons_succ, List.getElem?_cons_zero, Option.some.injEq] at hlk
 subst hlk; clear p6
 obtain ⟨T31, n31, m31, y31, rfl, hc31⟩ := p31 wv (Below.refl _ _)
 clear p31
 obtain ⟨T25, n25, m25, y25, rfl, hc25⟩ := p25 wv (Below.refl _ _)
 clear p25
 obtain ⟨T32, n32, m32, y32, rfl, hc32⟩ := p32 wv (Below.refl _ _)
 clear p32
 obtain ⟨gFa, T32s, n32s, m32s, y32s, rfl, lgFa, hBFa, hc32s⟩ := pP wv (Below.refl _ _)
 clear pP
 simp only [putsO] at hact
 subst hact
 go_simp
 have hwv := Below.then_ hb1 hbv
 have HXv := HX.below hbv
 clear a0
 have a0 := HXv.cell 0 rfl
 rcases X with x1 | C1
 ·skip
  have hx1 : ((errOf (Except.error x1 : Except Nat CQ) : Int) != 0) = true := bne_iff_ne.2 (Int.natCast_ne_zero.2 (HE1.out _ rfl))
  have HZe := HZ.below hbv
  have f0 := HZe.frozen 0
  have f1 := HZe.frozen 1
  have f2 := HZe.frozen 2
  have f3 := HZe.frozen 3
  have f4 := HZe.frozen 4
  have z0 := HZe.cell 0 rfl
  have z1 := HZe.cell 1 rfl
  have z2 := HZe.cell 2 rfl
  have z3 := HZe.cell 3 rfl
  have z4 := HZe.cell 4 rfl
  go_wp2_with fail
  refine bp_world (F := Stored wv (w.heap.size + 1 + 1) 27 [.int .i64 0, .slice none 0 0, .bool false, .slice none 0 0, .slice none 0 0]) (stored5 HZe) ?_
  rintro wz ⟨HS, ks, ss⟩
  have q0 := HS.cell 0 rfl
  have q1 := HS.cell 1 rfl
  have q2 := HS.cell 2 rfl
  have q3 := HS.cell 3 rfl
  have q4 := HS.cell 4 rfl
  refine bodyPost_ret (v := .tuple #[.agg #[.int .i64 0, .slice none 0 0, .bool false, .slice none 0 0, .slice none 0 0], .int .i64 (errOf (Except.error x1 : Except Nat CQ) : Int)]) (by simp [results, Try.results31, go_sem, q0, q1, q2, q3, q4]) rfl ?_
  exact ⟨_, rfl, cw0_val _, hwv.trans (Below.kept ks (by omega) hwv.size)⟩
 ·have hsC := (HF1.out _ rfl).1
  have hlC := (HF1.out _ rfl).2
  have hm1 : (rwOf (-1)).Le K := (short_le short_one.neg).mono hK1
  obtain ⟨c, hc⟩ : ∃ c, cwOf (scaleC C1 (-1)) = c := ⟨_, rfl⟩
  have hl1 : (cwOf C1).Le K := hsC.le
  have hlc1 : (cwOf C1).t.length ≤ 100000 := by rw [cwOf_len]; omega
  have HSc := hid fun (W : World) {v : Value} {y : RV} (hv : ConVal W v (cwOf C1)) (hy : y.at W (rwOf (-1))) => Scale_C W hv hy hl1 hm1 (by omega) hK1 hlc1
  rw [cwOf_q, rwOf_q, hc] at HSc
  have HC : Hid (c = conOf (.ok (scaleC C1 (-1)))) := hid hc.symm
  clear hsC hlC hc hl1 hlc1 hm1 HE1 HF1
  have HZv := HZ.below hbv
  have hx3 : ((errOf (Except.ok C1 : Except Nat CQ) : Int) != 0) = false := rfl
  replace hBFa : Bs wv gFa 27 [.int .i64 (cwOf C1).s, .slice T32s n32s m32s, .bool y32s.s, .slice y32s.A y32s.n y32s.c, .slice y32s.A' y32s.n' y32s.c'] := hBFa
  replace hc32s : CV wv T32s n32s m32s y32s (cwOf C1) := hc32s
  go_upto_region 10 with fail
  refine draw_G (fun W W' => W.grownBy W' (some (w.heap.size + 2))) (fun W => wv.grownBy W (some (w.heap.size + 2))) 3 none [some 41, some 42, some 43, none, some 5] [.is (.agg #[.int .i64 (cwOf C1).s, .slice T32s n32s m32s, .bool y32s.s, .slice y32s.A y32s.n y32s.c, .slice y32s.A' y32s.n' y32s.c']), .such (fun W v => ∃ (yX : RV), v = .agg #[.bool yX.s, .slice yX.A yX.n yX.c, .slice yX.A' yX.n' yX.c'] ∧ yX.at W (rwOf (-1))), .such (fun W v => ∃ (TX : Option Addr) (nX : Nat) (mX : Nat) (yX : RV), v = .agg #[.int .i64 c.s, .slice TX nX mX, .bool yX.s, .slice yX.A yX.n yX.c, .slice yX.A' yX.n' yX.c'] ∧ CV W TX nX mX yX (c)), .own (fun W _ => ∃ (T43s : Option Addr) (n43s : Nat) (m43s : Nat) (y43s : RV), Bs W (w.heap.size + 2) 27 [.int .i64 c.s, .slice T43s n43s m43s, .bool y43s.s, .slice y43s.A y43s.n y43s.c, .slice y43s.A' y43s.n' y43s.c'] ∧ CV W T43s n43s m43s y43s (c)), .is (.int .i64 0)]
   (by kernel_rfl) (by kernel_rfl) (by kernel_rfl) (by kernel_rfl) rfl (by kernel_rfl) (fun _ h => grown_of h _) (fun _ _ h hb => kept_then h (grown_of hb _)) (fun _ _ hb h => kept_then (grown_of hb _) h) (fun q W1 W2 v hm hbw hk hq => by simp at hm; rcases hm with rfl | rfl <;> first | (obtain ⟨yX, rfl, hyX⟩ := hq W1 (Below.refl _ _); exact fun W hW => ⟨_, rfl, (RV.at.kp hyX (Kp.stored (B := 0) (HZv.below hbw) (noU_i64 (noU_slice (noU_bool (noU_slice (noU_slice noU_nil))))) hk (Nat.zero_le _))).below hW⟩) | (obtain ⟨TX, nX, mX, yX, rfl, hcX⟩ := hq W1 (Below.refl _ _); exact fun W hW => ⟨_, _, _, _, rfl, (CV.kept hcX (HZv.below hbw) (noU_i64 (noU_slice (noU_bool (noU_slice (noU_slice noU_nil))))) noT_con hk).below hW⟩)) ?_ ?_
  ·refine ⟨?_, ?_, ?_, ?_, ?_, trivial⟩
   ·intro a w3 hA K hK
    have t6 := hA.old 6 _ rfl rfl
    have k0 := (hBFa.below hA.below).cell 0 rfl
    have k1 := (hBFa.below hA.below).cell 1 rfl
    have k2 := (hBFa.below hA.below).cell 2 rfl
    have k3 := (hBFa.below hA.below).cell 3 rfl
    have k4 := (hBFa.below hA.below).cell 4 rfl
    go_simp
    exact hK _ _ rfl (Below.refl _ _)
   ·intro a w3 hA K hK
    have hC := Int_Q (-1) w3 (by omega) (by omega) rfl
    go_simp
    refine hC.mono ?_
    rintro e w4 ⟨y, rfl, hy, hb⟩
    exact hK _ _ (fun W hW => ⟨_, rfl, hy.below hW⟩) hb
   ·intro a w3 hA K hK
    have t41 := bg_is hA 0 41
    obtain ⟨v42, t42, p42⟩ := bg_such hA 1 42
    obtain ⟨y42, rfl, hy42⟩ := p42 w3 (Below.refl _ _)
    have hC := HSc.out w3 (hc32s.below hA.below).val hy42
    go_simp
    refine hC.mono ?_
    rintro e w4 ⟨v, rfl, hv, hb⟩
    obtain ⟨_, _, _, _, rfl, hc⟩ := hv.cv; exact hK _ _ (fun W hW => ⟨_, _, _, _, rfl, hc.below hW⟩) hb
   ·intro a w3 hA K hK
    have t4 := hA.old 4 _ rfl rfl
    obtain ⟨v43, t43, p43⟩ := bg_such hA 2 43
    obtain ⟨T43s, n43s, m43s, y43s, rfl, hc43s⟩ := p43 w3 (Below.refl _ _)
    have hB := HZv.below hA.below
    have f0 := hB.frozen 0
    have c0 := hB.cell 0 rfl
    have f1 := hB.frozen 1
    have c1 := hB.cell 1 rfl
    have f2 := hB.frozen 2
    have c2 := hB.cell 2 rfl
    have f3 := hB.frozen 3
    have c3 := hB.cell 3 rfl
    have f4 := hB.frozen 4
    have c4 := hB.cell 4 rfl
    go_simp
    exact hK undef _ (fun W hW => ⟨_, _, _, _, (stored5 hB).1.below hW, (CV.kept hc43s hB (noU_i64 (noU_slice (noU_bool (noU_slice (noU_slice noU_nil))))) noT_con (stored5 hB).2.1).below hW⟩) ⟨(stored5 hB).2.1, fun j d h => by cases h⟩
   ·intro a w3 hA K hK
    go_simp
    exact hK _ _ Pg.fi_ (Below.refl _ _)
  rintro vs wq hV hgv hlk act hact
  replace hV := hV.is_; obtain ⟨_, rfl, hV⟩ := hV
  replace hV := hV.such_; obtain ⟨v42, _, rfl, p42, hV⟩ := hV
  replace hV := hV.such_; obtain ⟨v43, _, rfl, p43, hV⟩ := hV
  replace hV := hV.own_; obtain ⟨vP, _, rfl, pP, hV⟩ := hV
  replace hV := hV.is_; obtain ⟨_, rfl, hV⟩ := hV
  obtain rfl := hV.nil_
  clear hV
  clear hlk
  obtain ⟨y42, rfl, hy42⟩ := p42 wq (Below.refl _ _)
  clear p42
  obtain ⟨T43, n43, m43, y43, rfl, hc43⟩ := p43 wq (Below.refl _ _)
  clear p43
  obtain ⟨T43s, n43s, m43s, y43s, hBS, hc43s⟩ := pP wq (Below.refl _ _)
  clear pP
  simp only [putsO] at hact
  subst hact
  go_simp
  have hzw : Below w.heap.size w wq := hwv.trans (Below.kept hgv (by omega) hwv.size)
  have hBS' : Bs wq (w.heap.size + 1 + 1) 27 [.int .i64 c.s, .slice T43s n43s m43s, .bool y43s.s, .slice y43s.A y43s.n y43s.c, .slice y43s.A' y43s.n' y43s.c'] := hBS
  have q0 := hBS'.cell 0 rfl
  have q1 := hBS'.cell 1 rfl
  have q2 := hBS'.cell 2 rfl
  have q3 := hBS'.cell 3 rfl
  have q4 := hBS'.cell 4 rfl
  go_wp2_with fail
  refine bodyPost_ret (v := .tuple #[.agg #[.int .i64 c.s, .slice T43s n43s m43s, .bool y43s.s, .slice y43s.A y43s.n y43s.c, .slice y43s.A' y43s.n' y43s.c'], .int .i64 0]) (by simp [results, Try.results31, go_sem, q0, q1, q2, q3, q4]) rfl ?_
  exact ⟨_, rfl, by rw [← HC.out]; exact hc43s.val, hzw⟩
theorem SumAt.num {x : EW} {q : Rat} : SumAt x (.num q) := by
 rintro K w v ⟨r, v0, v1, v2, nm, KK, kn, kc, rfl, hr, hq, hrl⟩ _ hK hK1 hE
 obtain ⟨u, rfl, rfl, rfl, hu⟩ := rows_rv hr
 have HN := hid fun W (hW : Below w.heap.size w W) => Norm_Q W (hu.below hW) hrl (by omega) (by omega)
 rw [hq] at HN
 simp only [sumX]
 clear hr hu hE
 go_enter Try.func31, Try.ntmps31
 go_upto_region 1 with fail
 refine wp_world (F := fun W => (Bs W w.heap.size 48 [.int .i64 1, .bool u.s, .slice u.A u.n u.c, .slice u.A' u.n' u.c', nm, .slice KK kn kc] ∧ Bs W (w.heap.size + 1) 55 [.slice x.A0 x.n0 x.k0, .slice x.A1 x.n1 x.k1, .slice x.A2 x.n2 x.k2] ∧ Bs W (w.heap.size + 2) 27 [.int .i64 0, .slice none 0 0, .bool false, .slice none 0 0, .slice none 0 0]) ∧ Below w.heap.size w W)
  ⟨⟨((Bs.new w _ _ _ rfl).alloc _).alloc _, (Bs.new _ _ _ _ (by simp)).alloc _, Bs.new _ _ _ _ (by simp)⟩, Pg.bel⟩ ?_
 rintro w1 ⟨⟨HX, HV, HZ⟩, hb1⟩
 have a0 := HX.cell 0 rfl
 have a1 := HX.cell 1 rfl
 have a2 := HX.cell 2 rfl
 have a3 := HX.cell 3 rfl
 go_wp2_with (go_at_call 14; (with_reducible refine (HN.out _ hb1).mono ?_); rintro e w5 ⟨y', rfl, hy', hb5⟩; have HZ5 := HZ.below hb5; have hbw := Below.then_ hb1 hb5; have f0 := HZ5.frozen 0; have f1 := HZ5.frozen 1; have f2 := HZ5.frozen 2; have f3 := HZ5.frozen 3; have f4 := HZ5.frozen 4; have z0 := HZ5.cell 0 rfl; have z1 := HZ5.cell 1 rfl; have z2 := HZ5.cell 2 rfl; have z3 := HZ5.cell 3 rfl; have z4 := HZ5.cell 4 rfl)
 refine bp_world (F := Stored w5 (w.heap.size + 1 + 1) 27 [.int .i64 0, .slice none 0 0, .bool y'.s, .slice y'.A y'.n y'.c, .slice y'.A' y'.n' y'.c']) (stored5 HZ5) ?_
 rintro wz ⟨HS, ks, ss⟩
 have q0 := HS.cell 0 rfl
 have q1 := HS.cell 1 rfl
 have q2 := HS.cell 2 rfl
 have q3 := HS.cell 3 rfl
 have q4 := HS.cell 4 rfl
 refine bodyPost_ret (v := .tuple #[.agg #[.int .i64 0, .slice none 0 0, .bool y'.s, .slice y'.A y'.n y'.c, .slice y'.A' y'.n' y'.c'], .int .i64 0]) (by simp [results, Try.results31, go_sem, q0, q1, q2, q3, q4]) rfl ?_
 exact ⟨_, rfl, no_term (hy'.kp (Kp.stored (B := 0) HZ5 conU0 ks (Nat.zero_le _))), hbw.trans (Below.kept ks (by omega) hbw.size)⟩
theorem SumAt.name {x : EW} {s : List UInt8} (hl : ∀ r ∈ x.vals, r.Le 3) : SumAt x (.name s) := by
 rintro K w v ⟨v0, v1, v2, KK, kn, kc, rfl, hs⟩ _ hK hK1 hE
 have HN := hid fun W (hW : Below w.heap.size w W) => named_C W s (hE.below hW) hl (by omega) (by omega)
 simp only [sumX]
 obtain ⟨X, hX⟩ : ∃ X, nameC s x.q = X := ⟨_, rfl⟩
 rw [hX] at HN ⊢
 clear hE hX
 go_enter Try.func31, Try.ntmps31
 go_upto_region 1 with fail
 refine wp_world (F := fun W => (Bs W w.heap.size 48 [.int .i64 2, v0, v1, v2, .string (str s), .slice KK kn kc] ∧ Bs W (w.heap.size + 1) 55 [.slice x.A0 x.n0 x.k0, .slice x.A1 x.n1 x.k1, .slice x.A2 x.n2 x.k2] ∧ Bs W (w.heap.size + 2) 27 [.int .i64 0, .slice none 0 0, .bool false, .slice none 0 0, .slice none 0 0]) ∧ Below w.heap.size w W)
  ⟨⟨((Bs.new w _ _ _ rfl).alloc _).alloc _, (Bs.new _ _ _ _ (by simp)).alloc _, Bs.new _ _ _ _ (by simp)⟩, Pg.bel⟩ ?_
 rintro w1 ⟨⟨HX, HV, HZ⟩, hb1⟩
 have a0 := HX.cell 0 rfl
 have a4 := HX.cell 4 rfl
 have b0 := HV.cell 0 rfl
 have b1 := HV.cell 1 rfl
 have b2 := HV.cell 2 rfl
 go_wp2_with (go_at_call 46; (with_reducible refine (HN.out _ hb1).mono ?_); rintro e w5 ⟨v5, rfl, hv5, hb5⟩; obtain ⟨T5, n5, m5, y5, rfl, hc5⟩ := hv5.cv; have HZ5 := HZ.below hb5; have hbw := Below.then_ hb1 hb5; have f0 := HZ5.frozen 0; have f1 := HZ5.frozen 1; have f2 := HZ5.frozen 2; have f3 := HZ5.frozen 3; have f4 := HZ5.frozen 4; have z0 := HZ5.cell 0 rfl; have z1 := HZ5.cell 1 rfl; have z2 := HZ5.cell 2 rfl; have z3 := HZ5.cell 3 rfl; have z4 := HZ5.cell 4 rfl)
 refine bp_world (F := Stored w5 (w.heap.size + 1 + 1) 27 [.int .i64 (conOf X).s, .slice T5 n5 m5, .bool y5.s, .slice y5.A y5.n y5.c, .slice y5.A' y5.n' y5.c']) (stored5 HZ5) ?_
 rintro wz ⟨HS, ks, ss⟩
 have q0 := HS.cell 0 rfl
 have q1 := HS.cell 1 rfl
 have q2 := HS.cell 2 rfl
 have q3 := HS.cell 3 rfl
 have q4 := HS.cell 4 rfl
 refine bodyPost_ret (v := .tuple #[.agg #[.int .i64 (conOf X).s, .slice T5 n5 m5, .bool y5.s, .slice y5.A y5.n y5.c, .slice y5.A' y5.n' y5.c'], .int .i64 (errOf X : Int)]) (by simp [results, Try.results31, go_sem, q0, q1, q2, q3, q4]) rfl ?_
 exact ⟨_, rfl, (hc5.kept HZ5 conU0 noT_con ks).val, hbw.trans (Below.kept ks (by omega) hbw.size)⟩
theorem SumAt.bin {x : EW} {k : Nat} {a a' : XE} (hl : ∀ r ∈ x.vals, r.Le 3) (hn : x.vars.length ≤ 1000) (IH : SumAt x a) (IH' : SumAt x a') : SumAt x (.bin k a a') := by
 rintro K w v ⟨v0, v1, v2, nm, b, o, kn, kc, d0, d1, d2, d3, d4, d5, f0, f1, f2, f3, f4, f5, h3, h6, rfl, hk1, hk2, hbl, hck, hdk, hv, hv'⟩ ⟨i, j, hi, hj, hij⟩ hK hK1 hE
 have hsz := SzX.mono hi (by omega : i ≤ K)
 have hsz' := SzX.mono hj (by omega : j ≤ K)
 clear hi hj hij
 have HS1 := hid fun W (hW : Below w.heap.size w W) => IH K W _ (XE.Val.below hW a _ hv) hsz hK hK1 (hE.below hW)
 have HS2 := hid fun W (hW : Below w.heap.size w W) => IH' K W _ (XE.Val.below hW a' _ hv') hsz' hK hK1 (hE.below hW)
 have hkp : 0 < kn := by omega
 have hkq : (1 : Int) < (kn : Int) := by omega
 have hk7 : ((k : Int) == 7) = false := beq_eq_false_iff_ne.2 (by omega)
 have hk8 : ((k : Int) == 1) = false := beq_eq_false_iff_ne.2 (by omega)
 have hk9 : ((k : Int) == 2) = false := beq_eq_false_iff_ne.2 (by omega)
 simp only [sumX]
 have hvs : ∀ q ∈ x.q.vals, Short q 3 := short_of_at hE.vals hl (by omega)
 have hvl : x.q.vars.length = x.vars.length := rfl
 obtain ⟨X, hX⟩ : ∃ X, sumX x.q a = X := ⟨_, rfl⟩
 obtain ⟨Y, hY⟩ : ∃ Y, sumX x.q a' = Y := ⟨_, rfl⟩
 rw [hX] at HS1 ⊢
 rw [hY] at HS2 ⊢
 have HE1 := hid fun (y : Nat) (h : X = .error y) => sumX_err (hX.trans h)
 have HE2 := hid fun (y : Nat) (h : Y = .error y) => sumX_err (hY.trans h)
 have HF1 := hid fun (C : CQ) (h : X = .ok C) => And.intro (sumX_short x.q hvs a K C hsz (hX.trans h)) (Nat.le_trans (sumX_len (hX.trans h)) hn)
 have HF2 := hid fun (C : CQ) (h : Y = .ok C) => And.intro (sumX_short x.q hvs a' K C hsz' (hY.trans h)) (Nat.le_trans (sumX_len (hY.trans h)) hn)
 have HCK := hid hck
 have HDK := hid hdk
 clear hX hY hv hv' hE hsz hsz' hck hdk hvs hvl
 go_enter Try.func31, Try.ntmps31
 go_upto_region 1 with fail
 refine wp_world (F := fun W => (Bs W w.heap.size 48 [.int .i64 (k : Int), v0, v1, v2, nm, .slice (some ⟨b, o, none⟩) kn kc] ∧ Bs W (w.heap.size + 1) 55 [.slice x.A0 x.n0 x.k0, .slice x.A1 x.n1 x.k1, .slice x.A2 x.n2 x.k2] ∧ Bs W (w.heap.size + 2) 27 [.int .i64 0, .slice none 0 0, .bool false, .slice none 0 0, .slice none 0 0]) ∧ Below w.heap.size w W)
  ⟨⟨((Bs.new w _ _ _ rfl).alloc _).alloc _, (Bs.new _ _ _ _ (by simp)).alloc _, Bs.new _ _ _ _ (by simp)⟩, Pg.bel⟩ ?_
 rintro w1 ⟨⟨HX, HV, HZ⟩, hb1⟩
 have a0 := HX.cell 0 rfl
 have HK0 := HCK.out.below hbl hb1
 have hbk : b < w1.heap.size := Nat.lt_of_lt_of_le hbl hb1.size
 go_upto_region 6 with fail
 refine draw_G (FreshR w1 27 5) (fun W => Below w1.heap.size w1 W) 10 (some 9) [some 26, some 27, some 28, some 29, some 30, some 31, some 25, some 32, some 33, some 6, none, some 7] [.is (.pointer (some ⟨w.heap.size, 5, none⟩)), .is (.slice (some ⟨b, o, none⟩) kn kc), .is (.pointer (some ⟨b, o, none⟩)), .is (.agg #[d0, d1, d2, d3, d4, d5]), .is (.agg #[.slice x.A0 x.n0 x.k0, .slice x.A1 x.n1 x.k1, .slice x.A2 x.n2 x.k2]), .such (fun W v => ∃ (TX : Option Addr) (nX : Nat) (mX : Nat) (yX : RV), v = .tuple #[.agg #[.int .i64 (conOf X).s, .slice TX nX mX, .bool yX.s, .slice yX.A yX.n yX.c, .slice yX.A' yX.n' yX.c'], .int .i64 (errOf X : Int)] ∧ CV W TX nX mX yX ((conOf X))), .such (fun W v => ∃ (TX : Option Addr) (nX : Nat) (mX : Nat) (yX : RV), v = .tuple #[.agg #[.int .i64 (conOf X).s, .slice TX nX mX, .bool yX.s, .slice yX.A yX.n yX.c, .slice yX.A' yX.n' yX.c'], .int .i64 (errOf X : Int)] ∧ CV W TX nX mX yX ((conOf X))), .such (fun W v => ∃ (TX : Option Addr) (nX : Nat) (mX : Nat) (yX : RV), v = .agg #[.int .i64 (conOf X).s, .slice TX nX mX, .bool yX.s, .slice yX.A yX.n yX.c, .slice yX.A' yX.n' yX.c'] ∧ CV W TX nX mX yX ((conOf X))), .is (.int .i64 (errOf X : Int)), .such (FreshAt w1 27 5), .own (fun W v => ∃ (gFa : Nat) (T32s : Option Addr) (n32s : Nat) (m32s : Nat) (y32s : RV), v = .pointer (some ⟨gFa, 0, none⟩) ∧ w1.heap.size ≤ gFa ∧ Bs W gFa 27 [.int .i64 (conOf X).s, .slice T32s n32s m32s, .bool y32s.s, .slice y32s.A y32s.n y32s.c, .slice y32s.A' y32s.n' y32s.c'] ∧ CV W T32s n32s m32s y32s ((conOf X))), .is (.int .i64 (errOf X : Int))]
  (by kernel_rfl) (by kernel_rfl) (by kernel_rfl) (by kernel_rfl) rfl (by kernel_rfl) (fun _ h => h) (fun _ _ h hb => Below.then_ h hb) (fun _ _ hb h => FreshR.bel hb h) (fun q W1 W2 v hm hbw hk hq => by simp at hm; rcases hm with rfl | rfl | rfl | rfl <;> first | (obtain ⟨TX, nX, mX, yX, rfl, hcX⟩ := hq W1 (Below.refl _ _); exact fun W hW => ⟨_, _, _, _, rfl, (FreshR.cv hk hcX).below hW⟩) | (exact fun W hW => (FreshAt.after (hq W1 (Below.refl _ _)) hk).below hW)) ?_ ?_
 ·refine ⟨?_, ?_, ?_, ?_, ?_, ?_, ?_, ?_, ?_, ?_, ?_, ?_, trivial⟩
  ·intro a w3 hA K hK
   have t2 := hA.old 2 _ rfl rfl
   go_simp
   exact hK _ _ rfl (Below.refl _ _)
  ·intro a w3 hA K hK
   have t26 := bg_is hA 0 26
   have k0 := (HX.below hA.grown).cell 5 rfl
   go_simp
   exact hK _ _ rfl (Below.refl _ _)
  ·intro a w3 hA K hK
   have t27 := bg_is hA 1 27
   go_simp
   exact hK _ _ Pg.fi_ (Below.refl _ _)
  ·intro a w3 hA K hK
   have t28 := bg_is hA 2 28
   have k0 : w3.cell? ⟨b, o, none⟩ = some (d0) := (HK0.below hbk hA.grown).at_ 0 rfl
   have k1 := (HK0.below hbk hA.grown).at_ 1 rfl
   have k2 := (HK0.below hbk hA.grown).at_ 2 rfl
   have k3 := (HK0.below hbk hA.grown).at_ 3 rfl
   have k4 := (HK0.below hbk hA.grown).at_ 4 rfl
   have k5 := (HK0.below hbk hA.grown).at_ 5 rfl
   go_simp
   exact hK _ _ rfl (Below.refl _ _)
  ·intro a w3 hA K hK
   have t3 := hA.old 3 _ rfl rfl
   have k0 := (HV.below hA.grown).cell 0 rfl
   have k1 := (HV.below hA.grown).cell 1 rfl
   have k2 := (HV.below hA.grown).cell 2 rfl
   go_simp
   exact hK _ _ rfl (Below.refl _ _)
  ·intro a w3 hA K hK
   have t29 := bg_is hA 3 29
   have t30 := bg_is hA 4 30
   have hC := HS1.out w3 (Below.then_ hb1 hA.grown)
   go_simp
   refine hC.mono ?_
   rintro e w4 ⟨v, rfl, hv, hb⟩
   obtain ⟨_, _, _, _, rfl, hc⟩ := hv.cv; exact hK _ _ (fun W hW => ⟨_, _, _, _, rfl, hc.below hW⟩) hb
  ·intro a w3 hA K hK
   obtain ⟨v31, t31, p31⟩ := bg_such hA 5 31
   obtain ⟨T31, n31, m31, y31, rfl, hc31⟩ := p31 w3 (Below.refl _ _)
   go_simp
   exact hK _ _ (fun W hW => ⟨_, _, _, _, rfl, hc31.below hW⟩) (Below.refl _ _)
  ·intro a w3 hA K hK
   obtain ⟨v25, t25, p25⟩ := bg_such hA 6 25
   obtain ⟨T25, n25, m25, y25, rfl, hc25⟩ := p25 w3 (Below.refl _ _)
   go_simp
   exact hK _ _ (fun W hW => ⟨_, _, _, _, rfl, hc25.below hW⟩) (Below.refl _ _)
  ·intro a w3 hA K hK
   obtain ⟨v25, t25, p25⟩ := bg_such hA 6 25
   obtain ⟨T25, n25, m25, y25, rfl, hc25⟩ := p25 w3 (Below.refl _ _)
   go_simp
   exact hK _ _ rfl (Below.refl _ _)
  ·intro a w3 hA K hK
   go_simp
   exact hK _ _ (fun W hW => FreshAt.below ⟨_, _, rfl, hA.grown.size, Bs.new w3 _ [.int .i64 0, .slice none 0 0, .bool false, .slice none 0 0, .slice none 0 0] _ rfl, ⟨(noU_i64 (noU_slice (noU_bool (noU_slice (noU_slice noU_nil))))), noT_con⟩, rfl⟩ hW) (Below.new_ (Below.refl _ _) _)
  ·intro a w3 hA K hK
   obtain ⟨v6, lk6, t6, p6⟩ := bg_link hA 9 6
   obtain ⟨g6, cs6, rfl, lg6, hB6, hU6, hl6⟩ := p6 w3 (Below.refl _ _)
   obtain ⟨x0, x1, x2, x3, x4, rfl⟩ := len5 hl6
   have f0 := hB6.frozen 0
   have c0 := hB6.cell 0 rfl
   have f1 := hB6.frozen 1
   have c1 := hB6.cell 1 rfl
   have f2 := hB6.frozen 2
   have c2 := hB6.cell 2 rfl
   have f3 := hB6.frozen 3
   have c3 := hB6.cell 3 rfl
   have f4 := hB6.frozen 4
   have c4 := hB6.cell 4 rfl
   obtain ⟨v32, t32, p32⟩ := bg_such hA 7 32
   obtain ⟨T32s, n32s, m32s, y32s, rfl, hc32s⟩ := p32 w3 (Below.refl _ _)
   go_simp
   exact hK (.pointer (some ⟨g6, 0, none⟩)) _ (fun W hW => ⟨g6, _, _, _, _, rfl, lg6, (stored5 hB6).1.below hW, (CV.kept hc32s hB6 hU6.1 hU6.2 (stored5 hB6).2.1).below hW⟩) ⟨⟨g6, _, _, lg6, hB6, hU6, rfl, (stored5 hB6).1, ⟨(noU_i64 (noU_slice (noU_bool (noU_slice (noU_slice noU_nil))))), noT_con⟩, rfl, (stored5 hB6).2.1⟩, fun j d h1 h2 => by cases h1; cases h2; exact lk6⟩
  ·intro a w3 hA K hK
   have t33 := bg_is hA 8 33
   go_simp
   exact hK _ _ Pg.fi_ (Below.refl _ _)
 rintro vs wv hV hbv hlk act hact
 repeat (replace hV := hV.is_; obtain ⟨_, rfl, hV⟩ := hV)
 replace hV := hV.such_; obtain ⟨v31, _, rfl, p31, hV⟩ := hV
 replace hV := hV.such_; obtain ⟨v25, _, rfl, p25, hV⟩ := hV
 replace hV := hV.such_; obtain ⟨v32, _, rfl, p32, hV⟩ := hV
 replace hV := hV.is_; obtain ⟨_, rfl, hV⟩ := hV
 replace hV := hV.such_; obtain ⟨v6, _, rfl, p6, hV⟩ := hV
 replace hV := hV.own_; obtain ⟨vP, _, rfl, pP, hV⟩ := hV
 replace hV := hV.is_; obtain ⟨_, rfl, hV⟩ := hV
 obtain rfl := hV.nil_
 clear hV
 replace hlk := hlk _ rfl
 simp only [List.getElem?_cons_succ, List.getElem?_cons_zero, Option.some.injEq] at hlk
 subst hlk; clear p6
 obtain ⟨T31, n31, m31, y31, rfl, hc31⟩ := p31 wv (Below.refl _ _)
 clear p31
 obtain ⟨T25, n25, m25, y25, rfl, hc25⟩ := p25 wv (Below.refl _ _)
 clear p25
 obtain ⟨T32, n32, m32, y32, rfl, hc32⟩ := p32 wv (Below.refl _ _)
 clear p32
 obtain ⟨gFa, T32s, n32s, m32s, y32s, rfl, lgFa, hBFa, hc32s⟩ := pP wv (Below.refl _ _)
 clear pP
 simp only [putsO] at hact
 subst hact
 go_simp
 have hwv := Below.then_ hb1 hbv
 have HXv := HX.below hbv
 clear a0
 have a0 := HXv.cell 0 rfl
 rcases X with x1 | C1
 ·skip
  have hx1 : ((errOf (Except.error x1 : Except Nat CQ) : Int) != 0) = true := bne_iff_ne.2 (Int.natCast_ne_zero.2 (HE1.out _ rfl))
  have HZe := HZ.below hbv
  have f0 := HZe.frozen 0
  have f1 := HZe.frozen 1
  have f2 := HZe.frozen 2
  have f3 := HZe.frozen 3
  have f4 := HZe.frozen 4
  have z0 := HZe.cell 0 rfl
  have z1 := HZe.cell 1 rfl
  have z2 := HZe.cell 2 rfl
  have z3 := HZe.cell 3 rfl
  have z4 := HZe.cell 4 rfl
  go_wp2_with fail
  refine bp_world (F := Stored wv (w.heap.size + 1 + 1) 27 [.int .i64 0, .slice none 0 0, .bool false, .slice none 0 0, .slice none 0 0]) (stored5 HZe) ?_
  rintro wz ⟨HS, ks, ss⟩
  have q0 := HS.cell 0 rfl
  have q1 := HS.cell 1 rfl
  have q2 := HS.cell 2 rfl
  have q3 := HS.cell 3 rfl
  have q4 := HS.cell 4 rfl
  refine bodyPost_ret (v := .tuple #[.agg #[.int .i64 0, .slice none 0 0, .bool false, .slice none 0 0, .slice none 0 0], .int .i64 (errOf (Except.error x1 : Except Nat CQ) : Int)]) (by simp [results, Try.results31, go_sem, q0, q1, q2, q3, q4]) rfl ?_
  exact ⟨_, rfl, cw0_val _, hwv.trans (Below.kept ks (by omega) hwv.size)⟩
 ·skip
  have hx3 : ((errOf (Except.ok C1 : Except Nat CQ) : Int) != 0) = false := rfl
  replace hBFa : Bs wv gFa 27 [.int .i64 (cwOf C1).s, .slice T32s n32s m32s, .bool y32s.s, .slice y32s.A y32s.n y32s.c, .slice y32s.A' y32s.n' y32s.c'] := hBFa
  replace hc32s : CV wv T32s n32s m32s y32s (cwOf C1) := hc32s
  have HVv := HV.below hbv
  have HZv := HZ.below hbv
  have HK2 := hid (HDK.out.below hbl hwv)
  have hbv2 : b < wv.heap.size := Nat.lt_of_lt_of_le hbl hwv.size
  go_upto_region 11 with fail
  refine draw_G (FreshR wv 27 5) (fun W => Below wv.heap.size wv W) 10 (some 9) [some 45, some 46, some 47, some 48, some 49, some 50, some 44, some 51, some 52, some 8, none, some 7] [.is (.pointer (some ⟨w.heap.size, 5, none⟩)), .is (.slice (some ⟨b, o, none⟩) kn kc), .is (.pointer (some ⟨b, o + 6, none⟩)), .is (.agg #[f0, f1, f2, f3, f4, f5]), .is (.agg #[.slice x.A0 x.n0 x.k0, .slice x.A1 x.n1 x.k1, .slice x.A2 x.n2 x.k2]), .such (fun W v => ∃ (TX : Option Addr) (nX : Nat) (mX : Nat) (yX : RV), v = .tuple #[.agg #[.int .i64 (conOf Y).s, .slice TX nX mX, .bool yX.s, .slice yX.A yX.n yX.c, .slice yX.A' yX.n' yX.c'], .int .i64 (errOf Y : Int)] ∧ CV W TX nX mX yX ((conOf Y))), .such (fun W v => ∃ (TX : Option Addr) (nX : Nat) (mX : Nat) (yX : RV), v = .tuple #[.agg #[.int .i64 (conOf Y).s, .slice TX nX mX, .bool yX.s, .slice yX.A yX.n yX.c, .slice yX.A' yX.n' yX.c'], .int .i64 (errOf Y : Int)] ∧ CV W TX nX mX yX ((conOf Y))), .such (fun W v => ∃ (TX : Option Addr) (nX : Nat) (mX : Nat) (yX : RV), v = .agg #[.int .i64 (conOf Y).s, .slice TX nX mX, .bool yX.s, .slice yX.A yX.n yX.c, .slice yX.A' yX.n' yX.c'] ∧ CV W TX nX mX yX ((conOf Y))), .is (.int .i64 (errOf Y : Int)), .such (FreshAt wv 27 5), .own (fun W v => ∃ (gFb : Nat) (T51s : Option Addr) (n51s : Nat) (m51s : Nat) (y51s : RV), v = .pointer (some ⟨gFb, 0, none⟩) ∧ wv.heap.size ≤ gFb ∧ Bs W gFb 27 [.int .i64 (conOf Y).s, .slice T51s n51s m51s, .bool y51s.s, .slice y51s.A y51s.n y51s.c, .slice y51s.A' y51s.n' y51s.c'] ∧ CV W T51s n51s m51s y51s ((conOf Y))), .is (.int .i64 (errOf Y : Int))]
   (by kernel_rfl) (by kernel_rfl) (by kernel_rfl) (by kernel_rfl) rfl (by kernel_rfl) (fun _ h => h) (fun _ _ h hb => Below.then_ h hb) (fun _ _ hb h => FreshR.bel hb h) (fun q W1 W2 v hm hbw hk hq => by simp at hm; rcases hm with rfl | rfl | rfl | rfl <;> first | (obtain ⟨TX, nX, mX, yX, rfl, hcX⟩ := hq W1 (Below.refl _ _); exact fun W hW => ⟨_, _, _, _, rfl, (FreshR.cv hk hcX).below hW⟩) | (exact fun W hW => (FreshAt.after (hq W1 (Below.refl _ _)) hk).below hW)) ?_ ?_
  ·refine ⟨?_, ?_, ?_, ?_, ?_, ?_, ?_, ?_, ?_, ?_, ?_, ?_, trivial⟩
   ·intro a w3 hA K hK
    have t2 := hA.old 2 _ rfl rfl
    go_simp
    exact hK _ _ rfl (Below.refl _ _)
   ·intro a w3 hA K hK
    have t45 := bg_is hA 0 45
    have k0 := (HXv.below hA.grown).cell 5 rfl
    go_simp
    exact hK _ _ rfl (Below.refl _ _)
   ·intro a w3 hA K hK
    have t46 := bg_is hA 1 46
    go_simp
    exact hK _ _ Pg.fi_ (Below.refl _ _)
   ·intro a w3 hA K hK
    have t47 := bg_is hA 2 47
    have k0 : w3.cell? ⟨b, o + 6, none⟩ = some (f0) := (HK2.out.below hbv2 hA.grown).at_ 0 rfl
    have k1 := (HK2.out.below hbv2 hA.grown).at_ 1 rfl
    have k2 := (HK2.out.below hbv2 hA.grown).at_ 2 rfl
    have k3 := (HK2.out.below hbv2 hA.grown).at_ 3 rfl
    have k4 := (HK2.out.below hbv2 hA.grown).at_ 4 rfl
    have k5 := (HK2.out.below hbv2 hA.grown).at_ 5 rfl
    go_simp
    exact hK _ _ rfl (Below.refl _ _)
   ·intro a w3 hA K hK
    have t3 := hA.old 3 _ rfl rfl
    have k0 := (HVv.below hA.grown).cell 0 rfl
    have k1 := (HVv.below hA.grown).cell 1 rfl
    have k2 := (HVv.below hA.grown).cell 2 rfl
    go_simp
    exact hK _ _ rfl (Below.refl _ _)
   ·intro a w3 hA K hK
    have t48 := bg_is hA 3 48
    have t49 := bg_is hA 4 49
    have hC := HS2.out w3 (Below.then_ hwv hA.grown)
    go_simp
    refine hC.mono ?_
    rintro e w4 ⟨v, rfl, hv, hb⟩
    obtain ⟨_, _, _, _, rfl, hc⟩ := hv.cv; exact hK _ _ (fun W hW => ⟨_, _, _, _, rfl, hc.below hW⟩) hb
   ·intro a w3 hA K hK
    obtain ⟨v50, t50, p50⟩ := bg_such hA 5 50
    obtain ⟨T50, n50, m50, y50, rfl, hc50⟩ := p50 w3 (Below.refl _ _)
    go_simp
    exact hK _ _ (fun W hW => ⟨_, _, _, _, rfl, hc50.below hW⟩) (Below.refl _ _)
   ·intro a w3 hA K hK
    obtain ⟨v44, t44, p44⟩ := bg_such hA 6 44
    obtain ⟨T44, n44, m44, y44, rfl, hc44⟩ := p44 w3 (Below.refl _ _)
    go_simp
    exact hK _ _ (fun W hW => ⟨_, _, _, _, rfl, hc44.below hW⟩) (Below.refl _ _)
   ·intro a w3 hA K hK
    obtain ⟨v44, t44, p44⟩ := bg_such hA 6 44
    obtain ⟨T44, n44, m44, y44, rfl, hc44⟩ := p44 w3 (Below.refl _ _)
    go_simp
    exact hK _ _ rfl (Below.refl _ _)
   ·intro a w3 hA K hK
    go_simp
    exact hK _ _ (fun W hW => FreshAt.below ⟨_, _, rfl, hA.grown.size, Bs.new w3 _ [.int .i64 0, .slice none 0 0, .bool false, .slice none 0 0, .slice none 0 0] _ rfl, ⟨(noU_i64 (noU_slice (noU_bool (noU_slice (noU_slice noU_nil))))), noT_con⟩, rfl⟩ hW) (Below.new_ (Below.refl _ _) _)
   ·intro a w3 hA K hK
    obtain ⟨v8, lk8, t8, p8⟩ := bg_link hA 9 8
    obtain ⟨g8, cs8, rfl, lg8, hB8, hU8, hl8⟩ := p8 w3 (Below.refl _ _)
    obtain ⟨x0, x1, x2, x3, x4, rfl⟩ := len5 hl8
    have f0 := hB8.frozen 0
    have c0 := hB8.cell 0 rfl
    have f1 := hB8.frozen 1
    have c1 := hB8.cell 1 rfl
    have f2 := hB8.frozen 2
    have c2 := hB8.cell 2 rfl
    have f3 := hB8.frozen 3
    have c3 := hB8.cell 3 rfl
    have f4 := hB8.frozen 4
    have c4 := hB8.cell 4 rfl
    obtain ⟨v51, t51, p51⟩ := bg_such hA 7 51
    obtain ⟨T51s, n51s, m51s, y51s, rfl, hc51s⟩ := p51 w3 (Below.refl _ _)
    go_simp
    exact hK (.pointer (some ⟨g8, 0, none⟩)) _ (fun W hW => ⟨g8, _, _, _, _, rfl, lg8, (stored5 hB8).1.below hW, (CV.kept hc51s hB8 hU8.1 hU8.2 (stored5 hB8).2.1).below hW⟩) ⟨⟨g8, _, _, lg8, hB8, hU8, rfl, (stored5 hB8).1, ⟨(noU_i64 (noU_slice (noU_bool (noU_slice (noU_slice noU_nil))))), noT_con⟩, rfl, (stored5 hB8).2.1⟩, fun j d h1 h2 => by cases h1; cases h2; exact lk8⟩
   ·intro a w3 hA K hK
    have t52 := bg_is hA 8 52
    go_simp
    exact hK _ _ Pg.fi_ (Below.refl _ _)
  rintro vs wu hV hbu hlk act hact
  repeat (replace hV := hV.is_; obtain ⟨_, rfl, hV⟩ := hV)
  replace hV := hV.such_; obtain ⟨v50, _, rfl, p50, hV⟩ := hV
  replace hV := hV.such_; obtain ⟨v44, _, rfl, p44, hV⟩ := hV
  replace hV := hV.such_; obtain ⟨v51, _, rfl, p51, hV⟩ := hV
  replace hV := hV.is_; obtain ⟨_, rfl, hV⟩ := hV
  replace hV := hV.such_; obtain ⟨v8, _, rfl, p8, hV⟩ := hV
  replace hV := hV.own_; obtain ⟨vP, _, rfl, pP, hV⟩ := hV
  replace hV := hV.is_; obtain ⟨_, rfl, hV⟩ := hV
  obtain rfl := hV.nil_
  clear hV
  replace hlk := hlk _ rfl
  simp only [List.getElem?_cons_succ, List.getElem?_cons_zero, Option.some.injEq] at hlk
  subst hlk; clear p8
  obtain ⟨T50, n50, m50, y50, rfl, hc50⟩ := p50 wu (Below.refl _ _)
  clear p50
  obtain ⟨T44, n44, m44, y44, rfl, hc44⟩ := p44 wu (Below.refl _ _)
  clear p44
  obtain ⟨T51, n51, m51, y51, rfl, hc51⟩ := p51 wu (Below.refl _ _)
  clear p51
  obtain ⟨gFb, T51s, n51s, m51s, y51s, rfl, lgFb, hBFb, hc51s⟩ := pP wu (Below.refl _ _)
  clear pP
  simp only [putsO] at hact
  subst hact
  go_simp
  have hwu := Below.then_ hwv hbu
  have HXu := HXv.below hbu
  clear a0
  have a0 := HXu.cell 0 rfl
  rcases Y with x2 | C2
  ·skip
   have hx1 : ((errOf (Except.error x2 : Except Nat CQ) : Int) != 0) = true := bne_iff_ne.2 (Int.natCast_ne_zero.2 (HE2.out _ rfl))
   have HZe := HZv.below hbu
   have f0 := HZe.frozen 0
   have f1 := HZe.frozen 1
   have f2 := HZe.frozen 2
   have f3 := HZe.frozen 3
   have f4 := HZe.frozen 4
   have z0 := HZe.cell 0 rfl
   have z1 := HZe.cell 1 rfl
   have z2 := HZe.cell 2 rfl
   have z3 := HZe.cell 3 rfl
   have z4 := HZe.cell 4 rfl
   go_wp2_with fail
   refine bp_world (F := Stored wu (w.heap.size + 1 + 1) 27 [.int .i64 0, .slice none 0 0, .bool false, .slice none 0 0, .slice none 0 0]) (stored5 HZe) ?_
   rintro wz ⟨HS, ks, ss⟩
   have q0 := HS.cell 0 rfl
   have q1 := HS.cell 1 rfl
   have q2 := HS.cell 2 rfl
   have q3 := HS.cell 3 rfl
   have q4 := HS.cell 4 rfl
   refine bodyPost_ret (v := .tuple #[.agg #[.int .i64 0, .slice none 0 0, .bool false, .slice none 0 0, .slice none 0 0], .int .i64 (errOf (Except.error x2 : Except Nat CQ) : Int)]) (by simp [results, Try.results31, go_sem, q0, q1, q2, q3, q4]) rfl ?_
   exact ⟨_, rfl, cw0_val _, hwu.trans (Below.kept ks (by omega) hwu.size)⟩
  ·skip
   have hx4 : ((errOf (Except.ok C2 : Except Nat CQ) : Int) != 0) = false := rfl
   replace hBFb : Bs wu gFb 27 [.int .i64 (cwOf C2).s, .slice T51s n51s m51s, .bool y51s.s, .slice y51s.A y51s.n y51s.c, .slice y51s.A' y51s.n' y51s.c'] := hBFb
   replace hc51s : CV wu T51s n51s m51s y51s (cwOf C2) := hc51s
   have hsC1 := (HF1.out _ rfl).1
   have hsC2 := (HF2.out _ rfl).1
   have hl1 : (cwOf C1).Le K := hsC1.le
   have hl2 : (cwOf C2).Le K := hsC2.le
   have hlc1 : C1.t.length ≤ 1000 := (HF1.out _ rfl).2
   have hlc2 : C2.t.length ≤ 1000 := (HF2.out _ rfl).2
   have HZu := HZv.below hbu
   have HAu := hBFa.below hbu
   have hcu := hc32s.below hbu
   clear HE1 HE2 HF1 HF2
   have HJ := hid fun (W : World) {va vb : Value} (ha : ConVal W va (cwOf C1)) (hb : ConVal W vb (cwOf C2)) => joined_C W ha hb hl1 hl2 (by omega) hK1 hlc1 hlc2 h3 h6
   obtain ⟨X, hXX⟩ : ∃ X, binC k C1 C2 = X := ⟨_, rfl⟩
   rw [hXX] at HJ
   have HXX := hid hXX.symm
   clear hXX
   clear hl1 hl2 hlc1 hlc2 hsC1 hsC2
   have p0 := HAu.cell 0 rfl
   have p1 := HAu.cell 1 rfl
   have p2 := HAu.cell 2 rfl
   have p3 := HAu.cell 3 rfl
   have p4 := HAu.cell 4 rfl
   have r0 := hBFb.cell 0 rfl
   have r1 := hBFb.cell 1 rfl
   have r2 := hBFb.cell 2 rfl
   have r3 := hBFb.cell 3 rfl
   have r4 := hBFb.cell 4 rfl
   have HAv := hid (hcu.val)
   have HBv := hid (hc51s.val)
   clear hc32s hc51s hcu
   go_wp2_with (go_at_call 48; (with_reducible refine (HJ.out _ HAv.out HBv.out).mono ?_); rintro e w5 ⟨v5, rfl, hv5, hb5⟩; obtain ⟨T5, n5, m5, y5, rfl, hc5⟩ := hv5.cv; have HZ5 := HZu.below hb5; have hbw := Below.then_ hwu hb5; have f0 := HZ5.frozen 0; have f1 := HZ5.frozen 1; have f2 := HZ5.frozen 2; have f3 := HZ5.frozen 3; have f4 := HZ5.frozen 4; have z0 := HZ5.cell 0 rfl; have z1 := HZ5.cell 1 rfl; have z2 := HZ5.cell 2 rfl; have z3 := HZ5.cell 3 rfl; have z4 := HZ5.cell 4 rfl)
   refine bp_world (F := Stored w5 (w.heap.size + 1 + 1) 27 [.int .i64 (conOf X).s, .slice T5 n5 m5, .bool y5.s, .slice y5.A y5.n y5.c, .slice y5.A' y5.n' y5.c']) (stored5 HZ5) ?_
   rintro wz ⟨HS, ks, ss⟩
   have q0 := HS.cell 0 rfl
   have q1 := HS.cell 1 rfl
   have q2 := HS.cell 2 rfl
   have q3 := HS.cell 3 rfl
   have q4 := HS.cell 4 rfl
   refine bodyPost_ret (v := .tuple #[.agg #[.int .i64 (conOf X).s, .slice T5 n5 m5, .bool y5.s, .slice y5.A y5.n y5.c, .slice y5.A' y5.n' y5.c'], .int .i64 (errOf X : Int)]) (by simp [results, Try.results31, go_sem, q0, q1, q2, q3, q4]) rfl ?_
   exact SumRet.to HXX.out ⟨_, rfl, (hc5.kept HZ5 conU0 noT_con ks).val, hbw.trans (Below.kept ks (by omega) hbw.size)⟩
theorem sum_C {x : EW} (hl : ∀ r ∈ x.vals, r.Le 3) (hn : x.vars.length ≤ 1000) : ∀ e : XE, SumAt x e := by
 intro e
 induction e with
 | num q => exact SumAt.num
 | name s => exact SumAt.name hl
 | neg a ih => exact SumAt.neg hl hn ih
 | bin k a b ih ih' => exact SumAt.bin hl hn ih ih'
end Go.Proofs.Ytahdlpkncemmaaa
namespace Go.Proofs.Ytahdlpkncemmaaa
open Go.RowKit Pg
theorem termsW_le {k : Nat} : ∀ l : List TW, (∀ t ∈ l, t.r.Le k) → termsW l ≤ l.length * (2 * k + 1)
 | [], _ => Nat.zero_le _
 | t :: l, h => by
  have h1 := termsW_le l fun x hx => h x (List.mem_cons_of_mem _ hx)
  have h2 := h t List.mem_cons_self
  unfold RW.Le at h2
  unfold termsW
  rw [List.length_cons, Nat.add_mul, Nat.one_mul]
  omega
theorem two_cons {w : World} {g : Nat} {ty : TypeId} {T T' : Option Addr} {n m n' m' : Nat} {x x' : RV} {a b : CW} (h : Bs w g ty [.int .i64 a.s, .slice T n m, .bool x.s, .slice x.A x.n x.c, .slice x.A' x.n' x.c', .int .i64 b.s, .slice T' n' m', .bool x'.s, .slice x'.A x'.n x'.c, .slice x'.A' x'.n' x'.c']) (ha : CV w T n m x a) (hb : CV w T' n' m' x' b) : SlAt 5 ConAt w (some ⟨g, 0, none⟩) 2 2 [a, b] :=
 ⟨rfl, Nat.le_refl _, by omega, by omega, (fun e => by cases e), fun _ => ⟨g, 0, rfl, h.lt, fun j c hj => by
  match j, hj with
  | 0, hj =>
   simp only [List.getElem?_cons_zero, Option.some.injEq] at hj
   subst hj
   exact ⟨T, n, m, _, _, _, h.at.sub 0 5 (by simp), ha.1, ha.2⟩
  | 1, hj =>
   simp only [List.getElem?_cons_succ, List.getElem?_cons_zero, Option.some.injEq] at hj
   subst hj
   exact ⟨T', n', m', _, _, _, h.at.sub 5 5 (by simp), hb.1, hb.2⟩
  | j + 2, hj => simp at hj⟩⟩
end Go.Proofs.Ytahdlpkncemmaaa
