/- The law AffLaws. Conditions: those that each theorem names. -/
import Derived.Test.YtahdlpkncemmaaaW43
import Derived.Test.YtahdlpkncemmaaaW37
import Derived.Test.YtahdlpkncemmaaaW44
import Derived.Test.YtahdlpkncemmaaaW35
import Derived.Test.YtahdlpkncemmaaaW36
set_option maxRecDepth 100000
set_option maxHeartbeats 8000000
set_option linter.unusedSimpArgs false
set_option linter.unusedVariables false
namespace Pg
def CW.as (b : CW) (s : Int) : CW := ⟨s, b.t, b.r⟩
end Pg
namespace Go.Proofs.Ytahdlpkncemmaaa
open Go.RowKit Pg
theorem norm_short {r : RW} {k : Nat} (h : r.norm = true) (hl : r.Le k) : Short r.q k := by
 simp only [RW.norm, Bool.and_eq_true, beq_iff_eq] at h
 obtain ⟨⟨_, h2⟩, h3⟩ := h
 exact ⟨by rw [← h2]; exact hl.1, by rw [← h3]; exact hl.2⟩
theorem isL_facts {N : Int} {k : Nat} : ∀ (l : List TW) (q : Int), isL N q l = true → (∀ t ∈ l, t.r.Le k) → ∀ t ∈ l.map TW.q, t.c ≠ 0 ∧ Short t.c k
 | [], _, _, _, t, ht => by simp at ht
 | u :: l, q, h, hl, t, ht => by
  simp only [isL, Bool.and_eq_true, decide_eq_true_eq, Bool.not_eq_true', List.isEmpty_eq_false_iff] at h
  obtain ⟨⟨⟨_, hn⟩, hne⟩, h5⟩ := h
  rw [List.map_cons] at ht
  rcases List.mem_cons.1 ht with rfl | ht
  ·refine ⟨fun h0 => hne ?_, norm_short hn (hl u List.mem_cons_self)⟩
   simp only [RW.norm, Bool.and_eq_true, beq_iff_eq] at hn
   rw [hn.1.2]
   have h0' : u.r.q = 0 := h0
   rw [h0', rnum_zero, limbs_zero]
  ·exact isL_facts l _ h5 (fun t ht => hl t (List.mem_cons_of_mem _ ht)) t ht
theorem isW_facts {a : CW} {N : Int} {k : Nat} (h : isW a N = true) (hl : a.Le k) : (∀ t ∈ a.q.t, t.c ≠ 0) ∧ ShortC a.q k := by
 simp only [isW, Bool.and_eq_true] at h
 have h1 := isL_facts a.t 0 h.2 hl.1
 exact ⟨fun t ht => (h1 t ht).1, fun t ht => (h1 t ht).2, norm_short h.1.2 hl.2⟩
theorem sums_law {a b : CQ} (ha : ∀ t ∈ a.t, t.c ≠ 0) (hs : b.s = a.s) : addC a b = addC b a ∧ (addC a (scaleC a (-1))).t = [] ∧ (addC a (scaleC a (-1))).k = 0 ∧ scaleC a 2 = addC a a := by
 refine ⟨?_, addT_less ha, ?_, ?_⟩
 ·unfold addC
  rw [addT_comm, Rat.add_comm, hs]
 ·show a.k + a.k * -1 = 0
  rw [Rat.mul_neg, Rat.mul_one, Rat.add_neg_cancel]
 ·unfold addC scaleC
  rw [addT_twice]
  congr 1
  show a.k * 2 = a.k + a.k
  rw [show (2 : Rat) = 1 + 1 by decide +kernel, Rat.mul_add, Rat.mul_one]
theorem isL_len {N : Int} : ∀ (l : List TW) (q : Int), isL N q l = true → (l.length : Int) ≤ max 0 (N - q)
 | [], q, _ => by simp only [List.length_nil]; omega
 | t :: l, q, h => by
  simp only [isL, Bool.and_eq_true, decide_eq_true_eq] at h
  have := isL_len l _ h.2
  rw [List.length_cons]
  omega
theorem heavy_said {a b : CW} (hla : a.Le 35184372087808) (hlb : b.Le 35184372087808) (ha : isW a 64 = true) (hb : isW b 64 = true) (h : sumW [a, b] < 9223372036854775808 → sumW [a, b] ≤ 150) : a.Le 150 ∧ a.t.length ≤ 150 ∧ b.Le 150 ∧ b.t.length ≤ 150 := by
 simp only [isW, Bool.and_eq_true] at ha hb
 have g1 := isL_len a.t 0 ha.2
 have g2 := isL_len b.t 0 hb.2
 have h1 := termsW_le a.t hla.1
 have h2 := termsW_le b.t hlb.1
 have h3 := hla.2
 have h4 := hlb.2
 have c1 := conW_le a
 have c2 := conW_le b
 unfold RW.Le at h3 h4
 have m1 : a.t.length * (2 * 35184372087808 + 1) ≤ 64 * (2 * 35184372087808 + 1) := Nat.mul_le_mul_right _ (by omega)
 have m2 : b.t.length * (2 * 35184372087808 + 1) ≤ 64 * (2 * 35184372087808 + 1) := Nat.mul_le_mul_right _ (by omega)
 have e : sumW [a, b] = conW a + conW b := rfl
 have k1 : conW a ≤ 2 + 2 * 35184372087808 + a.t.length * (2 * 35184372087808 + 1) := by unfold conW; omega
 have k2 : conW b ≤ 2 + 2 * 35184372087808 + b.t.length * (2 * 35184372087808 + 1) := by unfold conW; omega
 have h5 := h (by omega)
 exact ⟨c1.1.mono (by omega), by omega, c2.1.mono (by omega), by omega⟩
theorem law_AffLaws (v0 v1 : Value) (a b : CW) (w : World) (ha : ConVal w v0 a) (hb : ConVal w v1 b) (hla : a.Le 35184372087808) (hlb : b.Le 35184372087808) :
  Calls Try.prog 3 #[v0, v1] w fun e w' => e = .returned (.bool true) ∧ Below w.heap.size w w' := by
 obtain ⟨T, n, m, x, rfl, hca⟩ := ha.cv
 obtain ⟨T', n', m', x', rfl, hcb⟩ := hb.cv
 have HCa := hid fun W (hW : Below w.heap.size w W) => hca.below hW
 have HCb := hid fun W (hW : Below w.heap.size w W) => hcb.below hW
 have HW := hid fun (h : sumW [a, b] < 9223372036854775808 → sumW [a, b] ≤ 150) (ha : isW a 64 = true) (hb : isW b 64 = true) => heavy_said hla hlb ha hb h
 have HLa := hid hla
 have HLb := hid hlb
 obtain ⟨Qa, hQa⟩ : ∃ Q, isW a 64 = Q := ⟨_, rfl⟩
 obtain ⟨Qb, hQb⟩ : ∃ Q, isW b 64 = Q := ⟨_, rfl⟩
 have HQa := hid hQa
 have HQb := hid hQb
 clear ha hb hca hcb hla hlb
 go_enter Try.func3, Try.ntmps3
 go_upto_region 1 with fail
 refine wp_world (F := fun W => (Bs W w.heap.size 27 [.int .i64 a.s, .slice T n m, .bool x.s, .slice x.A x.n x.c, .slice x.A' x.n' x.c'] ∧ Bs W (w.heap.size + 1) 27 [.int .i64 b.s, .slice T' n' m', .bool x'.s, .slice x'.A x'.n x'.c, .slice x'.A' x'.n' x'.c']) ∧ Below w.heap.size w W)
  ⟨⟨(Bs.new w _ _ _ rfl).alloc _, Bs.new _ _ _ _ (by simp)⟩, Pg.bel⟩ ?_
 rintro w1 ⟨⟨HA, HB⟩, hb1⟩
 replace HA := hid HA
 replace HB := hid HB
 have a0 := HA.out.cell 0 rfl
 have a1 := HA.out.cell 1 rfl
 have a2 := HA.out.cell 2 rfl
 have a3 := HA.out.cell 3 rfl
 have a4 := HA.out.cell 4 rfl
 have b0 := HB.out.cell 0 rfl
 have b1 := HB.out.cell 1 rfl
 have b2 := HB.out.cell 2 rfl
 have b3 := HB.out.cell 3 rfl
 have b4 := HB.out.cell 4 rfl
 go_wp2_with (first
  | (go_at_call 4; (with_reducible refine (heavy_C _ (two_cons (Bs.new _ _ _ _ rfl) (HCa.out _ (Below.then_ hb1 (Below.new_ (Below.refl _ _) (.cells #[.int .i64 a.s, .slice T n m, .bool x.s, .slice x.A x.n x.c, .slice x.A' x.n' x.c', .int .i64 b.s, .slice T' n' m', .bool x'.s, .slice x'.A x'.n x'.c, .slice x'.A' x'.n' x'.c'] 27)))) (HCb.out _ (Below.then_ hb1 (Below.new_ (Below.refl _ _) (.cells #[.int .i64 a.s, .slice T n m, .bool x.s, .slice x.A x.n x.c, .slice x.A' x.n' x.c', .int .i64 b.s, .slice T' n' m', .bool x'.s, .slice x'.A x'.n x'.c, .slice x'.A' x'.n' x'.c'] 27)))))).mono ?_); rintro e w2 ⟨B, rfl, hB, hb2⟩; have HA2 := hid ((HA.out.alloc (.cells #[.int .i64 a.s, .slice T n m, .bool x.s, .slice x.A x.n x.c, .slice x.A' x.n' x.c', .int .i64 b.s, .slice T' n' m', .bool x'.s, .slice x'.A x'.n x'.c, .slice x'.A' x'.n' x'.c'] 27)).below hb2); have HB2 := hid ((HB.out.alloc (.cells #[.int .i64 a.s, .slice T n m, .bool x.s, .slice x.A x.n x.c, .slice x.A' x.n' x.c', .int .i64 b.s, .slice T' n' m', .bool x'.s, .slice x'.A x'.n x'.c, .slice x'.A' x'.n' x'.c'] 27)).below hb2); have hw2 : Below w.heap.size w w2 := (hb1.trans ((Below.new_ (Below.refl _ _) (.cells #[.int .i64 a.s, .slice T n m, .bool x.s, .slice x.A x.n x.c, .slice x.A' x.n' x.c', .int .i64 b.s, .slice T' n' m', .bool x'.s, .slice x'.A x'.n x'.c, .slice x'.A' x'.n' x'.c'] 27)).mono hb1.size)).trans (hb2.mono (Nat.le_trans hb1.size (Below.new_ (Below.refl _ _) (.cells #[.int .i64 a.s, .slice T n m, .bool x.s, .slice x.A x.n x.c, .slice x.A' x.n' x.c', .int .i64 b.s, .slice T' n' m', .bool x'.s, .slice x'.A x'.n x'.c, .slice x'.A' x'.n' x'.c'] 27)).size)); clear a0 a1 a2 a3 a4 b0 b1 b2 b3 b4; have a0 := HA2.out.cell 0 rfl; have a1 := HA2.out.cell 1 rfl; have a2 := HA2.out.cell 2 rfl; have a3 := HA2.out.cell 3 rfl; have a4 := HA2.out.cell 4 rfl; have b0 := HB2.out.cell 0 rfl; have b1 := HB2.out.cell 1 rfl; have b2 := HB2.out.cell 2 rfl; have b3 := HB2.out.cell 3 rfl; have b4 := HB2.out.cell 4 rfl; rcases B with _ | _)
  | (go_at_call 5; go_loud ((with_reducible refine (rIs_C _ (HCa.out _ hw2).val HLa.out hQa).mono ?_); rintro e w3 ⟨rfl, hb3⟩; have HA3 := hid (HA2.out.below hb3); have HB3 := hid (HB2.out.below hb3); have hw3 := Below.then_ hw2 hb3; clear a0 a1 a2 a3 a4 b0 b1 b2 b3 b4; have a0 := HA3.out.cell 0 rfl; have a1 := HA3.out.cell 1 rfl; have a2 := HA3.out.cell 2 rfl; have a3 := HA3.out.cell 3 rfl; have a4 := HA3.out.cell 4 rfl; have b0 := HB3.out.cell 0 rfl; have b1 := HB3.out.cell 1 rfl; have b2 := HB3.out.cell 2 rfl; have b3 := HB3.out.cell 3 rfl; have b4 := HB3.out.cell 4 rfl; rcases Qa with _ | _))
  | (go_at_call 5; go_loud ((with_reducible refine (rIs_C _ (HCb.out _ hw3).val HLb.out hQb).mono ?_); rintro e w4 ⟨rfl, hb4⟩; have HA4 := hid (HA3.out.below hb4); have HB4 := hid (HB3.out.below hb4); have hw4 := Below.then_ hw3 hb4; clear a0 a1 a2 a3 a4 b0 b1 b2 b3 b4; have a0 := HA4.out.cell 0 rfl; have a1 := HA4.out.cell 1 rfl; have a2 := HA4.out.cell 2 rfl; have a3 := HA4.out.cell 3 rfl; have a4 := HA4.out.cell 4 rfl; have b0 := HB4.out.cell 0 rfl; have b1 := HB4.out.cell 1 rfl; have b2 := HB4.out.cell 2 rfl; have b3 := HB4.out.cell 3 rfl; have b4 := HB4.out.cell 4 rfl; have f0 := HB4.out.frozen 0; rcases Qb with _ | _)))
 all_goals try (go_ret; exact ⟨by rfl, by first | assumption | exact Pg.bel⟩)
 have hw := HW.out (hB (by first | exact rfl | trivial)) (by first | exact HQa.out | simpa using HQa.out) (by first | exact HQb.out | simpa using HQb.out)
 have hVt := stored1 (i := 0) (u := .int .i64 a.s) HB4.out
 have hA6 := HA4.out.grown hVt.2.1 (by simp)
 have hw6 := hw4.trans (Below.kept hVt.2.1 (by omega) hw4.size)
 refine wp_world (F := fun W => (Bs W w.heap.size 27 [.int .i64 a.s, .slice T n m, .bool x.s, .slice x.A x.n x.c, .slice x.A' x.n' x.c'] ∧ Bs W (w.heap.size + 1) 27 [.int .i64 a.s, .slice T' n' m', .bool x'.s, .slice x'.A x'.n x'.c, .slice x'.A' x'.n' x'.c']) ∧ Below w.heap.size w W) ⟨⟨hA6, hVt.1⟩, hw6⟩ ?_
 clear hVt hA6 hw6 f0 a0 a1 a2 a3 a4 b0 b1 b2 b3 b4
 rintro w6 ⟨⟨HA6, HB6⟩, hw6⟩
 have hca := HCa.out _ hw6
 have hcb : CV w6 T' n' m' x' (b.as a.s) := HCb.out _ hw6
 have hqa := isW_facts (by first | exact HQa.out | simpa using HQa.out) hw.1
 have hqb := isW_facts (by first | exact HQb.out | simpa using HQb.out) hw.2.2.1
 obtain ⟨p1, p2, p3, p4⟩ := sums_law (a := a.q) (b := (b.as a.s).q) hqa.1 rfl
 have hsb : ShortC (b.as a.s).q 150 := hqb.2
 obtain ⟨c1, hc1⟩ : ∃ c, cwOf (scaleC a.q (-1)) = c := ⟨_, rfl⟩
 obtain ⟨c2, hc2⟩ : ∃ c, cwOf (addC a.q (scaleC a.q (-1))) = c := ⟨_, rfl⟩
 obtain ⟨d1, hd1⟩ : ∃ c, cwOf (addC a.q (b.as a.s).q) = c := ⟨_, rfl⟩
 obtain ⟨d3, hd3⟩ : ∃ c, cwOf (scaleC a.q 2) = c := ⟨_, rfl⟩
 have hn1 : (rwOf (-1)).Le 150 := (short_le short_one.neg).mono (by omega)
 have hn2 : (rwOf 2).Le 150 := (short_le short_two).mono (by omega)
 have hc1l : c1.Le 150 := by rw [← hc1]; exact hqa.2.negone.le
 have hc1n : c1.t.length ≤ 100000 := by rw [← hc1, cwOf_len]; exact Nat.le_trans (scaleT_len _ _) (by show (a.t.map TW.q).length ≤ _; rw [List.length_map]; have := hw.2.1; omega)
 have hd1l : d1.Le 262144 := by rw [← hd1]; exact (hqa.2.add hsb).le.mono (by omega)
 have hd3l : d3.Le 262144 := by rw [← hd3]; exact (hqa.2.scale short_two).le.mono (by omega)
 have hzl : (rwOf 0).Le 262144 := (short_le short_zero).mono (by omega)
 have hal : a.t.length ≤ 100000 := by have := hw.2.1; omega
 have hbl : (b.as a.s).t.length ≤ 100000 := by have : (b.as a.s).t = b.t := rfl; rw [this]; have := hw.2.2.2; omega
 have hbL : (b.as a.s).Le 150 := hw.2.2.1
 have haL : a.Le 150 := hw.1
 have hc1q : c1.q = scaleC a.q (-1) := by rw [← hc1, cwOf_q]
 have HS1 := hid fun (W : World) {v : Value} {y : RV} (hv : ConVal W v a) (hy : y.at W (rwOf (-1))) => Scale_C W hv hy haL hn1 (by omega) (by omega) hal
 rw [rwOf_q, hc1] at HS1
 have HS2 := hid fun (W : World) {v v' : Value} (hv : ConVal W v a) (hv' : ConVal W v' c1) => Add_C W hv hv' haL hc1l (by omega) (by omega) hal hc1n
 rw [hc1q, hc2] at HS2
 have HS3 := hid fun (W : World) {v v' : Value} (hv : ConVal W v a) (hv' : ConVal W v' (b.as a.s)) => Add_C W hv hv' haL hbL (by omega) (by omega) hal hbl
 have HS4 := hid fun (W : World) {v v' : Value} (hv : ConVal W v a) (hv' : ConVal W v' (b.as a.s)) => Add_C W hv' hv hbL haL (by omega) (by omega) hbl hal
 rw [← p1, hd1] at HS4
 rw [hd1] at HS3
 have HS5 := hid fun (W : World) {v : Value} {y : RV} (hv : ConVal W v a) (hy : y.at W (rwOf 2)) => Scale_C W hv hy haL hn2 (by omega) (by omega) hal
 rw [rwOf_q, hd3] at HS5
 have HS6 := hid fun (W : World) {v : Value} (hv : ConVal W v a) => Add_C W hv hv haL haL (by omega) (by omega) hal hal
 rw [← p4, hd3] at HS6
 have hc2t : c2.t = [] := by rw [← hc2]; show (addC a.q (scaleC a.q (-1))).t.map twOf = []; rw [p2]; rfl
 have hc2k : c2.r = rwOf 0 := by rw [← hc2]; show rwOf (addC a.q (scaleC a.q (-1))).k = _; rw [p3]
 clear hqa hqb p1 p2 p3 p4 hsb hc1 hc2 hd1 hd3 hn1 hn2 hc1l hc1n hal hbl hc1q
 refine draw_G (FreshR w6 27 5) (fun W => Below w6.heap.size w6 W) 6 (some 5) [some 23, some 24, some 25, some 26, some 27, some 5, none] [.is (.agg #[.int .i64 a.s, .slice T n m, .bool x.s, .slice x.A x.n x.c, .slice x.A' x.n' x.c']), .is (.agg #[.int .i64 a.s, .slice T n m, .bool x.s, .slice x.A x.n x.c, .slice x.A' x.n' x.c']), .such (fun W v => ∃ (yX : RV), v = .agg #[.bool yX.s, .slice yX.A yX.n yX.c, .slice yX.A' yX.n' yX.c'] ∧ yX.at W (rwOf (-1))), .such (fun W v => ∃ (TX : Option Addr) (nX : Nat) (mX : Nat) (yX : RV), v = .agg #[.int .i64 c1.s, .slice TX nX mX, .bool yX.s, .slice yX.A yX.n yX.c, .slice yX.A' yX.n' yX.c'] ∧ CV W TX nX mX yX (c1)), .such (fun W v => ∃ (TX : Option Addr) (nX : Nat) (mX : Nat) (yX : RV), v = .agg #[.int .i64 c2.s, .slice TX nX mX, .bool yX.s, .slice yX.A yX.n yX.c, .slice yX.A' yX.n' yX.c'] ∧ CV W TX nX mX yX (c2)), .such (FreshAt w6 27 5), .own (fun W v => ∃ (gF : Nat) (T27s : Option Addr) (n27s : Nat) (m27s : Nat) (y27s : RV), v = .pointer (some ⟨gF, 0, none⟩) ∧ w6.heap.size ≤ gF ∧ Bs W gF 27 [.int .i64 c2.s, .slice T27s n27s m27s, .bool y27s.s, .slice y27s.A y27s.n y27s.c, .slice y27s.A' y27s.n' y27s.c'] ∧ CV W T27s n27s m27s y27s (c2))]
  (by kernel_rfl) (by kernel_rfl) (by kernel_rfl) (by kernel_rfl) rfl (by kernel_rfl) (fun _ h => h) (fun _ _ h hb => Below.then_ h hb) (fun _ _ hb h => FreshR.bel hb h) (fun q W1 W2 v hm hbw hk hq => by simp at hm; rcases hm with rfl | rfl | rfl | rfl <;> first | (obtain ⟨yX, rfl, hyX⟩ := hq W1 (Below.refl _ _); exact fun W hW => ⟨_, rfl, (FreshR.rows hk hyX).below hW⟩) | (obtain ⟨TX, nX, mX, yX, rfl, hcX⟩ := hq W1 (Below.refl _ _); exact fun W hW => ⟨_, _, _, _, rfl, (FreshR.cv hk hcX).below hW⟩) | (exact fun W hW => (FreshAt.after (hq W1 (Below.refl _ _)) hk).below hW)) ?_ ?_
 ·refine ⟨?_, ?_, ?_, ?_, ?_, ?_, ?_, trivial⟩
  ·intro a w3 hA K hK
   have t2 := hA.old 2 _ rfl rfl
   have k0 := (HA6.below hA.grown).cell 0 rfl
   have k1 := (HA6.below hA.grown).cell 1 rfl
   have k2 := (HA6.below hA.grown).cell 2 rfl
   have k3 := (HA6.below hA.grown).cell 3 rfl
   have k4 := (HA6.below hA.grown).cell 4 rfl
   go_simp
   exact hK _ _ rfl (Below.refl _ _)
  ·intro a w3 hA K hK
   have t2 := hA.old 2 _ rfl rfl
   have k0 := (HA6.below hA.grown).cell 0 rfl
   have k1 := (HA6.below hA.grown).cell 1 rfl
   have k2 := (HA6.below hA.grown).cell 2 rfl
   have k3 := (HA6.below hA.grown).cell 3 rfl
   have k4 := (HA6.below hA.grown).cell 4 rfl
   go_simp
   exact hK _ _ rfl (Below.refl _ _)
  ·intro a w3 hA K hK
   have hC := r2Int_Q (-1) w3 (by omega) (by omega) rfl
   go_simp
   refine hC.mono ?_
   rintro e w4 ⟨y, rfl, hy, hb⟩
   exact hK _ _ (fun W hW => ⟨_, rfl, hy.below hW⟩) hb
  ·intro a w3 hA K hK
   have t24 := bg_is hA 1 24
   obtain ⟨v25, t25, p25⟩ := bg_such hA 2 25
   obtain ⟨y25, rfl, hy25⟩ := p25 w3 (Below.refl _ _)
   have hC := HS1.out w3 (hca.below hA.grown).val hy25
   go_simp
   refine hC.mono ?_
   rintro e w4 ⟨v, rfl, hv, hb⟩
   obtain ⟨_, _, _, _, rfl, hc⟩ := hv.cv; exact hK _ _ (fun W hW => ⟨_, _, _, _, rfl, hc.below hW⟩) hb
  ·intro a w3 hA K hK
   have t23 := bg_is hA 0 23
   obtain ⟨v26, t26, p26⟩ := bg_such hA 3 26
   obtain ⟨T26, n26, m26, y26, rfl, hc26⟩ := p26 w3 (Below.refl _ _)
   have hC := HS2.out w3 (hca.below hA.grown).val hc26.val
   go_simp
   refine hC.mono ?_
   rintro e w4 ⟨v, rfl, hv, hb⟩
   obtain ⟨_, _, _, _, rfl, hc⟩ := hv.cv; exact hK _ _ (fun W hW => ⟨_, _, _, _, rfl, hc.below hW⟩) hb
  ·intro a w3 hA K hK
   go_simp
   exact hK _ _ (fun W hW => FreshAt.below ⟨_, _, rfl, hA.grown.size, Bs.new w3 _ [.int .i64 0, .slice none 0 0, .bool false, .slice none 0 0, .slice none 0 0] _ rfl, ⟨(noU_i64 (noU_slice (noU_bool (noU_slice (noU_slice noU_nil))))), noT_con⟩, rfl⟩ hW) (Below.new_ (Below.refl _ _) _)
  ·intro a w3 hA K hK
   obtain ⟨v5, lk5, t5, p5⟩ := bg_link hA 5 5
   obtain ⟨g5, cs5, rfl, lg5, hB5, hU5, hl5⟩ := p5 w3 (Below.refl _ _)
   obtain ⟨x0, x1, x2, x3, x4, rfl⟩ := len5 hl5
   have f0 := hB5.frozen 0
   have c0 := hB5.cell 0 rfl
   have f1 := hB5.frozen 1
   have c1 := hB5.cell 1 rfl
   have f2 := hB5.frozen 2
   have c2 := hB5.cell 2 rfl
   have f3 := hB5.frozen 3
   have c3 := hB5.cell 3 rfl
   have f4 := hB5.frozen 4
   have c4 := hB5.cell 4 rfl
   obtain ⟨v27, t27, p27⟩ := bg_such hA 4 27
   obtain ⟨T27s, n27s, m27s, y27s, rfl, hc27s⟩ := p27 w3 (Below.refl _ _)
   go_simp
   exact hK (.pointer (some ⟨g5, 0, none⟩)) _ (fun W hW => ⟨g5, _, _, _, _, rfl, lg5, (stored5 hB5).1.below hW, (CV.kept hc27s hB5 hU5.1 hU5.2 (stored5 hB5).2.1).below hW⟩) ⟨⟨g5, _, _, lg5, hB5, hU5, rfl, (stored5 hB5).1, ⟨(noU_i64 (noU_slice (noU_bool (noU_slice (noU_slice noU_nil))))), noT_con⟩, rfl, (stored5 hB5).2.1⟩, fun j d h1 h2 => by cases h1; cases h2; exact lk5⟩
 rintro vs w8 hV hg8 hlk act hact
 repeat (replace hV := hV.is_; obtain ⟨_, rfl, hV⟩ := hV)
 replace hV := hV.such_; obtain ⟨v25, _, rfl, p25, hV⟩ := hV
 replace hV := hV.such_; obtain ⟨v26, _, rfl, p26, hV⟩ := hV
 replace hV := hV.such_; obtain ⟨v27, _, rfl, p27, hV⟩ := hV
 replace hV := hV.such_; obtain ⟨v5, _, rfl, p5, hV⟩ := hV
 replace hV := hV.own_; obtain ⟨vP, _, rfl, pP, hV⟩ := hV
 obtain rfl := hV.nil_
 clear hV
 replace hlk := hlk _ rfl
 simp only [List.getElem?_cons_succ, List.getElem?_cons_zero, Option.some.injEq] at hlk
 subst hlk; clear p5
 obtain ⟨y25, rfl, hy25⟩ := p25 w8 (Below.refl _ _)
 clear p25
 obtain ⟨T26, n26, m26, y26, rfl, hc26⟩ := p26 w8 (Below.refl _ _)
 clear p26
 obtain ⟨T27, n27, m27, y27, rfl, hc27⟩ := p27 w8 (Below.refl _ _)
 clear p27
 obtain ⟨gF, T27s, n27s, m27s, y27s, rfl, lgF, hBF, hc27s⟩ := pP w8 (Below.refl _ _)
 clear pP
 simp only [putsO] at hact
 subst hact
 go_simp
 have hw8 := Below.then_ hw6 hg8
 obtain rfl : n27s = 0 := by have h0 := hc27s.1.1; rw [hc2t] at h0; exact h0.symm
 have HA8 := HA6.below hg8
 have HB8 := HB6.below hg8
 have HF8 : Bs w8 gF 27 [.int .i64 c2.s, .slice T27s 0 m27s, .bool y27s.s, .slice y27s.A y27s.n y27s.c, .slice y27s.A' y27s.n' y27s.c'] := hBF
 have hc8 := hca.below hg8
 have hd8 := hcb.below hg8
 have hyk : y27s.at w8 (rwOf 0) := hc2k ▸ hc27s.2
 clear hBF hc2t hc2k hc27s hca hcb HA6 HB6
 go_upto_region 5 with fail
 refine draw_G (fun _ _ => False) (fun W => Below w8.heap.size w8 W) 31 none [some 28, some 29, some 30, some 31, some 32, some 33, some 34, some 35, some 36, some 37, some 38, some 39, some 40, some 41, some 42, some 43, some 44, some 45, some 46, some 47, some 48, some 49, some 50, some 51, some 52, some 53, some 54, some 55, some 56, some 57, some 4] [.is (.agg #[.int .i64 a.s, .slice T n m, .bool x.s, .slice x.A x.n x.c, .slice x.A' x.n' x.c']), .is (.agg #[.int .i64 a.s, .slice T' n' m', .bool x'.s, .slice x'.A x'.n x'.c, .slice x'.A' x'.n' x'.c']), .such (fun W v => ∃ (TX : Option Addr) (nX : Nat) (mX : Nat) (yX : RV), v = .agg #[.int .i64 d1.s, .slice TX nX mX, .bool yX.s, .slice yX.A yX.n yX.c, .slice yX.A' yX.n' yX.c'] ∧ CV W TX nX mX yX (d1)), .is (.agg #[.int .i64 a.s, .slice T' n' m', .bool x'.s, .slice x'.A x'.n x'.c, .slice x'.A' x'.n' x'.c']), .is (.agg #[.int .i64 a.s, .slice T n m, .bool x.s, .slice x.A x.n x.c, .slice x.A' x.n' x.c']), .such (fun W v => ∃ (TX : Option Addr) (nX : Nat) (mX : Nat) (yX : RV), v = .agg #[.int .i64 d1.s, .slice TX nX mX, .bool yX.s, .slice yX.A yX.n yX.c, .slice yX.A' yX.n' yX.c'] ∧ CV W TX nX mX yX (d1)), .is (.bool true), .is (.bool true), .is (.pointer (some ⟨gF, 1, none⟩)), .is (.slice T27s 0 m27s), .is (.int .i64 0), .is (.bool true), .is (.bool true), .is (.bool true), .is (.pointer (some ⟨gF, 2, none⟩)), .is (.agg #[.bool y27s.s, .slice y27s.A y27s.n y27s.c, .slice y27s.A' y27s.n' y27s.c']), .is (.bool true), .is (.bool true), .is (.bool true), .is (.agg #[.int .i64 a.s, .slice T n m, .bool x.s, .slice x.A x.n x.c, .slice x.A' x.n' x.c']), .such (fun W v => ∃ (yX : RV), v = .agg #[.bool yX.s, .slice yX.A yX.n yX.c, .slice yX.A' yX.n' yX.c'] ∧ yX.at W (rwOf (2))), .such (fun W v => ∃ (TX : Option Addr) (nX : Nat) (mX : Nat) (yX : RV), v = .agg #[.int .i64 d3.s, .slice TX nX mX, .bool yX.s, .slice yX.A yX.n yX.c, .slice yX.A' yX.n' yX.c'] ∧ CV W TX nX mX yX (d3)), .is (.agg #[.int .i64 a.s, .slice T n m, .bool x.s, .slice x.A x.n x.c, .slice x.A' x.n' x.c']), .is (.agg #[.int .i64 a.s, .slice T n m, .bool x.s, .slice x.A x.n x.c, .slice x.A' x.n' x.c']), .such (fun W v => ∃ (TX : Option Addr) (nX : Nat) (mX : Nat) (yX : RV), v = .agg #[.int .i64 d3.s, .slice TX nX mX, .bool yX.s, .slice yX.A yX.n yX.c, .slice yX.A' yX.n' yX.c'] ∧ CV W TX nX mX yX (d3)), .is (.bool true), .is (.bool true), .is (.bool true), .is (.bool true), .is (.bool true), .is (.bool true)]
  (by kernel_rfl) (by kernel_rfl) (by kernel_rfl) (by kernel_rfl) rfl (by kernel_rfl) (fun _ h => h) (fun _ _ h hb => Below.then_ h hb) (fun _ _ _ h => h.elim) (fun _ _ _ _ _ _ h => h.elim) ?_ ?_
 ·refine ⟨?_, ?_, ?_, ?_, ?_, ?_, ?_, ?_, ?_, ?_, ?_, ?_, ?_, ?_, ?_, ?_, ?_, ?_, ?_, ?_, ?_, ?_, ?_, ?_, ?_, ?_, ?_, ?_, ?_, ?_, ?_, trivial⟩
  ·intro a w3 hA K hK
   have t2 := hA.old 2 _ rfl rfl
   have k0 := (HA8.below hA.grown).cell 0 rfl
   have k1 := (HA8.below hA.grown).cell 1 rfl
   have k2 := (HA8.below hA.grown).cell 2 rfl
   have k3 := (HA8.below hA.grown).cell 3 rfl
   have k4 := (HA8.below hA.grown).cell 4 rfl
   go_simp
   exact hK _ _ rfl (Below.refl _ _)
  ·intro a w3 hA K hK
   have t3 := hA.old 3 _ rfl rfl
   have k0 := (HB8.below hA.grown).cell 0 rfl
   have k1 := (HB8.below hA.grown).cell 1 rfl
   have k2 := (HB8.below hA.grown).cell 2 rfl
   have k3 := (HB8.below hA.grown).cell 3 rfl
   have k4 := (HB8.below hA.grown).cell 4 rfl
   go_simp
   exact hK _ _ rfl (Below.refl _ _)
  ·intro a w3 hA K hK
   have t28 := bg_is hA 0 28
   have t29 := bg_is hA 1 29
   have hC := HS3.out w3 (hc8.below hA.grown).val (hd8.below hA.grown).val
   go_simp
   refine hC.mono ?_
   rintro e w4 ⟨v, rfl, hv, hb⟩
   obtain ⟨_, _, _, _, rfl, hc⟩ := hv.cv; exact hK _ _ (fun W hW => ⟨_, _, _, _, rfl, hc.below hW⟩) hb
  ·intro a w3 hA K hK
   have t3 := hA.old 3 _ rfl rfl
   have k0 := (HB8.below hA.grown).cell 0 rfl
   have k1 := (HB8.below hA.grown).cell 1 rfl
   have k2 := (HB8.below hA.grown).cell 2 rfl
   have k3 := (HB8.below hA.grown).cell 3 rfl
   have k4 := (HB8.below hA.grown).cell 4 rfl
   go_simp
   exact hK _ _ rfl (Below.refl _ _)
  ·intro a w3 hA K hK
   have t2 := hA.old 2 _ rfl rfl
   have k0 := (HA8.below hA.grown).cell 0 rfl
   have k1 := (HA8.below hA.grown).cell 1 rfl
   have k2 := (HA8.below hA.grown).cell 2 rfl
   have k3 := (HA8.below hA.grown).cell 3 rfl
   have k4 := (HA8.below hA.grown).cell 4 rfl
   go_simp
   exact hK _ _ rfl (Below.refl _ _)
  ·intro a w3 hA K hK
   have t31 := bg_is hA 3 31
   have t32 := bg_is hA 4 32
   have hC := HS4.out w3 (hc8.below hA.grown).val (hd8.below hA.grown).val
   go_simp
   refine hC.mono ?_
   rintro e w4 ⟨v, rfl, hv, hb⟩
   obtain ⟨_, _, _, _, rfl, hc⟩ := hv.cv; exact hK _ _ (fun W hW => ⟨_, _, _, _, rfl, hc.below hW⟩) hb
  ·intro a w3 hA K hK
   obtain ⟨v30, t30, p30⟩ := bg_such hA 2 30
   obtain ⟨T30, n30, m30, y30, rfl, hc30⟩ := p30 w3 (Below.refl _ _)
   obtain ⟨v33, t33, p33⟩ := bg_such hA 5 33
   obtain ⟨T33, n33, m33, y33, rfl, hc33⟩ := p33 w3 (Below.refl _ _)
   have hC := rSame_C w3 hc30.val hc33.val hd1l hd1l (by omega) (sameW_refl _)
   go_simp
   refine hC.mono ?_
   rintro e w4 ⟨rfl, hb⟩
   exact hK _ _ rfl hb
  ·intro a w3 hA K hK
   have t34 := bg_is hA 6 34
   go_simp
   exact hK _ _ rfl (Below.refl _ _)
  ·intro a w3 hA K hK
   have t5 := hA.old 5 _ rfl rfl
   go_simp
   exact hK _ _ rfl (Below.refl _ _)
  ·intro a w3 hA K hK
   have t36 := bg_is hA 8 36
   have k0 := (HF8.below hA.grown).cell 1 rfl
   go_simp
   exact hK _ _ rfl (Below.refl _ _)
  ·intro a w3 hA K hK
   have t37 := bg_is hA 9 37
   go_simp
   exact hK _ _ Pg.fi_ (Below.refl _ _)
  ·intro a w3 hA K hK
   have t38 := bg_is hA 10 38
   go_simp
   exact hK _ _ Pg.fi_ (Below.refl _ _)
  ·intro a w3 hA K hK
   have t35 := bg_is hA 7 35
   have t39 := bg_is hA 11 39
   go_simp
   exact hK _ _ Pg.fi_ (Below.refl _ _)
  ·intro a w3 hA K hK
   have t40 := bg_is hA 12 40
   go_simp
   exact hK _ _ rfl (Below.refl _ _)
  ·intro a w3 hA K hK
   have t5 := hA.old 5 _ rfl rfl
   go_simp
   exact hK _ _ rfl (Below.refl _ _)
  ·intro a w3 hA K hK
   have t42 := bg_is hA 14 42
   have k0 := (HF8.below hA.grown).cell 2 rfl
   have k1 := (HF8.below hA.grown).cell 3 rfl
   have k2 := (HF8.below hA.grown).cell 4 rfl
   go_simp
   exact hK _ _ rfl (Below.refl _ _)
  ·intro a w3 hA K hK
   have t43 := bg_is hA 15 43
   have hC := r2Zero_Q w3 (hyk.below hA.grown) hzl (by omega) (decide_eq_true (rwOf_q 0))
   go_simp
   refine hC.mono ?_
   rintro e w4 ⟨rfl, hb⟩
   exact hK _ _ rfl hb
  ·intro a w3 hA K hK
   have t41 := bg_is hA 13 41
   have t44 := bg_is hA 16 44
   go_simp
   exact hK _ _ Pg.fi_ (Below.refl _ _)
  ·intro a w3 hA K hK
   have t45 := bg_is hA 17 45
   go_simp
   exact hK _ _ rfl (Below.refl _ _)
  ·intro a w3 hA K hK
   have t2 := hA.old 2 _ rfl rfl
   have k0 := (HA8.below hA.grown).cell 0 rfl
   have k1 := (HA8.below hA.grown).cell 1 rfl
   have k2 := (HA8.below hA.grown).cell 2 rfl
   have k3 := (HA8.below hA.grown).cell 3 rfl
   have k4 := (HA8.below hA.grown).cell 4 rfl
   go_simp
   exact hK _ _ rfl (Below.refl _ _)
  ·intro a w3 hA K hK
   have hC := r2Int_Q 2 w3 (by omega) (by omega) rfl
   go_simp
   refine hC.mono ?_
   rintro e w4 ⟨y, rfl, hy, hb⟩
   exact hK _ _ (fun W hW => ⟨_, rfl, hy.below hW⟩) hb
  ·intro a w3 hA K hK
   have t47 := bg_is hA 19 47
   obtain ⟨v48, t48, p48⟩ := bg_such hA 20 48
   obtain ⟨y48, rfl, hy48⟩ := p48 w3 (Below.refl _ _)
   have hC := HS5.out w3 (hc8.below hA.grown).val hy48
   go_simp
   refine hC.mono ?_
   rintro e w4 ⟨v, rfl, hv, hb⟩
   obtain ⟨_, _, _, _, rfl, hc⟩ := hv.cv; exact hK _ _ (fun W hW => ⟨_, _, _, _, rfl, hc.below hW⟩) hb
  ·intro a w3 hA K hK
   have t2 := hA.old 2 _ rfl rfl
   have k0 := (HA8.below hA.grown).cell 0 rfl
   have k1 := (HA8.below hA.grown).cell 1 rfl
   have k2 := (HA8.below hA.grown).cell 2 rfl
   have k3 := (HA8.below hA.grown).cell 3 rfl
   have k4 := (HA8.below hA.grown).cell 4 rfl
   go_simp
   exact hK _ _ rfl (Below.refl _ _)
  ·intro a w3 hA K hK
   have t2 := hA.old 2 _ rfl rfl
   have k0 := (HA8.below hA.grown).cell 0 rfl
   have k1 := (HA8.below hA.grown).cell 1 rfl
   have k2 := (HA8.below hA.grown).cell 2 rfl
   have k3 := (HA8.below hA.grown).cell 3 rfl
   have k4 := (HA8.below hA.grown).cell 4 rfl
   go_simp
   exact hK _ _ rfl (Below.refl _ _)
  ·intro a w3 hA K hK
   have t50 := bg_is hA 22 50
   have t51 := bg_is hA 23 51
   have hC := HS6.out w3 (hc8.below hA.grown).val
   go_simp
   refine hC.mono ?_
   rintro e w4 ⟨v, rfl, hv, hb⟩
   obtain ⟨_, _, _, _, rfl, hc⟩ := hv.cv; exact hK _ _ (fun W hW => ⟨_, _, _, _, rfl, hc.below hW⟩) hb
  ·intro a w3 hA K hK
   obtain ⟨v49, t49, p49⟩ := bg_such hA 21 49
   obtain ⟨T49, n49, m49, y49, rfl, hc49⟩ := p49 w3 (Below.refl _ _)
   obtain ⟨v52, t52, p52⟩ := bg_such hA 24 52
   obtain ⟨T52, n52, m52, y52, rfl, hc52⟩ := p52 w3 (Below.refl _ _)
   have hC := rSame_C w3 hc49.val hc52.val hd3l hd3l (by omega) (sameW_refl _)
   go_simp
   refine hC.mono ?_
   rintro e w4 ⟨rfl, hb⟩
   exact hK _ _ rfl hb
  ·intro a w3 hA K hK
   have t46 := bg_is hA 18 46
   have t53 := bg_is hA 25 53
   go_simp
   exact hK _ _ Pg.fi_ (Below.refl _ _)
  ·intro a w3 hA K hK
   have t54 := bg_is hA 26 54
   go_simp
   exact hK _ _ rfl (Below.refl _ _)
  ·intro a w3 hA K hK
   have hC := known8_any w3
   go_simp
   refine hC.mono ?_
   rintro e w4 ⟨rfl, hb⟩
   exact hK _ _ rfl hb
  ·intro a w3 hA K hK
   have t55 := bg_is hA 27 55
   have t56 := bg_is hA 28 56
   go_simp
   exact hK _ _ Pg.fi_ (Below.refl _ _)
  ·intro a w3 hA K hK
   have t57 := bg_is hA 29 57
   go_simp
   exact hK _ _ Pg.fi_ (Below.refl _ _)
 rintro vs w9 hV hg9 hlk act hact
 repeat (replace hV := hV.is_; obtain ⟨_, rfl, hV⟩ := hV)
 replace hV := hV.such_; obtain ⟨v30, _, rfl, p30, hV⟩ := hV
 repeat (replace hV := hV.is_; obtain ⟨_, rfl, hV⟩ := hV)
 replace hV := hV.such_; obtain ⟨v33, _, rfl, p33, hV⟩ := hV
 repeat (replace hV := hV.is_; obtain ⟨_, rfl, hV⟩ := hV)
 replace hV := hV.such_; obtain ⟨v48, _, rfl, p48, hV⟩ := hV
 replace hV := hV.such_; obtain ⟨v49, _, rfl, p49, hV⟩ := hV
 repeat (replace hV := hV.is_; obtain ⟨_, rfl, hV⟩ := hV)
 replace hV := hV.such_; obtain ⟨v52, _, rfl, p52, hV⟩ := hV
 repeat (replace hV := hV.is_; obtain ⟨_, rfl, hV⟩ := hV)
 obtain rfl := hV.nil_
 clear hV
 clear hlk
 obtain ⟨T30, n30, m30, y30, rfl, hc30⟩ := p30 w9 (Below.refl _ _)
 clear p30
 obtain ⟨T33, n33, m33, y33, rfl, hc33⟩ := p33 w9 (Below.refl _ _)
 clear p33
 obtain ⟨y48, rfl, hy48⟩ := p48 w9 (Below.refl _ _)
 clear p48
 obtain ⟨T49, n49, m49, y49, rfl, hc49⟩ := p49 w9 (Below.refl _ _)
 clear p49
 obtain ⟨T52, n52, m52, y52, rfl, hc52⟩ := p52 w9 (Below.refl _ _)
 clear p52
 simp only [putsO] at hact
 subst hact
 go_simp
 go_wp2_with fail
 go_ret
 exact ⟨by rfl, Below.then_ hw8 hg9⟩
end Go.Proofs.Ytahdlpkncemmaaa
