/- The law AffSums. Conditions: those that each theorem names. -/
import Derived.Test.YtahdlpkncemmaaaGreatX46
import Derived.Test.YtahdlpkncemmaaaGreatX47
import Derived.Test.YtahdlpkncemmaaaGreatX48
import Derived.Test.YtahdlpkncemmaaaGreatX49
import Derived.Test.YtahdlpkncemmaaaGreatX37
import Derived.Test.YtahdlpkncemmaaaGreatX39
set_option maxRecDepth 100000
set_option maxHeartbeats 8000000
set_option linter.unusedSimpArgs false
set_option linter.unusedVariables false
namespace Go.Proofs.YtahdlpkncemmaaaGreat
open Go.RowKit Pg
theorem atT_short {k l : Nat} {f : Int → Rat} (hf : ∀ i, Short (f i) l) : ∀ L : List TQ, (∀ t ∈ L, Short t.c k) → Short (atT f L) (L.length * (k + l + 1) + 1)
 | [], _ => by simpa [atT] using short_zero
 | t :: L, h => by
  have h1 := atT_short hf L fun x hx => h x (List.mem_cons_of_mem _ hx)
  have h2 := ((h t List.mem_cons_self).mul (hf t.v)).add h1
  refine Short.mono h2 ?_
  rw [List.length_cons, Nat.add_mul, Nat.one_mul]
  omega
theorem atC_short {a : CQ} {l : List Rat} (ha : ShortC a 150) (hl : ∀ q ∈ l, Short q 3) (hn : a.t.length ≤ 150) : Short (atC (valAt l) a) 100000 := by
 have hf : ∀ i, Short (valAt l i) 3 := fun i => by
  unfold valAt
  split
  ·exact getD_short hl (by omega) _
  ·exact short_zero.mono (by omega)
 refine Short.mono (ha.2.add (atT_short hf a.t ha.1)) ?_
 have : a.t.length * 154 ≤ 150 * 154 := Nat.mul_le_mul_right _ hn
 omega
theorem law_AffSums (v0 v1 v2 v3 : Value) (a b : CW) (r : RW) (y : LW) (N : Int) (w : World) (ha : ConVal w v0 a) (hb : ConVal w v1 b) (hr : RowArg w v2 r) (h3 : RatsArg w v3 y) (hN : N ≤ 9223372036854775807) (hla : a.Le 1048576 ∧ a.t.length ≤ 1048576) (hlb : b.Le 1048576 ∧ b.t.length ≤ 1048576) :
  Calls Tryz.prog 4 #[v0, v1, v2, v3, .int .i64 N] w fun e w' => e = .returned (.bool true) ∧ Below w.heap.size w w' := by
 have HSa := hid fun (h : a.Le 150) => con_short ha h (by omega : 1 ≤ 150)
 have HSb := hid fun (h : b.Le 150) => con_short hb h (by omega : 1 ≤ 150)
 obtain ⟨T, n, m, x, rfl, hca⟩ := ha.cv
 obtain ⟨T', n', m', x', rfl, hcb⟩ := hb.cv
 obtain ⟨z, rfl, hcr⟩ := hr
 obtain ⟨rfl, hS⟩ := h3
 unfold LW.val
 have HCa := hid fun W (hW : Below w.heap.size w W) => hca.below hW
 have HCb := hid fun W (hW : Below w.heap.size w W) => hcb.below hW
 have HCr := hid fun W (hW : Below w.heap.size w W) => hcr.below hW
 have HS := hid fun W (hW : Below w.heap.size w W) => hS.below rawAt_stays hW
 have HSr := hid fun (h : r.Le 3) => hcr.short h (by omega)
 have HSy := hid fun (h : ∀ u ∈ y.l, u.Le 3) => short_of_at hS h (by omega)
 have HW := hid fun (h : sumW [a, b] < 9223372036854775808 → sumW [a, b] ≤ 150) => heavy_two hla hlb h
 obtain ⟨Ia, hIa⟩ : ∃ Q, isW a N = Q := ⟨_, rfl⟩
 obtain ⟨Sb, hSb⟩ : ∃ Q, sameW a b = Q := ⟨_, rfl⟩
 clear ha hb hca hcb hcr hS hla hlb
 go_enter Tryz.func4, Tryz.ntmps4
 go_upto_region 1 with fail
 refine wp_world (F := fun W => (Bs W w.heap.size 36 [.int .i64 a.s, .slice T n m, .bool x.s, .slice x.A x.n x.c, .slice x.A' x.n' x.c'] ∧ Bs W (w.heap.size + 1) 36 [.int .i64 b.s, .slice T' n' m', .bool x'.s, .slice x'.A x'.n x'.c, .slice x'.A' x'.n' x'.c'] ∧ Bs W (w.heap.size + 2) 24 [.bool z.s, .slice z.A z.n z.c, .slice z.A' z.n' z.c']) ∧ Below w.heap.size w W)
  ⟨⟨((Bs.new w _ _ _ rfl).alloc _).alloc _, (Bs.new _ _ _ _ (by simp)).alloc _, Bs.new _ _ _ _ (by simp)⟩, Pg.bel⟩ ?_
 rintro w1 ⟨⟨HA1, HB1, HR1⟩, hb1⟩
 replace HA1 := hid HA1
 replace HB1 := hid HB1
 replace HR1 := hid HR1
 have a0 := HA1.out.cell 0 rfl
 have a1 := HA1.out.cell 1 rfl
 have a2 := HA1.out.cell 2 rfl
 have a3 := HA1.out.cell 3 rfl
 have a4 := HA1.out.cell 4 rfl
 have b0 := HB1.out.cell 0 rfl
 have b1 := HB1.out.cell 1 rfl
 have b2 := HB1.out.cell 2 rfl
 have b3 := HB1.out.cell 3 rfl
 have b4 := HB1.out.cell 4 rfl
 have r0 := HR1.out.cell 0 rfl
 have r1 := HR1.out.cell 1 rfl
 have r2 := HR1.out.cell 2 rfl
 go_wp2_with (first
  | (go_at_call 15; (with_reducible refine (heavy_C _ (two_cons (Bs.new _ _ _ _ rfl) (HCa.out _ (Below.then_ hb1 (Below.new_ (Below.refl _ _) (.cells #[.int .i64 a.s, .slice T n m, .bool x.s, .slice x.A x.n x.c, .slice x.A' x.n' x.c', .int .i64 b.s, .slice T' n' m', .bool x'.s, .slice x'.A x'.n x'.c, .slice x'.A' x'.n' x'.c'] 36)))) (HCb.out _ (Below.then_ hb1 (Below.new_ (Below.refl _ _) (.cells #[.int .i64 a.s, .slice T n m, .bool x.s, .slice x.A x.n x.c, .slice x.A' x.n' x.c', .int .i64 b.s, .slice T' n' m', .bool x'.s, .slice x'.A x'.n x'.c, .slice x'.A' x'.n' x'.c'] 36)))))).mono ?_); rintro e w2 ⟨B, rfl, hB, hb2⟩; have HA2 := hid ((HA1.out.alloc (.cells #[.int .i64 a.s, .slice T n m, .bool x.s, .slice x.A x.n x.c, .slice x.A' x.n' x.c', .int .i64 b.s, .slice T' n' m', .bool x'.s, .slice x'.A x'.n x'.c, .slice x'.A' x'.n' x'.c'] 36)).below hb2); have HB2 := hid ((HB1.out.alloc (.cells #[.int .i64 a.s, .slice T n m, .bool x.s, .slice x.A x.n x.c, .slice x.A' x.n' x.c', .int .i64 b.s, .slice T' n' m', .bool x'.s, .slice x'.A x'.n x'.c, .slice x'.A' x'.n' x'.c'] 36)).below hb2); have HR2 := hid ((HR1.out.alloc (.cells #[.int .i64 a.s, .slice T n m, .bool x.s, .slice x.A x.n x.c, .slice x.A' x.n' x.c', .int .i64 b.s, .slice T' n' m', .bool x'.s, .slice x'.A x'.n x'.c, .slice x'.A' x'.n' x'.c'] 36)).below hb2); have hw2 : Below w.heap.size w w2 := (hb1.trans ((Below.new_ (Below.refl _ _) (.cells #[.int .i64 a.s, .slice T n m, .bool x.s, .slice x.A x.n x.c, .slice x.A' x.n' x.c', .int .i64 b.s, .slice T' n' m', .bool x'.s, .slice x'.A x'.n x'.c, .slice x'.A' x'.n' x'.c'] 36)).mono hb1.size)).trans (hb2.mono (Nat.le_trans hb1.size (Below.new_ (Below.refl _ _) (.cells #[.int .i64 a.s, .slice T n m, .bool x.s, .slice x.A x.n x.c, .slice x.A' x.n' x.c', .int .i64 b.s, .slice T' n' m', .bool x'.s, .slice x'.A x'.n x'.c, .slice x'.A' x'.n' x'.c'] 36)).size)); clear a0 a1 a2 a3 a4 b0 b1 b2 b3 b4 r0 r1 r2; have a0 := HA2.out.cell 0 rfl; have a1 := HA2.out.cell 1 rfl; have a2 := HA2.out.cell 2 rfl; have a3 := HA2.out.cell 3 rfl; have a4 := HA2.out.cell 4 rfl; have b0 := HB2.out.cell 0 rfl; have b1 := HB2.out.cell 1 rfl; have b2 := HB2.out.cell 2 rfl; have b3 := HB2.out.cell 3 rfl; have b4 := HB2.out.cell 4 rfl; have r0 := HR2.out.cell 0 rfl; have r1 := HR2.out.cell 1 rfl; have r2 := HR2.out.cell 2 rfl; rcases B with _ | _)
  | (go_at_call 16; (with_reducible refine (many8_any _ (one_rat (Bs.new _ _ _ _ rfl) (HCr.out _ (Below.then_ hw2 (Below.new_ (Below.refl _ _) (.cells #[.bool z.s, .slice z.A z.n z.c, .slice z.A' z.n' z.c'] 24)))))).mono ?_); rintro e w3 ⟨B2, rfl, hB2, hb3⟩; have HA3 := hid ((HA2.out.alloc (.cells #[.bool z.s, .slice z.A z.n z.c, .slice z.A' z.n' z.c'] 24)).below hb3); have HB3 := hid ((HB2.out.alloc (.cells #[.bool z.s, .slice z.A z.n z.c, .slice z.A' z.n' z.c'] 24)).below hb3); have HR3 := hid ((HR2.out.alloc (.cells #[.bool z.s, .slice z.A z.n z.c, .slice z.A' z.n' z.c'] 24)).below hb3); have hw3 : Below w.heap.size w w3 := (hw2.trans ((Below.new_ (Below.refl _ _) (.cells #[.bool z.s, .slice z.A z.n z.c, .slice z.A' z.n' z.c'] 24)).mono hw2.size)).trans (hb3.mono (Nat.le_trans hw2.size (Below.new_ (Below.refl _ _) (.cells #[.bool z.s, .slice z.A z.n z.c, .slice z.A' z.n' z.c'] 24)).size)); clear a0 a1 a2 a3 a4 b0 b1 b2 b3 b4 r0 r1 r2; have a0 := HA3.out.cell 0 rfl; have a1 := HA3.out.cell 1 rfl; have a2 := HA3.out.cell 2 rfl; have a3 := HA3.out.cell 3 rfl; have a4 := HA3.out.cell 4 rfl; have b0 := HB3.out.cell 0 rfl; have b1 := HB3.out.cell 1 rfl; have b2 := HB3.out.cell 2 rfl; have b3 := HB3.out.cell 3 rfl; have b4 := HB3.out.cell 4 rfl; have r0 := HR3.out.cell 0 rfl; have r1 := HR3.out.cell 1 rfl; have r2 := HR3.out.cell 2 rfl; rcases B2 with _ | _)
  | (go_at_call 16; (with_reducible refine (many8_any _ (HS.out _ hw3)).mono ?_); rintro e w4 ⟨B3, rfl, hB3, hb4⟩; have HA4 := hid (HA3.out.below hb4); have HB4 := hid (HB3.out.below hb4); have HR4 := hid (HR3.out.below hb4); have hw4 := Below.then_ hw3 hb4; clear a0 a1 a2 a3 a4 b0 b1 b2 b3 b4 r0 r1 r2; have a0 := HA4.out.cell 0 rfl; have a1 := HA4.out.cell 1 rfl; have a2 := HA4.out.cell 2 rfl; have a3 := HA4.out.cell 3 rfl; have a4 := HA4.out.cell 4 rfl; have b0 := HB4.out.cell 0 rfl; have b1 := HB4.out.cell 1 rfl; have b2 := HB4.out.cell 2 rfl; have b3 := HB4.out.cell 3 rfl; have b4 := HB4.out.cell 4 rfl; have r0 := HR4.out.cell 0 rfl; have r1 := HR4.out.cell 1 rfl; have r2 := HR4.out.cell 2 rfl; rcases B3 with _ | _)
  | (go_at_call 17; (with_reducible refine (rise_C _ (HCa.out _ hw4).val).mono ?_); rintro e wz ⟨B4, rfl, hbz⟩; have HAz := hid (HA4.out.below hbz); have HBz := hid (HB4.out.below hbz); have HRz := hid (HR4.out.below hbz); have hwz := Below.then_ hw4 hbz; clear a0 a1 a2 a3 a4 b0 b1 b2 b3 b4 r0 r1 r2; have a0 := HAz.out.cell 0 rfl; have a1 := HAz.out.cell 1 rfl; have a2 := HAz.out.cell 2 rfl; have a3 := HAz.out.cell 3 rfl; have a4 := HAz.out.cell 4 rfl; have b0 := HBz.out.cell 0 rfl; have b1 := HBz.out.cell 1 rfl; have b2 := HBz.out.cell 2 rfl; have b3 := HBz.out.cell 3 rfl; have b4 := HBz.out.cell 4 rfl; have r0 := HRz.out.cell 0 rfl; have r1 := HRz.out.cell 1 rfl; have r2 := HRz.out.cell 2 rfl; rcases B4 with _ | _)
  | (go_at_call 17; (with_reducible refine (rise_C _ (HCb.out _ hwz).val).mono ?_); rintro e wy ⟨B5, rfl, hby⟩; replace HAz := hid (HAz.out.below hby); replace HBz := hid (HBz.out.below hby); replace HRz := hid (HRz.out.below hby); replace hwz := Below.then_ hwz hby; clear a0 a1 a2 a3 a4 b0 b1 b2 b3 b4 r0 r1 r2; have a0 := HAz.out.cell 0 rfl; have a1 := HAz.out.cell 1 rfl; have a2 := HAz.out.cell 2 rfl; have a3 := HAz.out.cell 3 rfl; have a4 := HAz.out.cell 4 rfl; have b0 := HBz.out.cell 0 rfl; have b1 := HBz.out.cell 1 rfl; have b2 := HBz.out.cell 2 rfl; have b3 := HBz.out.cell 3 rfl; have b4 := HBz.out.cell 4 rfl; have r0 := HRz.out.cell 0 rfl; have r1 := HRz.out.cell 1 rfl; have r2 := HRz.out.cell 2 rfl; rcases B5 with _ | _))
 all_goals try (go_ret; exact ⟨by rfl, by first | assumption | exact Pg.bel⟩)
 all_goals first
  | (
    have hw := HW.out (hB (by first | exact rfl | trivial))
    have hL : a.Le 262144 := hw.1.mono (by omega)
    have hL' : b.Le 262144 := hw.2.2.1.mono (by omega)
    refine wp_world (F := fun W => (Bs W w.heap.size 36 [.int .i64 a.s, .slice T n m, .bool x.s, .slice x.A x.n x.c, .slice x.A' x.n' x.c'] ∧ Bs W (w.heap.size + 1) 36 [.int .i64 b.s, .slice T' n' m', .bool x'.s, .slice x'.A x'.n x'.c, .slice x'.A' x'.n' x'.c'] ∧ Bs W (w.heap.size + 2) 24 [.bool z.s, .slice z.A z.n z.c, .slice z.A' z.n' z.c']) ∧ Below w.heap.size w W) ⟨⟨HAz.out, HBz.out, HRz.out⟩, hwz⟩ ?_
    clear a0 a1 a2 a3 a4 b0 b1 b2 b3 b4 r0 r1 r2
    rintro w6 ⟨⟨HA6, HB6, HR6⟩, hw6⟩
    have hca := HCa.out _ hw6
    have hcb := HCb.out _ hw6
    have hcr := HCr.out _ hw6
    refine draw_G (fun _ _ => False) (fun W => Below w6.heap.size w6 W) 11 none [some 32, some 33, some 34, some 35, some 36, some 37, some 38, some 39, some 40, some 41, some 10] [.is (.agg #[.int .i64 a.s, .slice T n m, .bool x.s, .slice x.A x.n x.c, .slice x.A' x.n' x.c']), .is (.int .i64 N), .is (.bool Ia), .is (.agg #[.int .i64 a.s, .slice T n m, .bool x.s, .slice x.A x.n x.c, .slice x.A' x.n' x.c']), .is (.int .i64 N), .is (.bool Ia), .is (.bool true), .is (.bool true), .is (.bool true), .is (.bool true), .is (.bool true)]
     (by kernel_rfl) (by kernel_rfl) (by kernel_rfl) (by kernel_rfl) rfl (by kernel_rfl) (fun _ h => h) (fun _ _ h hb => Below.then_ h hb) (fun _ _ _ h => h.elim) (fun _ _ _ _ _ _ h => h.elim) ?_ ?_
    ·refine ⟨?_, ?_, ?_, ?_, ?_, ?_, ?_, ?_, ?_, ?_, ?_, trivial⟩
     ·intro a w3 hA K hK
      have t5 := hA.old 5 _ rfl rfl
      have k0 := (HA6.below hA.grown).cell 0 rfl
      have k1 := (HA6.below hA.grown).cell 1 rfl
      have k2 := (HA6.below hA.grown).cell 2 rfl
      have k3 := (HA6.below hA.grown).cell 3 rfl
      have k4 := (HA6.below hA.grown).cell 4 rfl
      go_simp
      exact hK _ _ rfl (Below.refl _ _)
     ·intro a w3 hA K hK
      have t4 := hA.old 4 _ rfl rfl
      go_simp
      exact hK _ _ rfl (Below.refl _ _)
     ·intro a w3 hA K hK
      have t32 := bg_is hA 0 32
      have t33 := bg_is hA 1 33
      have hC := Is_C w3 (hca.below hA.grown).val hL hN hIa
      go_simp
      refine hC.mono ?_
      rintro e w4 ⟨rfl, hb⟩
      exact hK _ _ rfl hb
     ·intro a w3 hA K hK
      have t5 := hA.old 5 _ rfl rfl
      have k0 := (HA6.below hA.grown).cell 0 rfl
      have k1 := (HA6.below hA.grown).cell 1 rfl
      have k2 := (HA6.below hA.grown).cell 2 rfl
      have k3 := (HA6.below hA.grown).cell 3 rfl
      have k4 := (HA6.below hA.grown).cell 4 rfl
      go_simp
      exact hK _ _ rfl (Below.refl _ _)
     ·intro a w3 hA K hK
      have t4 := hA.old 4 _ rfl rfl
      go_simp
      exact hK _ _ rfl (Below.refl _ _)
     ·intro a w3 hA K hK
      have t35 := bg_is hA 3 35
      have t36 := bg_is hA 4 36
      have hC := rIs_C w3 (hca.below hA.grown).val hL hIa
      go_simp
      refine hC.mono ?_
      rintro e w4 ⟨rfl, hb⟩
      exact hK _ _ rfl hb
     ·intro a w3 hA K hK
      have t34 := bg_is hA 2 34
      have t37 := bg_is hA 5 37
      go_simp
      exact hK _ _ Pg.fi_ (Below.refl _ _)
     ·intro a w3 hA K hK
      have t38 := bg_is hA 6 38
      go_simp
      exact hK _ _ rfl (Below.refl _ _)
     ·intro a w3 hA K hK
      have hC := known8_any w3
      go_simp
      refine hC.mono ?_
      rintro e w4 ⟨rfl, hb⟩
      exact hK _ _ rfl hb
     ·intro a w3 hA K hK
      have t39 := bg_is hA 7 39
      have t40 := bg_is hA 8 40
      go_simp
      exact hK _ _ Pg.fi_ (Below.refl _ _)
     ·intro a w3 hA K hK
      have t41 := bg_is hA 9 41
      go_simp
      exact hK _ _ Pg.fi_ (Below.refl _ _)
    rintro vs w7 hV hg7 hlk act hact
    repeat (replace hV := hV.is_; obtain ⟨_, rfl, hV⟩ := hV)
    obtain rfl := hV.nil_
    clear hV
    clear hlk
    simp only [putsO] at hact
    subst hact
    go_simp
    go_wp2_with fail
    go_ret
    exact ⟨by rfl, Below.then_ hw6 hg7⟩)
  | (
    have hw := HW.out (hB (by first | exact rfl | trivial))
    have hL : a.Le 262144 := hw.1.mono (by omega)
    have hL' : b.Le 262144 := hw.2.2.1.mono (by omega)
    have hr3 : r.Le 3 := (hB2 (by first | exact rfl | trivial)).2 r (by simp)
    have hy3 : ∀ u ∈ y.l, u.Le 3 := (hB3 (by first | exact rfl | trivial)).2
    have hsa := HSa.out hw.1
    have hsb := HSb.out hw.2.2.1
    have hsr := HSr.out hr3
    have hsy := HSy.out hy3
    obtain ⟨d1, hd1⟩ : ∃ c, cwOf (addC a.q b.q) = c := ⟨_, rfl⟩
    obtain ⟨d2, hd2⟩ : ∃ c, cwOf (scaleC a.q r.q) = c := ⟨_, rfl⟩
    obtain ⟨qa, hqa⟩ : ∃ q, atC (valAt (y.l.map RW.q)) a.q = q := ⟨_, rfl⟩
    have hd1l : d1.Le 262144 := by rw [← hd1]; exact (hsa.add hsb).le.mono (by omega)
    have hd2l : d2.Le 262144 := by rw [← hd2]; exact (hsa.scale hsr).le.mono (by omega)
    have hql : (rwOf qa).Le 262144 := by
     rw [← hqa]
     exact (short_le (atC_short hsa hsy (by show (a.t.map TW.q).length ≤ 150; rw [List.length_map]; exact hw.2.1))).mono (by omega)
    have hna : a.t.length ≤ 100000 := by have := hw.2.1; omega
    have hnb : b.t.length ≤ 100000 := by have := hw.2.2.2; omega
    have HS1 := hid fun (W : World) {v v' : Value} (hv : ConVal W v a) (hv' : ConVal W v' b) => Add_C W hv hv' hw.1 hw.2.2.1 (by omega) (by omega) hna hnb
    have HS2 := hid fun (W : World) {v v' : Value} (hv : ConVal W v a) (hv' : ConVal W v' b) => rAdd_C W hv hv' hw.1 hw.2.2.1 (by omega) (by omega) hna hnb
    have HS3 := hid fun (W : World) {v : Value} {u : RV} (hv : ConVal W v a) (hu : u.at W r) => Scale_C W hv hu hw.1 (hr3.mono (by omega)) (by omega) (by omega) hna
    have HS4 := hid fun (W : World) {v : Value} {u : RV} (hv : ConVal W v a) (hu : u.at W r) => rScale_C W hv hu hw.1 (hr3.mono (by omega)) (by omega) (by omega) hna
    have HS5 := hid fun (W : World) (hW : Below w.heap.size w W) {v : Value} (hv : ConVal W v a) => At_C W hv (HS.out _ hW) (fun u hu => (hy3 u hu).mono (by omega)) hw.1 (by omega) (by omega) (by have := hw.2.1; omega)
    have HS6 := hid fun (W : World) (hW : Below w.heap.size w W) {v : Value} (hv : ConVal W v a) => rAt_C W hv (HS.out _ hW) (fun u hu => (hy3 u hu).mono (by omega)) hw.1 (by omega) (by omega) (by have := hw.2.1; omega)
    rw [hd1] at HS1 HS2
    rw [hd2] at HS3 HS4
    rw [hqa] at HS5 HS6
    clear hr3 hy3 hsa hsb hsr hsy hd1 hd2 hqa hna hnb
    refine wp_world (F := fun W => (Bs W w.heap.size 36 [.int .i64 a.s, .slice T n m, .bool x.s, .slice x.A x.n x.c, .slice x.A' x.n' x.c'] ∧ Bs W (w.heap.size + 1) 36 [.int .i64 b.s, .slice T' n' m', .bool x'.s, .slice x'.A x'.n x'.c, .slice x'.A' x'.n' x'.c'] ∧ Bs W (w.heap.size + 2) 24 [.bool z.s, .slice z.A z.n z.c, .slice z.A' z.n' z.c']) ∧ Below w.heap.size w W) ⟨⟨HAz.out, HBz.out, HRz.out⟩, hwz⟩ ?_
    clear a0 a1 a2 a3 a4 b0 b1 b2 b3 b4 r0 r1 r2
    rintro w6 ⟨⟨HA6, HB6, HR6⟩, hw6⟩
    have hca := HCa.out _ hw6
    have hcb := HCb.out _ hw6
    have hcr := HCr.out _ hw6
    refine draw_G (fun _ _ => False) (fun W => Below w6.heap.size w6 W) 52 none [some 42, some 43, some 44, some 45, some 46, some 47, some 48, some 49, some 50, some 51, some 52, some 53, some 54, some 55, some 56, some 57, some 58, some 59, some 60, some 61, some 62, some 63, some 64, some 65, some 66, some 67, some 68, some 69, some 70, some 71, some 72, some 73, some 74, some 75, some 76, some 77, some 78, some 79, some 80, some 81, some 82, some 83, some 84, some 85, some 86, some 87, some 88, some 89, some 90, some 91, some 92, some 10] [.is (.agg #[.int .i64 a.s, .slice T n m, .bool x.s, .slice x.A x.n x.c, .slice x.A' x.n' x.c']), .is (.agg #[.int .i64 b.s, .slice T' n' m', .bool x'.s, .slice x'.A x'.n x'.c, .slice x'.A' x'.n' x'.c']), .such (fun W v => ∃ (TX : Option Addr) (nX : Nat) (mX : Nat) (yX : RV), v = .agg #[.int .i64 d1.s, .slice TX nX mX, .bool yX.s, .slice yX.A yX.n yX.c, .slice yX.A' yX.n' yX.c'] ∧ CV W TX nX mX yX (d1)), .is (.agg #[.int .i64 a.s, .slice T n m, .bool x.s, .slice x.A x.n x.c, .slice x.A' x.n' x.c']), .is (.agg #[.int .i64 b.s, .slice T' n' m', .bool x'.s, .slice x'.A x'.n x'.c, .slice x'.A' x'.n' x'.c']), .such (fun W v => ∃ (TX : Option Addr) (nX : Nat) (mX : Nat) (yX : RV), v = .agg #[.int .i64 d1.s, .slice TX nX mX, .bool yX.s, .slice yX.A yX.n yX.c, .slice yX.A' yX.n' yX.c'] ∧ CV W TX nX mX yX (d1)), .is (.bool true), .is (.bool true), .is (.agg #[.int .i64 a.s, .slice T n m, .bool x.s, .slice x.A x.n x.c, .slice x.A' x.n' x.c']), .is (.agg #[.bool z.s, .slice z.A z.n z.c, .slice z.A' z.n' z.c']), .such (fun W v => ∃ (TX : Option Addr) (nX : Nat) (mX : Nat) (yX : RV), v = .agg #[.int .i64 d2.s, .slice TX nX mX, .bool yX.s, .slice yX.A yX.n yX.c, .slice yX.A' yX.n' yX.c'] ∧ CV W TX nX mX yX (d2)), .is (.agg #[.int .i64 a.s, .slice T n m, .bool x.s, .slice x.A x.n x.c, .slice x.A' x.n' x.c']), .is (.agg #[.bool z.s, .slice z.A z.n z.c, .slice z.A' z.n' z.c']), .such (fun W v => ∃ (TX : Option Addr) (nX : Nat) (mX : Nat) (yX : RV), v = .agg #[.int .i64 d2.s, .slice TX nX mX, .bool yX.s, .slice yX.A yX.n yX.c, .slice yX.A' yX.n' yX.c'] ∧ CV W TX nX mX yX (d2)), .is (.bool true), .is (.bool true), .is (.bool true), .is (.agg #[.int .i64 a.s, .slice T n m, .bool x.s, .slice x.A x.n x.c, .slice x.A' x.n' x.c']), .is (.slice y.A y.n y.k), .such (fun W v => ∃ (yX : RV), v = .agg #[.bool yX.s, .slice yX.A yX.n yX.c, .slice yX.A' yX.n' yX.c'] ∧ yX.at W (rwOf qa)), .is (.agg #[.int .i64 a.s, .slice T n m, .bool x.s, .slice x.A x.n x.c, .slice x.A' x.n' x.c']), .is (.slice y.A y.n y.k), .such (fun W v => ∃ (yX : RV), v = .agg #[.bool yX.s, .slice yX.A yX.n yX.c, .slice yX.A' yX.n' yX.c'] ∧ yX.at W (rwOf qa)), .is (.bool true), .is (.bool true), .is (.bool true), .is (.agg #[.int .i64 a.s, .slice T n m, .bool x.s, .slice x.A x.n x.c, .slice x.A' x.n' x.c']), .is (.int .i64 N), .is (.bool Ia), .is (.agg #[.int .i64 a.s, .slice T n m, .bool x.s, .slice x.A x.n x.c, .slice x.A' x.n' x.c']), .is (.int .i64 N), .is (.bool Ia), .is (.bool true), .is (.bool true), .is (.bool true), .is (.agg #[.int .i64 a.s, .slice T n m, .bool x.s, .slice x.A x.n x.c, .slice x.A' x.n' x.c']), .is (.agg #[.int .i64 b.s, .slice T' n' m', .bool x'.s, .slice x'.A x'.n x'.c, .slice x'.A' x'.n' x'.c']), .is (.bool Sb), .is (.agg #[.int .i64 a.s, .slice T n m, .bool x.s, .slice x.A x.n x.c, .slice x.A' x.n' x.c']), .is (.agg #[.int .i64 b.s, .slice T' n' m', .bool x'.s, .slice x'.A x'.n x'.c, .slice x'.A' x'.n' x'.c']), .is (.bool Sb), .is (.bool true), .is (.bool true), .is (.bool true), .is (.agg #[.int .i64 a.s, .slice T n m, .bool x.s, .slice x.A x.n x.c, .slice x.A' x.n' x.c']), .is (.agg #[.int .i64 a.s, .slice T n m, .bool x.s, .slice x.A x.n x.c, .slice x.A' x.n' x.c']), .is (.bool true), .is (.bool true), .is (.bool true), .is (.bool true), .is (.bool true), .is (.bool true)]
     (by kernel_rfl) (by kernel_rfl) (by kernel_rfl) (by kernel_rfl) rfl (by kernel_rfl) (fun _ h => h) (fun _ _ h hb => Below.then_ h hb) (fun _ _ _ h => h.elim) (fun _ _ _ _ _ _ h => h.elim) ?_ ?_
    ·refine ⟨?_, ?_, ?_, ?_, ?_, ?_, ?_, ?_, ?_, ?_, ?_, ?_, ?_, ?_, ?_, ?_, ?_, ?_, ?_, ?_, ?_, ?_, ?_, ?_, ?_, ?_, ?_, ?_, ?_, ?_, ?_, ?_, ?_, ?_, ?_, ?_, ?_, ?_, ?_, ?_, ?_, ?_, ?_, ?_, ?_, ?_, ?_, ?_, ?_, ?_, ?_, ?_, trivial⟩
     ·intro a w3 hA K hK
      have t5 := hA.old 5 _ rfl rfl
      have k0 := (HA6.below hA.grown).cell 0 rfl
      have k1 := (HA6.below hA.grown).cell 1 rfl
      have k2 := (HA6.below hA.grown).cell 2 rfl
      have k3 := (HA6.below hA.grown).cell 3 rfl
      have k4 := (HA6.below hA.grown).cell 4 rfl
      go_simp
      exact hK _ _ rfl (Below.refl _ _)
     ·intro a w3 hA K hK
      have t6 := hA.old 6 _ rfl rfl
      have k0 := (HB6.below hA.grown).cell 0 rfl
      have k1 := (HB6.below hA.grown).cell 1 rfl
      have k2 := (HB6.below hA.grown).cell 2 rfl
      have k3 := (HB6.below hA.grown).cell 3 rfl
      have k4 := (HB6.below hA.grown).cell 4 rfl
      go_simp
      exact hK _ _ rfl (Below.refl _ _)
     ·intro a w3 hA K hK
      have t42 := bg_is hA 0 42
      have t43 := bg_is hA 1 43
      have hC := HS1.out w3 (hca.below hA.grown).val (hcb.below hA.grown).val
      go_simp
      refine hC.mono ?_
      rintro e w4 ⟨v, rfl, hv, hb⟩
      obtain ⟨_, _, _, _, rfl, hc⟩ := hv.cv; exact hK _ _ (fun W hW => ⟨_, _, _, _, rfl, hc.below hW⟩) hb
     ·intro a w3 hA K hK
      have t5 := hA.old 5 _ rfl rfl
      have k0 := (HA6.below hA.grown).cell 0 rfl
      have k1 := (HA6.below hA.grown).cell 1 rfl
      have k2 := (HA6.below hA.grown).cell 2 rfl
      have k3 := (HA6.below hA.grown).cell 3 rfl
      have k4 := (HA6.below hA.grown).cell 4 rfl
      go_simp
      exact hK _ _ rfl (Below.refl _ _)
     ·intro a w3 hA K hK
      have t6 := hA.old 6 _ rfl rfl
      have k0 := (HB6.below hA.grown).cell 0 rfl
      have k1 := (HB6.below hA.grown).cell 1 rfl
      have k2 := (HB6.below hA.grown).cell 2 rfl
      have k3 := (HB6.below hA.grown).cell 3 rfl
      have k4 := (HB6.below hA.grown).cell 4 rfl
      go_simp
      exact hK _ _ rfl (Below.refl _ _)
     ·intro a w3 hA K hK
      have t45 := bg_is hA 3 45
      have t46 := bg_is hA 4 46
      have hC := HS2.out w3 (hca.below hA.grown).val (hcb.below hA.grown).val
      go_simp
      refine hC.mono ?_
      rintro e w4 ⟨v, rfl, hv, hb⟩
      obtain ⟨_, _, _, _, rfl, hc⟩ := hv.cv; exact hK _ _ (fun W hW => ⟨_, _, _, _, rfl, hc.below hW⟩) hb
     ·intro a w3 hA K hK
      obtain ⟨v44, t44, p44⟩ := bg_such hA 2 44
      obtain ⟨T44, n44, m44, y44, rfl, hc44⟩ := p44 w3 (Below.refl _ _)
      obtain ⟨v47, t47, p47⟩ := bg_such hA 5 47
      obtain ⟨T47, n47, m47, y47, rfl, hc47⟩ := p47 w3 (Below.refl _ _)
      have hC := rSame_C w3 hc44.val hc47.val hd1l hd1l (by omega) (sameW_refl _)
      go_simp
      refine hC.mono ?_
      rintro e w4 ⟨rfl, hb⟩
      exact hK _ _ rfl hb
     ·intro a w3 hA K hK
      have t48 := bg_is hA 6 48
      go_simp
      exact hK _ _ rfl (Below.refl _ _)
     ·intro a w3 hA K hK
      have t5 := hA.old 5 _ rfl rfl
      have k0 := (HA6.below hA.grown).cell 0 rfl
      have k1 := (HA6.below hA.grown).cell 1 rfl
      have k2 := (HA6.below hA.grown).cell 2 rfl
      have k3 := (HA6.below hA.grown).cell 3 rfl
      have k4 := (HA6.below hA.grown).cell 4 rfl
      go_simp
      exact hK _ _ rfl (Below.refl _ _)
     ·intro a w3 hA K hK
      have t7 := hA.old 7 _ rfl rfl
      have k0 := (HR6.below hA.grown).cell 0 rfl
      have k1 := (HR6.below hA.grown).cell 1 rfl
      have k2 := (HR6.below hA.grown).cell 2 rfl
      go_simp
      exact hK _ _ rfl (Below.refl _ _)
     ·intro a w3 hA K hK
      have t50 := bg_is hA 8 50
      have t51 := bg_is hA 9 51
      have hC := HS3.out w3 (hca.below hA.grown).val (hcr.below hA.grown)
      go_simp
      refine hC.mono ?_
      rintro e w4 ⟨v, rfl, hv, hb⟩
      obtain ⟨_, _, _, _, rfl, hc⟩ := hv.cv; exact hK _ _ (fun W hW => ⟨_, _, _, _, rfl, hc.below hW⟩) hb
     ·intro a w3 hA K hK
      have t5 := hA.old 5 _ rfl rfl
      have k0 := (HA6.below hA.grown).cell 0 rfl
      have k1 := (HA6.below hA.grown).cell 1 rfl
      have k2 := (HA6.below hA.grown).cell 2 rfl
      have k3 := (HA6.below hA.grown).cell 3 rfl
      have k4 := (HA6.below hA.grown).cell 4 rfl
      go_simp
      exact hK _ _ rfl (Below.refl _ _)
     ·intro a w3 hA K hK
      have t7 := hA.old 7 _ rfl rfl
      have k0 := (HR6.below hA.grown).cell 0 rfl
      have k1 := (HR6.below hA.grown).cell 1 rfl
      have k2 := (HR6.below hA.grown).cell 2 rfl
      go_simp
      exact hK _ _ rfl (Below.refl _ _)
     ·intro a w3 hA K hK
      have t53 := bg_is hA 11 53
      have t54 := bg_is hA 12 54
      have hC := HS4.out w3 (hca.below hA.grown).val (hcr.below hA.grown)
      go_simp
      refine hC.mono ?_
      rintro e w4 ⟨v, rfl, hv, hb⟩
      obtain ⟨_, _, _, _, rfl, hc⟩ := hv.cv; exact hK _ _ (fun W hW => ⟨_, _, _, _, rfl, hc.below hW⟩) hb
     ·intro a w3 hA K hK
      obtain ⟨v52, t52, p52⟩ := bg_such hA 10 52
      obtain ⟨T52, n52, m52, y52, rfl, hc52⟩ := p52 w3 (Below.refl _ _)
      obtain ⟨v55, t55, p55⟩ := bg_such hA 13 55
      obtain ⟨T55, n55, m55, y55, rfl, hc55⟩ := p55 w3 (Below.refl _ _)
      have hC := rSame_C w3 hc52.val hc55.val hd2l hd2l (by omega) (sameW_refl _)
      go_simp
      refine hC.mono ?_
      rintro e w4 ⟨rfl, hb⟩
      exact hK _ _ rfl hb
     ·intro a w3 hA K hK
      have t49 := bg_is hA 7 49
      have t56 := bg_is hA 14 56
      go_simp
      exact hK _ _ Pg.fi_ (Below.refl _ _)
     ·intro a w3 hA K hK
      have t57 := bg_is hA 15 57
      go_simp
      exact hK _ _ rfl (Below.refl _ _)
     ·intro a w3 hA K hK
      have t5 := hA.old 5 _ rfl rfl
      have k0 := (HA6.below hA.grown).cell 0 rfl
      have k1 := (HA6.below hA.grown).cell 1 rfl
      have k2 := (HA6.below hA.grown).cell 2 rfl
      have k3 := (HA6.below hA.grown).cell 3 rfl
      have k4 := (HA6.below hA.grown).cell 4 rfl
      go_simp
      exact hK _ _ rfl (Below.refl _ _)
     ·intro a w3 hA K hK
      have t3 := hA.old 3 _ rfl rfl
      go_simp
      exact hK _ _ rfl (Below.refl _ _)
     ·intro a w3 hA K hK
      have t59 := bg_is hA 17 59
      have t60 := bg_is hA 18 60
      have hC := HS5.out w3 (Below.then_ hw6 hA.grown) (hca.below hA.grown).val
      go_simp
      refine hC.mono ?_
      rintro e w4 ⟨y, rfl, hy, hb⟩
      exact hK _ _ (fun W hW => ⟨_, rfl, hy.below hW⟩) hb
     ·intro a w3 hA K hK
      have t5 := hA.old 5 _ rfl rfl
      have k0 := (HA6.below hA.grown).cell 0 rfl
      have k1 := (HA6.below hA.grown).cell 1 rfl
      have k2 := (HA6.below hA.grown).cell 2 rfl
      have k3 := (HA6.below hA.grown).cell 3 rfl
      have k4 := (HA6.below hA.grown).cell 4 rfl
      go_simp
      exact hK _ _ rfl (Below.refl _ _)
     ·intro a w3 hA K hK
      have t3 := hA.old 3 _ rfl rfl
      go_simp
      exact hK _ _ rfl (Below.refl _ _)
     ·intro a w3 hA K hK
      have t62 := bg_is hA 20 62
      have t63 := bg_is hA 21 63
      have hC := HS6.out w3 (Below.then_ hw6 hA.grown) (hca.below hA.grown).val
      go_simp
      refine hC.mono ?_
      rintro e w4 ⟨y, rfl, hy, hb⟩
      exact hK _ _ (fun W hW => ⟨_, rfl, hy.below hW⟩) hb
     ·intro a w3 hA K hK
      obtain ⟨v61, t61, p61⟩ := bg_such hA 19 61
      obtain ⟨y61, rfl, hy61⟩ := p61 w3 (Below.refl _ _)
      obtain ⟨v64, t64, p64⟩ := bg_such hA 22 64
      obtain ⟨y64, rfl, hy64⟩ := p64 w3 (Below.refl _ _)
      have hC := r2Same_Q w3 hy61 hy64 hql hql (by omega) (decide_eq_true rfl)
      go_simp
      refine hC.mono ?_
      rintro e w4 ⟨rfl, hb⟩
      exact hK _ _ rfl hb
     ·intro a w3 hA K hK
      have t58 := bg_is hA 16 58
      have t65 := bg_is hA 23 65
      go_simp
      exact hK _ _ Pg.fi_ (Below.refl _ _)
     ·intro a w3 hA K hK
      have t66 := bg_is hA 24 66
      go_simp
      exact hK _ _ rfl (Below.refl _ _)
     ·intro a w3 hA K hK
      have t5 := hA.old 5 _ rfl rfl
      have k0 := (HA6.below hA.grown).cell 0 rfl
      have k1 := (HA6.below hA.grown).cell 1 rfl
      have k2 := (HA6.below hA.grown).cell 2 rfl
      have k3 := (HA6.below hA.grown).cell 3 rfl
      have k4 := (HA6.below hA.grown).cell 4 rfl
      go_simp
      exact hK _ _ rfl (Below.refl _ _)
     ·intro a w3 hA K hK
      have t4 := hA.old 4 _ rfl rfl
      go_simp
      exact hK _ _ rfl (Below.refl _ _)
     ·intro a w3 hA K hK
      have t68 := bg_is hA 26 68
      have t69 := bg_is hA 27 69
      have hC := Is_C w3 (hca.below hA.grown).val hL hN hIa
      go_simp
      refine hC.mono ?_
      rintro e w4 ⟨rfl, hb⟩
      exact hK _ _ rfl hb
     ·intro a w3 hA K hK
      have t5 := hA.old 5 _ rfl rfl
      have k0 := (HA6.below hA.grown).cell 0 rfl
      have k1 := (HA6.below hA.grown).cell 1 rfl
      have k2 := (HA6.below hA.grown).cell 2 rfl
      have k3 := (HA6.below hA.grown).cell 3 rfl
      have k4 := (HA6.below hA.grown).cell 4 rfl
      go_simp
      exact hK _ _ rfl (Below.refl _ _)
     ·intro a w3 hA K hK
      have t4 := hA.old 4 _ rfl rfl
      go_simp
      exact hK _ _ rfl (Below.refl _ _)
     ·intro a w3 hA K hK
      have t71 := bg_is hA 29 71
      have t72 := bg_is hA 30 72
      have hC := rIs_C w3 (hca.below hA.grown).val hL hIa
      go_simp
      refine hC.mono ?_
      rintro e w4 ⟨rfl, hb⟩
      exact hK _ _ rfl hb
     ·intro a w3 hA K hK
      have t70 := bg_is hA 28 70
      have t73 := bg_is hA 31 73
      go_simp
      exact hK _ _ Pg.fi_ (Below.refl _ _)
     ·intro a w3 hA K hK
      have t67 := bg_is hA 25 67
      have t74 := bg_is hA 32 74
      go_simp
      exact hK _ _ Pg.fi_ (Below.refl _ _)
     ·intro a w3 hA K hK
      have t75 := bg_is hA 33 75
      go_simp
      exact hK _ _ rfl (Below.refl _ _)
     ·intro a w3 hA K hK
      have t5 := hA.old 5 _ rfl rfl
      have k0 := (HA6.below hA.grown).cell 0 rfl
      have k1 := (HA6.below hA.grown).cell 1 rfl
      have k2 := (HA6.below hA.grown).cell 2 rfl
      have k3 := (HA6.below hA.grown).cell 3 rfl
      have k4 := (HA6.below hA.grown).cell 4 rfl
      go_simp
      exact hK _ _ rfl (Below.refl _ _)
     ·intro a w3 hA K hK
      have t6 := hA.old 6 _ rfl rfl
      have k0 := (HB6.below hA.grown).cell 0 rfl
      have k1 := (HB6.below hA.grown).cell 1 rfl
      have k2 := (HB6.below hA.grown).cell 2 rfl
      have k3 := (HB6.below hA.grown).cell 3 rfl
      have k4 := (HB6.below hA.grown).cell 4 rfl
      go_simp
      exact hK _ _ rfl (Below.refl _ _)
     ·intro a w3 hA K hK
      have t77 := bg_is hA 35 77
      have t78 := bg_is hA 36 78
      have hC := Same_C w3 (hca.below hA.grown).val (hcb.below hA.grown).val hL hL' (by omega) hSb
      go_simp
      refine hC.mono ?_
      rintro e w4 ⟨rfl, hb⟩
      exact hK _ _ rfl hb
     ·intro a w3 hA K hK
      have t5 := hA.old 5 _ rfl rfl
      have k0 := (HA6.below hA.grown).cell 0 rfl
      have k1 := (HA6.below hA.grown).cell 1 rfl
      have k2 := (HA6.below hA.grown).cell 2 rfl
      have k3 := (HA6.below hA.grown).cell 3 rfl
      have k4 := (HA6.below hA.grown).cell 4 rfl
      go_simp
      exact hK _ _ rfl (Below.refl _ _)
     ·intro a w3 hA K hK
      have t6 := hA.old 6 _ rfl rfl
      have k0 := (HB6.below hA.grown).cell 0 rfl
      have k1 := (HB6.below hA.grown).cell 1 rfl
      have k2 := (HB6.below hA.grown).cell 2 rfl
      have k3 := (HB6.below hA.grown).cell 3 rfl
      have k4 := (HB6.below hA.grown).cell 4 rfl
      go_simp
      exact hK _ _ rfl (Below.refl _ _)
     ·intro a w3 hA K hK
      have t80 := bg_is hA 38 80
      have t81 := bg_is hA 39 81
      have hC := rSame_C w3 (hca.below hA.grown).val (hcb.below hA.grown).val hL hL' (by omega) hSb
      go_simp
      refine hC.mono ?_
      rintro e w4 ⟨rfl, hb⟩
      exact hK _ _ rfl hb
     ·intro a w3 hA K hK
      have t79 := bg_is hA 37 79
      have t82 := bg_is hA 40 82
      go_simp
      exact hK _ _ Pg.fi_ (Below.refl _ _)
     ·intro a w3 hA K hK
      have t76 := bg_is hA 34 76
      have t83 := bg_is hA 41 83
      go_simp
      exact hK _ _ Pg.fi_ (Below.refl _ _)
     ·intro a w3 hA K hK
      have t84 := bg_is hA 42 84
      go_simp
      exact hK _ _ rfl (Below.refl _ _)
     ·intro a w3 hA K hK
      have t5 := hA.old 5 _ rfl rfl
      have k0 := (HA6.below hA.grown).cell 0 rfl
      have k1 := (HA6.below hA.grown).cell 1 rfl
      have k2 := (HA6.below hA.grown).cell 2 rfl
      have k3 := (HA6.below hA.grown).cell 3 rfl
      have k4 := (HA6.below hA.grown).cell 4 rfl
      go_simp
      exact hK _ _ rfl (Below.refl _ _)
     ·intro a w3 hA K hK
      have t5 := hA.old 5 _ rfl rfl
      have k0 := (HA6.below hA.grown).cell 0 rfl
      have k1 := (HA6.below hA.grown).cell 1 rfl
      have k2 := (HA6.below hA.grown).cell 2 rfl
      have k3 := (HA6.below hA.grown).cell 3 rfl
      have k4 := (HA6.below hA.grown).cell 4 rfl
      go_simp
      exact hK _ _ rfl (Below.refl _ _)
     ·intro a w3 hA K hK
      have t86 := bg_is hA 44 86
      have t87 := bg_is hA 45 87
      have hC := Same_C w3 (hca.below hA.grown).val (hca.below hA.grown).val hL hL (by omega) (sameW_refl _)
      go_simp
      refine hC.mono ?_
      rintro e w4 ⟨rfl, hb⟩
      exact hK _ _ rfl hb
     ·intro a w3 hA K hK
      have t85 := bg_is hA 43 85
      have t88 := bg_is hA 46 88
      go_simp
      exact hK _ _ Pg.fi_ (Below.refl _ _)
     ·intro a w3 hA K hK
      have t89 := bg_is hA 47 89
      go_simp
      exact hK _ _ rfl (Below.refl _ _)
     ·intro a w3 hA K hK
      have hC := known8_any w3
      go_simp
      refine hC.mono ?_
      rintro e w4 ⟨rfl, hb⟩
      exact hK _ _ rfl hb
     ·intro a w3 hA K hK
      have t90 := bg_is hA 48 90
      have t91 := bg_is hA 49 91
      go_simp
      exact hK _ _ Pg.fi_ (Below.refl _ _)
     ·intro a w3 hA K hK
      have t92 := bg_is hA 50 92
      go_simp
      exact hK _ _ Pg.fi_ (Below.refl _ _)
    rintro vs w7 hV hg7 hlk act hact
    repeat (replace hV := hV.is_; obtain ⟨_, rfl, hV⟩ := hV)
    replace hV := hV.such_; obtain ⟨v44, _, rfl, p44, hV⟩ := hV
    repeat (replace hV := hV.is_; obtain ⟨_, rfl, hV⟩ := hV)
    replace hV := hV.such_; obtain ⟨v47, _, rfl, p47, hV⟩ := hV
    repeat (replace hV := hV.is_; obtain ⟨_, rfl, hV⟩ := hV)
    replace hV := hV.such_; obtain ⟨v52, _, rfl, p52, hV⟩ := hV
    repeat (replace hV := hV.is_; obtain ⟨_, rfl, hV⟩ := hV)
    replace hV := hV.such_; obtain ⟨v55, _, rfl, p55, hV⟩ := hV
    repeat (replace hV := hV.is_; obtain ⟨_, rfl, hV⟩ := hV)
    replace hV := hV.such_; obtain ⟨v61, _, rfl, p61, hV⟩ := hV
    repeat (replace hV := hV.is_; obtain ⟨_, rfl, hV⟩ := hV)
    replace hV := hV.such_; obtain ⟨v64, _, rfl, p64, hV⟩ := hV
    repeat (replace hV := hV.is_; obtain ⟨_, rfl, hV⟩ := hV)
    obtain rfl := hV.nil_
    clear hV
    clear hlk
    obtain ⟨T44, n44, m44, y44, rfl, hc44⟩ := p44 w7 (Below.refl _ _)
    clear p44
    obtain ⟨T47, n47, m47, y47, rfl, hc47⟩ := p47 w7 (Below.refl _ _)
    clear p47
    obtain ⟨T52, n52, m52, y52, rfl, hc52⟩ := p52 w7 (Below.refl _ _)
    clear p52
    obtain ⟨T55, n55, m55, y55, rfl, hc55⟩ := p55 w7 (Below.refl _ _)
    clear p55
    obtain ⟨y61, rfl, hy61⟩ := p61 w7 (Below.refl _ _)
    clear p61
    obtain ⟨y64, rfl, hy64⟩ := p64 w7 (Below.refl _ _)
    clear p64
    simp only [putsO] at hact
    subst hact
    go_simp
    go_wp2_with fail
    go_ret
    exact ⟨by rfl, Below.then_ hw6 hg7⟩)
end Go.Proofs.YtahdlpkncemmaaaGreat
