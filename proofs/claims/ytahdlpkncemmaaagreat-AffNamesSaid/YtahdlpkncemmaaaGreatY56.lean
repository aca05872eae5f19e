/- The law AffNames. Conditions: those that each theorem names. -/
import Derived.Test.YtahdlpkncemmaaaGreatY45
import Derived.Test.YtahdlpkncemmaaaGreatY55
import Derived.Test.YtahdlpkncemmaaaGreatY38
set_option maxRecDepth 100000
set_option maxHeartbeats 8000000
set_option linter.unusedSimpArgs false
set_option linter.unusedVariables false
namespace Pg
theorem PT.As.names {t : PT} {e : XE} (h : PT.As t e) : ∀ d, PT.ok d t = true → t.names = e.names := by
 induction h with
 | num r s kids =>
  intro d hd
  unfold PT.ok nodeOk kidsOf at hd
  simp at hd
  obtain ⟨⟨_, hk, _⟩, _⟩ := hd
  subst hk
  rfl
 | name r s kids =>
  intro d hd
  unfold PT.ok nodeOk kidsOf at hd
  simp at hd
  obtain ⟨⟨_, hk, _⟩, _⟩ := hd
  subst hk
  rfl
 | neg r s a x _ ih =>
  intro d hd
  unfold PT.ok at hd
  simp only [Bool.and_eq_true] at hd
  have h2 := hd.2
  unfold PT.oks at h2
  simp only [Bool.and_eq_true] at h2
  have h3 := ih _ h2.1
  unfold PT.names PT.namess PT.namess XE.names
  rw [h3]; simp
 | bin k r s a b x y h3 h6 _ _ ih1 ih2 =>
  intro d hd
  unfold PT.ok at hd
  simp only [Bool.and_eq_true] at hd
  have h2 := hd.2
  unfold PT.oks PT.oks at h2
  simp only [Bool.and_eq_true] at h2
  have g1 := ih1 _ h2.1
  have g2 := ih2 _ h2.2.1
  unfold PT.names PT.namess PT.namess PT.namess XE.names
  rw [g1, g2, if_neg (by omega)]; simp
def knB (v : EnvQ) (s : List UInt8) : Bool := decide (s ∈ v.vars) || decide (s ∈ v.names)
theorem knB_iff (v : EnvQ) (s : List UInt8) : knB v s = true ↔ Known v s := by simp [knB, Known]
theorem all_take {l : List (List UInt8)} {j : Nat} {s : List UInt8} (f : List UInt8 → Bool) (h : l[j]? = some s) : (l.take (j + 1)).all f = ((l.take j).all f && f s) := by
 rw [List.take_add_one, h, List.all_append]; simp
theorem names_law {v : EnvQ} {e : XE} {us : List (List UInt8)} (hu : ∀ s, s ∈ us ↔ s ∈ e.names) {X : Except Nat CQ} {Y : Except Nat Rat} (hX : X = sumX v e) (hY : Y = numX v [] e) {B b0 b5 b6 b7 c5 : Bool} (hB : us.all (knB v) = B)
  (h0 : ((errOf X : Int) != 0) = b0) (h5 : ((errOf X : Int) == 5) = b5) (h6 : ((errOf X : Int) != 6) = b6) (h7 : ((errOf X : Int) != 7) = b7) (g5 : ((errOf Y : Int) != 5) = c5) :
  (B = true ∧ b0 = false ∧ b5 = false ∧ b6 = true ∧ b7 = true ∧ c5 = true) ∨ (B = true ∧ b0 = true ∧ b5 = false ∧ (b6 && b7) = false ∧ (b6 || b7) = true ∧ c5 = true) ∨ (B = false ∧ b0 = true ∧ b5 = false ∧ (b6 && b7) = false ∧ (b6 || b7) = true) ∨ (B = false ∧ b0 = true ∧ b5 = true ∧ b6 = true ∧ b7 = true) := by
 have hall : us.all (knB v) = true ↔ ∀ s ∈ e.names, Known v s := by
  rw [List.all_eq_true]
  exact ⟨fun h s hs => (knB_iff v s).1 (h s ((hu s).2 hs)), fun h s hs => (knB_iff v s).2 (h s ((hu s).1 hs))⟩
 have hc : B = true → c5 = true := fun hb => by
  have h1 := numX_names v [] e (hall.1 (hB.trans hb))
  rw [← g5, hY]
  cases hn : numX v [] e with
  | ok q => rfl
  | error y =>
   have : y ≠ 5 := fun h => h1 (by rw [hn, h])
   exact bne_iff_ne.2 (by show ((y : Nat) : Int) ≠ 5; omega)
 rcases sumX_names v e with ⟨c, k1, k2⟩ | ⟨y, k1, k2⟩ | ⟨k1, k2⟩
 ·have hb : B = true := by rw [← hB]; exact hall.2 k2
  rw [hX, k1] at h0 h5 h6 h7
  subst h0 h5 h6 h7
  exact .inl ⟨hb, rfl, rfl, rfl, rfl, hc hb⟩
 ·rw [hX, k1] at h0 h5 h6 h7
  cases B with
  | false => rcases k2 with rfl | rfl <;> (subst h0 h5 h6 h7; exact .inr (.inr (.inl ⟨rfl, rfl, rfl, rfl, rfl⟩)))
  | true => rcases k2 with rfl | rfl <;> (subst h0 h5 h6 h7; exact .inr (.inl ⟨rfl, rfl, rfl, rfl, rfl, hc rfl⟩))
 ·have hb : B = false := by
   cases hB' : B with
   | false => rfl
   | true => exact absurd (hall.1 (hB.trans hB')) k2
  rw [hX, k1] at h0 h5 h6 h7
  subst h0 h5 h6 h7
  exact .inr (.inr (.inr ⟨hb, rfl, rfl, rfl, rfl⟩))
end Pg
namespace Go.Proofs.YtahdlpkncemmaaaGreat
open Go.RowKit Pg
theorem rats0n (w : World) : SlAt 3 RawAt w none 0 0 [] := ⟨rfl, Nat.le_refl _, by omega, by omega, fun _ => rfl, fun h => absurd h (by omega)⟩
theorem law_AffNames (v0 v1 : Value) (t : PT) (x : EW) (w : World) (hv : PT.Val w v0 t) (h1 : EnvArg w v1 x) :
  Calls Tryz.prog 8 #[v0, v1] w fun e w' => e = .returned (.bool true) ∧ Below w.heap.size w w' := by
 obtain ⟨rfl, hE⟩ := h1
 unfold EW.val
 obtain ⟨I, hI⟩ : ∃ I, t.is = I := ⟨_, rfl⟩
 obtain ⟨X, Y, hX⟩ : ∃ X Y, t.wt ≤ 768 → I = true → ∃ e, PT.As t e ∧ t.names = e.names ∧ X = sumX x.q e ∧ Y = numX x.q [] e := by
  by_cases h : t.wt ≤ 768 ∧ I = true
  ·have ho : PT.ok 0 t = true := by rw [← PT.is_light h.1, hI]; exact h.2
   obtain ⟨e, he⟩ := PT.as_of_ok _ t 0 (Nat.le_refl _) ho
   exact ⟨_, _, fun _ _ => ⟨e, he, he.names 0 ho, rfl, rfl⟩⟩
  ·exact ⟨.error 5, .error 5, fun h1 h2 => absurd ⟨h1, h2⟩ h⟩
 have HW := hid fun W (hW : Below w.heap.size w W) => weight8_any _ t (Nat.le_refl _) 300 v0 W (hv.below hW) (by omega) (by omega)
 have HL := hid fun W (hW : Below w.heap.size w W) => long8_any W (hE.below hW)
 have HI := hid fun W (hW : Below w.heap.size w W) (h : t.wt ≤ 300) => is5_any W (hv.below hW) (by omega)
 rw [hI] at HI
 have HN := hid fun W (hW : Below w.heap.size w W) (h : t.wt ≤ 300) => Names5_C _ t (Nat.le_refl _) (by omega) v0 W (hv.below hW)
 have HO := hid fun W (hW : Below w.heap.size w W) (hi : I = true) (hwt : t.wt ≤ 300) (hl : ∀ r ∈ x.vals, r.Le 3) (hn : x.vars.length ≤ 20) => Of_C W (hv.below hW) (by omega) (hE.below hW) hl (by omega) (X := X) (.inr ⟨hI.trans hi, (hX (by omega) hi).imp fun e h => ⟨h.1, h.2.2.1⟩⟩)
 have HU := hid fun W (hW : Below w.heap.size w W) (hi : I = true) (hwt : t.wt ≤ 300) (hl : ∀ r ∈ x.vals, r.Le 3) => Value_C W (hv.below hW) (by omega) (hE.below hW) hl (rats0n W) (fun r hr => by cases hr) (X := Y) (.inr ⟨hI.trans hi, (hX (by omega) hi).imp fun e h => ⟨h.1, h.2.2.2⟩⟩)
 have HH0 := hid fun W (hW : Below w.heap.size w W) (s : List UInt8) => Has5_C W s (hE.vars.below nameAt_stays hW)
 have HH1 := hid fun W (hW : Below w.heap.size w W) (s : List UInt8) => Has5_C W s (hE.names.below nameAt_stays hW)
 have HXX := hid hX
 have hs6 := hv.six
 clear hE hX hI
 obtain ⟨c0, c1, c2, c3, c4, c5, rfl⟩ := hs6
 clear hv
 go_enter Tryz.func8, Tryz.ntmps8
 go_upto_region 1 with fail
 refine wp_world (F := fun W => (Bs W w.heap.size 27 [c0, c1, c2, c3, c4, c5] ∧ Bs W (w.heap.size + 1) 31 [.slice x.A0 x.n0 x.k0, .slice x.A1 x.n1 x.k1, .slice x.A2 x.n2 x.k2]) ∧ Below w.heap.size w W)
  ⟨⟨(Bs.new w _ _ _ rfl).alloc _, Bs.new _ _ _ _ (by simp)⟩, Pg.bel⟩ ?_
 rintro w1 ⟨⟨HX, HV⟩, hb1⟩
 replace HX := hid HX
 replace HV := hid HV
 have a0 := HX.out.cell 0 rfl
 have a1 := HX.out.cell 1 rfl
 have a2 := HX.out.cell 2 rfl
 have a3 := HX.out.cell 3 rfl
 have a4 := HX.out.cell 4 rfl
 have a5 := HX.out.cell 5 rfl
 have b0 := HV.out.cell 0 rfl
 have b1 := HV.out.cell 1 rfl
 have b2 := HV.out.cell 2 rfl
 go_wp2_with (first
  | (go_at_call 9; (with_reducible refine (HW.out _ hb1).mono ?_); rintro e w2 ⟨q, rfl, q1, q2, q3, hb2⟩; have HX2 := hid (HX.out.below hb2); have HV2 := hid (HV.out.below hb2); have hw2 := Below.then_ hb1 hb2; clear a0 a1 a2 a3 a4 a5 b0 b1 b2; have a0 := HX2.out.cell 0 rfl; have a1 := HX2.out.cell 1 rfl; have a2 := HX2.out.cell 2 rfl; have a3 := HX2.out.cell 3 rfl; have a4 := HX2.out.cell 4 rfl; have a5 := HX2.out.cell 5 rfl; have b0 := HV2.out.cell 0 rfl; have b1 := HV2.out.cell 1 rfl; have b2 := HV2.out.cell 2 rfl; obtain ⟨B, hB⟩ : ∃ B, decide (q < 0) = B := ⟨_, rfl⟩; rcases B with _ | _)
  | (go_at_call 10; (with_reducible refine (HL.out _ hw2).mono ?_); rintro e w3 ⟨B2, rfl, hB2, hb3⟩; have HX3 := hid (HX2.out.below hb3); have HV3 := hid (HV2.out.below hb3); have hw3 := Below.then_ hw2 hb3; clear a0 a1 a2 a3 a4 a5 b0 b1 b2; have a0 := HX3.out.cell 0 rfl; have a1 := HX3.out.cell 1 rfl; have a2 := HX3.out.cell 2 rfl; have a3 := HX3.out.cell 3 rfl; have a4 := HX3.out.cell 4 rfl; have a5 := HX3.out.cell 5 rfl; have b0 := HV3.out.cell 0 rfl; have b1 := HV3.out.cell 1 rfl; have b2 := HV3.out.cell 2 rfl; rcases B2 with _ | _)
  | (go_at_call 30; go_loud (have hwt : t.wt ≤ 300 := (by have h0 : 0 ≤ q := (by have := of_decide_eq_false hB; omega); have := q3 h0; omega); have hlx : ∀ r ∈ x.vals, r.Le 3 := (hB2 (by first | exact rfl | trivial)).2; have hnx : x.vars.length ≤ 20 := (hB2 (by first | exact rfl | trivial)).1; (with_reducible refine (HI.out _ hw3 hwt).mono ?_); rintro e w4 ⟨rfl, hb4⟩; have HX4 := hid (HX3.out.below hb4); have HV4 := hid (HV3.out.below hb4); have hw4 := Below.then_ hw3 hb4; clear a0 a1 a2 a3 a4 a5 b0 b1 b2; have a0 := HX4.out.cell 0 rfl; have a1 := HX4.out.cell 1 rfl; have a2 := HX4.out.cell 2 rfl; have a3 := HX4.out.cell 3 rfl; have a4 := HX4.out.cell 4 rfl; have a5 := HX4.out.cell 5 rfl; have b0 := HV4.out.cell 0 rfl; have b1 := HV4.out.cell 1 rfl; have b2 := HV4.out.cell 2 rfl; rcases I with _ | _))
  | (go_at_call 31; go_loud ((with_reducible refine (HN.out _ hw4 hwt).mono ?_); rintro e w5 ⟨vN, us, rfl, hown, hmem, hlen, hb5⟩; have hnl := t.names_len; obtain ⟨A5, k5, rfl, hS5⟩ := slName_of_own (by omega) (fun s hs => by have := hnl.2 s ((hmem s).1 hs); omega) hown; have HX5 := hid (HX4.out.below hb5); have HV5 := hid (HV4.out.below hb5); have hw5 := Below.then_ hw4 hb5; have HS5 := hid hS5; have HM5 := hid hmem; have hul : us.length ≤ 300 := (by omega); clear hown hmem hlen hnl hS5; clear a0 a1 a2 a3 a4 a5 b0 b1 b2; have a0 := HX5.out.cell 0 rfl; have a1 := HX5.out.cell 1 rfl; have a2 := HX5.out.cell 2 rfl; have a3 := HX5.out.cell 3 rfl; have a4 := HX5.out.cell 4 rfl; have a5 := HX5.out.cell 5 rfl; have b0 := HV5.out.cell 0 rfl; have b1 := HV5.out.cell 1 rfl; have b2 := HV5.out.cell 2 rfl)))
 all_goals try (go_ret; exact ⟨by rfl, by first | assumption | exact Pg.bel⟩)
 replace HO := hid fun W (hW : Below w.heap.size w W) => HO.out W hW (by first | exact rfl | trivial)
 replace HU := hid fun W (hW : Below w.heap.size w W) => HU.out W hW (by first | exact rfl | trivial)
 clear HX HV HX2 HV2 HX3 HV3 HX4 HV4 hw4 hw3 hw2 hb1 hb2 hb3 hb4 hb5 a0 a1 a2 a3 a4 a5 b0 b1 b2
 go_loopw [5, 7] (fun al i wr => ∃ j : Nat, j ≤ us.length ∧ i = .int .i64 (j : Int) ∧ al = .bool ((us.take j).all (knB x.q)) ∧ Hid (Bs wr w.heap.size 27 [c0, c1, c2, c3, c4, c5]) ∧ Hid (Bs wr (w.heap.size + 1) 31 [.slice x.A0 x.n0 x.k0, .slice x.A1 x.n1 x.k1, .slice x.A2 x.n2 x.k2]) ∧ Below w5.heap.size w5 wr ∧ Below w.heap.size w wr) (fun _ i _ => us.length - (intOf i).toNat)
 case atStart => exact ⟨0, Nat.zero_le _, rfl, rfl, HX5, HV5, Below.refl _ _, hw5⟩
 case round =>
  clear HX5 HV5 hw5
  obtain ⟨j, hj, rfl, rfl, HX, HV, h5, hbr⟩ := hrel
  obtain ⟨Ba, hBa⟩ : ∃ B, (us.take j).all (knB x.q) = B := ⟨_, rfl⟩
  rw [hBa]
  by_cases hlt : j < us.length
  ·obtain ⟨_, _, _, _, _, e6⟩ := HS5.out
   obtain ⟨b, o, rfl, hbb, hxs⟩ := e6 (by omega)
   obtain ⟨s, hs⟩ : ∃ s, us[j]? = some s := ⟨us[j], List.getElem?_eq_getElem _⟩
   obtain ⟨hca, _⟩ := nameAt_stays _ _ _ _ _ hbb (hxs j s hs) h5
   rw [Nat.mul_one] at hca
   have HCs := hid hca
   have ltb : b < wr.heap.size := Nat.lt_of_lt_of_le hbb h5.size
   have i0 : (0 : Int) ≤ (j : Int) := Int.natCast_nonneg _
   have i1 : (j : Int) < (us.length : Int) := by omega
   obtain ⟨D1, hD1⟩ : ∃ D, decide (s ∈ x.vars) = D := ⟨_, rfl⟩
   obtain ⟨D2, hD2⟩ : ∃ D, decide (s ∈ x.names) = D := ⟨_, rfl⟩
   have HA1 := hid fun W (hW : Below w.heap.size w W) => HH0.out W hW s
   have HA2 := hid fun W (hW : Below w.heap.size w W) => HH1.out W hW s
   rw [hD1] at HA1
   rw [hD2] at HA2
   have hk : knB x.q s = (D1 || D2) := by rw [← hD1, ← hD2]; rfl
   have HTa : Hid ((us.take (j + 1)).all (knB x.q) = (Ba && (D1 || D2))) := hid (by rw [all_take _ hs, hBa, hk])
   have HBa := hid (show (Ba && (D1 || D2)) = (Ba && (D1 || D2)) from rfl)
   clear e6 hxs hs hca hD1 hD2 hk hBa
   rcases Ba with _ | _
   ·skip
    go_upto_region 8 with fail
    refine draw_G (fun _ _ => False) (fun W => Below wr.heap.size wr W) 20 none [some 32, some 33, some 34, some 35, some 36, some 37, some 38, some 39, some 40, some 41, some 42, some 43, some 44, some 45, some 46, some 47, some 48, some 49, some 50, some 5] [.is (.bool false), .is (.bool false), .is (undef), .is (undef), .is (undef), .is (undef), .is (undef), .is (undef), .is (undef), .is (undef), .is (undef), .is (undef), .is (undef), .is (undef), .is (undef), .is (undef), .is (undef), .is (undef), .is (.bool false), .is (.bool false)]
     (by kernel_rfl) (by kernel_rfl) (by kernel_rfl) (by kernel_rfl) rfl (by kernel_rfl) (fun _ h => h) (fun _ _ h hb => Below.then_ h hb) (fun _ _ _ h => h.elim) (fun _ _ _ _ _ _ h => h.elim) ?_ ?_
    ·refine ⟨?_, ?_, ?_, ?_, ?_, ?_, ?_, ?_, ?_, ?_, ?_, ?_, ?_, ?_, ?_, ?_, ?_, ?_, ?_, ?_, trivial⟩
     ·intro a w3 hA K hK
      have t5 := hA.own 19 5 _ rfl (by kernel_rfl) rfl
      go_simp
      exact hK _ _ rfl (Below.refl _ _)
     ·intro a w3 hA K hK
      have t32 := bg_is hA 0 32
      go_simp
      exact hK _ _ rfl (Below.refl _ _)
     ·exact rfl
     ·exact rfl
     ·exact rfl
     ·exact rfl
     ·exact rfl
     ·exact rfl
     ·exact rfl
     ·exact rfl
     ·exact rfl
     ·exact rfl
     ·exact rfl
     ·exact rfl
     ·exact rfl
     ·exact rfl
     ·exact rfl
     ·exact rfl
     ·intro a w3 hA K hK
      have t33 := bg_is hA 1 33
      have t49 := bg_is hA 17 49
      go_simp
      exact hK _ _ Pg.fi_ (Below.refl _ _)
     ·intro a w3 hA K hK
      have t50 := bg_is hA 18 50
      go_simp
      exact hK _ _ Pg.fi_ (Below.refl _ _)
    rintro vs w6 hV hb6 hlk act hact
    repeat (replace hV := hV.is_; obtain ⟨_, rfl, hV⟩ := hV)
    obtain rfl := hV.nil_
    clear hV
    clear hlk
    simp only [putsO] at hact
    subst hact
    go_simp
    go_wp2_with fail
    refine ⟨⟨j + 1, hlt, by go_num, by rw [HTa.out, ← HBa.out]; rfl, hid (HX.out.below hb6), hid (HV.out.below hb6), Below.then_ h5 hb6, Below.then_ hbr hb6⟩, ?_⟩
    simp [intOf]; omega
   ·rcases D1 with _ | _
    ·skip
     go_upto_region 8 with fail
     refine draw_G (fun _ _ => False) (fun W => Below wr.heap.size wr W) 20 none [some 32, some 33, some 34, some 35, some 36, some 37, some 38, some 39, some 40, some 41, some 42, some 43, some 44, some 45, some 46, some 47, some 48, some 49, some 50, some 5] [.is (.bool true), .is (.bool true), .is (.pointer (some ⟨w.heap.size + 1, 0, none⟩)), .is (.slice x.A0 x.n0 x.k0), .is (.slice (some ⟨b, o, none⟩) us.length k5), .is (.int .i64 (j : Int)), .is (.pointer (some ⟨b, o + j, none⟩)), .is (.string (str s)), .is (.bool false), .is (.bool false), .is (.pointer (some ⟨w.heap.size + 1, 1, none⟩)), .is (.slice x.A1 x.n1 x.k1), .is (.slice (some ⟨b, o, none⟩) us.length k5), .is (.int .i64 (j : Int)), .is (.pointer (some ⟨b, o + j, none⟩)), .is (.string (str s)), .is (.bool D2), .is (.bool D2), .is (.bool D2), .is (.bool D2)]
      (by kernel_rfl) (by kernel_rfl) (by kernel_rfl) (by kernel_rfl) rfl (by kernel_rfl) (fun _ h => h) (fun _ _ h hb => Below.then_ h hb) (fun _ _ _ h => h.elim) (fun _ _ _ _ _ _ h => h.elim) ?_ ?_
     ·refine ⟨?_, ?_, ?_, ?_, ?_, ?_, ?_, ?_, ?_, ?_, ?_, ?_, ?_, ?_, ?_, ?_, ?_, ?_, ?_, ?_, trivial⟩
      ·intro a w3 hA K hK
       have t5 := hA.own 19 5 _ rfl (by kernel_rfl) rfl
       go_simp
       exact hK _ _ rfl (Below.refl _ _)
      ·intro a w3 hA K hK
       have t32 := bg_is hA 0 32
       go_simp
       exact hK _ _ rfl (Below.refl _ _)
      ·intro a w3 hA K hK
       have t3 := hA.old 3 _ rfl rfl
       go_simp
       exact hK _ _ rfl (Below.refl _ _)
      ·intro a w3 hA K hK
       have t34 := bg_is hA 2 34
       have k0 := (HV.out.below hA.grown).cell 0 rfl
       go_simp
       exact hK _ _ rfl (Below.refl _ _)
      ·intro a w3 hA K hK
       have t6 := hA.old 6 _ rfl rfl
       go_simp
       exact hK _ _ rfl (Below.refl _ _)
      ·intro a w3 hA K hK
       have t7 := hA.old 7 _ rfl rfl
       go_simp
       exact hK _ _ rfl (Below.refl _ _)
      ·intro a w3 hA K hK
       have t36 := bg_is hA 4 36
       have t37 := bg_is hA 5 37
       go_simp
       exact hK _ _ Pg.fi_ (Below.refl _ _)
      ·intro a w3 hA K hK
       have t38 := bg_is hA 6 38
       have k0 : w3.cell? ⟨b, o + j, none⟩ = some (.string (str s)) := (HCs.out.below ltb hA.grown).at_ 0 rfl
       go_simp
       exact hK _ _ rfl (Below.refl _ _)
      ·intro a w3 hA K hK
       have t35 := bg_is hA 3 35
       have t39 := bg_is hA 7 39
       have hC := HA1.out w3 (Below.then_ hbr hA.grown)
       go_simp
       refine hC.mono ?_
       rintro e w4 ⟨rfl, hb⟩
       exact hK _ _ rfl hb
      ·intro a w3 hA K hK
       have t40 := bg_is hA 8 40
       go_simp
       exact hK _ _ rfl (Below.refl _ _)
      ·intro a w3 hA K hK
       have t3 := hA.old 3 _ rfl rfl
       go_simp
       exact hK _ _ rfl (Below.refl _ _)
      ·intro a w3 hA K hK
       have t42 := bg_is hA 10 42
       have k0 := (HV.out.below hA.grown).cell 1 rfl
       go_simp
       exact hK _ _ rfl (Below.refl _ _)
      ·intro a w3 hA K hK
       have t6 := hA.old 6 _ rfl rfl
       go_simp
       exact hK _ _ rfl (Below.refl _ _)
      ·intro a w3 hA K hK
       have t7 := hA.old 7 _ rfl rfl
       go_simp
       exact hK _ _ rfl (Below.refl _ _)
      ·intro a w3 hA K hK
       have t44 := bg_is hA 12 44
       have t45 := bg_is hA 13 45
       go_simp
       exact hK _ _ Pg.fi_ (Below.refl _ _)
      ·intro a w3 hA K hK
       have t46 := bg_is hA 14 46
       have k0 : w3.cell? ⟨b, o + j, none⟩ = some (.string (str s)) := (HCs.out.below ltb hA.grown).at_ 0 rfl
       go_simp
       exact hK _ _ rfl (Below.refl _ _)
      ·intro a w3 hA K hK
       have t43 := bg_is hA 11 43
       have t47 := bg_is hA 15 47
       have hC := HA2.out w3 (Below.then_ hbr hA.grown)
       go_simp
       refine hC.mono ?_
       rintro e w4 ⟨rfl, hb⟩
       exact hK _ _ rfl hb
      ·intro a w3 hA K hK
       have t41 := bg_is hA 9 41
       have t48 := bg_is hA 16 48
       go_simp
       exact hK _ _ Pg.fi_ (Below.refl _ _)
      ·intro a w3 hA K hK
       have t33 := bg_is hA 1 33
       have t49 := bg_is hA 17 49
       go_simp
       exact hK _ _ Pg.fi_ (Below.refl _ _)
      ·intro a w3 hA K hK
       have t50 := bg_is hA 18 50
       go_simp
       exact hK _ _ Pg.fi_ (Below.refl _ _)
     rintro vs w6 hV hb6 hlk act hact
     repeat (replace hV := hV.is_; obtain ⟨_, rfl, hV⟩ := hV)
     obtain rfl := hV.nil_
     clear hV
     clear hlk
     simp only [putsO] at hact
     subst hact
     go_simp
     go_wp2_with fail
     refine ⟨⟨j + 1, hlt, by go_num, by rw [HTa.out, ← HBa.out]; rfl, hid (HX.out.below hb6), hid (HV.out.below hb6), Below.then_ h5 hb6, Below.then_ hbr hb6⟩, ?_⟩
     simp [intOf]; omega
    ·skip
     go_upto_region 8 with fail
     refine draw_G (fun _ _ => False) (fun W => Below wr.heap.size wr W) 20 none [some 32, some 33, some 34, some 35, some 36, some 37, some 38, some 39, some 40, some 41, some 42, some 43, some 44, some 45, some 46, some 47, some 48, some 49, some 50, some 5] [.is (.bool true), .is (.bool true), .is (.pointer (some ⟨w.heap.size + 1, 0, none⟩)), .is (.slice x.A0 x.n0 x.k0), .is (.slice (some ⟨b, o, none⟩) us.length k5), .is (.int .i64 (j : Int)), .is (.pointer (some ⟨b, o + j, none⟩)), .is (.string (str s)), .is (.bool true), .is (.bool true), .is (undef), .is (undef), .is (undef), .is (undef), .is (undef), .is (undef), .is (undef), .is (.bool true), .is (.bool true), .is (.bool true)]
      (by kernel_rfl) (by kernel_rfl) (by kernel_rfl) (by kernel_rfl) rfl (by kernel_rfl) (fun _ h => h) (fun _ _ h hb => Below.then_ h hb) (fun _ _ _ h => h.elim) (fun _ _ _ _ _ _ h => h.elim) ?_ ?_
     ·refine ⟨?_, ?_, ?_, ?_, ?_, ?_, ?_, ?_, ?_, ?_, ?_, ?_, ?_, ?_, ?_, ?_, ?_, ?_, ?_, ?_, trivial⟩
      ·intro a w3 hA K hK
       have t5 := hA.own 19 5 _ rfl (by kernel_rfl) rfl
       go_simp
       exact hK _ _ rfl (Below.refl _ _)
      ·intro a w3 hA K hK
       have t32 := bg_is hA 0 32
       go_simp
       exact hK _ _ rfl (Below.refl _ _)
      ·intro a w3 hA K hK
       have t3 := hA.old 3 _ rfl rfl
       go_simp
       exact hK _ _ rfl (Below.refl _ _)
      ·intro a w3 hA K hK
       have t34 := bg_is hA 2 34
       have k0 := (HV.out.below hA.grown).cell 0 rfl
       go_simp
       exact hK _ _ rfl (Below.refl _ _)
      ·intro a w3 hA K hK
       have t6 := hA.old 6 _ rfl rfl
       go_simp
       exact hK _ _ rfl (Below.refl _ _)
      ·intro a w3 hA K hK
       have t7 := hA.old 7 _ rfl rfl
       go_simp
       exact hK _ _ rfl (Below.refl _ _)
      ·intro a w3 hA K hK
       have t36 := bg_is hA 4 36
       have t37 := bg_is hA 5 37
       go_simp
       exact hK _ _ Pg.fi_ (Below.refl _ _)
      ·intro a w3 hA K hK
       have t38 := bg_is hA 6 38
       have k0 : w3.cell? ⟨b, o + j, none⟩ = some (.string (str s)) := (HCs.out.below ltb hA.grown).at_ 0 rfl
       go_simp
       exact hK _ _ rfl (Below.refl _ _)
      ·intro a w3 hA K hK
       have t35 := bg_is hA 3 35
       have t39 := bg_is hA 7 39
       have hC := HA1.out w3 (Below.then_ hbr hA.grown)
       go_simp
       refine hC.mono ?_
       rintro e w4 ⟨rfl, hb⟩
       exact hK _ _ rfl hb
      ·intro a w3 hA K hK
       have t40 := bg_is hA 8 40
       go_simp
       exact hK _ _ rfl (Below.refl _ _)
      ·exact rfl
      ·exact rfl
      ·exact rfl
      ·exact rfl
      ·exact rfl
      ·exact rfl
      ·exact rfl
      ·intro a w3 hA K hK
       have t41 := bg_is hA 9 41
       have t48 := bg_is hA 16 48
       go_simp
       exact hK _ _ Pg.fi_ (Below.refl _ _)
      ·intro a w3 hA K hK
       have t33 := bg_is hA 1 33
       have t49 := bg_is hA 17 49
       go_simp
       exact hK _ _ Pg.fi_ (Below.refl _ _)
      ·intro a w3 hA K hK
       have t50 := bg_is hA 18 50
       go_simp
       exact hK _ _ Pg.fi_ (Below.refl _ _)
     rintro vs w6 hV hb6 hlk act hact
     repeat (replace hV := hV.is_; obtain ⟨_, rfl, hV⟩ := hV)
     obtain rfl := hV.nil_
     clear hV
     clear hlk
     simp only [putsO] at hact
     subst hact
     go_simp
     go_wp2_with fail
     refine ⟨⟨j + 1, hlt, by go_num, by rw [HTa.out, ← HBa.out]; rfl, hid (HX.out.below hb6), hid (HV.out.below hb6), Below.then_ h5 hb6, Below.then_ hbr hb6⟩, ?_⟩
     simp [intOf]; omega
  ·obtain rfl : j = us.length := by omega
   rw [List.take_length] at hBa
   obtain ⟨e, he, hne, hXe, hYe⟩ := HXX.out (by omega) (by first | exact rfl | trivial)
   obtain ⟨b0', h0⟩ : ∃ b, ((errOf X : Int) != 0) = b := ⟨_, rfl⟩
   obtain ⟨b5, h5'⟩ : ∃ b, ((errOf X : Int) == 5) = b := ⟨_, rfl⟩
   obtain ⟨b6, h6⟩ : ∃ b, ((errOf X : Int) != 6) = b := ⟨_, rfl⟩
   obtain ⟨b7, h7⟩ : ∃ b, ((errOf X : Int) != 7) = b := ⟨_, rfl⟩
   obtain ⟨c5', g5⟩ : ∃ b, ((errOf Y : Int) != 5) = b := ⟨_, rfl⟩
   have hlaw := names_law (fun s => by rw [← hne]; exact HM5.out s) hXe hYe hBa h0 h5' h6 h7 g5
   have a0 := HX.out.cell 0 rfl
   have a1 := HX.out.cell 1 rfl
   have a2 := HX.out.cell 2 rfl
   have a3 := HX.out.cell 3 rfl
   have a4 := HX.out.cell 4 rfl
   have a5 := HX.out.cell 5 rfl
   have b0 := HV.out.cell 0 rfl
   have b1 := HV.out.cell 1 rfl
   have b2 := HV.out.cell 2 rfl
   clear he hne hXe hYe hBa HXX HM5 HS5
   rcases hlaw with ⟨rfl, rfl, rfl, rfl, rfl, rfl⟩ | ⟨rfl, rfl, rfl, k6, k7, rfl⟩ | ⟨rfl, rfl, rfl, k6, k7⟩ | ⟨rfl, rfl, rfl, rfl, rfl⟩
   all_goals try (cases b6 <;> cases b7 <;> first | exact absurd k6 (by decide) | exact absurd k7 (by decide) | clear k6 k7)
   all_goals (go_wp2_with (first
   | (go_at_call 11; (with_reducible refine (HO.out _ hbr hwt hlx hnx).mono ?_); rintro e w6 ⟨v4, rfl, hv4, hb6⟩; obtain ⟨T4, n4, m4, y4, rfl, _⟩ := hv4.cv; have h6 := Below.then_ hbr hb6; have HXa := hid ((HX.out.below hb6).alloc (.cells #[.int .i64 (conOf X).s, .slice T4 n4 m4, .bool y4.s, .slice y4.A y4.n y4.c, .slice y4.A' y4.n' y4.c'] 36)); have HVa := hid ((HV.out.below hb6).alloc (.cells #[.int .i64 (conOf X).s, .slice T4 n4 m4, .bool y4.s, .slice y4.A y4.n y4.c, .slice y4.A' y4.n' y4.c'] 36)); have hwa := h6.trans ((Below.new_ (Below.refl _ _) (.cells #[.int .i64 (conOf X).s, .slice T4 n4 m4, .bool y4.s, .slice y4.A y4.n y4.c, .slice y4.A' y4.n' y4.c'] 36)).mono h6.size); clear hv4; clear a0 a1 a2 a3 a4 a5 b0 b1 b2; have a0 := HXa.out.cell 0 rfl; have a1 := HXa.out.cell 1 rfl; have a2 := HXa.out.cell 2 rfl; have a3 := HXa.out.cell 3 rfl; have a4 := HXa.out.cell 4 rfl; have a5 := HXa.out.cell 5 rfl; have b0 := HVa.out.cell 0 rfl; have b1 := HVa.out.cell 1 rfl; have b2 := HVa.out.cell 2 rfl)
   | (go_at_call 28; (with_reducible refine (HU.out _ hwa hwt hlx).mono ?_); rintro e w7 ⟨y5, rfl, _, hb7⟩; have h7 := Below.then_ hwa hb7; have hwb := h7.trans ((Below.new_ (Below.refl _ _) (.cells #[.bool y5.s, .slice y5.A y5.n y5.c, .slice y5.A' y5.n' y5.c'] 24)).mono h7.size))
   | (go_at_call 14; (with_reducible refine (known8_any _).mono ?_); rintro e w8 ⟨rfl, hb8⟩; have hw8 : Below w.heap.size w w8 := Below.then_ hwb hb8)))
   all_goals go_ret
   all_goals exact ⟨by rfl, hw8⟩
end Go.Proofs.YtahdlpkncemmaaaGreat
