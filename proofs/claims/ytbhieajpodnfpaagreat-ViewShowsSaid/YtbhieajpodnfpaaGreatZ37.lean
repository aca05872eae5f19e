/- Walk: pantographlaw19.heavy. Conditions: those that each theorem names. -/
import Derived.Test.YtbhieajpodnfpaaGreatZ34
import Derived.Test.YtbhieajpodnfpaaGreatZ15
import Derived.Deep.CutBlock
namespace Go.Proofs.YtbhieajpodnfpaaGreat
open Go.RowKit Pg
theorem take_small {α : Type} {f : α → Nat} {B : Nat} {l : List α} {k : Nat} {x : α} (h : ∀ y ∈ l.take k, f y ≤ B) (hx : l[k]? = some x) (h1 : f x ≤ B) : ∀ y ∈ l.take (k + 1), f y ≤ B := by
  intro y hy
  rw [List.take_add_one, hx] at hy
  rcases List.mem_append.1 hy with h3 | h3
  · exact h y h3
  · simp at h3; subst h3; exact h1
/-- A whole number within bounds. -/
def IntIn (lo hi : Int) : World → Value → Prop := fun _ v => ∃ r : Int, v = .int .i64 r ∧ lo ≤ r ∧ r ≤ hi
/-- What a form is that is not heavy. -/
structure Light (sw : List (List UInt8 × Bool)) (pa : List Par) (pg : List (List UInt8 × List UInt8)) (fl : List Fld) (ru : List Rul) (ck : List Chk) : Prop where
  few : sw.length + pa.length + pg.length + fl.length + ru.length + ck.length ≤ 30
def HeavyRet (w : World) (light : Prop) (e : Ending) (w' : World) : Prop := ∃ b : Bool, e = .returned (.bool b) ∧ (b = false → light) ∧ Below w.heap.size w w'
set_option maxRecDepth 100000 in
set_option maxHeartbeats 16000000 in
theorem heavy19_any (w : World) (SA PA GA FA RA CA : Option Addr) (sn sc pn pc gn gc fn fc rn rc cn cc : Nat) (sw : List (List UInt8 × Bool)) (pa : List Par) (pg : List (List UInt8 × List UInt8)) (fl : List Fld) (ru : List Rul) (ck : List Chk) (hF : FormRead w SA PA GA FA RA CA sn sc pn pc gn gc fn fc rn rc cn cc sw pa pg fl ru ck) :
    Calls Tryz.prog 4 #[.agg #[.slice SA sn sc, .slice PA pn pc, .slice GA gn gc, .slice FA fn fc, .slice RA rn rc, .slice CA cn cc]] w (HeavyRet w (Light sw pa pg fl ru ck)) := by
  have HF := hid hF
  obtain ⟨⟨s1, s2, s3, s4, s5, s6⟩, ⟨p1, p2, p3, p4, p5, p6⟩, ⟨g1, g2, g3, g4, g5, g6⟩, ⟨f1, f2, f3, f4, f5, f6⟩, ⟨r1, r2, r3, r4, r5, r6⟩, ⟨c1, c2, c3, c4, c5, c6⟩⟩ := hF
  have HB := hid (B6n.newg w 29 (.slice SA sn sc) (.slice PA pn pc) (.slice GA gn gc) (.slice FA fn fc) (.slice RA rn rc) (.slice CA cn cc) _ rfl)
  have HLen := hid (show sw.length = sn ∧ pa.length = pn ∧ pg.length = gn ∧ fl.length = fn ∧ ru.length = rn ∧ ck.length = cn from ⟨s1, p1, g1, f1, r1, c1⟩)
  clear s6 p6 g6 f6 r6 c6 s5 p5 g5 f5 r5 c5 s4 p4 g4 f4 r4 c4 s1 p1 g1 f1 r1 c1
  go_enter Tryz.func4, Tryz.ntmps4
  go_upto_block 0 with fail
  go_cut [3, 4] from 35 to 74 (fun s i wr => ∃ (k : Nat) (L1 : Int), i = .int .i64 k ∧ s = .int .i64 L1 ∧ -18014398509481984 ≤ L1 ∧ L1 ≤ 600 - 20 * ((sn : Int) + pn + gn + fn + rn + cn) ∧ Below w.heap.size w wr ∧ Hid (B6n wr w.heap.size 29 (.slice SA sn sc) (.slice PA pn pc) (.slice GA gn gc) (.slice FA fn fc) (.slice RA rn rc) (.slice CA cn cc)))
  case first =>
    go_wp2_with fail
    go_loopw [3, 4] (fun s i wr => ∃ (k : Nat) (L1 : Int), k ≤ pn ∧ i = .int .i64 k ∧ s = .int .i64 L1 ∧ -18014398509481984 ≤ L1 ∧ L1 ≤ 600 - 20 * ((sn : Int) + pn + gn + fn + rn + cn) ∧ Below w.heap.size w wr ∧ Hid (B6n wr w.heap.size 29 (.slice SA sn sc) (.slice PA pn pc) (.slice GA gn gc) (.slice FA fn fc) (.slice RA rn rc) (.slice CA cn cc))) (fun _ i _ => pn - (intOf i).toNat)
    case atStart => exact ⟨0, _, Nat.zero_le _, rfl, rfl, by omega, by omega, (by repeat first | exact Below.refl _ _ | assumption | refine Pg.Below.then_ ?_ (by assumption) | refine Pg.Below.new_ ?_ _ | refine Pg.Below.drewN_ ?_ _), HB⟩
    case round =>
      obtain ⟨k, L, hk, rfl, rfl, hL1, hL2, hb, HW⟩ := hrel
      obtain ⟨k0, k1, k2, k3, k4, k5⟩ := HW.out.cells
      by_cases hlt : k < pn
      · by_cases hL : 0 ≤ L
        · have hS := (HF.out.below hb).pa
          obtain ⟨q1, _, _, _, _, q6⟩ := hS
          obtain ⟨b', o', rfl, hb', hx'⟩ := q6 (by omega)
          obtain ⟨x, hx⟩ : ∃ x, pa[k]? = some x := ⟨pa[k]'(by omega), List.getElem?_eq_getElem _⟩
          obtain ⟨hca, hnm, ⟨_, _, _, _, l1, l2, _⟩⟩ := hx' k x hx
          have c0 : wr.cell? ⟨b', o' + k * 4, none⟩ = some (.string (str x.name)) := hca.at_ 0 rfl
          have c1 := hca.at_ 1 rfl
          have c2 := hca.at_ 2 rfl
          have c3 := hca.at_ 3 rfl
          have sz : (str x.name).size = x.name.length := str_size _
          clear hx' q6 hca HF
          have w1 : IntKind.i64.wrap (L - 8 * (x.h.n : Int)) = L - 8 * (x.h.n : Int) := by rw [IntKind.wrap_i64]; omega
          have w2 : IntKind.i64.wrap (L - 8 * (x.h.n : Int) - 8 * (x.h.n' : Int)) = L - 8 * (x.h.n : Int) - 8 * (x.h.n' : Int) := by rw [IntKind.wrap_i64]; omega
          have w3 : IntKind.i64.wrap (L - 8 * (x.h.n : Int) - 8 * (x.h.n' : Int) - (x.name.length : Int)) = L - 8 * (x.h.n : Int) - 8 * (x.h.n' : Int) - (x.name.length : Int) := by rw [IntKind.wrap_i64]; omega
          go_upto_region 5 with fail
          go_quiet (fail)
          go_wp2_with fail
          refine ⟨⟨k + 1, L - 8 * (x.h.n : Int) - 8 * (x.h.n' : Int) - (x.name.length : Int), hlt, by go_num, ?_, by omega, by omega, (by repeat first | exact Below.refl _ _ | assumption | refine Pg.Below.then_ ?_ (by assumption) | refine Pg.Below.new_ ?_ _ | refine Pg.Below.drewN_ ?_ _), hid (by have := HW.out; first | exact this | exact this.below (by assumption))⟩, ?_⟩
          · first | rfl | simp [sz] | (simp [sz]; go_num)
          · simp [intOf]; omega
        · go_wp2_with fail
          go_meet
          exact ⟨k, L, rfl, rfl, hL1, hL2, hb, HW⟩
      · go_wp2_with fail
        go_meet
        exact ⟨k, L, rfl, rfl, hL1, hL2, hb, HW⟩
  case rest =>
  obtain ⟨i1, L1, rfl, rfl, hl1, hu1, hb1, HW1⟩ := hcut
  go_upto_block 2 with fail
  go_cut [3, 5] from 75 to 94 (fun s i wr => ∃ (k : Nat) (L2 : Int), i = .int .i64 k ∧ s = .int .i64 L2 ∧ -18014398509481984 ≤ L2 ∧ L2 ≤ L1 ∧ Below w.heap.size w wr ∧ Hid (B6n wr w.heap.size 29 (.slice SA sn sc) (.slice PA pn pc) (.slice GA gn gc) (.slice FA fn fc) (.slice RA rn rc) (.slice CA cn cc)))
  case first =>
    go_wp2_with fail
    go_loopw [3, 5] (fun s i wr => ∃ (k : Nat) (L2 : Int), k ≤ sn ∧ i = .int .i64 k ∧ s = .int .i64 L2 ∧ -18014398509481984 ≤ L2 ∧ L2 ≤ L1 ∧ Below w.heap.size w wr ∧ Hid (B6n wr w.heap.size 29 (.slice SA sn sc) (.slice PA pn pc) (.slice GA gn gc) (.slice FA fn fc) (.slice RA rn rc) (.slice CA cn cc))) (fun _ i _ => sn - (intOf i).toNat)
    case atStart => exact ⟨0, _, Nat.zero_le _, rfl, rfl, by omega, by omega, hb1, HW1⟩
    case round =>
      obtain ⟨k, L, hk, rfl, rfl, hL1, hL2, hb, HW⟩ := hrel
      obtain ⟨k0, k1, k2, k3, k4, k5⟩ := HW.out.cells
      by_cases hlt : k < sn
      · by_cases hL : 0 ≤ L
        · have hS := (HF.out.below hb).sw
          obtain ⟨q1, _, _, _, _, q6⟩ := hS
          obtain ⟨b', o', rfl, hb', hx'⟩ := q6 (by omega)
          obtain ⟨x, hx⟩ : ∃ x, sw[k]? = some x := ⟨sw[k]'(by omega), List.getElem?_eq_getElem _⟩
          obtain ⟨hca, hnm⟩ := hx' k x hx
          have c0 : wr.cell? ⟨b', o' + k * 2, none⟩ = some (.string (str x.1)) := hca.at_ 0 rfl
          have sz : (str x.1).size = x.1.length := str_size _
          clear hx' q6 hca HF
          have w4 : IntKind.i64.wrap (L - (x.1.length : Int)) = L - (x.1.length : Int) := by rw [IntKind.wrap_i64]; omega
          go_wp2_with fail
          refine ⟨⟨k + 1, L - (x.1.length : Int), hlt, by go_num, ?_, by omega, by omega, (by repeat first | exact Below.refl _ _ | assumption | refine Pg.Below.then_ ?_ (by assumption) | refine Pg.Below.new_ ?_ _ | refine Pg.Below.drewN_ ?_ _), hid (by have := HW.out; first | exact this | exact this.below (by assumption))⟩, ?_⟩
          · first | rfl | simp [sz] | (simp [sz]; go_num)
          · simp [intOf]; omega
        · go_wp2_with fail
          go_meet
          exact ⟨k, L, rfl, rfl, hL1, hL2, hb, HW⟩
      · go_wp2_with fail
        go_meet
        exact ⟨k, L, rfl, rfl, hL1, hL2, hb, HW⟩
  case rest =>
  obtain ⟨i2, L2, rfl, rfl, hl2, hu2, hb2, HW2⟩ := hcut
  go_upto_block 4 with fail
  go_cut [3, 6] from 95 to 122 (fun s i wr => ∃ (k : Nat) (L3 : Int), i = .int .i64 k ∧ s = .int .i64 L3 ∧ -18014398509481984 ≤ L3 ∧ L3 ≤ L2 ∧ Below w.heap.size w wr ∧ Hid (B6n wr w.heap.size 29 (.slice SA sn sc) (.slice PA pn pc) (.slice GA gn gc) (.slice FA fn fc) (.slice RA rn rc) (.slice CA cn cc)))
  case first =>
    go_wp2_with fail
    go_loopw [3, 6] (fun s i wr => ∃ (k : Nat) (L3 : Int), k ≤ gn ∧ i = .int .i64 k ∧ s = .int .i64 L3 ∧ -18014398509481984 ≤ L3 ∧ L3 ≤ L2 ∧ Below w.heap.size w wr ∧ Hid (B6n wr w.heap.size 29 (.slice SA sn sc) (.slice PA pn pc) (.slice GA gn gc) (.slice FA fn fc) (.slice RA rn rc) (.slice CA cn cc))) (fun _ i _ => gn - (intOf i).toNat)
    case atStart => exact ⟨0, _, Nat.zero_le _, rfl, rfl, by omega, by omega, hb2, HW2⟩
    case round =>
      obtain ⟨k, L, hk, rfl, rfl, hL1, hL2, hb, HW⟩ := hrel
      obtain ⟨k0, k1, k2, k3, k4, k5⟩ := HW.out.cells
      by_cases hlt : k < gn
      · by_cases hL : 0 ≤ L
        · have hS := (HF.out.below hb).pg
          obtain ⟨q1, _, _, _, _, q6⟩ := hS
          obtain ⟨b', o', rfl, hb', hx'⟩ := q6 (by omega)
          obtain ⟨x, hx⟩ : ∃ x, pg[k]? = some x := ⟨pg[k]'(by omega), List.getElem?_eq_getElem _⟩
          obtain ⟨hca, hnm, hnm2⟩ := hx' k x hx
          have c0 : wr.cell? ⟨b', o' + k * 2, none⟩ = some (.string (str x.1)) := hca.at_ 0 rfl
          have c1 := hca.at_ 1 rfl
          have sz : (str x.1).size = x.1.length := str_size _
          have sz2 : (str x.2).size = x.2.length := str_size _
          clear hx' q6 hca HF
          have w5 : IntKind.i64.wrap (L - (x.1.length : Int)) = L - (x.1.length : Int) := by rw [IntKind.wrap_i64]; omega
          have w6 : IntKind.i64.wrap (L - (x.1.length : Int) - (x.2.length : Int)) = L - (x.1.length : Int) - (x.2.length : Int) := by rw [IntKind.wrap_i64]; omega
          go_upto_region 13 with fail
          go_quiet (fail)
          go_wp2_with fail
          refine ⟨⟨k + 1, L - (x.1.length : Int) - (x.2.length : Int), hlt, by go_num, ?_, by omega, by omega, (by repeat first | exact Below.refl _ _ | assumption | refine Pg.Below.then_ ?_ (by assumption) | refine Pg.Below.new_ ?_ _ | refine Pg.Below.drewN_ ?_ _), hid (by have := HW.out; first | exact this | exact this.below (by assumption))⟩, ?_⟩
          · first | rfl | simp [sz, sz2] | (simp [sz, sz2]; go_num)
          · simp [intOf]; omega
        · go_wp2_with fail
          go_meet
          exact ⟨k, L, rfl, rfl, hL1, hL2, hb, HW⟩
      · go_wp2_with fail
        go_meet
        exact ⟨k, L, rfl, rfl, hL1, hL2, hb, HW⟩
  case rest =>
  obtain ⟨i3, L3, rfl, rfl, hl3, hu3, hb3, HW3⟩ := hcut
  go_upto_block 6 with fail
  go_cut [3, 7] from 123 to 142 (fun s i wr => ∃ (k : Nat) (L4 : Int), i = .int .i64 k ∧ s = .int .i64 L4 ∧ -18014398509481984 ≤ L4 ∧ L4 ≤ L3 ∧ Below w.heap.size w wr ∧ Hid (B6n wr w.heap.size 29 (.slice SA sn sc) (.slice PA pn pc) (.slice GA gn gc) (.slice FA fn fc) (.slice RA rn rc) (.slice CA cn cc)))
  case first =>
    go_wp2_with fail
    go_loopw [3, 7] (fun s i wr => ∃ (k : Nat) (L4 : Int), k ≤ fn ∧ i = .int .i64 k ∧ s = .int .i64 L4 ∧ -18014398509481984 ≤ L4 ∧ L4 ≤ L3 ∧ Below w.heap.size w wr ∧ Hid (B6n wr w.heap.size 29 (.slice SA sn sc) (.slice PA pn pc) (.slice GA gn gc) (.slice FA fn fc) (.slice RA rn rc) (.slice CA cn cc))) (fun _ i _ => fn - (intOf i).toNat)
    case atStart => exact ⟨0, _, Nat.zero_le _, rfl, rfl, by omega, by omega, hb3, HW3⟩
    case round =>
      obtain ⟨k, L, hk, rfl, rfl, hL1, hL2, hb, HW⟩ := hrel
      obtain ⟨k0, k1, k2, k3, k4, k5⟩ := HW.out.cells
      by_cases hlt : k < fn
      · by_cases hL : 0 ≤ L
        · have hS := (HF.out.below hb).fl
          obtain ⟨q1, _, _, _, _, q6⟩ := hS
          obtain ⟨b', o', rfl, hb', hx'⟩ := q6 (by omega)
          obtain ⟨x, hx⟩ : ∃ x, fl[k]? = some x := ⟨fl[k]'(by omega), List.getElem?_eq_getElem _⟩
          obtain ⟨hca, hnm⟩ := hx' k x hx
          have c0 : wr.cell? ⟨b', o' + k * 4, none⟩ = some (.string (str x.name)) := hca.at_ 0 rfl
          have sz : (str x.name).size = x.name.length := str_size _
          clear hx' q6 hca HF
          have w7 : IntKind.i64.wrap (L - (x.name.length : Int)) = L - (x.name.length : Int) := by rw [IntKind.wrap_i64]; omega
          go_wp2_with fail
          refine ⟨⟨k + 1, L - (x.name.length : Int), hlt, by go_num, ?_, by omega, by omega, (by repeat first | exact Below.refl _ _ | assumption | refine Pg.Below.then_ ?_ (by assumption) | refine Pg.Below.new_ ?_ _ | refine Pg.Below.drewN_ ?_ _), hid (by have := HW.out; first | exact this | exact this.below (by assumption))⟩, ?_⟩
          · first | rfl | simp [sz] | (simp [sz]; go_num)
          · simp [intOf]; omega
        · go_wp2_with fail
          go_meet
          exact ⟨k, L, rfl, rfl, hL1, hL2, hb, HW⟩
      · go_wp2_with fail
        go_meet
        exact ⟨k, L, rfl, rfl, hL1, hL2, hb, HW⟩
  case rest =>
  obtain ⟨i4, L4, rfl, rfl, hl4, hu4, hb4, HW4⟩ := hcut
  go_upto_block 8 with fail
  go_cut [3, 8] from 143 to 184 (fun s i wr => ∃ (k : Nat) (L5 : Int), i = .int .i64 k ∧ s = .int .i64 L5 ∧ -18014398509481984 ≤ L5 ∧ L5 ≤ L4 ∧ Below w.heap.size w wr ∧ Hid (B6n wr w.heap.size 29 (.slice SA sn sc) (.slice PA pn pc) (.slice GA gn gc) (.slice FA fn fc) (.slice RA rn rc) (.slice CA cn cc)))
  case first =>
    go_wp2_with fail
    go_loopw [3, 8] (fun s i wr => ∃ (k : Nat) (L5 : Int), k ≤ rn ∧ i = .int .i64 k ∧ s = .int .i64 L5 ∧ -18014398509481984 ≤ L5 ∧ L5 ≤ L4 ∧ Below w.heap.size w wr ∧ Hid (B6n wr w.heap.size 29 (.slice SA sn sc) (.slice PA pn pc) (.slice GA gn gc) (.slice FA fn fc) (.slice RA rn rc) (.slice CA cn cc))) (fun _ i _ => rn - (intOf i).toNat)
    case atStart => exact ⟨0, _, Nat.zero_le _, rfl, rfl, by omega, by omega, hb4, HW4⟩
    case round =>
      obtain ⟨k, L, hk, rfl, rfl, hL1, hL2, hb, HW⟩ := hrel
      obtain ⟨k0, k1, k2, k3, k4, k5⟩ := HW.out.cells
      by_cases hlt : k < rn
      · by_cases hL : 0 ≤ L
        · have hS := (HF.out.below hb).ru
          obtain ⟨q1, _, _, _, _, q6⟩ := hS
          obtain ⟨b', o', rfl, hb', hx'⟩ := q6 (by omega)
          obtain ⟨x, hx⟩ : ∃ x, ru[k]? = some x := ⟨ru[k]'(by omega), List.getElem?_eq_getElem _⟩
          obtain ⟨nm, st, wh, ⟨kL, hL, qL, nL, KL, knL, kcL, kdL⟩, ⟨kR, hR, qR, nR, KR, knR, kcR, kdR⟩⟩ := x
          obtain ⟨hca, hnm, hnm2, hAL, hAR⟩ := hx' k _ hx
          have sz : (str nm).size = nm.length := str_size _
          have sz2 : (str wh).size = wh.length := str_size _
          have HL := hid hAL
          have HR := hid hAR
          have HC := hid hca
          have HBL := hid hb'
          simp only at hnm hnm2
          clear hx' q6 hca hAL hAR hx HF q1
          go_upto_region 21 with fail
          refine draw_asg [154, 155, 156, 157, 158, 159, 160, 161, 162, 163, 164, 165, 166, 167, 168, 169, 170, 171, 172, 173, 174, 175, 176, 177, 178, 179, 180, 181, 182, 183, 184] [.is (.pointer (some ⟨w.heap.size, 4, none⟩)), .is (.slice (some ⟨b', o', none⟩) rn rc), .is (.int .i64 (k : Int)), .is (.pointer (some ⟨b', o' + k * 15, none⟩)), .is (.pointer (some ⟨b', o' + k * 15 + 9, none⟩)), .is (.agg #[.int .i64 kR, .bool hR.s, .slice hR.A hR.n hR.c, .slice hR.A' hR.n' hR.c', .string (str nR), .slice KR knR kcR]), .is (.pointer (some ⟨w.heap.size, 4, none⟩)), .is (.slice (some ⟨b', o', none⟩) rn rc), .is (.int .i64 (k : Int)), .is (.pointer (some ⟨b', o' + k * 15, none⟩)), .is (.pointer (some ⟨b', o' + k * 15 + 3, none⟩)), .is (.agg #[.int .i64 kL, .bool hL.s, .slice hL.A hL.n hL.c, .slice hL.A' hL.n' hL.c', .string (str nL), .slice KL knL kcL]), .is (.int .i64 L), .is (.pointer (some ⟨w.heap.size, 4, none⟩)), .is (.slice (some ⟨b', o', none⟩) rn rc), .is (.int .i64 (k : Int)), .is (.pointer (some ⟨b', o' + k * 15, none⟩)), .is (.pointer (some ⟨b', o' + k * 15, none⟩)), .is (.string (str nm)), .is (.int .i64 (nm.length : Int)), .is (.int .i64 (L - (nm.length : Int))), .is (.pointer (some ⟨w.heap.size, 4, none⟩)), .is (.slice (some ⟨b', o', none⟩) rn rc), .is (.int .i64 (k : Int)), .is (.pointer (some ⟨b', o' + k * 15, none⟩)), .is (.pointer (some ⟨b', o' + k * 15 + 2, none⟩)), .is (.string (str wh)), .is (.int .i64 (wh.length : Int)), .is (.int .i64 (L - (nm.length : Int) - (wh.length : Int))), .such (IntIn (-9007199254740992) (L - (nm.length : Int) - (wh.length : Int))), .such (IntIn (-18014398509481984) (L - (nm.length : Int) - (wh.length : Int)))] 3 30
            (by kernel_rfl) (by kernel_rfl) (by kernel_rfl) (by decide) (by kernel_rfl) (by kernel_rfl) (by kernel_rfl) rfl rfl ?_ ?_
          · refine ⟨?_, ?_, ?_, ?_, ?_, ?_, ?_, ?_, ?_, ?_, ?_, ?_, ?_, ?_, ?_, ?_, ?_, ?_, ?_, ?_, ?_, ?_, ?_, ?_, ?_, ?_, ?_, ?_, ?_, ?_, ?_, trivial⟩
            · intro a w3 hA K hK
              have t1 := hA.old 1 _ rfl rfl
              go_simp
              exact hK _ _ (by first | rfl | exact congrArg _ (by first | rfl | omega | (rw [IntKind.wrap_i64]; omega))) (Below.refl _ _)
            · intro a w3 hA K hK
              have t154 := bt_is hA 0 154 rfl rfl (by kernel_rfl)
              obtain ⟨k0, k1, k2, k3, k4, k5⟩ := (HW.out.below hA.below).cells
              go_simp
              exact hK _ _ (by first | rfl | exact congrArg _ (by first | rfl | omega | (rw [IntKind.wrap_i64]; omega))) (Below.refl _ _)
            · intro a w3 hA K hK
              have t8 := hA.old 8 _ rfl rfl
              go_simp
              exact hK _ _ (by first | rfl | exact congrArg _ (by first | rfl | omega | (rw [IntKind.wrap_i64]; omega))) (Below.refl _ _)
            · intro a w3 hA K hK
              have t155 := bt_is hA 1 155 rfl rfl (by kernel_rfl)
              have t156 := bt_is hA 2 156 rfl rfl (by kernel_rfl)
              go_simp
              exact hK _ _ (by first | rfl | exact congrArg _ (by first | rfl | omega | (rw [IntKind.wrap_i64]; omega))) (Below.refl _ _)
            · intro a w3 hA K hK
              have t157 := bt_is hA 3 157 rfl rfl (by kernel_rfl)
              go_simp
              exact hK _ _ (by first | rfl | exact congrArg _ (by first | rfl | omega | (rw [IntKind.wrap_i64]; omega))) (Below.refl _ _)
            · intro a w3 hA K hK
              have t158 := bt_is hA 4 158 rfl rfl (by kernel_rfl)
              have hcx := ET.At.below hA.below _ _ _ HBL.out HR.out
              unfold ET.At at hcx
              obtain ⟨hcx, _⟩ := hcx
              have c0 : w3.cell? ⟨b', o' + k * 15 + 9, none⟩ = some (.int .i64 kR) := hcx.at_ 0 rfl
              have c1 := hcx.at_ 1 rfl
              have c2 := hcx.at_ 2 rfl
              have c3 := hcx.at_ 3 rfl
              have c4 := hcx.at_ 4 rfl
              have c5 := hcx.at_ 5 rfl
              clear hcx
              go_simp
              exact hK _ _ (by first | rfl | exact congrArg _ (by first | rfl | omega | (rw [IntKind.wrap_i64]; omega))) (Below.refl _ _)
            · intro a w3 hA K hK
              have t1 := hA.old 1 _ rfl rfl
              go_simp
              exact hK _ _ (by first | rfl | exact congrArg _ (by first | rfl | omega | (rw [IntKind.wrap_i64]; omega))) (Below.refl _ _)
            · intro a w3 hA K hK
              have t160 := bt_is hA 6 160 rfl rfl (by kernel_rfl)
              obtain ⟨k0, k1, k2, k3, k4, k5⟩ := (HW.out.below hA.below).cells
              go_simp
              exact hK _ _ (by first | rfl | exact congrArg _ (by first | rfl | omega | (rw [IntKind.wrap_i64]; omega))) (Below.refl _ _)
            · intro a w3 hA K hK
              have t8 := hA.old 8 _ rfl rfl
              go_simp
              exact hK _ _ (by first | rfl | exact congrArg _ (by first | rfl | omega | (rw [IntKind.wrap_i64]; omega))) (Below.refl _ _)
            · intro a w3 hA K hK
              have t161 := bt_is hA 7 161 rfl rfl (by kernel_rfl)
              have t162 := bt_is hA 8 162 rfl rfl (by kernel_rfl)
              go_simp
              exact hK _ _ (by first | rfl | exact congrArg _ (by first | rfl | omega | (rw [IntKind.wrap_i64]; omega))) (Below.refl _ _)
            · intro a w3 hA K hK
              have t163 := bt_is hA 9 163 rfl rfl (by kernel_rfl)
              go_simp
              exact hK _ _ (by first | rfl | exact congrArg _ (by first | rfl | omega | (rw [IntKind.wrap_i64]; omega))) (Below.refl _ _)
            · intro a w3 hA K hK
              have t164 := bt_is hA 10 164 rfl rfl (by kernel_rfl)
              have hcx := ET.At.below hA.below _ _ _ HBL.out HL.out
              unfold ET.At at hcx
              obtain ⟨hcx, _⟩ := hcx
              have c0 : w3.cell? ⟨b', o' + k * 15 + 3, none⟩ = some (.int .i64 kL) := hcx.at_ 0 rfl
              have c1 := hcx.at_ 1 rfl
              have c2 := hcx.at_ 2 rfl
              have c3 := hcx.at_ 3 rfl
              have c4 := hcx.at_ 4 rfl
              have c5 := hcx.at_ 5 rfl
              clear hcx
              go_simp
              exact hK _ _ (by first | rfl | exact congrArg _ (by first | rfl | omega | (rw [IntKind.wrap_i64]; omega))) (Below.refl _ _)
            · intro a w3 hA K hK
              have t3 := hA.old 3 _ rfl rfl
              go_simp
              exact hK _ _ (by first | rfl | exact congrArg _ (by first | rfl | omega | (rw [IntKind.wrap_i64]; omega))) (Below.refl _ _)
            · intro a w3 hA K hK
              have t1 := hA.old 1 _ rfl rfl
              go_simp
              exact hK _ _ (by first | rfl | exact congrArg _ (by first | rfl | omega | (rw [IntKind.wrap_i64]; omega))) (Below.refl _ _)
            · intro a w3 hA K hK
              have t167 := bt_is hA 13 167 rfl rfl (by kernel_rfl)
              obtain ⟨k0, k1, k2, k3, k4, k5⟩ := (HW.out.below hA.below).cells
              go_simp
              exact hK _ _ (by first | rfl | exact congrArg _ (by first | rfl | omega | (rw [IntKind.wrap_i64]; omega))) (Below.refl _ _)
            · intro a w3 hA K hK
              have t8 := hA.old 8 _ rfl rfl
              go_simp
              exact hK _ _ (by first | rfl | exact congrArg _ (by first | rfl | omega | (rw [IntKind.wrap_i64]; omega))) (Below.refl _ _)
            · intro a w3 hA K hK
              have t168 := bt_is hA 14 168 rfl rfl (by kernel_rfl)
              have t169 := bt_is hA 15 169 rfl rfl (by kernel_rfl)
              go_simp
              exact hK _ _ (by first | rfl | exact congrArg _ (by first | rfl | omega | (rw [IntKind.wrap_i64]; omega))) (Below.refl _ _)
            · intro a w3 hA K hK
              have t170 := bt_is hA 16 170 rfl rfl (by kernel_rfl)
              go_simp
              exact hK _ _ (by first | rfl | exact congrArg _ (by first | rfl | omega | (rw [IntKind.wrap_i64]; omega))) (Below.refl _ _)
            · intro a w3 hA K hK
              have t171 := bt_is hA 17 171 rfl rfl (by kernel_rfl)
              have hcx := HC.out.below HBL.out hA.below
              have c0 : w3.cell? ⟨b', o' + k * 15, none⟩ = some (.string (str nm)) := hcx.at_ 0 rfl
              have c2 := hcx.at_ 2 rfl
              clear hcx
              go_simp
              exact hK _ _ (by first | rfl | exact congrArg _ (by first | rfl | omega | (rw [IntKind.wrap_i64]; omega))) (Below.refl _ _)
            · intro a w3 hA K hK
              have t172 := bt_is hA 18 172 rfl rfl (by kernel_rfl)
              go_simp
              exact hK _ _ (by first | rfl | exact congrArg _ (by first | rfl | omega | (rw [IntKind.wrap_i64]; omega))) (Below.refl _ _)
            · intro a w3 hA K hK
              have t166 := bt_is hA 12 166 rfl rfl (by kernel_rfl)
              have t173 := bt_is hA 19 173 rfl rfl (by kernel_rfl)
              go_simp
              exact hK _ _ (by first | rfl | exact congrArg _ (by first | rfl | omega | (rw [IntKind.wrap_i64]; omega))) (Below.refl _ _)
            · intro a w3 hA K hK
              have t1 := hA.old 1 _ rfl rfl
              go_simp
              exact hK _ _ (by first | rfl | exact congrArg _ (by first | rfl | omega | (rw [IntKind.wrap_i64]; omega))) (Below.refl _ _)
            · intro a w3 hA K hK
              have t175 := bt_is hA 21 175 rfl rfl (by kernel_rfl)
              obtain ⟨k0, k1, k2, k3, k4, k5⟩ := (HW.out.below hA.below).cells
              go_simp
              exact hK _ _ (by first | rfl | exact congrArg _ (by first | rfl | omega | (rw [IntKind.wrap_i64]; omega))) (Below.refl _ _)
            · intro a w3 hA K hK
              have t8 := hA.old 8 _ rfl rfl
              go_simp
              exact hK _ _ (by first | rfl | exact congrArg _ (by first | rfl | omega | (rw [IntKind.wrap_i64]; omega))) (Below.refl _ _)
            · intro a w3 hA K hK
              have t176 := bt_is hA 22 176 rfl rfl (by kernel_rfl)
              have t177 := bt_is hA 23 177 rfl rfl (by kernel_rfl)
              go_simp
              exact hK _ _ (by first | rfl | exact congrArg _ (by first | rfl | omega | (rw [IntKind.wrap_i64]; omega))) (Below.refl _ _)
            · intro a w3 hA K hK
              have t178 := bt_is hA 24 178 rfl rfl (by kernel_rfl)
              go_simp
              exact hK _ _ (by first | rfl | exact congrArg _ (by first | rfl | omega | (rw [IntKind.wrap_i64]; omega))) (Below.refl _ _)
            · intro a w3 hA K hK
              have t179 := bt_is hA 25 179 rfl rfl (by kernel_rfl)
              have hcx := HC.out.below HBL.out hA.below
              have c0 : w3.cell? ⟨b', o' + k * 15, none⟩ = some (.string (str nm)) := hcx.at_ 0 rfl
              have c2 := hcx.at_ 2 rfl
              clear hcx
              go_simp
              exact hK _ _ (by first | rfl | exact congrArg _ (by first | rfl | omega | (rw [IntKind.wrap_i64]; omega))) (Below.refl _ _)
            · intro a w3 hA K hK
              have t180 := bt_is hA 26 180 rfl rfl (by kernel_rfl)
              go_simp
              exact hK _ _ (by first | rfl | exact congrArg _ (by first | rfl | omega | (rw [IntKind.wrap_i64]; omega))) (Below.refl _ _)
            · intro a w3 hA K hK
              have t174 := bt_is hA 20 174 rfl rfl (by kernel_rfl)
              have t181 := bt_is hA 27 181 rfl rfl (by kernel_rfl)
              go_simp
              exact hK _ _ (by first | rfl | exact congrArg _ (by first | rfl | omega | (rw [IntKind.wrap_i64]; omega))) (Below.refl _ _)
            · intro a w3 hA K hK
              have t165 := bt_is hA 11 165 rfl rfl (by kernel_rfl)
              have t182 := bt_is hA 28 182 rfl rfl (by kernel_rfl)
              have hC := weight_any _ (.mk kL hL qL nL KL knL kcL kdL) (Nat.le_refl _) (L - (nm.length : Int) - (wh.length : Int)) w3 (ET.At.below hA.below _ _ _ HBL.out HL.out).ok (by omega) (by omega)
              unfold ET.val at hC
              go_simp
              refine hC.mono ?_
              rintro e w4 ⟨r, rfl, r1, r2, hb⟩
              exact hK _ _ (fun _ _ => ⟨r, rfl, by omega, by omega⟩) hb
            · intro a w3 hA K hK
              have t159 := bt_is hA 5 159 rfl rfl (by kernel_rfl)
              obtain ⟨v183, t183, p183⟩ := bt_such hA 29 183 rfl rfl (by kernel_rfl)
              obtain ⟨r0, hr0, a1, a2⟩ := p183 w3 (Below.refl _ _)
              subst hr0
              have hC := weight_any _ (.mk kR hR qR nR KR knR kcR kdR) (Nat.le_refl _) r0 w3 (ET.At.below hA.below _ _ _ HBL.out HR.out).ok (by omega) (by omega)
              unfold ET.val at hC
              go_simp
              refine hC.mono ?_
              rintro e w4 ⟨r, rfl, r1, r2, hb⟩
              exact hK _ _ (fun _ _ => ⟨r, rfl, by omega, by omega⟩) hb
          rintro vs w5 hV hb5 act hact va hva
          have hV' := hV.is_
          clear hV
          obtain ⟨_, rfl, hV⟩ := hV'
          have hV' := hV.is_
          clear hV
          obtain ⟨_, rfl, hV⟩ := hV'
          have hV' := hV.is_
          clear hV
          obtain ⟨_, rfl, hV⟩ := hV'
          have hV' := hV.is_
          clear hV
          obtain ⟨_, rfl, hV⟩ := hV'
          have hV' := hV.is_
          clear hV
          obtain ⟨_, rfl, hV⟩ := hV'
          have hV' := hV.is_
          clear hV
          obtain ⟨_, rfl, hV⟩ := hV'
          have hV' := hV.is_
          clear hV
          obtain ⟨_, rfl, hV⟩ := hV'
          have hV' := hV.is_
          clear hV
          obtain ⟨_, rfl, hV⟩ := hV'
          have hV' := hV.is_
          clear hV
          obtain ⟨_, rfl, hV⟩ := hV'
          have hV' := hV.is_
          clear hV
          obtain ⟨_, rfl, hV⟩ := hV'
          have hV' := hV.is_
          clear hV
          obtain ⟨_, rfl, hV⟩ := hV'
          have hV' := hV.is_
          clear hV
          obtain ⟨_, rfl, hV⟩ := hV'
          have hV' := hV.is_
          clear hV
          obtain ⟨_, rfl, hV⟩ := hV'
          have hV' := hV.is_
          clear hV
          obtain ⟨_, rfl, hV⟩ := hV'
          have hV' := hV.is_
          clear hV
          obtain ⟨_, rfl, hV⟩ := hV'
          have hV' := hV.is_
          clear hV
          obtain ⟨_, rfl, hV⟩ := hV'
          have hV' := hV.is_
          clear hV
          obtain ⟨_, rfl, hV⟩ := hV'
          have hV' := hV.is_
          clear hV
          obtain ⟨_, rfl, hV⟩ := hV'
          have hV' := hV.is_
          clear hV
          obtain ⟨_, rfl, hV⟩ := hV'
          have hV' := hV.is_
          clear hV
          obtain ⟨_, rfl, hV⟩ := hV'
          have hV' := hV.is_
          clear hV
          obtain ⟨_, rfl, hV⟩ := hV'
          have hV' := hV.is_
          clear hV
          obtain ⟨_, rfl, hV⟩ := hV'
          have hV' := hV.is_
          clear hV
          obtain ⟨_, rfl, hV⟩ := hV'
          have hV' := hV.is_
          clear hV
          obtain ⟨_, rfl, hV⟩ := hV'
          have hV' := hV.is_
          clear hV
          obtain ⟨_, rfl, hV⟩ := hV'
          have hV' := hV.is_
          clear hV
          obtain ⟨_, rfl, hV⟩ := hV'
          have hV' := hV.is_
          clear hV
          obtain ⟨_, rfl, hV⟩ := hV'
          have hV' := hV.is_
          clear hV
          obtain ⟨_, rfl, hV⟩ := hV'
          have hV' := hV.is_
          clear hV
          obtain ⟨_, rfl, hV⟩ := hV'
          have hV' := hV.such_
          clear hV
          obtain ⟨v183, _, rfl, p183, hV⟩ := hV'
          have hV' := hV.such_
          clear hV
          obtain ⟨v184, _, rfl, p184, hV⟩ := hV'
          obtain rfl := hV.nil_
          clear hV
          simp only [puts] at hact
          simp only [List.getElem?_cons_succ, List.getElem?_cons_zero, Option.some.injEq] at hva
          subst hva
          subst hact
          obtain ⟨r, hr0, a1, a2⟩ := p184 w5 (Below.refl _ _)
          subst hr0
          go_simp
          go_wp2_with fail
          refine ⟨⟨k + 1, r, hlt, by go_num, rfl, by omega, by omega, (by repeat first | exact Below.refl _ _ | assumption | refine Pg.Below.then_ ?_ (by assumption) | refine Pg.Below.new_ ?_ _ | refine Pg.Below.drewN_ ?_ _), hid (HW.out.below hb5)⟩, ?_⟩
          simp [intOf]; omega
        · go_wp2_with fail
          go_meet
          exact ⟨k, L, rfl, rfl, hL1, hL2, hb, HW⟩
      · go_wp2_with fail
        go_meet
        exact ⟨k, L, rfl, rfl, hL1, hL2, hb, HW⟩
  case rest =>
  obtain ⟨i5, L5, rfl, rfl, hl5, hu5, hb5, HW5⟩ := hcut
  go_upto_block 10 with fail
  go_cut [3, 9] from 185 to 218 (fun s i wr => ∃ (k : Nat) (L6 : Int), i = .int .i64 k ∧ s = .int .i64 L6 ∧ -18014398509481984 ≤ L6 ∧ L6 ≤ L5 ∧ Below w.heap.size w wr ∧ Hid (B6n wr w.heap.size 29 (.slice SA sn sc) (.slice PA pn pc) (.slice GA gn gc) (.slice FA fn fc) (.slice RA rn rc) (.slice CA cn cc)))
  case first =>
    go_wp2_with fail
    go_loopw [3, 9] (fun s i wr => ∃ (k : Nat) (L6 : Int), k ≤ cn ∧ i = .int .i64 k ∧ s = .int .i64 L6 ∧ -18014398509481984 ≤ L6 ∧ L6 ≤ L5 ∧ Below w.heap.size w wr ∧ Hid (B6n wr w.heap.size 29 (.slice SA sn sc) (.slice PA pn pc) (.slice GA gn gc) (.slice FA fn fc) (.slice RA rn rc) (.slice CA cn cc))) (fun _ i _ => cn - (intOf i).toNat)
    case atStart => exact ⟨0, _, Nat.zero_le _, rfl, rfl, by omega, by omega, hb5, HW5⟩
    case round =>
      obtain ⟨k, L, hk, rfl, rfl, hL1, hL2, hb, HW⟩ := hrel
      obtain ⟨k0, k1, k2, k3, k4, k5⟩ := HW.out.cells
      by_cases hlt : k < cn
      · by_cases hL : 0 ≤ L
        · have hS := (HF.out.below hb).ck
          obtain ⟨q1, _, _, _, _, q6⟩ := hS
          obtain ⟨b', o', rfl, hb', hx'⟩ := q6 (by omega)
          obtain ⟨x, hx⟩ : ∃ x, ck[k]? = some x := ⟨ck[k]'(by omega), List.getElem?_eq_getElem _⟩
          obtain ⟨nm, pg', cm', ⟨kL, hL, qL, nL, KL, knL, kcL, kdL⟩, ⟨kR, hR, qR, nR, KR, knR, kcR, kdR⟩⟩ := x
          obtain ⟨hca, hnm, hAL, hAR⟩ := hx' k _ hx
          have sz : (str nm).size = nm.length := str_size _
          have HL := hid hAL
          have HR := hid hAR
          have HC := hid hca
          have HBL := hid hb'
          simp only at hnm
          clear hx' q6 hca hAL hAR hx HF q1
          go_upto_region 25 with fail
          refine draw_asg [196, 197, 198, 199, 200, 201, 202, 203, 204, 205, 206, 207, 208, 209, 210, 211, 212, 213, 214, 215, 216, 217, 218] [.is (.pointer (some ⟨w.heap.size, 5, none⟩)), .is (.slice (some ⟨b', o', none⟩) cn cc), .is (.int .i64 (k : Int)), .is (.pointer (some ⟨b', o' + k * 15, none⟩)), .is (.pointer (some ⟨b', o' + k * 15 + 9, none⟩)), .is (.agg #[.int .i64 kR, .bool hR.s, .slice hR.A hR.n hR.c, .slice hR.A' hR.n' hR.c', .string (str nR), .slice KR knR kcR]), .is (.pointer (some ⟨w.heap.size, 5, none⟩)), .is (.slice (some ⟨b', o', none⟩) cn cc), .is (.int .i64 (k : Int)), .is (.pointer (some ⟨b', o' + k * 15, none⟩)), .is (.pointer (some ⟨b', o' + k * 15 + 3, none⟩)), .is (.agg #[.int .i64 kL, .bool hL.s, .slice hL.A hL.n hL.c, .slice hL.A' hL.n' hL.c', .string (str nL), .slice KL knL kcL]), .is (.int .i64 L), .is (.pointer (some ⟨w.heap.size, 5, none⟩)), .is (.slice (some ⟨b', o', none⟩) cn cc), .is (.int .i64 (k : Int)), .is (.pointer (some ⟨b', o' + k * 15, none⟩)), .is (.pointer (some ⟨b', o' + k * 15, none⟩)), .is (.string (str nm)), .is (.int .i64 (nm.length : Int)), .is (.int .i64 (L - (nm.length : Int))), .such (IntIn (-9007199254740992) (L - (nm.length : Int))), .such (IntIn (-18014398509481984) (L - (nm.length : Int)))] 3 22
            (by kernel_rfl) (by kernel_rfl) (by kernel_rfl) (by decide) (by kernel_rfl) (by kernel_rfl) (by kernel_rfl) rfl rfl ?_ ?_
          · refine ⟨?_, ?_, ?_, ?_, ?_, ?_, ?_, ?_, ?_, ?_, ?_, ?_, ?_, ?_, ?_, ?_, ?_, ?_, ?_, ?_, ?_, ?_, ?_, trivial⟩
            · intro a w3 hA K hK
              have t1 := hA.old 1 _ rfl rfl
              go_simp
              exact hK _ _ (by first | rfl | exact congrArg _ (by first | rfl | omega | (rw [IntKind.wrap_i64]; omega))) (Below.refl _ _)
            · intro a w3 hA K hK
              have t196 := bt_is hA 0 196 rfl rfl (by kernel_rfl)
              obtain ⟨k0, k1, k2, k3, k4, k5⟩ := (HW.out.below hA.below).cells
              go_simp
              exact hK _ _ (by first | rfl | exact congrArg _ (by first | rfl | omega | (rw [IntKind.wrap_i64]; omega))) (Below.refl _ _)
            · intro a w3 hA K hK
              have t9 := hA.old 9 _ rfl rfl
              go_simp
              exact hK _ _ (by first | rfl | exact congrArg _ (by first | rfl | omega | (rw [IntKind.wrap_i64]; omega))) (Below.refl _ _)
            · intro a w3 hA K hK
              have t197 := bt_is hA 1 197 rfl rfl (by kernel_rfl)
              have t198 := bt_is hA 2 198 rfl rfl (by kernel_rfl)
              go_simp
              exact hK _ _ (by first | rfl | exact congrArg _ (by first | rfl | omega | (rw [IntKind.wrap_i64]; omega))) (Below.refl _ _)
            · intro a w3 hA K hK
              have t199 := bt_is hA 3 199 rfl rfl (by kernel_rfl)
              go_simp
              exact hK _ _ (by first | rfl | exact congrArg _ (by first | rfl | omega | (rw [IntKind.wrap_i64]; omega))) (Below.refl _ _)
            · intro a w3 hA K hK
              have t200 := bt_is hA 4 200 rfl rfl (by kernel_rfl)
              have hcx := ET.At.below hA.below _ _ _ HBL.out HR.out
              unfold ET.At at hcx
              obtain ⟨hcx, _⟩ := hcx
              have c0 : w3.cell? ⟨b', o' + k * 15 + 9, none⟩ = some (.int .i64 kR) := hcx.at_ 0 rfl
              have c1 := hcx.at_ 1 rfl
              have c2 := hcx.at_ 2 rfl
              have c3 := hcx.at_ 3 rfl
              have c4 := hcx.at_ 4 rfl
              have c5 := hcx.at_ 5 rfl
              clear hcx
              go_simp
              exact hK _ _ (by first | rfl | exact congrArg _ (by first | rfl | omega | (rw [IntKind.wrap_i64]; omega))) (Below.refl _ _)
            · intro a w3 hA K hK
              have t1 := hA.old 1 _ rfl rfl
              go_simp
              exact hK _ _ (by first | rfl | exact congrArg _ (by first | rfl | omega | (rw [IntKind.wrap_i64]; omega))) (Below.refl _ _)
            · intro a w3 hA K hK
              have t202 := bt_is hA 6 202 rfl rfl (by kernel_rfl)
              obtain ⟨k0, k1, k2, k3, k4, k5⟩ := (HW.out.below hA.below).cells
              go_simp
              exact hK _ _ (by first | rfl | exact congrArg _ (by first | rfl | omega | (rw [IntKind.wrap_i64]; omega))) (Below.refl _ _)
            · intro a w3 hA K hK
              have t9 := hA.old 9 _ rfl rfl
              go_simp
              exact hK _ _ (by first | rfl | exact congrArg _ (by first | rfl | omega | (rw [IntKind.wrap_i64]; omega))) (Below.refl _ _)
            · intro a w3 hA K hK
              have t203 := bt_is hA 7 203 rfl rfl (by kernel_rfl)
              have t204 := bt_is hA 8 204 rfl rfl (by kernel_rfl)
              go_simp
              exact hK _ _ (by first | rfl | exact congrArg _ (by first | rfl | omega | (rw [IntKind.wrap_i64]; omega))) (Below.refl _ _)
            · intro a w3 hA K hK
              have t205 := bt_is hA 9 205 rfl rfl (by kernel_rfl)
              go_simp
              exact hK _ _ (by first | rfl | exact congrArg _ (by first | rfl | omega | (rw [IntKind.wrap_i64]; omega))) (Below.refl _ _)
            · intro a w3 hA K hK
              have t206 := bt_is hA 10 206 rfl rfl (by kernel_rfl)
              have hcx := ET.At.below hA.below _ _ _ HBL.out HL.out
              unfold ET.At at hcx
              obtain ⟨hcx, _⟩ := hcx
              have c0 : w3.cell? ⟨b', o' + k * 15 + 3, none⟩ = some (.int .i64 kL) := hcx.at_ 0 rfl
              have c1 := hcx.at_ 1 rfl
              have c2 := hcx.at_ 2 rfl
              have c3 := hcx.at_ 3 rfl
              have c4 := hcx.at_ 4 rfl
              have c5 := hcx.at_ 5 rfl
              clear hcx
              go_simp
              exact hK _ _ (by first | rfl | exact congrArg _ (by first | rfl | omega | (rw [IntKind.wrap_i64]; omega))) (Below.refl _ _)
            · intro a w3 hA K hK
              have t3 := hA.old 3 _ rfl rfl
              go_simp
              exact hK _ _ (by first | rfl | exact congrArg _ (by first | rfl | omega | (rw [IntKind.wrap_i64]; omega))) (Below.refl _ _)
            · intro a w3 hA K hK
              have t1 := hA.old 1 _ rfl rfl
              go_simp
              exact hK _ _ (by first | rfl | exact congrArg _ (by first | rfl | omega | (rw [IntKind.wrap_i64]; omega))) (Below.refl _ _)
            · intro a w3 hA K hK
              have t209 := bt_is hA 13 209 rfl rfl (by kernel_rfl)
              obtain ⟨k0, k1, k2, k3, k4, k5⟩ := (HW.out.below hA.below).cells
              go_simp
              exact hK _ _ (by first | rfl | exact congrArg _ (by first | rfl | omega | (rw [IntKind.wrap_i64]; omega))) (Below.refl _ _)
            · intro a w3 hA K hK
              have t9 := hA.old 9 _ rfl rfl
              go_simp
              exact hK _ _ (by first | rfl | exact congrArg _ (by first | rfl | omega | (rw [IntKind.wrap_i64]; omega))) (Below.refl _ _)
            · intro a w3 hA K hK
              have t210 := bt_is hA 14 210 rfl rfl (by kernel_rfl)
              have t211 := bt_is hA 15 211 rfl rfl (by kernel_rfl)
              go_simp
              exact hK _ _ (by first | rfl | exact congrArg _ (by first | rfl | omega | (rw [IntKind.wrap_i64]; omega))) (Below.refl _ _)
            · intro a w3 hA K hK
              have t212 := bt_is hA 16 212 rfl rfl (by kernel_rfl)
              go_simp
              exact hK _ _ (by first | rfl | exact congrArg _ (by first | rfl | omega | (rw [IntKind.wrap_i64]; omega))) (Below.refl _ _)
            · intro a w3 hA K hK
              have t213 := bt_is hA 17 213 rfl rfl (by kernel_rfl)
              have hcx := HC.out.below HBL.out hA.below
              have c0 : w3.cell? ⟨b', o' + k * 15, none⟩ = some (.string (str nm)) := hcx.at_ 0 rfl
              clear hcx
              go_simp
              exact hK _ _ (by first | rfl | exact congrArg _ (by first | rfl | omega | (rw [IntKind.wrap_i64]; omega))) (Below.refl _ _)
            · intro a w3 hA K hK
              have t214 := bt_is hA 18 214 rfl rfl (by kernel_rfl)
              go_simp
              exact hK _ _ (by first | rfl | exact congrArg _ (by first | rfl | omega | (rw [IntKind.wrap_i64]; omega))) (Below.refl _ _)
            · intro a w3 hA K hK
              have t208 := bt_is hA 12 208 rfl rfl (by kernel_rfl)
              have t215 := bt_is hA 19 215 rfl rfl (by kernel_rfl)
              go_simp
              exact hK _ _ (by first | rfl | exact congrArg _ (by first | rfl | omega | (rw [IntKind.wrap_i64]; omega))) (Below.refl _ _)
            · intro a w3 hA K hK
              have t207 := bt_is hA 11 207 rfl rfl (by kernel_rfl)
              have t216 := bt_is hA 20 216 rfl rfl (by kernel_rfl)
              have hC := weight_any _ (.mk kL hL qL nL KL knL kcL kdL) (Nat.le_refl _) (L - (nm.length : Int)) w3 (ET.At.below hA.below _ _ _ HBL.out HL.out).ok (by omega) (by omega)
              unfold ET.val at hC
              go_simp
              refine hC.mono ?_
              rintro e w4 ⟨r, rfl, r1, r2, hb⟩
              exact hK _ _ (fun _ _ => ⟨r, rfl, by omega, by omega⟩) hb
            · intro a w3 hA K hK
              have t201 := bt_is hA 5 201 rfl rfl (by kernel_rfl)
              obtain ⟨v217, t217, p217⟩ := bt_such hA 21 217 rfl rfl (by kernel_rfl)
              obtain ⟨r0, hr0, a1, a2⟩ := p217 w3 (Below.refl _ _)
              subst hr0
              have hC := weight_any _ (.mk kR hR qR nR KR knR kcR kdR) (Nat.le_refl _) r0 w3 (ET.At.below hA.below _ _ _ HBL.out HR.out).ok (by omega) (by omega)
              unfold ET.val at hC
              go_simp
              refine hC.mono ?_
              rintro e w4 ⟨r, rfl, r1, r2, hb⟩
              exact hK _ _ (fun _ _ => ⟨r, rfl, by omega, by omega⟩) hb
          rintro vs w5 hV hb5 act hact va hva
          have hV' := hV.is_
          clear hV
          obtain ⟨_, rfl, hV⟩ := hV'
          have hV' := hV.is_
          clear hV
          obtain ⟨_, rfl, hV⟩ := hV'
          have hV' := hV.is_
          clear hV
          obtain ⟨_, rfl, hV⟩ := hV'
          have hV' := hV.is_
          clear hV
          obtain ⟨_, rfl, hV⟩ := hV'
          have hV' := hV.is_
          clear hV
          obtain ⟨_, rfl, hV⟩ := hV'
          have hV' := hV.is_
          clear hV
          obtain ⟨_, rfl, hV⟩ := hV'
          have hV' := hV.is_
          clear hV
          obtain ⟨_, rfl, hV⟩ := hV'
          have hV' := hV.is_
          clear hV
          obtain ⟨_, rfl, hV⟩ := hV'
          have hV' := hV.is_
          clear hV
          obtain ⟨_, rfl, hV⟩ := hV'
          have hV' := hV.is_
          clear hV
          obtain ⟨_, rfl, hV⟩ := hV'
          have hV' := hV.is_
          clear hV
          obtain ⟨_, rfl, hV⟩ := hV'
          have hV' := hV.is_
          clear hV
          obtain ⟨_, rfl, hV⟩ := hV'
          have hV' := hV.is_
          clear hV
          obtain ⟨_, rfl, hV⟩ := hV'
          have hV' := hV.is_
          clear hV
          obtain ⟨_, rfl, hV⟩ := hV'
          have hV' := hV.is_
          clear hV
          obtain ⟨_, rfl, hV⟩ := hV'
          have hV' := hV.is_
          clear hV
          obtain ⟨_, rfl, hV⟩ := hV'
          have hV' := hV.is_
          clear hV
          obtain ⟨_, rfl, hV⟩ := hV'
          have hV' := hV.is_
          clear hV
          obtain ⟨_, rfl, hV⟩ := hV'
          have hV' := hV.is_
          clear hV
          obtain ⟨_, rfl, hV⟩ := hV'
          have hV' := hV.is_
          clear hV
          obtain ⟨_, rfl, hV⟩ := hV'
          have hV' := hV.is_
          clear hV
          obtain ⟨_, rfl, hV⟩ := hV'
          have hV' := hV.such_
          clear hV
          obtain ⟨v217, _, rfl, p217, hV⟩ := hV'
          have hV' := hV.such_
          clear hV
          obtain ⟨v218, _, rfl, p218, hV⟩ := hV'
          obtain rfl := hV.nil_
          clear hV
          simp only [puts] at hact
          simp only [List.getElem?_cons_succ, List.getElem?_cons_zero, Option.some.injEq] at hva
          subst hva
          subst hact
          obtain ⟨r, hr0, a1, a2⟩ := p218 w5 (Below.refl _ _)
          subst hr0
          go_simp
          go_wp2_with fail
          refine ⟨⟨k + 1, r, hlt, by go_num, rfl, by omega, by omega, (by repeat first | exact Below.refl _ _ | assumption | refine Pg.Below.then_ ?_ (by assumption) | refine Pg.Below.new_ ?_ _ | refine Pg.Below.drewN_ ?_ _), hid (HW.out.below hb5)⟩, ?_⟩
          simp [intOf]; omega
        · go_wp2_with fail
          go_meet
          exact ⟨k, L, rfl, rfl, hL1, hL2, hb, HW⟩
      · go_wp2_with fail
        go_meet
        exact ⟨k, L, rfl, rfl, hL1, hL2, hb, HW⟩
  case rest =>
  obtain ⟨i6, L6, rfl, rfl, hl6, hu6, hb6, HW6⟩ := hcut
  go_wp2_with fail
  go_ret
  refine ⟨decide (L6 < 0), by first | rfl | simp, fun h => ?_, hb6⟩
  have h0 : 0 ≤ L6 := by have := of_decide_eq_false h; omega
  obtain ⟨a1, a2, a3, a4, a5, a6⟩ := HLen.out
  exact ⟨by omega⟩
end Go.Proofs.YtbhieajpodnfpaaGreat
