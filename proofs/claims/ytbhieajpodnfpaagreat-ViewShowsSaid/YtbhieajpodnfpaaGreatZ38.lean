/- Walks: pantographlaw19.scaled, plain. Conditions: those that each theorem names. -/
import Derived.Test.YtbhieajpodnfpaaGreatZ34
import Derived.Test.YtbhieajpodnfpaaGreatZ15
import Derived.Test.YtbhieajpodnfpaaGreatZ18
import Derived.Test.YtbhieajpodnfpaaGreatZ35
import Derived.Deep.RegionWith
namespace Go.Proofs.YtbhieajpodnfpaaGreat
open Go.RowKit Pg
def ScaledRet (w : World) (fl : List Fld) (e : Ending) (w' : World) : Prop := ∃ b : Bool, e = .returned (.bool b) ∧ (b = true → ∀ y ∈ fl, 0 ≤ y.scale ∧ y.scale ≤ 9) ∧ Below w.heap.size w w'
def PlainRet (w : World) (few : Prop) (va : List (RHdr × Rat)) (e : Ending) (w' : World) : Prop := ∃ b : Bool, e = .returned (.bool b) ∧ (b = true → few ∧ ∀ x ∈ va, x.1.n ≤ 3 ∧ x.1.n' ≤ 3) ∧ Below w.heap.size w w'
set_option maxHeartbeats 2000000 in
theorem scaled19_any (f0 f1 f2 f4 f5 : Value) (FA : Option Addr) (fn fc : Nat) (fl : List Fld) (w : World) (hF : SlAt 4 FldAt w FA fn fc fl) :
    Calls Tryz.prog 6 #[.agg #[f0, f1, f2, .slice FA fn fc, f4, f5]] w (ScaledRet w fl) := by
  have HF := hid hF
  have hfn := hF.2.2.1
  have HLen := hid hF.1
  clear hF
  have HB := hid (B6n.newg w 29 f0 f1 f2 (.slice FA fn fc) f4 f5 _ rfl)
  go_enter Tryz.func6, Tryz.ntmps6
  go_wp2_with fail
  go_loopw [3] (fun i wr => ∃ k : Nat, k ≤ fn ∧ i = .int .i64 k ∧ Hid (∀ y ∈ fl.take k, 0 ≤ y.scale ∧ y.scale ≤ 9) ∧ Below w.heap.size w wr ∧ Hid (B6n wr w.heap.size 29 f0 f1 f2 (.slice FA fn fc) f4 f5)) (fun i _ => fn - (intOf i).toNat)
  case atStart => exact ⟨0, Nat.zero_le _, rfl, hid (fun y hy => by simp at hy), (by repeat first | exact Below.refl _ _ | assumption | refine Pg.Below.then_ ?_ (by assumption) | refine Pg.Below.new_ ?_ _ | refine Pg.Below.drewN_ ?_ _), HB⟩
  case round =>
    obtain ⟨k, hk, rfl, HS, hb, HW⟩ := hrel
    obtain ⟨k0, k1, k2, k3, k4, k5⟩ := HW.out.cells
    by_cases hlt : k < fn
    · obtain ⟨_, _, _, _, _, q6⟩ := HF.out.below fldAt_stays hb
      obtain ⟨b', o', rfl, hb', hx'⟩ := q6 (by omega)
      obtain ⟨x, hx⟩ : ∃ x, fl[k]? = some x := ⟨fl[k]'(by rw [HLen.out]; exact hlt), List.getElem?_eq_getElem _⟩
      have c3 := (hx' k x hx).1.at_ 3 rfl
      have HT := hid (take_all_p (p := fun y : Fld => 0 ≤ y.scale ∧ y.scale ≤ 9) HS.out hx)
      clear hx' q6 HF hx HS
      obtain ⟨sc, hsc⟩ : ∃ sc, x.scale = sc := ⟨_, rfl⟩
      rw [hsc] at c3
      have Hsc := hid hsc
      clear hsc
      by_cases h0 : sc < 0
      · have d0 : decide (sc < 0) = true := decide_eq_true h0
        go_wp2_with fail
        go_ret
        exact ⟨false, rfl, (fun h => by cases h), hb⟩
      · have d0 : decide (sc < 0) = false := decide_eq_false h0
        by_cases h9 : 9 < sc
        · have d9 : decide (9 < sc) = true := decide_eq_true h9
          go_wp2_with fail
          go_ret
          exact ⟨false, rfl, (fun h => by cases h), hb⟩
        · have d9 : decide (9 < sc) = false := decide_eq_false h9
          go_wp2_with fail
          refine ⟨⟨k + 1, hlt, by go_num, hid (HT.out (by rw [Hsc.out]; omega)), hb, HW⟩, ?_⟩
          simp [intOf]; omega
    · have hkn : fl.take k = fl := List.take_of_length_le (by rw [HLen.out]; omega)
      rw [hkn] at HS
      go_wp2_with fail
      go_ret
      exact ⟨true, rfl, (fun _ => HS.out), hb⟩
def hd3 (h : RHdr) : List Value := [.bool h.s, .slice h.A h.n h.c, .slice h.A' h.n' h.c']
theorem hd3_len (h : RHdr) : (hd3 h).length = 3 := rfl
theorem rcells_of {w : World} {A : Option Addr} {n c : Nat} {l : List (RHdr × Rat)} (h : SlAt 3 RqAt w A n c l) : (l.map (·.1)).length = n ∧ n ≤ 140737488355328 ∧ (0 < n → ∃ g o, A = some ⟨g, o, none⟩ ∧ g < w.heap.size ∧ RCells w g o (l.map (·.1))) ∧ (∀ x ∈ l.map (·.1), 0 < n → x.n ≤ 140737488355328 ∧ x.n' ≤ 140737488355328) := by
  obtain ⟨h1, _, h2, _, _, h3⟩ := h
  refine ⟨by simpa using h1, h2, fun hn => ?_, fun x hx hn => ?_⟩
  · obtain ⟨b, o, rfl, hb, hx⟩ := h3 hn
    refine ⟨b, o, rfl, hb, fun j x hj => ?_⟩
    rw [List.getElem?_map] at hj
    match hl : l[j]?, hj with
    | some y, hj =>
      simp at hj
      subst hj
      have hy := (hx j y hl).1
      exact ⟨hy.at_ 0 rfl, hy.at_ 1 rfl, hy.at_ 2 rfl⟩
  · obtain ⟨b, o, rfl, hb, hy⟩ := h3 hn
    obtain ⟨y, hyl, rfl⟩ := List.mem_map.1 hx
    obtain ⟨j, hj⟩ := List.getElem?_of_mem hyl
    obtain ⟨_, _, _, _, _, l1, l2, _⟩ := hy j y hj
    exact ⟨l1, l2⟩
theorem many_rq {w : World} {A : Option Addr} {n c : Nat} {l : List (RHdr × Rat)} (h : SlAt 3 RqAt w A n c l) : ∀ W, Below w.heap.size w W → Calls Tryz.prog 19 #[.slice A n c] W (ManyRet W (l.map (·.1))) := by
  intro W hW
  obtain ⟨h1, h2, h3, h4⟩ := rcells_of (h.below rqAt_stays hW)
  refine many19_any A n c _ W h1 h3 (fun x hx => ?_) h2
  refine h4 x hx ?_
  rw [← h1]
  exact List.length_pos_of_mem hx
theorem many_own {w : World} {base : Nat} {e : TypeId} {v : Value} {l : List RHdr} {n : Nat} (hn : l.length = n) (h : w.ownsRow base e 3 v n (l.flatMap hd3)) (hl : ∀ x ∈ l, x.n ≤ 140737488355328 ∧ x.n' ≤ 140737488355328) (hb : n ≤ 140737488355328) : ∀ W, Below w.heap.size w W → Calls Tryz.prog 19 #[v] W (ManyRet W l) := by
  intro W hW
  rcases own_cells hd3_len hn h with ⟨rfl, rfl⟩ | ⟨g, cap, rfl, _, hg, _, _, hc⟩
  · exact many19_any none 0 0 [] W rfl (fun h => by omega) (fun x hx => by simp at hx) (by omega)
  · refine many19_any _ n cap l W hn (fun _ => ⟨g, 0, rfl, Nat.lt_of_lt_of_le hg hW.size, fun j x hj => ?_⟩) hl hb
    have hy := (hc j x hj).below hg hW
    exact ⟨hy.at_ 0 rfl, hy.at_ 1 rfl, hy.at_ 2 rfl⟩
theorem infoRat : (Tryz.prog.info? 53).map (fun i => (i.zero, i.size, i.bytes)) = some (some (.agg #[.bool false, .slice none 0 0, .slice none 0 0]), 3, 56) := by kernel_rfl
set_option maxRecDepth 100000 in
set_option maxHeartbeats 8000000 in
theorem plain19_any (PA OA VA UA QA LA : Option Addr) (pn pc on oc vn vc un uc qn qc ln lc : Nat) (pa : List (RHdr × Rat)) (on' : List Bool) (va : List (RHdr × Rat)) (ou : List Int) (pi : List Pn) (fi : List Bool) (w : World) (hD : DocRead w PA OA VA UA QA LA pn pc on oc vn vc un uc qn qc ln lc pa on' va ou pi fi) :
    Calls Tryz.prog 5 #[.agg #[.slice PA pn pc, .slice OA on oc, .slice VA vn vc, .slice UA un uc, .slice QA qn qc, .slice LA ln lc]] w (PlainRet w (pn ≤ 20 ∧ on ≤ 20 ∧ vn ≤ 20 ∧ un ≤ 20 ∧ qn ≤ 20 ∧ ln ≤ 20) va) := by
  have HB := hid (B6n.newg w 35 (.slice PA pn pc) (.slice OA on oc) (.slice VA vn vc) (.slice UA un uc) (.slice QA qn qc) (.slice LA ln lc) _ rfl)
  obtain ⟨k0, k1, k2, k3, k4, k5⟩ := HB.out.cells
  have HD := hid hD
  have HP := hid (many_rq hD.pa)
  have HV := hid (many_rq hD.va)
  have HPi := hid hD.pi
  have HLen := hid hD.pi.1
  clear hD
  by_cases td1 : (20 : Int) < (pn : Int)
  · have d1 : decide ((20 : Int) < (pn : Int)) = true := decide_eq_true td1
    go_enter Tryz.func5, Tryz.ntmps5
    go_wp2_with fail
    go_ret
    exact ⟨false, rfl, (fun h => by cases h), (by repeat first | exact Below.refl _ _ | assumption | refine Pg.Below.then_ ?_ (by assumption) | refine Pg.Below.new_ ?_ _ | refine Pg.Below.drewN_ ?_ _)⟩
  have d1 : decide ((20 : Int) < (pn : Int)) = false := decide_eq_false td1
  by_cases td2 : (20 : Int) < (on : Int)
  · have d2 : decide ((20 : Int) < (on : Int)) = true := decide_eq_true td2
    go_enter Tryz.func5, Tryz.ntmps5
    go_wp2_with fail
    go_ret
    exact ⟨false, rfl, (fun h => by cases h), (by repeat first | exact Below.refl _ _ | assumption | refine Pg.Below.then_ ?_ (by assumption) | refine Pg.Below.new_ ?_ _ | refine Pg.Below.drewN_ ?_ _)⟩
  have d2 : decide ((20 : Int) < (on : Int)) = false := decide_eq_false td2
  by_cases td3 : (20 : Int) < (vn : Int)
  · have d3 : decide ((20 : Int) < (vn : Int)) = true := decide_eq_true td3
    go_enter Tryz.func5, Tryz.ntmps5
    go_wp2_with fail
    go_ret
    exact ⟨false, rfl, (fun h => by cases h), (by repeat first | exact Below.refl _ _ | assumption | refine Pg.Below.then_ ?_ (by assumption) | refine Pg.Below.new_ ?_ _ | refine Pg.Below.drewN_ ?_ _)⟩
  have d3 : decide ((20 : Int) < (vn : Int)) = false := decide_eq_false td3
  by_cases td4 : (20 : Int) < (un : Int)
  · have d4 : decide ((20 : Int) < (un : Int)) = true := decide_eq_true td4
    go_enter Tryz.func5, Tryz.ntmps5
    go_wp2_with fail
    go_ret
    exact ⟨false, rfl, (fun h => by cases h), (by repeat first | exact Below.refl _ _ | assumption | refine Pg.Below.then_ ?_ (by assumption) | refine Pg.Below.new_ ?_ _ | refine Pg.Below.drewN_ ?_ _)⟩
  have d4 : decide ((20 : Int) < (un : Int)) = false := decide_eq_false td4
  by_cases td5 : (20 : Int) < (qn : Int)
  · have d5 : decide ((20 : Int) < (qn : Int)) = true := decide_eq_true td5
    go_enter Tryz.func5, Tryz.ntmps5
    go_wp2_with fail
    go_ret
    exact ⟨false, rfl, (fun h => by cases h), (by repeat first | exact Below.refl _ _ | assumption | refine Pg.Below.then_ ?_ (by assumption) | refine Pg.Below.new_ ?_ _ | refine Pg.Below.drewN_ ?_ _)⟩
  have d5 : decide ((20 : Int) < (qn : Int)) = false := decide_eq_false td5
  by_cases td6 : (20 : Int) < (ln : Int)
  · have d6 : decide ((20 : Int) < (ln : Int)) = true := decide_eq_true td6
    go_enter Tryz.func5, Tryz.ntmps5
    go_wp2_with fail
    go_ret
    exact ⟨false, rfl, (fun h => by cases h), (by repeat first | exact Below.refl _ _ | assumption | refine Pg.Below.then_ ?_ (by assumption) | refine Pg.Below.new_ ?_ _ | refine Pg.Below.drewN_ ?_ _)⟩
  have d6 : decide ((20 : Int) < (ln : Int)) = false := decide_eq_false td6
  have H20 := hid (show pn ≤ 20 ∧ on ≤ 20 ∧ vn ≤ 20 ∧ un ≤ 20 ∧ qn ≤ 20 ∧ ln ≤ 20 by omega)
  go_enter Tryz.func5, Tryz.ntmps5
  go_wp2_with fail
  clear k0 k1 k2 k3 k4 k5
  go_loopw [3, 4] (fun s i wr => ∃ k : Nat, k ≤ qn ∧ i = .int .i64 k ∧ Hid (wr.ownsRow (w.heap.size + 1) 53 3 s k (((pi.map (·.h)).take k).flatMap hd3)) ∧ Below w.heap.size w wr ∧ Hid (B6n wr w.heap.size 35 (.slice PA pn pc) (.slice OA on oc) (.slice VA vn vc) (.slice UA un uc) (.slice QA qn qc) (.slice LA ln lc))) (fun _ i _ => qn - (intOf i).toNat)
  case atStart => exact ⟨0, Nat.zero_le _, rfl, hid (World.ownsRow_nil _ _ _ _), (by repeat first | exact Below.refl _ _ | assumption | refine Pg.Below.then_ ?_ (by assumption) | refine Pg.Below.new_ ?_ _ | refine Pg.Below.drewN_ ?_ _), HB⟩
  case round =>
    obtain ⟨k, hk, rfl, HO, hb, HW⟩ := hrel
    obtain ⟨k0, k1, k2, k3, k4, k5⟩ := HW.out.cells
    by_cases hlt : k < qn
    · obtain ⟨_, _, _, _, _, q6⟩ := HPi.out.below pnAt_stays hb
      obtain ⟨b', o', rfl, hb', hx'⟩ := q6 (by omega)
      obtain ⟨x, hx⟩ : ∃ x, pi[k]? = some x := ⟨pi[k]'(by rw [HLen.out]; exact hlt), List.getElem?_eq_getElem _⟩
      have hca := (hx' k x hx).1
      have c2 := hca.at_ 2 rfl
      have c3 := hca.at_ 3 rfl
      have c4 := hca.at_ 4 rfl
      have hxm : (pi.map (·.h))[k]? = some x.h := by rw [List.getElem?_map, hx]; rfl
      have HT := hid (take_succ_flat hd3 hxm)
      have hlw := HW.out.lt
      clear hx' q6 hca hx hxm HD HP HV HPi
      go_wp2_with (at_builtin; refine wpList_append_one _ rfl _ _ 30 rfl (w.heap.size + 1) 53 3 56 _ Tryz.underlying30 infoRat rfl (by decide) _ k _ rfl (HO.out.alloc _) wr.heap.size 1 (hd3 x.h) 53 rfl rfl (heap_alloc_new wr _) (by intro u hu; simp [hd3] at hu; rcases hu with rfl | rfl | rfl <;> rfl) (by simp only [maxLen]; omega) (by omega) (by simp; omega) ?_)
      intro v' w' hown' hgr
      have hbx := own_other (HO.out.alloc _) hgr (b := w.heap.size) (by omega) (by simp; omega)
      go_wp2_with fail
      go_roundw
      case rel =>
        exact ⟨k + 1, hlt, by go_num, hid (by rw [HT.out]; exact hown'), Below.grown (Below.alloc hb hb.size _) hgr (by have := hb.size; simp; omega) (fun g hg => by have := (HO.out.lt g hg).1; omega), hid (by have := (HW.out.alloc (.cells #[.bool x.h.s, .slice x.h.A x.h.n x.h.c, .slice x.h.A' x.h.n' x.h.c'] 53)); exact hbx.trans this)⟩
      case measure => simp [intOf]; omega
    · have hkq : k = qn := by omega
      subst hkq
      rw [List.take_of_length_le (by rw [List.length_map, HLen.out]; omega)] at HO
      have hlb := HPi.out.2.2.1
      have hpl : ∀ x ∈ pi.map (·.h), x.n ≤ 140737488355328 ∧ x.n' ≤ 140737488355328 := by
        intro x hx
        obtain ⟨y, hy, rfl⟩ := List.mem_map.1 hx
        obtain ⟨j, hj⟩ := List.getElem?_of_mem hy
        obtain ⟨_, _, _, _, hz⟩ := HPi.out.2.2.2.2.2 (by rw [← HLen.out]; exact List.length_pos_of_mem hy)
        obtain ⟨_, _, _, _, _, l1, l2, _⟩ := hz j y hj
        exact ⟨l1, l2⟩
      have HM := hid (many_own (by rw [List.length_map, HLen.out]) HO.out hpl hlb)
      have hb0 : Below wr.heap.size wr wr := Below.refl _ _
      clear HO hpl HPi HD
      go_wp2_with (first
        | (go_at_call_of 19 PA; (with_reducible refine (HP.out _ (by first | exact hb | assumption)).mono ?_); rintro e w1 ⟨b1, rfl, _, hb1⟩; rcases b1 with _ | _ <;> (have hbw1 := Below.then_ hb hb1; clear k0 k1 k2 k3 k4 k5; obtain ⟨k0, k1, k2, k3, k4, k5⟩ := (HW.out.below hb1).cells))
        | (go_at_call_of 19 VA; (with_reducible refine (HV.out _ (by first | assumption)).mono ?_); rintro e w2 ⟨b2, rfl, hv2, hb2⟩; rcases b2 with _ | _ <;> (have hbw2 := Below.then_ hbw1 hb2; have hbo := Below.then_ hb1 hb2))
        | (go_at_call 19; (with_reducible refine (HM.out _ hbo).mono ?_); rintro e w3 ⟨b3, rfl, _, hb3⟩; rcases b3 with _ | _))
      · go_ret
        exact ⟨true, rfl, (fun _ => ⟨H20.out, fun x hx => (hv2 (by first | rfl | trivial)).2 _ (List.mem_map.2 ⟨x, hx, rfl⟩)⟩), (by repeat first | exact Below.refl _ _ | assumption | refine Pg.Below.then_ ?_ (by assumption) | refine Pg.Below.new_ ?_ _ | refine Pg.Below.drewN_ ?_ _)⟩
      all_goals
        go_ret
        exact ⟨false, rfl, (fun h => by cases h), (by repeat first | exact Below.refl _ _ | assumption | refine Pg.Below.then_ ?_ (by assumption) | refine Pg.Below.new_ ?_ _ | refine Pg.Below.drewN_ ?_ _)⟩
end Go.Proofs.YtbhieajpodnfpaaGreat
