/- Walks · Walks. Conditions: those that each theorem names. -/
import Derived.Test.YtahdlpkncemmaaaW29
import Derived.Test.YtahdlpkncemmaaaW40
import Derived.Test.YtahdlpkncemmaaaW30
set_option maxRecDepth 100000
set_option maxHeartbeats 8000000
set_option linter.unusedSimpArgs false
set_option linter.unusedVariables false
namespace Pg
def lett (c : Nat) : Bool := decide (97 ≤ c) && decide (c ≤ 122)
def digi (c : Nat) : Bool := decide (48 ≤ c) && decide (c ≤ 57)
def innr (c : Nat) : Bool := lett c || digi c || c == 95
theorem letterB_eq (c : UInt8) : letterB c = lett c.toNat := rfl
theorem name_all {c : UInt8} {l : List UInt8} (h : letterB c = true) (hn : (c :: l).length ≤ 24) : isNameB (c :: l) = (c :: l).all innerB := by
 have h1 : innerB c = true := by unfold innerB; rw [h]; rfl
 show (decide (l.length < 24) && letterB c && l.all innerB) = _
 rw [List.all_cons, h, h1, decide_eq_true (by simp at hn; omega)]
 rfl
theorem name_long {c : UInt8} {l : List UInt8} (h : 24 < (c :: l).length) : isNameB (c :: l) = false := by
 show (decide (l.length < 24) && letterB c && l.all innerB) = _
 rw [decide_eq_false (by simp at h; omega)]
 rfl
theorem name_head {c : UInt8} {l : List UInt8} (h : letterB c = false) : isNameB (c :: l) = false := by
 show (decide (l.length < 24) && letterB c && l.all innerB) = _
 rw [h, Bool.and_false]
 rfl
end Pg
namespace Go.Proofs.Ytahdlpkncemmaaa
open Go.RowKit Pg
theorem isLetter_any (c : Nat) (w : World) : Calls Try.prog 76 #[.int .u8 (c : Int)] w fun e w' => e = .returned (.bool (lett c)) ∧ w = w' := by
 by_cases h1 : 97 ≤ c
 ·have d1 : decide ((97 : Int) ≤ (c : Int)) = true := decide_eq_true (by omega)
  by_cases h2 : c ≤ 122
  ·have d2 : decide ((c : Int) ≤ 122) = true := decide_eq_true (by omega)
   have HE := hid (show lett c = true by unfold lett; rw [decide_eq_true h1, decide_eq_true h2]; rfl)
   clear h1 h2
   go_enter Try.func76, Try.ntmps76
   go_wp2_with fail
   go_ret
   exact ⟨by rw [HE.out]; rfl, rfl⟩
  ·have d2 : decide ((c : Int) ≤ 122) = false := decide_eq_false (by omega)
   have HE := hid (show lett c = false by unfold lett; rw [decide_eq_true h1, decide_eq_false h2]; rfl)
   clear h1 h2
   go_enter Try.func76, Try.ntmps76
   go_wp2_with fail
   go_ret
   exact ⟨by rw [HE.out]; rfl, rfl⟩
 ·have d1 : decide ((97 : Int) ≤ (c : Int)) = false := decide_eq_false (by omega)
  have HE := hid (show lett c = false by unfold lett; rw [decide_eq_false h1]; rfl)
  clear h1
  go_enter Try.func76, Try.ntmps76
  go_wp2_with fail
  go_ret
  exact ⟨by rw [HE.out]; rfl, rfl⟩
theorem isDigit_any (c : Nat) (w : World) : Calls Try.prog 82 #[.int .u8 (c : Int)] w fun e w' => e = .returned (.bool (digi c)) ∧ w = w' := by
 by_cases h1 : 48 ≤ c
 ·have d1 : decide ((48 : Int) ≤ (c : Int)) = true := decide_eq_true (by omega)
  by_cases h2 : c ≤ 57
  ·have d2 : decide ((c : Int) ≤ 57) = true := decide_eq_true (by omega)
   have HE := hid (show digi c = true by unfold digi; rw [decide_eq_true h1, decide_eq_true h2]; rfl)
   clear h1 h2
   go_enter Try.func82, Try.ntmps82
   go_wp2_with fail
   go_ret
   exact ⟨by rw [HE.out]; rfl, rfl⟩
  ·have d2 : decide ((c : Int) ≤ 57) = false := decide_eq_false (by omega)
   have HE := hid (show digi c = false by unfold digi; rw [decide_eq_true h1, decide_eq_false h2]; rfl)
   clear h1 h2
   go_enter Try.func82, Try.ntmps82
   go_wp2_with fail
   go_ret
   exact ⟨by rw [HE.out]; rfl, rfl⟩
 ·have d1 : decide ((48 : Int) ≤ (c : Int)) = false := decide_eq_false (by omega)
  have HE := hid (show digi c = false by unfold digi; rw [decide_eq_false h1]; rfl)
  clear h1
  go_enter Try.func82, Try.ntmps82
  go_wp2_with fail
  go_ret
  exact ⟨by rw [HE.out]; rfl, rfl⟩
theorem isInner_any (c : Nat) (w : World) : Calls Try.prog 77 #[.int .u8 (c : Int)] w fun e w' => e = .returned (.bool (innr c)) ∧ w = w' := by
 have HL := fun W => isLetter_any c W
 have HD := fun W => isDigit_any c W
 have e : innr c = (lett c || digi c || c == 95) := rfl
 generalize innr c = E at *
 generalize lett c = b1 at *
 generalize digi c = b2 at *
 have He := hid e
 clear e
 have HL := hid HL
 have HD := hid HD
 by_cases h : c = 95
 ·have h9 := hid (show (c == 95) = true from beq_iff_eq.2 h)
  have hb : ((c : Int) == 95) = true := beq_iff_eq.2 (by omega)
  clear h
  rcases b1 with _ | _ <;> rcases b2 with _ | _
  all_goals
   go_enter Try.func77, Try.ntmps77
   go_wp2_with (first
    | (go_at_call 76; refine (HL.out _).mono ?_; rintro e w1 ⟨rfl, rfl⟩)
    | (go_at_call 82; refine (HD.out _).mono ?_; rintro e w1 ⟨rfl, rfl⟩))
   go_ret
   exact ⟨by rw [He.out, h9.out]; rfl, rfl⟩
 ·have h9 := hid (show (c == 95) = false from beq_eq_false_iff_ne.2 h)
  have hb : ((c : Int) == 95) = false := beq_eq_false_iff_ne.2 (by omega)
  clear h
  rcases b1 with _ | _ <;> rcases b2 with _ | _
  all_goals
   go_enter Try.func77, Try.ntmps77
   go_wp2_with (first
    | (go_at_call 76; refine (HL.out _).mono ?_; rintro e w1 ⟨rfl, rfl⟩)
    | (go_at_call 82; refine (HD.out _).mono ?_; rintro e w1 ⟨rfl, rfl⟩))
   go_ret
   exact ⟨by rw [He.out, h9.out]; rfl, rfl⟩
theorem kids_any (k : Int) (w : World) : Calls Try.prog 66 #[.int .i64 k] w fun e w' => e = .returned (.int .i64 (kidsOf k)) ∧ w = w' := by
 by_cases h1 : k = 1
 ·subst h1
  go_enter Try.func66, Try.ntmps66
  go_wp2_with fail
  go_ret
  exact ⟨rfl, rfl⟩
 have b1 : (k == 1) = false := beq_eq_false_iff_ne.2 h1
 by_cases h2 : k = 2
 ·subst h2
  go_enter Try.func66, Try.ntmps66
  go_wp2_with fail
  go_ret
  exact ⟨rfl, rfl⟩
 have b2 : (k == 2) = false := beq_eq_false_iff_ne.2 h2
 by_cases h7 : k = 7
 ·subst h7
  go_enter Try.func66, Try.ntmps66
  go_wp2_with fail
  go_ret
  exact ⟨rfl, rfl⟩
 have b7 : (k == 7) = false := beq_eq_false_iff_ne.2 h7
 by_cases h3 : k = 3
 ·subst h3
  go_enter Try.func66, Try.ntmps66
  go_wp2_with fail
  go_ret
  exact ⟨rfl, rfl⟩
 have b3 : (k == 3) = false := beq_eq_false_iff_ne.2 h3
 by_cases h4 : k = 4
 ·subst h4
  go_enter Try.func66, Try.ntmps66
  go_wp2_with fail
  go_ret
  exact ⟨rfl, rfl⟩
 have b4 : (k == 4) = false := beq_eq_false_iff_ne.2 h4
 by_cases h5 : k = 5
 ·subst h5
  go_enter Try.func66, Try.ntmps66
  go_wp2_with fail
  go_ret
  exact ⟨rfl, rfl⟩
 have b5 : (k == 5) = false := beq_eq_false_iff_ne.2 h5
 by_cases h6 : k = 6
 ·subst h6
  go_enter Try.func66, Try.ntmps66
  go_wp2_with fail
  go_ret
  exact ⟨rfl, rfl⟩
 have b6 : (k == 6) = false := beq_eq_false_iff_ne.2 h6
 have HE := hid (show kidsOf k = -1 by unfold kidsOf; rw [if_neg (by omega), if_neg h7, if_neg (by omega)])
 clear h1 h2 h3 h4 h5 h6 h7
 go_enter Try.func66, Try.ntmps66
 go_wp2_with fail
 go_ret
 exact ⟨by rw [HE.out]; rfl, rfl⟩
theorem eName_any (l : List UInt8) (w : World) (hl : l.length ≤ 140737488355328) : Calls Try.prog 69 #[.string (str l)] w fun e w' => e = .returned (.bool (isNameB l)) ∧ w = w' := by
 match l, hl with
 | [], _ =>
  show Calls _ _ #[.string ⟨#[]⟩] _ _
  go_enter Try.func69, Try.ntmps69
  go_wp2_with fail
  go_ret
  exact ⟨rfl, rfl⟩
 | c :: l, hl =>
  obtain ⟨L, hL⟩ : ∃ L, L = c :: l := ⟨_, rfl⟩
  have hh := @name_head c l
  have hlg := @name_long c l
  have hal := @name_all c l
  have hc0 : L[0]? = some c := by rw [hL]; rfl
  rw [← hL] at hh hlg hal hl ⊢
  have h0 : 0 < L.length := by rw [hL]; simp
  clear hL
  have sz := str_size L
  have hem : (str L).toList.isEmpty = false := isEmpty_of _ (by rw [sz]; exact h0)
  have q0 : ∀ W, (Instr.index 9 (.string (str L)) (.int .i64 0)).run Try.prog W = .ok (.int .u8 (c.toNat : Int)) W := fun W => index_str L 0 c hc0 0 rfl W
  obtain ⟨E, hE⟩ : ∃ E, isNameB L = E := ⟨_, rfl⟩
  rw [hE] at hh hlg hal ⊢
  by_cases h24 : 24 < L.length
  ·have d1 : decide ((24 : Int) < (L.length : Int)) = true := decide_eq_true (by omega)
   have HE := hid (hlg h24)
   clear h24 hh hlg hal hE
   go_enter Try.func69, Try.ntmps69
   go_wp2_with fail
   go_ret
   exact ⟨by rw [HE.out]; rfl, rfl⟩
  ·have d1 : decide ((24 : Int) < (L.length : Int)) = false := decide_eq_false (by omega)
   have HLt := hid fun W => isLetter_any c.toNat W
   rw [letterB_eq] at hh hal
   generalize lett c.toNat = b at *
   rcases b with _ | _
   ·have HE := hid (hh rfl)
    clear h24 hh hlg hal hE
    go_enter Try.func69, Try.ntmps69
    go_wp2_with (go_at_call 76; refine (HLt.out _).mono ?_; rintro e w1 ⟨rfl, rfl⟩)
    go_ret
    exact ⟨by rw [HE.out]; rfl, rfl⟩
   ·have HE := hid (hal rfl (by omega))
    clear h24 hh hlg hal hE
    go_enter Try.func69, Try.ntmps69
    go_wp2_with (go_at_call 76; refine (HLt.out _).mono ?_; rintro e w1 ⟨rfl, rfl⟩)
    go_loopw [19] (fun i wr => ∃ j : Nat, j ≤ L.length ∧ i = .int .i64 ((j : Nat) : Int) ∧ Hid (∀ x ∈ L.take j, innerB x = true) ∧ w = wr) (fun i _ => L.length - (intOf i).toNat)
    case atStart => exact ⟨0, by omega, rfl, hid (fun x hx => by simp at hx), rfl⟩
    case round =>
     obtain ⟨j, hj, rfl, HA, rfl⟩ := hrel
     by_cases hlt : j < L.length
     ·obtain ⟨x, hx⟩ : ∃ x, L[j]? = some x := ⟨L[j], List.getElem?_eq_getElem hlt⟩
      have q1 : ∀ W, (Instr.index 9 (.string (str L)) (.int .i64 (j : Int))).run Try.prog W = .ok (.int .u8 (x.toNat : Int)) W := fun W => index_str L j x hx _ rfl W
      have HI := hid fun W => isInner_any x.toNat W
      have HX : Hid (innerB x = innr x.toNat) := hid rfl
      have HS := hid hx
      clear hx q0 hc0
      generalize innr x.toNat = b at *
      rcases b with _ | _
      ·go_wp2_with (go_at_call 77; refine (HI.out _).mono ?_; rintro e w1 ⟨rfl, rfl⟩)
       go_ret
       refine ⟨?_, rfl⟩
       rw [HE.out, List.all_eq_false.2 ⟨x, List.mem_of_getElem? HS.out, by rw [HX.out]; simp⟩]
       rfl
      ·go_wp2_with (go_at_call 77; refine (HI.out _).mono ?_; rintro e w1 ⟨rfl, rfl⟩)
       refine ⟨⟨j + 1, by omega, by go_num, hid (take_all_p HA.out HS.out HX.out), trivial⟩, by simp [intOf]; omega⟩
     ·obtain rfl : j = L.length := by omega
      go_wp2_with fail
      go_ret
      refine ⟨?_, rfl⟩
      have := HA.out
      rw [List.take_length] at this
      rw [HE.out, List.all_eq_true.2 this]
      rfl
end Go.Proofs.Ytahdlpkncemmaaa
namespace Pg
theorem isEmpty_dec {α : Type} {xs : List α} {n : Nat} (h : xs.length = n) : xs.isEmpty = decide (n = 0) := by
 subst h
 cases xs <;> simp
end Pg
namespace Go.Proofs.Ytahdlpkncemmaaa
open Go.RowKit Pg
theorem isNum_any {v0 v1 v2 : Value} {r : RW} (w : World) (h : RowsAt w r v0 v1 v2) (hr : r.Le 1000) :
  Calls Try.prog 67 #[.agg #[v0, v1, v2]] w fun e w' => e = .returned (.bool (isNumR r)) ∧ Below w.heap.size w w' := by
 have HI := hid fun W (hW : Below w.heap.size w W) => rIs_any W (h.below hW) (hr.mono (by omega))
 have HL := hid fun W (hW : Below w.heap.size w W) => Large_R W (rows_arg (h.below hW) hr) (by omega)
 have HD := hid fun W (hW : Below w.heap.size w W) => dExact_any W (rows_arg (h.below hW) hr)
 obtain ⟨A, n, c, A', n', c', rfl, rfl, rfl⟩ := rows_b3 h
 have HX := hid (B3.new w 25 (.bool r.s) (.slice A n c) (.slice A' n' c'))
 obtain ⟨k0, k1, k2, _, _, _⟩ := HX.out.cells
 clear h
 unfold isNumR
 generalize exactQ r.q = E at *
 generalize largeQ r.q = L at *
 generalize r.norm = b at *
 generalize r.s = s at *
 rcases b with _ | _ <;> rcases s with _ | _ <;> rcases L with _ | _
 all_goals
  go_enter Try.func67, Try.ntmps67
  go_wp2_with (first
   | (go_at_call 73; refine (HI.out _ Pg.bel).mono ?_; rintro e w1 ⟨rfl, hb1⟩; clear k0 k1 k2; obtain ⟨k0, k1, k2, _, _, _⟩ := (HX.out.below hb1).cells)
   | (go_at_call 74; refine (HL.out _ Pg.bel).mono ?_; rintro e w2 ⟨rfl, hb2⟩; clear k0 k1 k2; obtain ⟨k0, k1, k2, _, _, _⟩ := ((HX.out.below hb1).below hb2).cells)
   | (go_at_call 75; refine (HD.out _ Pg.bel).mono ?_; rintro e w3 ⟨s, rfl, hb3⟩))
  go_ret
  exact ⟨rfl, Pg.bel⟩
theorem isNone_any {v0 v1 v2 : Value} {r : RW} (w : World) (h : RowsAt w r v0 v1 v2) (hr : r.Le 1000) :
  Calls Try.prog 68 #[.agg #[v0, v1, v2]] w fun e w' => e = .returned (.bool (isNoneR r)) ∧ Below w.heap.size w w' := by
 have HI := hid fun W (hW : Below w.heap.size w W) => rIs_any W (h.below hW) (hr.mono (by omega))
 obtain ⟨A, n, c, A', n', c', rfl, rfl, rfl, h1, h2, _, _⟩ := h
 have e1 := isEmpty_dec h1.len
 have e2 := isEmpty_dec h2.len
 obtain ⟨E, hE⟩ : ∃ E, isNoneR r = E := ⟨_, rfl⟩
 rw [hE]
 unfold isNoneR at hE
 rw [e1, e2] at hE
 have HX := hid (B3.new w 25 (.bool r.s) (.slice A n c) (.slice A' n' c'))
 obtain ⟨k0, k1, k2, _, _, _⟩ := HX.out.cells
 clear h1 h2 e1 e2
 generalize r.norm = b at *
 generalize r.s = s at *
 have HE := hid hE
 clear hE
 by_cases hn : n = 0
 ·subst hn
  by_cases hn' : n' = 0
  ·subst hn'
   rcases s with _ | _
   all_goals
    go_enter Try.func68, Try.ntmps68
    go_wp2_with fail
    go_ret
    exact ⟨by rw [← HE.out]; rfl, Pg.bel⟩
  ·have d2 : ((n' : Int) == 0) = false := beq_eq_false_iff_ne.2 (by omega)
   have HN := hid hn'
   clear hn'
   rcases s with _ | _ <;> rcases b with _ | _
   all_goals
    go_enter Try.func68, Try.ntmps68
    go_wp2_with (go_at_call 73; refine (HI.out _ Pg.bel).mono ?_; rintro e w1 ⟨rfl, hb1⟩)
    go_ret
    exact ⟨by rw [← HE.out, decide_eq_false HN.out]; rfl, Pg.bel⟩
 ·have d1 : ((n : Int) == 0) = false := beq_eq_false_iff_ne.2 (by omega)
  have HN := hid hn
  clear hn
  rcases s with _ | _
  all_goals
   go_enter Try.func68, Try.ntmps68
   go_wp2_with fail
   go_ret
   exact ⟨by rw [← HE.out, decide_eq_false HN.out]; rfl, Pg.bel⟩
end Go.Proofs.Ytahdlpkncemmaaa
