/- Walks · Walks · Walks. Conditions: those that each theorem names. -/
import Derived.Test.YtahdlpkncemmaaaW21
import Derived.Test.YtahdlpkncemmaaaW23
import Derived.Test.YtahdlpkncemmaaaW27
import Derived.Shelf.Strings.Repeat
import Derived.Deep.QuietTactic
import Derived.BigQuiet
import Derived.Test.YtahdlpkncemmaaaW20
import Derived.Test.YtahdlpkncemmaaaW17
set_option maxRecDepth 100000
set_option maxHeartbeats 8000000
set_option linter.unusedSimpArgs false
set_option linter.unusedVariables false
namespace Pg
theorem repeatL_48 (c : Nat) : Go.Lib.repeatL [48] c = List.replicate c (48 : UInt8) := by
 induction c with
 | zero => rfl
 | succ c ih => rw [List.replicate_succ]; show [48] ++ Go.Lib.repeatL [48] c = _; rw [ih]; rfl
theorem limbs_ten (k : Nat) : (limbs (10 ^ k)).length ≤ k + 1 := length_limbs_le (Nat.lt_of_le_of_lt (ten_lt k) (Nat.pow_lt_pow_right (by omega) (by omega)))
def pt (l : List UInt8) (k : Nat) : List UInt8 := if k = 0 then l else (pad k l).take ((pad k l).length - k) ++ 46 :: (pad k l).drop ((pad k l).length - k)
end Pg
namespace Go.Proofs.Ytahdlpkncemmaaa
open Go.RowKit Pg
theorem str_extract (L : List UInt8) (m : Nat) : (str L).extract 0 m = str (L.take m) := by
 apply ByteArray.ext
 simp [str]
theorem str_extract_end (L : List UInt8) (m : Nat) : (str L).extract m (str L).size = str (L.drop m) := by
 apply ByteArray.ext
 simp [str]
 exact List.take_of_length_le (by rw [List.length_drop]; exact Nat.le_refl _)
theorem builderExtra : Builder.Extra Try.prog Try.lay105_ren :=
 { sizeBuilder := by kernel_rfl, liesBuilder := by kernel_rfl, t5 := Try.underlying5, a5 := Try.isAgg5, z5 := Try.sizeOf5, v5 := Try.zeroValue5, infoByte := by kernel_rfl, cellsByte := by kernel_rfl, sizeByte := by kernel_rfl, neB5 := by decide }
theorem repeat_any (c : Nat) (z : Int) (w : World) (hz : z = (c : Int)) (hc : c ≤ 100000) :
  Calls Try.prog 83 #[.string ⟨#[48]⟩, .int .i64 z] w fun e w' => e = .returned (.string (str (List.replicate c 48))) ∧ Below w.heap.size w w' := by
 subst hz
 refine (Any.strings_Repeat Try.lay105 builderExtra ⟨#[48]⟩ c w (by omega) (by show 1 * c ≤ _; omega)).mono ?_
 rintro e w' ⟨rfl, hb⟩
 exact ⟨by show Ending.returned (.string ⟨(Lib.repeatL [48] c).toArray⟩) = _; rw [repeatL_48]; rfl, hb⟩
theorem dten_any (k : Nat) (w : World) (hk : k ≤ 60) : Calls Try.prog 78 #[.int .i64 (k : Int)] w (Ret w (10 ^ k)) := by
 have HO := hid fun W => Of_one W
 have HT := hid fun W => Of_any 10 W (by omega)
 go_enter Try.func78, Try.ntmps78
 go_wp2_with (go_at_call 34; refine (HO.out _).mono ?_; rintro e w1 ⟨A1, c1, rfl, hr1, hb1⟩)
 go_loopw [3, 6] (fun s3 i wr => ∃ j P A c, j ≤ k ∧ i = .int .i64 ((j : Nat) : Int) ∧ s3 = .slice A (limbs P).length c ∧ Row wr A (limbs P).length c (limbs P) ∧ (limbs P).length ≤ 61 ∧ Hid (P = 10 ^ j) ∧ Below w.heap.size w wr) (fun _ i _ => k - (intOf i).toNat)
 case atStart => exact ⟨0, 1, A1, c1, by omega, rfl, rfl, hr1, by rw [limbs_one]; decide, hid rfl, hb1⟩
 case round =>
  obtain ⟨j, P, A2, c2, hj, rfl, rfl, hr, hl, hP, hbel⟩ := hrel
  clear hr1 hb1
  by_cases hlt : j < k
  ·go_wp2_with (first
    | (go_at_call 34; refine (HT.out _).mono ?_; rintro e w2 ⟨A3, c3, rfl, hr3, hb3⟩)
    | (go_at_call 23; refine (Mul_N _ _ _ _ _ _ _ _ _ P 10 (by repeat first | assumption | apply Pg.Row.below (hb := by assumption) | apply Pg.Row.alloc | apply Pg.Row.drewN) (by repeat first | assumption | apply Pg.Row.below (hb := by assumption) | apply Pg.Row.alloc | apply Pg.Row.drewN) (by first | exact val_limbs _ | rfl) (by first | exact val_limbs _ | rfl) (by omega) (by rw [show (limbs 10).length = 1 by decide +kernel]; omega)).mono ?_; rintro e w3 ⟨A4, c4, rfl, hr4, hb4⟩))
   have hl2 := limbs_ten (j + 1)
   have hP2 : P * 10 = 10 ^ (j + 1) := by rw [hP.out, Nat.pow_succ]
   refine ⟨⟨j + 1, P * 10, A4, c4, by omega, by go_num, rfl, hr4, by rw [hP2]; omega, hid hP2, Pg.bel⟩, by simp [intOf]; omega⟩
  ·have : j = k := by omega
   subst this
   go_wp2_with fail
   go_ret
   exact Ret.of_row hr (by rw [hP.out]) hbel
theorem dsign_any (b : Bool) (v1 v2 : Value) (w : World) : Calls Try.prog 79 #[.agg #[.bool b, v1, v2]] w fun e w' => e = .returned (.string (str (stext b))) ∧ Below w.heap.size w w' := by
 obtain ⟨k0, k1, k2, _, _, _⟩ := (B3.new w 25 (.bool b) v1 v2).cells
 rcases b with _ | _
 all_goals
  go_enter Try.func79, Try.ntmps79
  go_wp2_with fail
  go_ret
  exact ⟨rfl, Pg.bel⟩
theorem pointed_any (l : List UInt8) (k : Nat) (w : World) (hl : l.length ≤ 100000) (hl0 : 0 < l.length) (hk : k ≤ 60) : Calls Try.prog 80 #[.string (str l), .int .i64 (k : Int)] w fun e w' => e = .returned (.string (str (pt l k))) ∧ Below w.heap.size w w' := by
 by_cases h0 : k = 0
 ·subst h0
  go_enter Try.func80, Try.ntmps80
  go_wp2_with fail
  go_ret
  exact ⟨rfl, Pg.bel⟩
 ·have hs := str_size l
  have hp := pad_length k l
  have hpl : (pad k l).length ≤ 100100 := by unfold pad; rw [List.length_append, List.length_replicate]; omega
  have hpt : pt l k = (pad k l).take ((pad k l).length - k) ++ 46 :: (pad k l).drop ((pad k l).length - k) := by
   unfold pt; rw [if_neg h0]
  have q1 : ∀ W, (Op.stringOp .add (str (List.replicate (k + 1 - l.length) 48)) (str l)).run Try.prog W = .ok (.string (str (pad k l))) W := fun W => add_text (List.replicate (k + 1 - l.length) 48) l (by rw [List.length_replicate]; omega) W
  have HR := hid fun W (z : Int) (hz : z = ((k + 1 - l.length : Nat) : Int)) => repeat_any (k + 1 - l.length) z W hz (by omega)
  have hkz : ((k : Int) == 0) = false := beq_eq_false_iff_ne.2 (by omega)
  obtain ⟨L, hL⟩ : ∃ L, pad k l = L := ⟨_, rfl⟩
  rw [hL] at hp hpl hpt q1
  have sz := str_size L
  have q2 : ∀ W, (Instr.slice 9 (.string (str L)) none (some (.int .i64 ((L.length : Int) - (k : Int)))) none).run Try.prog W = .ok (.string (str (L.take (L.length - k)))) W := fun W => by
   rw [run_slice_string_h W _ _ Try.underlying9 _ _ (by omega) (by rw [sz]; omega)]
   rw [show ((L.length : Int) - (k : Int)).toNat = L.length - k by omega, str_extract]
  have q3 : ∀ W, (Instr.slice 9 (.string (str L)) (some (.int .i64 ((L.length : Int) - (k : Int)))) none none).run Try.prog W = .ok (.string (str (L.drop (L.length - k)))) W := fun W => by
   rw [run_slice_string_l W _ _ Try.underlying9 _ _ (by omega) (by rw [sz]; omega)]
   rw [show ((L.length : Int) - (k : Int)).toNat = L.length - k by omega, str_extract_end]
  have q4 : ∀ W, (Op.stringOp .add (str (L.take (L.length - k))) ⟨#[46]⟩).run Try.prog W = .ok (.string (str (L.take (L.length - k) ++ [46]))) W := fun W => add_text (L.take (L.length - k)) [46] (by rw [List.length_take, List.length_singleton]; omega) W
  have q5 : ∀ W, (Op.stringOp .add (str (L.take (L.length - k) ++ [46])) (str (L.drop (L.length - k)))).run Try.prog W = .ok (.string (str (L.take (L.length - k) ++ [46] ++ L.drop (L.length - k)))) W := fun W => add_text _ _ (by simp only [List.length_append, List.length_take, List.length_drop, List.length_singleton]; omega) W
  have hw : IntKind.i64.wrap ((L.length : Int) - (k : Int)) = (L.length : Int) - (k : Int) := by rw [IntKind.wrap_i64]; omega
  have HP := hid hpt
  clear hpt hL h0 hp
  go_enter Try.func80, Try.ntmps80
  go_upto_region 4 with (go_at_call 83; refine (HR.out _ _ (by omega)).mono ?_; rintro e w1 ⟨rfl, hb1⟩)
  go_quiet (fail)
  go_wp2_with fail
  go_ret
  exact ⟨by rw [HP.out]; rfl, Pg.bel⟩
end Go.Proofs.Ytahdlpkncemmaaa
namespace Pg
open Go Go.RowKit
end Pg
namespace Go.Proofs.Ytahdlpkncemmaaa
open Go.RowKit Pg
def Pr (N M : Nat) (w : World) (v : Value) : Prop := ∃ A c A' c', v = .tuple #[.slice A (limbs N).length c, .slice A' (limbs M).length c', .bool true] ∧ Row w A (limbs N).length c (limbs N) ∧ Row w A' (limbs M).length c' (limbs M)
end Go.Proofs.Ytahdlpkncemmaaa
namespace Pg
theorem dtext_len {N k : Nat} (h : (limbs N).length ≤ k) : (dtext N).length ≤ 10 * k + 1 := by
 by_cases h0 : N = 0
 ·subst h0; rw [dtext_zero]; simp
 ·rw [dtext_pos h0, List.length_reverse, List.length_map]
  have h1 : N < 10 ^ (10 * k) := Nat.lt_of_lt_of_le (Nat.lt_of_lt_of_le (lt_pow_length N) (Nat.pow_le_pow_right (by omega) h)) (by rw [Nat.pow_mul]; exact Nat.pow_le_pow_left (by decide) k)
  exact Nat.le_trans (length_dig_le h1) (by omega)
theorem pt_len (l : List UInt8) (k : Nat) : (pt l k).length ≤ l.length + k + 2 := by
 unfold pt pad
 split
 ·omega
 ·simp only [List.length_append, List.length_take, List.length_cons, List.length_drop, List.length_replicate]; omega
theorem stext_len (b : Bool) : (stext b).length ≤ 1 := by cases b <;> decide
end Pg
namespace Go.Proofs.Ytahdlpkncemmaaa
open Go.RowKit Pg
end Go.Proofs.Ytahdlpkncemmaaa
namespace Go.Proofs.Ytahdlpkncemmaaa
open Go.RowKit Pg
end Go.Proofs.Ytahdlpkncemmaaa
