/- Walks: dec.ten, held, sign, pointed. Conditions: those that each theorem names. -/
import Derived.Test.YtbhieajpodnfpaaGreatZ24
import Derived.Test.YtbhieajpodnfpaaGreatZ26
import Derived.Test.YtbhieajpodnfpaaGreatZ30
import Derived.Shelf.Strings.Repeat
import Derived.Deep.QuietTactic
import Derived.BigQuiet
namespace Pg
theorem repeatL_48 (c : Nat) : Go.Lib.repeatL [48] c = List.replicate c (48 : UInt8) := by
  induction c with
  | zero => rfl
  | succ c ih => rw [List.replicate_succ]; show [48] ++ Go.Lib.repeatL [48] c = _; rw [ih]; rfl
theorem limbs_ten (k : Nat) : (limbs (10 ^ k)).length ≤ k + 1 := length_limbs_le (Nat.lt_of_le_of_lt (ten_lt k) (Nat.pow_lt_pow_right (by omega) (by omega)))
/-- Digits with a point ahead of the last k. -/
def pt (l : List UInt8) (k : Nat) : List UInt8 := if k = 0 then l else (pad k l).take ((pad k l).length - k) ++ 46 :: (pad k l).drop ((pad k l).length - k)
theorem pt_dtext (N k : Nat) : pt (dtext N) k = ptext N k := rfl
end Pg
namespace Go.Proofs.YtbhieajpodnfpaaGreat
open Go.RowKit Pg
theorem str_extract (L : List UInt8) (m : Nat) : (str L).extract 0 m = str (L.take m) := by
  apply ByteArray.ext
  simp [str]
theorem str_extract_end (L : List UInt8) (m : Nat) : (str L).extract m (str L).size = str (L.drop m) := by
  apply ByteArray.ext
  simp [str]
  exact List.take_of_length_le (by rw [List.length_drop]; exact Nat.le_refl _)
theorem builderExtra : Builder.Extra Tryz.prog Tryz.lay105_ren :=
  { sizeBuilder := by kernel_rfl, liesBuilder := by kernel_rfl, t5 := Tryz.underlying5, a5 := Tryz.isAgg5, z5 := Tryz.sizeOf5, v5 := Tryz.zeroValue5, infoByte := by kernel_rfl, cellsByte := by kernel_rfl, sizeByte := by kernel_rfl, neB5 := by decide }
theorem repeat_any (c : Nat) (z : Int) (w : World) (hz : z = (c : Int)) (hc : c ≤ 100000) :
    Calls Tryz.prog 60 #[.string ⟨#[48]⟩, .int .i64 z] w fun e w' => e = .returned (.string (str (List.replicate c 48))) ∧ Below w.heap.size w w' := by
  subst hz
  refine (Any.strings_Repeat Tryz.lay105 builderExtra ⟨#[48]⟩ c w (by omega) (by show 1 * c ≤ _; omega)).mono ?_
  rintro e w' ⟨rfl, hb⟩
  exact ⟨by show Ending.returned (.string ⟨(Lib.repeatL [48] c).toArray⟩) = _; rw [repeatL_48]; rfl, hb⟩
/-- dec.ten. -/
theorem dten_any (k : Nat) (w : World) (hk : k ≤ 60) : Calls Tryz.prog 38 #[.int .i64 (k : Int)] w (Ret w (10 ^ k)) := by
  have HO := hid fun W => Of_one W
  have HT := hid fun W => Of_any 10 W (by omega)
  go_enter Tryz.func38, Tryz.ntmps38
  go_wp2_with (go_at_call 66; refine (HO.out _).mono ?_; rintro e w1 ⟨A1, c1, rfl, hr1, hb1⟩)
  go_loopw [3, 6] (fun s3 i wr => ∃ j P A c, j ≤ k ∧ i = .int .i64 ((j : Nat) : Int) ∧ s3 = .slice A (limbs P).length c ∧ Row wr A (limbs P).length c (limbs P) ∧ (limbs P).length ≤ 61 ∧ Hid (P = 10 ^ j) ∧ Below w.heap.size w wr) (fun _ i _ => k - (intOf i).toNat)
  case atStart => exact ⟨0, 1, A1, c1, by omega, rfl, rfl, hr1, by rw [limbs_one]; decide, hid rfl, hb1⟩
  case round =>
    obtain ⟨j, P, A2, c2, hj, rfl, rfl, hr, hl, hP, hbel⟩ := hrel
    clear hr1 hb1
    by_cases hlt : j < k
    · go_wp2_with (first
        | (go_at_call 66; refine (HT.out _).mono ?_; rintro e w2 ⟨A3, c3, rfl, hr3, hb3⟩)
        | (go_at_call 64; refine (Mul_N _ _ _ _ _ _ _ _ _ P 10 (by repeat first | assumption | apply Pg.Row.below (hb := by assumption) | apply Pg.Row.alloc | apply Pg.Row.drewN) (by repeat first | assumption | apply Pg.Row.below (hb := by assumption) | apply Pg.Row.alloc | apply Pg.Row.drewN) (by first | exact val_limbs _ | rfl) (by first | exact val_limbs _ | rfl) (by omega) (by rw [show (limbs 10).length = 1 by decide +kernel]; omega)).mono ?_; rintro e w3 ⟨A4, c4, rfl, hr4, hb4⟩))
      have hl2 := limbs_ten (j + 1)
      have hP2 : P * 10 = 10 ^ (j + 1) := by rw [hP.out, Nat.pow_succ]
      refine ⟨⟨j + 1, P * 10, A4, c4, by omega, by go_num, rfl, hr4, by rw [hP2]; omega, hid hP2, (by repeat first | exact Below.refl _ _ | assumption | refine Pg.Below.then_ ?_ (by assumption) | refine Pg.Below.new_ ?_ _ | refine Pg.Below.drewN_ ?_ _)⟩, by simp [intOf]; omega⟩
    · have : j = k := by omega
      subst this
      go_wp2_with fail
      go_ret
      exact Ret.of_row hr (by rw [hP.out]) hbel
/-- dec.held. -/
theorem held_any (k : Nat) (w : World) (hk : k ≤ 9) : Calls Tryz.prog 31 #[.int .i64 (k : Int)] w fun e w' => e = .returned (.int .i64 (k : Int)) ∧ w = w' := by
  go_enter Tryz.func31, Tryz.ntmps31
  go_wp2_with fail
  go_ret
  refine ⟨congrArg (fun z : Int => Ending.returned (.int .i64 z)) ?_, rfl⟩
  omega
/-- dec.sign. -/
theorem dsign_any (b : Bool) (v1 v2 : Value) (w : World) : Calls Tryz.prog 32 #[.agg #[.bool b, v1, v2]] w fun e w' => e = .returned (.string (str (stext b))) ∧ Below w.heap.size w w' := by
  obtain ⟨k0, k1, k2, _, _, _⟩ := (B3.new w 53 (.bool b) v1 v2).cells
  rcases b with _ | _
  all_goals
    go_enter Tryz.func32, Tryz.ntmps32
    go_wp2_with fail
    go_ret
    exact ⟨rfl, (by repeat first | exact Below.refl _ _ | assumption | refine Pg.Below.then_ ?_ (by assumption) | refine Pg.Below.new_ ?_ _ | refine Pg.Below.drewN_ ?_ _)⟩
set_option maxHeartbeats 1000000 in
/-- dec.pointed. -/
theorem pointed_any (l : List UInt8) (k : Nat) (w : World) (hl : l.length ≤ 100000) (hl0 : 0 < l.length) (hk : k ≤ 60) : Calls Tryz.prog 33 #[.string (str l), .int .i64 (k : Int)] w fun e w' => e = .returned (.string (str (pt l k))) ∧ Below w.heap.size w w' := by
  by_cases h0 : k = 0
  · subst h0
    go_enter Tryz.func33, Tryz.ntmps33
    go_wp2_with fail
    go_ret
    exact ⟨rfl, (by repeat first | exact Below.refl _ _ | assumption | refine Pg.Below.then_ ?_ (by assumption) | refine Pg.Below.new_ ?_ _ | refine Pg.Below.drewN_ ?_ _)⟩
  · have hs := str_size l
    have hp := pad_length k l
    have hpl : (pad k l).length ≤ 100100 := by unfold pad; rw [List.length_append, List.length_replicate]; omega
    have hpt : pt l k = (pad k l).take ((pad k l).length - k) ++ 46 :: (pad k l).drop ((pad k l).length - k) := by
      unfold pt; rw [if_neg h0]
    have q1 : ∀ W, (Op.stringOp .add (str (List.replicate (k + 1 - l.length) 48)) (str l)).run Tryz.prog W = .ok (.string (str (pad k l))) W := fun W => add_text (List.replicate (k + 1 - l.length) 48) l (by rw [List.length_replicate]; omega) W
    have HR := hid fun W (z : Int) (hz : z = ((k + 1 - l.length : Nat) : Int)) => repeat_any (k + 1 - l.length) z W hz (by omega)
    have hkz : ((k : Int) == 0) = false := beq_eq_false_iff_ne.2 (by omega)
    obtain ⟨L, hL⟩ : ∃ L, pad k l = L := ⟨_, rfl⟩
    rw [hL] at hp hpl hpt q1
    have sz := str_size L
    have q2 : ∀ W, (Instr.slice 9 (.string (str L)) none (some (.int .i64 ((L.length : Int) - (k : Int)))) none).run Tryz.prog W = .ok (.string (str (L.take (L.length - k)))) W := fun W => by
      rw [run_slice_string_h W _ _ Tryz.underlying9 _ _ (by omega) (by rw [sz]; omega)]
      rw [show ((L.length : Int) - (k : Int)).toNat = L.length - k by omega, str_extract]
    have q3 : ∀ W, (Instr.slice 9 (.string (str L)) (some (.int .i64 ((L.length : Int) - (k : Int)))) none none).run Tryz.prog W = .ok (.string (str (L.drop (L.length - k)))) W := fun W => by
      rw [run_slice_string_l W _ _ Tryz.underlying9 _ _ (by omega) (by rw [sz]; omega)]
      rw [show ((L.length : Int) - (k : Int)).toNat = L.length - k by omega, str_extract_end]
    have q4 : ∀ W, (Op.stringOp .add (str (L.take (L.length - k))) ⟨#[46]⟩).run Tryz.prog W = .ok (.string (str (L.take (L.length - k) ++ [46]))) W := fun W => add_text (L.take (L.length - k)) [46] (by rw [List.length_take, List.length_singleton]; omega) W
    have q5 : ∀ W, (Op.stringOp .add (str (L.take (L.length - k) ++ [46])) (str (L.drop (L.length - k)))).run Tryz.prog W = .ok (.string (str (L.take (L.length - k) ++ [46] ++ L.drop (L.length - k)))) W := fun W => add_text _ _ (by simp only [List.length_append, List.length_take, List.length_drop, List.length_singleton]; omega) W
    have hw : IntKind.i64.wrap ((L.length : Int) - (k : Int)) = (L.length : Int) - (k : Int) := by rw [IntKind.wrap_i64]; omega
    have HP := hid hpt
    clear hpt hL h0 hp
    go_enter Tryz.func33, Tryz.ntmps33
    go_upto_region 4 with (go_at_call 60; refine (HR.out _ _ (by omega)).mono ?_; rintro e w1 ⟨rfl, hb1⟩)
    go_quiet (fail)
    go_wp2_with fail
    go_ret
    exact ⟨by rw [HP.out]; rfl, (by repeat first | exact Below.refl _ _ | assumption | refine Pg.Below.then_ ?_ (by assumption) | refine Pg.Below.new_ ?_ _ | refine Pg.Below.drewN_ ?_ _)⟩
end Go.Proofs.YtbhieajpodnfpaaGreat
