/- Walk. Conditions: those that each theorem names. -/
import Derived.Test.YtahdlpkncemmaaaGreatY15
import Derived.Test.YtahdlpkncemmaaaGreatY1
import Derived.Test.YtahdlpkncemmaaaGreatY22
import Derived.Laws.IdiomStrings
set_option maxRecDepth 100000
set_option maxHeartbeats 8000000
set_option linter.unusedSimpArgs false
set_option linter.unusedVariables false
namespace Go.Proofs.YtahdlpkncemmaaaGreat
open Go.RowKit Pg
def str (l : List UInt8) : ByteArray := ⟨l.toArray⟩
theorem str_size (l : List UInt8) : (str l).size = l.length := by show l.toArray.size = _; simp
theorem byte_back (src dst : TypeId) (hs : Tryz.prog.underlying src = some (.slice 5)) (hd : Tryz.prog.underlying dst = some .string) (d : Nat) (hd10 : d < 10) (W : World) (y : Int) (hy : y = ((48 + d : Nat) : Int)) (g : Nat) (hg : g = W.heap.size) (t : TypeId) :
  (convert src dst (.slice (some ⟨g, 0, none⟩) 1 1)).run Tryz.prog (W.alloc (.cells #[.int .u8 y] t)) = .ok (.string (str [chr d])) (W.alloc (.cells #[.int .u8 y] t)) := by
 subst hy hg
 refine run_convert_bytes_back _ src dst 5 ⟨W.heap.size, 0, none⟩ 1 [chr d] hs Tryz.underlying5 hd (fun j hj => ?_)
 obtain rfl : j = 0 := by simpa using hj
 rw [Addr.add_lit, Nat.zero_add]
 simp [chr_nat hd10]
theorem add_text (a b : List UInt8) (h : a.length + b.length ≤ 9223372036854775807) (W : World) : (Op.stringOp .add (str a) (str b)).run Tryz.prog W = .ok (.string (str (a ++ b))) W := by
 rw [run_string_add_sum W _ _ (by rw [str_size, str_size]; exact h)]
 show Result.ok (Value.string (ByteArray.mk a.toArray ++ ByteArray.mk b.toArray)) W = _
 rw [ByteArray.mk_append_mk]; rfl
theorem dig_bound {N k : Nat} (h : N < 4294967296 ^ k) : (dig N).length ≤ 10 * k :=
 length_dig_le (Nat.lt_of_lt_of_le h (by rw [Nat.pow_mul]; exact Nat.pow_le_pow_left (by decide) k))
theorem rPrint_any (A : Option Addr) (n c : Nat) (xs : List Nat) (w : World) (h : Row w A n c xs) (hb : n ≤ 1048576) :
  Calls Tryz.prog 130 #[.slice A n c] w fun e w' => e = .returned (.string (str (dtext (val xs)))) ∧ Below w.heap.size w w' := by
 have hT := hid (rTrim_any A n c xs w h (by omega))
 have l1 : (limbs (val xs)).length ≤ 1048576 := by have := tl_le h.ok; rw [h.len] at this; unfold tl at this; omega
 have ld : (dig (val xs)).length ≤ 10485760 := by
  have := dig_bound (val_lt h.ok)
  rw [h.len] at this; omega
 clear h
 generalize val xs = N at *
 rcases Nat.eq_zero_or_pos N with h0 | h0
 ·subst h0
  have e0 : (limbs 0).length = 0 := rfl
  go_enter Tryz.func130, Tryz.ntmps130
  go_wp2_with (go_at_call 78; refine (hT.out).mono ?_; rintro e w1 ⟨A1, c1, rfl, hr1, hb1⟩)
  go_ret
  exact ⟨rfl, hb1⟩
 have hne : (((limbs N).length : Int) == 0) = false := by
  have : (limbs N).length ≠ 0 := fun e => by have := limbs_eq_nil.1 (List.eq_nil_of_length_eq_zero e); omega
  exact beq_eq_false_iff_ne.2 (by omega)
 have HD := hid ld
 clear ld
 have HN := hid h0
 clear h0
 go_enter Tryz.func130, Tryz.ntmps130
 go_wp2_with (go_at_call 78; refine (hT.out).mono ?_; rintro e w1 ⟨A1, c1, rfl, hr1, hb1⟩)
 go_loopw [3, 4] (fun s3 s4 wr => ∃ M A c ds, s3 = .slice A (limbs M).length c ∧ s4 = .string (str ((ds.map chr).reverse)) ∧ Row wr A (limbs M).length c (limbs M) ∧ Hid (dig N = ds ++ dig M) ∧ (limbs M).length ≤ 1048576 ∧ Below w.heap.size w wr) (fun s3 _ wr => rowval wr s3)
 case atStart => exact ⟨N, A1, c1, [], rfl, rfl, hr1, rfl, l1, hb1⟩
 case round =>
  obtain ⟨M, A2, c2, ds, rfl, rfl, hr, HM, hlm, hbel⟩ := hrel
  clear hb1 hr1
  have hv := hr.rowval
  rw [val_limbs] at hv
  rcases Nat.eq_zero_or_pos M with hm | hm
  ·subst hm
   have e0 : (limbs 0).length = 0 := rfl
   have HE : Hid (dtext N = (ds.map chr).reverse) := hid (by
    rw [dtext_pos (by have := HN.out; omega), HM.out, dig_zero, List.append_nil])
   clear hv
   go_wp2_with fail
   go_ret
   exact ⟨by rw [HE.out]; rfl, hbel⟩
  ·have hpos : 0 < (limbs M).length := by
    have : (limbs M).length ≠ 0 := fun e => by have := limbs_eq_nil.1 (List.eq_nil_of_length_eq_zero e); omega
    omega
   have hd0 : decide ((0 : Int) < ((limbs M).length : Int)) = true := by simp; omega
   have HV := hid hv
   have hS := rsmall_any A2 _ c2 10 _ wr hr (by omega) (by omega) (by omega)
   rw [val_limbs] at hS
   have hlt := Nat.mod_lt M (show 0 < 10 by omega)
   have HM2 : Hid (dig N = (ds ++ [M % 10]) ++ dig (M / 10)) := hid (by rw [HM.out, dig_pos (by omega), List.append_assoc]; rfl)
   have hlen : ds.length + 1 ≤ 10485760 := by
    have e1 := congrArg List.length HM2.out
    have e2 := HD.out
    simp at e1; omega
   have HQ : Hid (M / 10 < M) := hid (by omega)
   have hl2 := Nat.le_trans (limbs_mono (Nat.le_of_lt HQ.out)) hlm
   have HS : Hid (Calls Tryz.prog 103 #[.slice A2 (limbs M).length c2, .int .u64 10] wr fun e w' => ∃ A' c', e = .returned (.tuple #[.slice A' (limbs (M / 10)).length c', .int .u64 ((M % 10 : Nat) : Int)]) ∧ Row w' A' (limbs (M / 10)).length c' (limbs (M / 10)) ∧ Below wr.heap.size wr w') := hid hS
   clear hS hv
   generalize M % 10 = d at *
   generalize M / 10 = Q at *
   have hadd := fun W => add_text [chr d] ((ds.map chr).reverse) (by simp; omega) W
   have hcv := fun (W : World) (t : TypeId) => byte_back 133 9 Tryz.underlying133 Tryz.underlying9 d hlt W (48 + (d : Int)) (by omega) W.heap.size rfl t
   go_wp2_with (go_at_call 103; refine (HS.out).mono ?_; rintro e w3 ⟨A5, c5, rfl, hr5, hb3⟩)
   go_roundw
   case rel => exact ⟨Q, A5, c5, ds ++ [d], rfl, by rw [List.map_append, List.reverse_append]; rfl, hr5.alloc _, HM2, hl2, Below.then_ hbel (Below.new_ hb3 _)⟩
   case measure =>
    have e2 := (hr5.alloc (.cells #[.int .u8 (48 + (d : Int))] 5)).rowval
    rw [val_limbs] at e2
    rw [e2, HV.out]
    exact HQ.out
end Go.Proofs.YtahdlpkncemmaaaGreat
