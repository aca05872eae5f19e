/- Walks: pantographref3.run; letters of a text · Walk: pantographref3.Parse of digits with or without a point. Conditions: those that each theorem names. -/
import Derived.Test.YtbhieajpodnfpaaGreatZ33
import Derived.Test.YtbhieajpodnfpaaGreatZ40
import Derived.Test.YtbhieajpodnfpaaGreatZ15
namespace Go.Proofs.YtbhieajpodnfpaaGreat
open Go.RowKit Pg
theorem index_str (l : List UInt8) (j : Nat) (c : UInt8) (h : l[j]? = some c) (z : Int) (hz : z = (j : Int)) (W : World) : (Instr.index 9 (.string (str l)) (.int .i64 z)).run Tryz.prog W = .ok (.int .u8 (c.toNat : Int)) W := by
  subst hz
  have hj := (List.getElem?_eq_some_iff.1 h).1
  rw [run_index_string W _ _ _ _ Tryz.underlying9]
  have hs := str_size l
  have hc : l[j] = c := by rw [List.getElem?_eq_getElem hj] at h; exact Option.some.inj h
  have : (str l)[j]'(by omega) = c := by rw [← hc]; rfl
  simp [hs, hj, this]
end Go.Proofs.YtbhieajpodnfpaaGreat
namespace Go.Proofs.YtbhieajpodnfpaaGreat
open Go.RowKit Pg
/-- A rational, and no error. -/
def ParseRet (w : World) (q : Rat) (e : Ending) (w' : World) : Prop := ∃ v, e = .returned (.tuple #[v, .int .i64 0]) ∧ IsQ w' q v ∧ Below w.heap.size w w'
theorem ParseRet.ok {w w' : World} {q : Rat} {v : Value} (h : RatRet w q (.returned v) w') : ParseRet w q (.returned (.tuple #[v, .int .i64 0])) w' := by
  obtain ⟨A, c, A', c', e, h1, h2, hb⟩ := h
  injection e with e
  exact ⟨v, rfl, ⟨A, c, A', c', e, h1, h2⟩, hb⟩
theorem slice_to (L M : List UInt8) (m : Nat) (z : Int) (W : World) (hz : z = (m : Int)) (hm : m ≤ L.length) (hM : L.take m = M) : (Instr.slice 9 (.string (str L)) none (some (.int .i64 z)) none).run Tryz.prog W = .ok (.string (str M)) W := by
  subst hz hM
  rw [run_slice_string_h W _ _ Tryz.underlying9 _ _ (by omega) (by rw [str_size]; omega)]
  rw [Int.toNat_natCast, str_extract]
theorem slice_from (L M : List UInt8) (m : Nat) (z : Int) (W : World) (hz : z = (m : Int)) (hm : m ≤ L.length) (hM : L.drop m = M) : (Instr.slice 9 (.string (str L)) (some (.int .i64 z)) none none).run Tryz.prog W = .ok (.string (str M)) W := by
  subst hz hM
  rw [run_slice_string_l W _ _ Tryz.underlying9 _ _ (by omega) (by rw [str_size]; omega)]
  rw [Int.toNat_natCast, str_extract_end]
theorem isEmpty_str {l : List UInt8} (h : 0 < l.length) : (str l).toList.isEmpty = false := isEmpty_of _ (by rw [str_size]; exact h)
theorem all_get {l : List UInt8} (h : l.all isDg = true) {j : Nat} (hj : j < l.length) : isDg l[j] = true := (List.all_eq_true.1 h) _ (List.getElem_mem hj)
theorem pval_len {l : List UInt8} {k : Nat} (h : l.all isDg = true) (hl : l.length ≤ k) : (limbs (pval l)).length ≤ k :=
  length_limbs_le (Nat.lt_of_lt_of_le (pval_lt l h) (Nat.le_trans (Nat.pow_le_pow_right (by omega) hl) (ten_lt k)))
end Go.Proofs.YtbhieajpodnfpaaGreat
