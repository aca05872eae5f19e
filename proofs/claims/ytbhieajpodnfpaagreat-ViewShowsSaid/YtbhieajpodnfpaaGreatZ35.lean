/- Walk: nat.Parse. Conditions: those that each theorem names. -/
import Derived.Test.YtbhieajpodnfpaaGreatZ4
import Derived.Test.YtbhieajpodnfpaaGreatZ25
import Derived.Test.YtbhieajpodnfpaaGreatZ1
import Derived.Test.YtbhieajpodnfpaaGreatZ29
namespace Go.Proofs.YtbhieajpodnfpaaGreat
open Go.RowKit Pg

/-- May letters be read as a number? -/
def pok (l : List UInt8) : Bool := decide (1 ≤ l.length) && decide (l.length ≤ 400) && l.all isDg
/-- The number that letters say; 0: they say none. -/
def pnum (l : List UInt8) : Nat := if pok l = true then pval l else 0
/-- A call hands back the number N in a row, and whether it may. -/
def RetT (w : World) (N : Nat) (b : Bool) (e : Ending) (w' : World) : Prop :=
  ∃ A c, e = .returned (.tuple #[.slice A (limbs N).length c, .bool b]) ∧ Row w' A (limbs N).length c (limbs N) ∧ Below w.heap.size w w'
theorem RetT.of_row {w w' : World} {A : Option Addr} {n c N : Nat} {b : Bool} {xs : List Nat} (h : Row w' A n c xs) (e : xs = limbs N) (hb : Below w.heap.size w w') :
    RetT w N b (.returned (.tuple #[.slice A n c, .bool b])) w' := by
  subst e
  have := h.len
  subst this
  exact ⟨A, c, rfl, h, hb⟩
theorem pok_no {l : List UInt8} (h : l.length = 0 ∨ 400 < l.length ∨ l.all isDg = false) : pok l = false ∧ pnum l = 0 := by
  have e : pok l = false := by
    unfold pok
    rcases h with h | h | h
    · rw [decide_eq_false (by omega : ¬ 1 ≤ l.length)]; rfl
    · rw [decide_eq_false (by omega : ¬ l.length ≤ 400), Bool.and_false]; rfl
    · rw [h, Bool.and_false]
  exact ⟨e, by unfold pnum; rw [e]; rfl⟩
theorem pok_yes {l : List UInt8} (h1 : 1 ≤ l.length) (h2 : l.length ≤ 400) (h : l.all isDg = true) : pok l = true ∧ pnum l = pval l := by
  have e : pok l = true := by unfold pok; rw [decide_eq_true h1, decide_eq_true h2, h]; rfl
  exact ⟨e, by unfold pnum; rw [if_pos e]⟩
theorem isEmpty_of (s : ByteArray) (h : 0 < s.size) : s.toList.isEmpty = false := by
  rw [Lib.toList_data]
  cases hh : s.data.toList with
  | nil => have := Lib.size_eq s; rw [hh, List.length_nil] at this; omega
  | cons _ _ => rfl

theorem pow_ten (k : Nat) : 10 ^ k ≤ 4294967296 ^ k := Nat.pow_le_pow_left (by omega) k
theorem pval_limbs {l : List UInt8} {k : Nat} (h : l.all isDg = true) (hk : k ≤ 400) (hl : k ≤ l.length) : (limbs (pval (l.take k))).length ≤ 400 := by
  have h1 := pval_lt (l.take k) (by rw [List.all_eq_true] at h ⊢; exact fun c hc => h c (List.mem_of_mem_take hc))
  rw [List.length_take, Nat.min_eq_left hl] at h1
  exact Nat.le_trans (length_limbs_le (Nat.lt_of_lt_of_le h1 (pow_ten k))) hk

end Go.Proofs.YtbhieajpodnfpaaGreat
