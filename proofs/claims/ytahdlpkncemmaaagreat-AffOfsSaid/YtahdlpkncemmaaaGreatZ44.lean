/- Walk. Conditions: those that each theorem names. -/
import Derived.Test.YtahdlpkncemmaaaGreatZ6
import Derived.Test.YtahdlpkncemmaaaGreatZ22
import Derived.Test.YtahdlpkncemmaaaGreatZ1
import Derived.Test.YtahdlpkncemmaaaGreatZ26
namespace Go.Proofs.YtahdlpkncemmaaaGreat
open Go.RowKit Pg
def RetT (w : World) (N : Nat) (b : Bool) (e : Ending) (w' : World) : Prop :=
 ∃ A c, e = .returned (.tuple #[.slice A (limbs N).length c, .bool b]) ∧ Row w' A (limbs N).length c (limbs N) ∧ Below w.heap.size w w'
theorem RetT.of_row {w w' : World} {A : Option Addr} {n c N : Nat} {b : Bool} {xs : List Nat} (h : Row w' A n c xs) (e : xs = limbs N) (hb : Below w.heap.size w w') :
  RetT w N b (.returned (.tuple #[.slice A n c, .bool b])) w' := by
 subst e
 have := h.len
 subst this
 exact ⟨A, c, rfl, h, hb⟩
theorem isEmpty_of (s : ByteArray) (h : 0 < s.size) : s.toList.isEmpty = false := by
 rw [Lib.toList_data]
 cases hh : s.data.toList with
 | nil => have := Lib.size_eq s; rw [hh, List.length_nil] at this; omega
 | cons _ _ => rfl
end Go.Proofs.YtahdlpkncemmaaaGreat
