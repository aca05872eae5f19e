/- Walks: nat.Sub, pantographref1.Sub, pantographref1.Add. Conditions: rows of at most 2^30 limbs. -/
import Derived.Test.YtgehoflkbckgkaaWj
namespace Go.Proofs.Ytgehoflkbckgkaa
open Go.RowKit Pg

/-- A call hands back the number N in a row, and whether it may. -/
def Ret2 (w : World) (N : Nat) (b : Bool) (e : Ending) (w' : World) : Prop :=
  ∃ A c, e = .returned (.tuple #[.slice A (limbs N).length c, .bool b]) ∧ Row w' A (limbs N).length c (limbs N) ∧ Below w.heap.size w w'
theorem Ret2.of_row {w w' : World} {A : Option Addr} {n c N : Nat} {b : Bool} {xs : List Nat} (h : Row w' A n c xs) (e : xs = limbs N) (hb : Below w.heap.size w w') : Ret2 w N b (.returned (.tuple #[.slice A n c, .bool b])) w' := by
  subst e
  have := h.len
  subst this
  exact ⟨A, c, rfl, h, hb⟩
/-- Is a number not below another? -/
def geB (a b : Nat) : Bool := decide (b ≤ a)

end Go.Proofs.Ytgehoflkbckgkaa
