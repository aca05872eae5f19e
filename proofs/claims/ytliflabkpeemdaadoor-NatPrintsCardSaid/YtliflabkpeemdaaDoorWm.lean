/- Differences, sums and comparisons with their numbers by name; rows of at most 2^30 limbs. Conditions: none. -/
import Derived.Test.YtliflabkpeemdaaDoorWl
namespace Go.Proofs.YtliflabkpeemdaaDoor
open Go.RowKit Pg

theorem rAdd_N (A A' : Option Addr) (n c n' c' : Nat) (xs ys : List Nat) (w : World) (a b : Nat) (h : Row w A n c xs) (h' : Row w A' n' c' ys) (ea : val xs = a) (eb : val ys = b) (hb : n ≤ 1073741824) (hb' : n' ≤ 1073741824) :
    Calls Tryd.prog 16 #[.slice A n c, .slice A' n' c'] w (Ret w (a + b)) := by
  subst ea eb; exact rAdd_any A A' n c n' c' xs ys w h h' hb hb'
end Go.Proofs.YtliflabkpeemdaaDoor
