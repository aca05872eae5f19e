/- Walk: the law NatGcds. Conditions: none. -/
import Derived.Test.YtgehoflkbckgkaaWu
namespace Go.Proofs.Ytgehoflkbckgkaa
open Go.RowKit Pg

/-- The contracts of DivMod and Gcd, their numbers by name. -/
theorem DivMod_E (A A' : Option Addr) (n c n' c' : Nat) (xs ys : List Nat) (w : World) (a b N M : Nat) (B : Bool) (h : Row w A n c xs) (h' : Row w A' n' c' ys) (ea : val xs = a) (eb : val ys = b) (hb : n ≤ 1073741824) (hb' : n' ≤ 1073741824)
    (eN : a / b = N) (eM : dmr a b = M) (eB : dmb b = B) : Calls Try.prog 45 #[.slice A n c, .slice A' n' c'] w (Ret3 w N M B) := by
  subst ea eb eN eM eB; exact DivMod_any A A' n c n' c' xs ys w h h' hb hb'
theorem Gcd_E (A A' : Option Addr) (n c n' c' : Nat) (xs ys : List Nat) (w : World) (a b G : Nat) (h : Row w A n c xs) (h' : Row w A' n' c' ys) (ea : val xs = a) (eb : val ys = b) (hb : n ≤ 1073741824) (hb' : n' ≤ 1073741824)
    (eG : Nat.gcd a b = G) : Calls Try.prog 58 #[.slice A n c, .slice A' n' c'] w (Ret w G) := by
  subst ea eb eG; exact Gcd_any A A' n c n' c' xs ys w h h' hb hb'

end Go.Proofs.Ytgehoflkbckgkaa
