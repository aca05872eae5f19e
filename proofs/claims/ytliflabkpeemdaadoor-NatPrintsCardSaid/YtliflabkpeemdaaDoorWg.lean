/- The contracts of shifts, products and trims with their numbers by name. Conditions: rows of at most 2^30 limbs. -/
import Derived.Test.YtliflabkpeemdaaDoorWf
namespace Go.Proofs.YtliflabkpeemdaaDoor
open Go.RowKit Pg

theorem clampD_in {d : Int} (h1 : -4096 ≤ d) (h2 : d ≤ 4096) : clampD d = d := by
  unfold clampD; split <;> split at * <;> omega
theorem rMul_N (A A' : Option Addr) (n c n' c' : Nat) (xs ys : List Nat) (w : World) (a b : Nat) (h : Row w A n c xs) (h' : Row w A' n' c' ys) (ea : val xs = a) (eb : val ys = b) (hb : n ≤ 1073741824) (hb' : n' ≤ 1073741824) :
    Calls Tryd.prog 17 #[.slice A n c, .slice A' n' c'] w (Ret w (a * b)) := by
  subst ea eb; exact rMul_any A A' n c n' c' xs ys w h h' hb hb'
theorem Trim_N (A : Option Addr) (n c : Nat) (xs : List Nat) (w : World) (a : Nat) (h : Row w A n c xs) (ea : val xs = a) (hb : n ≤ 1073741824) :
    Calls Tryd.prog 18 #[.slice A n c] w (Ret w a) := by
  subst ea; exact Trim_any A n c xs w h (by omega)
theorem rTrim_N (A : Option Addr) (n c : Nat) (xs : List Nat) (w : World) (a : Nat) (h : Row w A n c xs) (ea : val xs = a) (hb : n ≤ 1073741824) :
    Calls Tryd.prog 11 #[.slice A n c] w (Ret w a) := by
  subst ea; exact rTrim_any A n c xs w h (by omega)
end Go.Proofs.YtliflabkpeemdaaDoor
