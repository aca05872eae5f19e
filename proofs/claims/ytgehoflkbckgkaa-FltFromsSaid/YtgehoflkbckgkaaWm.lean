/- Differences, sums and comparisons with their numbers by name; rows of at most 2^30 limbs. Conditions: none. -/
import Derived.Test.YtgehoflkbckgkaaWl
namespace Go.Proofs.Ytgehoflkbckgkaa
open Go.RowKit Pg

theorem rSub_N (A A' : Option Addr) (n c n' c' : Nat) (xs ys : List Nat) (w : World) (a b : Nat) (h : Row w A n c xs) (h' : Row w A' n' c' ys) (ea : val xs = a) (eb : val ys = b) (hb : n ≤ 1073741824) (hb' : n' ≤ 1073741824) :
    Calls Try.prog 70 #[.slice A n c, .slice A' n' c'] w (Ret2 w (a - b) (geB a b)) := by
  subst ea eb; exact rSub_any A A' n c n' c' xs ys w h h' hb hb'
theorem rAdd_N (A A' : Option Addr) (n c n' c' : Nat) (xs ys : List Nat) (w : World) (a b : Nat) (h : Row w A n c xs) (h' : Row w A' n' c' ys) (ea : val xs = a) (eb : val ys = b) (hb : n ≤ 1073741824) (hb' : n' ≤ 1073741824) :
    Calls Try.prog 69 #[.slice A n c, .slice A' n' c'] w (Ret w (a + b)) := by
  subst ea eb; exact rAdd_any A A' n c n' c' xs ys w h h' hb hb'
theorem Cmp_N (A A' : Option Addr) (n c n' c' : Nat) (xs ys : List Nat) (w : World) (a b : Nat) (h : Row w A n c xs) (h' : Row w A' n' c' ys) (ea : val xs = a) (eb : val ys = b) (hb : n ≤ 1073741824) (hb' : n' ≤ 1073741824) :
    Calls Try.prog 47 #[.slice A n c, .slice A' n' c'] w (fun e w' => e = .returned (.int .i64 (cmpv a b)) ∧ Below w.heap.size w w') := by
  subst ea eb; exact Cmp_any A A' n c n' c' xs ys w h h'
theorem rCmp_N (A A' : Option Addr) (n c n' c' : Nat) (xs ys : List Nat) (w : World) (a b : Nat) (h : Row w A n c xs) (h' : Row w A' n' c' ys) (ea : val xs = a) (eb : val ys = b) (hb : n ≤ 1073741824) (hb' : n' ≤ 1073741824) :
    Calls Try.prog 50 #[.slice A n c, .slice A' n' c'] w (fun e w' => e = .returned (.int .i64 (cmpv a b)) ∧ Below w.heap.size w w') := by
  subst ea eb; exact rCmp_any A A' n c n' c' xs ys w h h' hb hb'
end Go.Proofs.Ytgehoflkbckgkaa
