/- The contracts of shifts, products and trims with their numbers by name. Conditions: rows of at most 2^30 limbs. -/
import Derived.Test.YtgehoflkbckgkaaWf
namespace Go.Proofs.Ytgehoflkbckgkaa
open Go.RowKit Pg

theorem clampD_in {d : Int} (h1 : -4096 ≤ d) (h2 : d ≤ 4096) : clampD d = d := by
  unfold clampD; split <;> split at * <;> omega
theorem Shift_L (A : Option Addr) (n c : Nat) (d : Int) (xs : List Nat) (w : World) (a N : Nat) (h : Row w A n c xs) (ea : val xs = a) (ed : d = (N : Int)) (hN : N ≤ 4096) (hn : n ≤ 1073741824) :
    Calls Try.prog 35 #[.slice A n c, .int .i64 d] w (Ret w (a * 2 ^ N)) := by
  subst ea ed
  have := Shift_any A n c (N : Int) xs w h hn
  rwa [clampD_in (by omega) (by omega), shv_pos] at this
theorem Shift_R (A : Option Addr) (n c : Nat) (d : Int) (xs : List Nat) (w : World) (a N : Nat) (h : Row w A n c xs) (ea : val xs = a) (ed : d = -(N : Int)) (hN : N ≤ 4096) (hn : n ≤ 1073741824) :
    Calls Try.prog 35 #[.slice A n c, .int .i64 d] w (Ret w (a / 2 ^ N)) := by
  subst ea ed
  have := Shift_any A n c (-(N : Int)) xs w h hn
  rw [clampD_in (by omega) (by omega)] at this
  rcases Nat.eq_zero_or_pos N with h0 | h0
  · subst h0
    have e : shv (val xs) (-((0 : Nat) : Int)) = val xs / 2 ^ 0 := by simp [shv]
    rwa [e] at this
  · rwa [shv_neg _ _ h0] at this
theorem rMul_N (A A' : Option Addr) (n c n' c' : Nat) (xs ys : List Nat) (w : World) (a b : Nat) (h : Row w A n c xs) (h' : Row w A' n' c' ys) (ea : val xs = a) (eb : val ys = b) (hb : n ≤ 1073741824) (hb' : n' ≤ 1073741824) :
    Calls Try.prog 41 #[.slice A n c, .slice A' n' c'] w (Ret w (a * b)) := by
  subst ea eb; exact rMul_any A A' n c n' c' xs ys w h h' hb hb'
theorem Trim_N (A : Option Addr) (n c : Nat) (xs : List Nat) (w : World) (a : Nat) (h : Row w A n c xs) (ea : val xs = a) (hb : n ≤ 1073741824) :
    Calls Try.prog 57 #[.slice A n c] w (Ret w a) := by
  subst ea; exact Trim_any A n c xs w h (by omega)
theorem rTrim_N (A : Option Addr) (n c : Nat) (xs : List Nat) (w : World) (a : Nat) (h : Row w A n c xs) (ea : val xs = a) (hb : n ≤ 1073741824) :
    Calls Try.prog 60 #[.slice A n c] w (Ret w a) := by
  subst ea; exact rTrim_any A n c xs w h (by omega)
end Go.Proofs.Ytgehoflkbckgkaa
