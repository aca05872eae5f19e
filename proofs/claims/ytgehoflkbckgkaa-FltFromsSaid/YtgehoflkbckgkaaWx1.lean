/- Walk: pantographref1.DivMod, beyond 64 bits. Conditions: rows of at most 2^20 limbs. -/
import Derived.Test.YtgehoflkbckgkaaWyr
namespace Go.Proofs.Ytgehoflkbckgkaa
open Go.RowKit Pg

theorem is64_true {a : Nat} (h : is64 a = true) : a < 18446744073709551616 ∧ to64 a = a := by
  have h1 : a < 18446744073709551616 := by simpa [is64] using h
  exact ⟨h1, by unfold to64; rw [if_pos h1]⟩

set_option maxRecDepth 100000 in
set_option maxHeartbeats 3000000 in
theorem rDivMod_one (A A' : Option Addr) (n c n' c' a b : Nat) (xs ys : List Nat) (w : World) (h : Row w A n c xs) (h' : Row w A' n' c' ys) (hb : n ≤ 1048576) (hb' : n' ≤ 1048576) (HA : Hid (a = val xs)) (HB : Hid (b = val ys)) (hbp : 0 < b)
    (lb : (((limbs b).length : Int) == 0) = false) (hTb : Hid (Calls Try.prog 60 #[.slice A' n' c'] w (Ret w b)))
    (hTo : Hid (∀ W, Below w.heap.size w W → Calls Try.prog 53 #[.slice A n c] W fun e w' => e = .returned (.tuple #[.int .u64 ((to64 a : Nat) : Int), .bool (is64 a)]) ∧ Below W.heap.size W w'))
    (hTo' : Hid (∀ W, Below w.heap.size w W → Calls Try.prog 53 #[.slice A' n' c'] W fun e w' => e = .returned (.tuple #[.int .u64 ((to64 b : Nat) : Int), .bool (is64 b)]) ∧ Below W.heap.size W w'))
    (hs : is64 a = false) (hl : b < 4294967296) :
    Calls Try.prog 63 #[.slice A n c, .slice A' n' c'] w (Ret3 w (a / b) (a % b) true) := by
  have e1 : is64 b = true := by simp [is64]; omega
  have e2 := (is64_true e1).2
  rw [hs] at hTo
  rw [e1, e2] at hTo'
  have hrlt : a % b < 18446744073709551616 := by have := Nat.mod_lt a hbp; omega
  obtain ⟨r, hr⟩ : ∃ r, r = a % b := ⟨_, rfl⟩
  have HS : Hid (∀ W, Below w.heap.size w W → Calls Try.prog 73 #[.slice A n c, .int .u64 (b : Int)] W fun e w' => ∃ A' c', e = .returned (.tuple #[.slice A' (limbs (a / b)).length c', .int .u64 (r : Int)]) ∧ Row w' A' (limbs (a / b)).length c' (limbs (a / b)) ∧ Below W.heap.size W w') := hid fun W hW => by
    have := rsmall_any A n c b xs W (h.below hW) (by omega) hbp hl
    rw [← HA.out, ← hr] at this
    exact this
  rw [← hr] at hrlt ⊢
  have HR := hid hr
  have HRL := hid hrlt
  clear hr hrlt hs e1 e2
  have hl2 : decide ((b : Int) < 4294967296) = true := by simp; omega
  go_enter Try.func63, Try.ntmps63
  go_wp2_with (first
    | (go_at_call 60; refine (hTb.out).mono ?_; rintro e w1 ⟨A1, c1, rfl, hr1, hb1⟩)
    | (go_at_call 53; ((with_reducible refine (hTo.out _ hb1).mono ?_); rintro e w2 ⟨rfl, hb2⟩))
    | (go_at_call 53; ((with_reducible refine (hTo'.out _ (Pg.Below.then_ hb1 hb2)).mono ?_); rintro e w3 ⟨rfl, hb3⟩))
    | (go_at_call 73; refine (HS.out _ (Pg.Below.then_ (Pg.Below.then_ hb1 hb2) hb3)).mono ?_; rintro e w4 ⟨A4, c4, rfl, hr4, hb4⟩)
    | (go_at_call 36; refine (rOf_any r _ HRL.out).mono ?_; rintro e w5 ⟨A5, c5, rfl, hr5, hb5⟩))
  go_ret3
  exact Ret3.of_rows (hr4.below hb5) hr5 rfl rfl (by repeat first | exact Below.refl _ _ | assumption | refine Pg.Below.then_ ?_ (by assumption) | refine Pg.Below.new_ ?_ _ | refine Pg.Below.drewN_ ?_ _)
end Go.Proofs.Ytgehoflkbckgkaa
