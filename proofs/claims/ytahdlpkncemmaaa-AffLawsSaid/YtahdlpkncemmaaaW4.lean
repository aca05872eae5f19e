/- Walks. Conditions: those that each theorem names. -/
import Derived.Test.YtahdlpkncemmaaaProg
import Derived.Test.YtahdlpkncemmaaaW1
import Derived.WalkLawsBesides
import Derived.Outline
set_option maxRecDepth 100000
set_option maxHeartbeats 8000000
set_option linter.unusedSimpArgs false
set_option linter.unusedVariables false
namespace Go.Proofs.Ytahdlpkncemmaaa
open Go.RowKit Pg
def isT (xs : List Nat) : Bool := decide (tl xs = xs.length)
theorem isT_true {xs : List Nat} (h : tl xs = xs.length) : isT xs = true := by simp [isT, h]
theorem isT_false {xs : List Nat} (h : tl xs < xs.length) : isT xs = false := by simp [isT]; omega
theorem is_any (A : Option Addr) (n c : Nat) (xs : List Nat) (w : World) (h : Row w A n c xs) :
  Calls Try.prog 49 #[.slice A n c] w fun e w' => e = .returned (.bool (isT xs)) ∧ w = w' := by
 have hcm := h.cm
 have hnc := h.nc
 have hl := h.len
 rcases Nat.eq_zero_or_pos n with h0 | h0
 ·subst h0
  have hx : xs = [] := List.eq_nil_of_length_eq_zero hl
  subst hx
  clear hl
  go_enter Try.func49, Try.ntmps49
  go_wp2_with fail
  go_ret
  exact ⟨rfl, rfl⟩
 ·obtain ⟨b, o, rfl, hc⟩ := h.at_ h0
  have hc1 := hc (n - 1) (by omega)
  have hn : ((n : Int) == 0) = false := by simp; omega
  have hlt := lim_lt h.ok (n - 1)
  have hcs := tl_cases h.ok
  have HL := hid hl
  clear hc hl
  rcases Nat.eq_zero_or_pos (lim xs (n - 1)) with hz | hz
  ·have hb : ((lim xs (n - 1) : Int) != 0) = false := by simp [hz]
   have HT : Hid (isT xs = false) := hid (isT_false (by
    rw [HL.out] at hcs
    rcases hcs with ⟨h1, _⟩ | ⟨_, h2, _⟩ | ⟨_, _, _, _, h3⟩
    ·subst h1; have := HL.out; simp at this; omega
    ·omega
    ·rw [HL.out]; exact h3))
   have HZ := hid hz
   clear hcs hz h
   go_enter Try.func49, Try.ntmps49
   go_wp2_with fail
   go_ret
   exact ⟨by rw [HT.out]; rfl, rfl⟩
  ·have hb : ((lim xs (n - 1) : Int) != 0) = true := by simp; omega
   have HT : Hid (isT xs = true) := hid (isT_true (by
    rw [HL.out] at hcs
    rcases hcs with ⟨h1, _⟩ | ⟨_, _, h2⟩ | ⟨_, h2, _⟩
    ·subst h1; have := HL.out; simp at this; omega
    ·rw [HL.out]; exact h2
    ·omega))
   clear hcs h
   go_enter Try.func49, Try.ntmps49
   go_wp2_with fail
   go_ret
   exact ⟨by rw [HT.out]; rfl, rfl⟩
theorem isT_le (xs : List Nat) (h : isT xs = true) : tl xs = xs.length := by simpa [isT] using h
theorem trim_any (A : Option Addr) (n c : Nat) (xs : List Nat) (w : World) (h : Row w A n c xs) :
  Calls Try.prog 32 #[.slice A n c] w fun e w' => e = .returned (.slice A (tl xs) c) ∧ w = w' := by
 have hcm := h.cm
 have hnc := h.nc
 have hl := hid h.len
 go_enter Try.func32, Try.ntmps32
 go_wp2_with fail
 go_loop [0] (fun a => ∃ m : Nat, m ≤ n ∧ a = .slice A m c ∧ tl (xs.take m) = tl xs) (fun a => slen a)
 case atStart => exact ⟨n, Nat.le_refl _, rfl, by rw [List.take_of_length_le (by rw [hl.out]; omega)]⟩
 case round =>
  obtain ⟨m, hm, rfl, htl⟩ := hrel
  have HT := hid htl
  clear htl
  have hr := h.take hm
  have hm' : m ≤ c := by omega
  by_cases ht : isT (xs.take m) = true
  ·have e := isT_le _ ht
   have HE : Hid (tl xs = m) := hid (by rw [← HT.out, e, hr.len])
   clear e
   go_wp2_with (go_at_call 49; refine (is_any _ _ _ _ _ hr).mono ?_; rintro e w' ⟨rfl, rfl⟩)
   go_ret
   exact ⟨by rw [HE.out]; rfl, rfl⟩
  ·have hf : isT (xs.take m) = false := by simpa using ht
   have h0 : 0 < m ∧ tl (xs.take m) = tl (xs.take (m - 1)) := by
    have hk := tl_cases hr.ok
    have hrl := hr.len
    rcases hk with ⟨h1, h2⟩ | ⟨h1, h2, h3⟩ | ⟨h1, h2, h3, h4, h5⟩
    ·exact absurd (isT_true (by rw [h1]; rfl)) ht
    ·exact absurd (isT_true h3) ht
    ·rw [hrl] at h1 h3
     refine ⟨h1, ?_⟩
     rw [h3, List.take_take, Nat.min_eq_left (by omega)]
   obtain ⟨h0, h1⟩ := h0
   obtain ⟨b, o, rfl, hc⟩ := h.at_ (by omega)
   have H1 := hid h1
   clear h1 ht hc
   go_wp2_with (go_at_call 49; refine (is_any _ _ _ _ _ hr).mono ?_; rintro e w' ⟨rfl, rfl⟩)
   go_round
   case rel => exact ⟨m - 1, by omega, by first | rfl | simp, by rw [← H1.out, HT.out]⟩
   case measure => simp [slen]; omega
end Go.Proofs.Ytahdlpkncemmaaa
