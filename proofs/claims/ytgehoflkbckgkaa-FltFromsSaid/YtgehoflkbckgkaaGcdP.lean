/- What a loop over rows counts down: the number that a row holds in memory. Conditions: none. -/
import Derived.Test.YtgehoflkbckgkaaMem
namespace Pg
open Go Go.RowKit

/-- A cell as a number. -/
def cellN (w : World) (b o j : Nat) : Nat := match w.cell? ⟨b, o + j, none⟩ with | some (.int _ z) => z.toNat | _ => 0
/-- The number that a slice value holds. -/
def rowval (w : World) : Value → Nat | .slice (some ⟨b, o, _⟩) n _ => val ((List.range n).map (cellN w b o)) | _ => 0
theorem Row.rowval {w : World} {A : Option Addr} {n c : Nat} {xs : List Nat} (h : Row w A n c xs) : rowval w (.slice A n c) = val xs := by
  rcases Nat.eq_zero_or_pos n with h0 | h0
  · subst h0
    have hx : xs = [] := List.eq_nil_of_length_eq_zero h.len
    subst hx
    cases A with
    | none => rfl
    | some a => cases a; rfl
  · obtain ⟨b, o, rfl, hc⟩ := h.at_ h0
    show val ((List.range n).map (cellN w b o)) = val xs
    congr 1
    refine List.ext_getElem (by simp [h.len]) fun j h1 h2 => ?_
    have hj : j < n := by rw [← h.len]; exact h2
    rw [List.getElem_map, List.getElem_range]
    unfold cellN
    rw [hc j hj]
    simp [lim_get h2]

theorem limbs_mono {a b : Nat} (h : a ≤ b) : (limbs a).length ≤ (limbs b).length := length_limbs_le (Nat.lt_of_le_of_lt h (lt_pow_length b))
theorem limbs_one : limbs 1 = [1] := by
  have := limbs_val (xs := [1]) (ok_cons.2 ⟨by omega, ok_nil⟩) (by simp [Trimmed])
  simpa [val] using this
end Pg
