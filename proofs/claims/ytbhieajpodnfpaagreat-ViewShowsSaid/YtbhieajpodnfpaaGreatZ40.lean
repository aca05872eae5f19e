/- Walk: pantographref1.Parse. Conditions: those that each theorem names. -/
import Derived.Test.YtbhieajpodnfpaaGreatZ35
import Derived.Test.YtbhieajpodnfpaaGreatZ9
namespace Go.Proofs.YtbhieajpodnfpaaGreat
open Go.RowKit Pg

theorem not_all {l : List UInt8} {k : Nat} (hk : k < l.length) (h : isDg l[k] = false) : l.all isDg = false := by
  cases h2 : l.all isDg with
  | false => rfl
  | true => rw [List.all_eq_true.1 h2 l[k] (List.getElem_mem hk)] at h; cases h
theorem all_of {l : List UInt8} (h : ∀ j (hj : j < l.length), isDg l[j] = true) : l.all isDg = true := by
  rw [List.all_eq_true]
  intro c hc
  obtain ⟨j, hj, rfl⟩ := List.mem_iff_getElem.1 hc
  exact h j hj
theorem pval_lt' (l : List UInt8) (h : ∀ j (hj : j < l.length), isDg l[j] = true) : pval l < 10 ^ l.length := pval_lt l (all_of h)
theorem pval_limbs' {l : List UInt8} {k : Nat} (h : ∀ j (hj : j < l.length), j < k → isDg l[j] = true) (hk : k ≤ 400) (hl : k ≤ l.length) : (limbs (pval (l.take k))).length ≤ 400 := by
  have h1 := pval_lt' (l.take k) (fun j hj => by
    rw [List.length_take] at hj
    rw [List.getElem_take]
    exact h j (by omega) (by omega))
  rw [List.length_take, Nat.min_eq_left hl] at h1
  exact Nat.le_trans (length_limbs_le (Nat.lt_of_lt_of_le h1 (pow_ten k))) hk

end Go.Proofs.YtbhieajpodnfpaaGreat
