/- Walks: Add and Trim once more: what they hand back lies in new memory. Conditions: rows of at most 2^30 limbs. -/
import Derived.Test.YtgehoflkbckgkaaWu
import Derived.Test.YtgehoflkbckgkaaRDivP
import Derived.Test.YtgehoflkbckgkaaWv
namespace Go.Proofs.Ytgehoflkbckgkaa
open Go.RowKit Pg

/-- A call hands back the number N in a row of new memory. -/
def RetF (w : World) (N : Nat) (e : Ending) (w' : World) : Prop :=
  ∃ A c, e = .returned (.slice A (limbs N).length c) ∧ Row w' A (limbs N).length c (limbs N) ∧ Below w.heap.size w w' ∧ ∀ b o, A = some ⟨b, o, none⟩ → w.heap.size ≤ b
theorem RetF.of_row {w w' : World} {A : Option Addr} {n c N : Nat} {xs : List Nat} (h : Row w' A n c xs) (e : xs = limbs N) (hb : Below w.heap.size w w') (hf : ∀ b o, A = some ⟨b, o, none⟩ → w.heap.size ≤ b) : RetF w N (.returned (.slice A n c)) w' := by
  subst e
  have := h.len
  subst this
  exact ⟨A, c, rfl, h, hb, hf⟩
/-- A row of the call's own, and where it lies. -/
theorem own_where {w : World} {base t : Nat} {v : Value} {n : Nat} {xs : List Nat} (h : w.ownsRow base t 1 v n (u32s xs)) (hok : Ok xs) :
    ∃ A c, v = .slice A n c ∧ Row w A n c xs ∧ (∀ b o, A = some ⟨b, o, none⟩ → base ≤ b) ∧ (0 < n → ∃ g cur, A = some ⟨g, 0, none⟩ ∧ w.heap[g]? = some (.cells cur t (0, 0)) ∧ n ≤ cur.size ∧ base ≤ g) := by
  obtain ⟨A, c, rfl, hr⟩ := Row.of_own h hok
  refine ⟨A, c, rfl, hr, fun b o e => ?_, fun hn => ?_⟩
  · subst e
    exact (h.lt b rfl).1
  · rcases h.2 with ⟨e, h0⟩ | ⟨g, cap, cur, e, hb, hh, hnc, _, hcs, _⟩
    · omega
    · injection e with e1 e2 e3
      exact ⟨g, cur, e1, hh, by omega, hb⟩

set_option maxHeartbeats 400000 in
theorem clone_new (A : Option Addr) (n c : Nat) (xs : List Nat) (w : World) (h : Row w A n c xs) (hb : n ≤ 1099511627776) :
    Calls Try.prog 72 #[.slice A n c] w fun e w' => ∃ A' c', e = .returned (.slice A' n c') ∧ Row w' A' n c' xs ∧ Below w.heap.size w w' ∧ ∀ b o, A' = some ⟨b, o, none⟩ → w.heap.size ≤ b := by
  cases A with
  | none =>
    have hc := h.nil_ rfl
    have hnc := h.nc
    subst hc
    obtain rfl : n = 0 := by omega
    have q : ∀ W, (binOp .eql 26 (.slice none 0 0) (.slice none 0 0)).run Try.prog W = .ok (.bool true) W := fun W => Lib.run_eql_slice_nil W _ _ none 0 0 0 0 Try.underlying26
    go_enter Try.func72, Try.ntmps72
    go_wp2_with fail
    go_ret
    exact ⟨_, _, rfl, h, Below.refl _ _, fun b o e => by cases e⟩
  | some ad =>
    have q := fun W => slice_eq_nil W ad n c
    go_enter Try.func72, Try.ntmps72
    go_wp2_with (at_builtin; refine wpList_append_row _ rfl _ _ 26 rfl w.heap.size 50 Try.underlying26 info32 _ 0 [] rfl (own_nil w _) _ n _ xs rfl (h.alloc _) (by omega) (by simp) ?_)
    intro v' w' hown hgr
    try simp only [Nat.zero_add, List.nil_append] at hown
    obtain ⟨A', c', rfl, hr, hf, _⟩ := own_where hown h.ok
    go_wp2_with fail
    go_ret
    exact ⟨_, _, rfl, hr, Below.grown (Below.alloc (Below.refl _ _) (Nat.le_refl _) _) hgr (by simp) (by intro k hk; simp [Value.ownBlock] at hk; omega), hf⟩

set_option maxHeartbeats 400000 in
/-- nat.Trim. -/
theorem Trim_new (A : Option Addr) (n c : Nat) (xs : List Nat) (w : World) (h : Row w A n c xs) (hb : n ≤ 1099511627776) :
    Calls Try.prog 57 #[.slice A n c] w (RetF w (val xs)) := by
  have hr := h.trim
  have ht : tl xs ≤ 1099511627776 := by have := tl_le h.ok; rw [h.len] at this; omega
  go_enter Try.func57, Try.ntmps57
  go_wp2_with (first | (go_at_call 56; refine (trim_any _ _ _ _ _ h).mono ?_; rintro e w' ⟨rfl, rfl⟩) | (go_at_call 72; refine (clone_new _ _ _ _ _ hr ht).mono ?_; rintro e w' ⟨A', c', rfl, hr', hb', hf⟩))
  go_ret
  exact RetF.of_row hr' rfl hb' hf
end Go.Proofs.Ytgehoflkbckgkaa
