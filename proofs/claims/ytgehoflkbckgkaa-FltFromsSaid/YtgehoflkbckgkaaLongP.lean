/- How the long division begins: plain mathematics. Conditions: none. -/
import Derived.Test.YtgehoflkbckgkaaTakeP
namespace Pg

theorem blen_le {x : Nat} (hx : x < 4294967296) : blen x ≤ 32 := by
  by_cases h0 : x = 0
  · rw [h0]; decide
  · have := (blen_bounds h0).2.1
    rcases Nat.lt_or_ge 32 (blen x) with h2 | h2
    · have h3 : 2 ^ 32 ≤ 2 ^ (blen x - 1) := Nat.pow_le_pow_right (by omega) (by omega)
      omega
    · exact h2

theorem lift_limb {x : Nat} (hx : x < 4294967296) (h0 : 0 < x) : 32 - blen x ≤ 31 ∧ (x + 1) * 2 ^ (32 - blen x) ≤ 4294967296 := by
  have h1 := blen_le hx
  obtain ⟨h2, _, h4⟩ := blen_bounds (n := x) (by omega)
  refine ⟨by omega, ?_⟩
  have : (x + 1) * 2 ^ (32 - blen x) ≤ 2 ^ blen x * 2 ^ (32 - blen x) := Nat.mul_le_mul_right _ h4
  rw [← Nat.pow_add, show blen x + (32 - blen x) = 32 by omega] at this
  exact this

theorem long_setup {xs ys : List Nat} {m N : Nat} (hx : Ok xs) (lx : xs.length = m) (hy : Ok ys) (ly : ys.length = N + 1) (ht : 0 < lim ys N) (hmn : N + 1 ≤ m) (y : Nat) (hyy : y = 32 - blen (lim ys N)) :
    y ≤ 31 ∧ val xs * 2 ^ y % 4294967296 ^ (m + 1) = val xs * 2 ^ y ∧ val ys * 2 ^ y % 4294967296 ^ (N + 1) = val ys * 2 ^ y ∧ 4294967296 ^ N ≤ val ys * 2 ^ y ∧
      val xs * 2 ^ y < val ys * 2 ^ y * 4294967296 ^ (m - N) ∧ 0 < val ys := by
  obtain ⟨h1, h2⟩ := lift_limb (lim_lt hy N) ht
  rw [← hyy] at h1 h2
  have hb := val_div_pow hy N
  rw [val_drop_cons, List.drop_eq_nil_of_le (by omega)] at hb
  have hb' : val ys / 4294967296 ^ N = lim ys N := by rw [hb]; rfl
  have hP : 0 < 4294967296 ^ N := Nat.pow_pos (by omega)
  have h2y := Nat.two_pow_pos y
  have c1 : 4294967296 ^ N ≤ val ys := by
    rcases Nat.lt_or_ge (val ys) (4294967296 ^ N) with h | h
    · rw [Nat.div_eq_of_lt h] at hb'; omega
    · exact h
  have c2 : val ys < (lim ys N + 1) * 4294967296 ^ N := by
    rw [← hb', Nat.mul_comm]; exact Nat.lt_mul_div_succ _ hP
  have hxl := val_lt hx
  rw [lx] at hxl
  have h31 := two_pow_le h1
  have c3 : val ys ≤ val ys * 2 ^ y := Nat.le_mul_of_pos_right _ h2y
  refine ⟨h1, Nat.mod_eq_of_lt ?_, Nat.mod_eq_of_lt ?_, by omega, ?_, by omega⟩
  · rw [Nat.pow_succ]
    exact Nat.lt_of_lt_of_le (Nat.mul_lt_mul_of_pos_right hxl h2y) (Nat.mul_le_mul_left _ (by omega))
  · calc val ys * 2 ^ y < (lim ys N + 1) * 4294967296 ^ N * 2 ^ y := Nat.mul_lt_mul_of_pos_right c2 h2y
      _ = 4294967296 ^ N * ((lim ys N + 1) * 2 ^ y) := by ac_rfl
      _ ≤ 4294967296 ^ N * 4294967296 := Nat.mul_le_mul_left _ h2
      _ = 4294967296 ^ (N + 1) := (Nat.pow_succ _ _).symm
  · have c4 : 4294967296 ^ m = 4294967296 ^ N * 4294967296 ^ (m - N) := by rw [← Nat.pow_add]; congr 1; omega
    calc val xs * 2 ^ y < 4294967296 ^ m * 2 ^ y := Nat.mul_lt_mul_of_pos_right hxl h2y
      _ = 4294967296 ^ N * 2 ^ y * 4294967296 ^ (m - N) := by rw [c4]; ac_rfl
      _ ≤ val ys * 2 ^ y * 4294967296 ^ (m - N) := Nat.mul_le_mul_right _ (Nat.mul_le_mul_right _ c1)

theorem top_pos {ds : List Nat} (h : Ok ds) {N : Nat} (hl : ds.length = N + 1) (hv : 4294967296 ^ N ≤ val ds) : 0 < lim ds N := by
  have hb := val_div_pow h N
  rw [val_drop_cons, List.drop_eq_nil_of_le (by omega)] at hb
  have hb' : val ds / 4294967296 ^ N = lim ds N := by rw [hb]; rfl
  rw [← hb']
  exact Nat.div_pos hv (Nat.pow_pos (by omega))

theorem shv_back (N y : Nat) (hy : y ≤ 31) : shv N (-(y : Int)) = N / 2 ^ y := by
  rcases Nat.eq_zero_or_pos y with h | h
  · subst h; simp [shv]
  · exact shv_neg N y h

/-- LongInv.guess, the divisor's length in one word. -/
theorem LongInv.guess' {us0 : List Nat} {N m l i : Nat} {ds us qs : List Nat} (h : LongInv us0 (val ds) m l (i + 1) us qs) (hds : Ok ds) (hN : 2 ≤ N) (hn : ds.length = N) (hb : 0 < lim ds (N - 1)) :
    val us < 4294967296 ^ (i + N + 1) ∧
    lim us (i + N) * 4294967296 + lim us (i + N - 1) ≤ lim ds (N - 1) * 4294967296 + lim ds (N - 2) ∧
    val us / 4294967296 ^ i / val ds ≤ gq ((lim us (i + N) * 4294967296 + lim us (i + N - 1)) * 4294967296 + lim us (i + N - 2)) (lim ds (N - 1) * 4294967296 + lim ds (N - 2)) ∧
    gq ((lim us (i + N) * 4294967296 + lim us (i + N - 1)) * 4294967296 + lim us (i + N - 2)) (lim ds (N - 1) * 4294967296 + lim ds (N - 2)) ≤ val us / 4294967296 ^ i / val ds + 1 := by
  obtain ⟨n, rfl⟩ : ∃ n, N = n + 2 := ⟨N - 2, by omega⟩
  have := h.guess hds (n := n) hn hb
  simpa only [show i + (n + 2) = i + n + 2 by omega, show i + n + 2 - 1 = i + n + 1 by omega, show i + n + 2 - 2 = i + n by omega, show n + 2 - 1 = n + 1 by omega, show n + 2 - 2 = n by omega] using this

theorem Took.says {us : List Nat} {o n q D : Nat} {b : Bool} {cs : List Nat} (h : Took us o n q D b cs) : b = decide (val us < 4294967296 ^ o * (q * D)) := by
  rcases h.eq with ⟨rfl, e⟩ | ⟨rfl, e, _⟩
  · simp; omega
  · simp [e]

theorem gq_lt (u3 d2 : Nat) : gq u3 d2 < 4294967296 := Nat.lt_of_le_of_lt (Nat.min_le_left _ _) (by omega)
end Pg
