/- Decimal digits of numbers: plain mathematics. Conditions: those that each theorem names. -/
import Derived.Test.YtbhieajpodnfpaaGreatZ0
import Derived.Lib.SlTrimSet
namespace Pg

/-- The number that a row of decimal digits says, the lowest first. -/
def val10 : List Nat → Nat
  | [] => 0
  | x :: xs => x + 10 * val10 xs
/-- Each digit is one. -/
def Dg (xs : List Nat) : Prop := ∀ x ∈ xs, x < 10
theorem dg_nil : Dg [] := by intro x hx; cases hx
theorem dg_cons {x : Nat} {xs : List Nat} : Dg (x :: xs) ↔ x < 10 ∧ Dg xs := by unfold Dg; simp
theorem dg_append {xs ys : List Nat} : Dg (xs ++ ys) ↔ Dg xs ∧ Dg ys := by
  unfold Dg; simp only [List.mem_append]
  exact ⟨fun h => ⟨fun x hx => h x (.inl hx), fun x hx => h x (.inr hx)⟩, fun h x hx => hx.elim (h.1 x) (h.2 x)⟩
theorem Dg.take {xs : List Nat} (h : Dg xs) (k : Nat) : Dg (xs.take k) := fun x hx => h x (List.mem_of_mem_take hx)

def digF : Nat → Nat → List Nat
  | 0, _ => []
  | f + 1, n => if n = 0 then [] else n % 10 :: digF f (n / 10)
/-- A number's decimal digits, the lowest first; of 0 none. -/
def dig (n : Nat) : List Nat := digF n n
theorem digF_more : ∀ (f n : Nat), n ≤ f → digF f n = digF n n := by
  intro f
  induction f using Nat.strongRecOn with
  | ind f ih =>
    intro n hn
    cases f with
    | zero =>
      have : n = 0 := by omega
      subst this; rfl
    | succ f =>
      cases n with
      | zero => simp [digF]
      | succ n =>
        simp only [digF]
        have h : (n + 1) / 10 ≤ n := by omega
        rw [ih f (by omega) _ (by omega), ih n (by omega) _ h]
theorem dig_zero : dig 0 = [] := rfl
theorem dig_pos {n : Nat} (h : n ≠ 0) : dig n = n % 10 :: dig (n / 10) := by
  unfold dig
  cases n with
  | zero => exact absurd rfl h
  | succ n =>
    simp only [digF]
    rw [if_neg (by omega), digF_more n _ (by omega)]
theorem val10_dig (n : Nat) : val10 (dig n) = n := by
  induction n using Nat.strongRecOn with
  | ind n ih =>
    rcases Nat.eq_zero_or_pos n with h0 | h0
    · subst h0; rfl
    · rw [dig_pos (by omega), val10, ih _ (by omega)]; omega
theorem dg_dig (n : Nat) : Dg (dig n) := by
  induction n using Nat.strongRecOn with
  | ind n ih =>
    rcases Nat.eq_zero_or_pos n with h0 | h0
    · subst h0; exact dg_nil
    · rw [dig_pos (by omega)]
      exact dg_cons.2 ⟨by omega, ih _ (by omega)⟩
theorem dig_ne_nil {n : Nat} (h : n ≠ 0) : dig n ≠ [] := by rw [dig_pos h]; simp
theorem dig_last (n : Nat) : (dig n).getLast? ≠ some 0 := by
  induction n using Nat.strongRecOn with
  | ind n ih =>
    rcases Nat.eq_zero_or_pos n with h0 | h0
    · subst h0; simp [dig_zero]
    · rw [dig_pos (by omega)]
      by_cases h1 : n / 10 = 0
      · rw [h1, dig_zero]; simp; omega
      · have := ih (n / 10) (by omega)
        rw [List.getLast?_cons]
        rw [dig_pos h1] at this ⊢
        rw [List.getLast?_cons] at this ⊢
        simpa using this
theorem val10_append (xs ys : List Nat) : val10 (xs ++ ys) = val10 xs + 10 ^ xs.length * val10 ys := by
  induction xs with
  | nil => simp [val10]
  | cons x xs ih =>
    simp only [List.cons_append, val10, ih, List.length_cons, Nat.pow_succ]
    rw [Nat.mul_add, Nat.mul_comm (10 ^ xs.length) 10, Nat.mul_assoc]; omega
theorem val10_lt {xs : List Nat} (h : Dg xs) : val10 xs < 10 ^ xs.length := by
  induction xs with
  | nil => simp [val10]
  | cons x xs ih =>
    have ⟨hx, hxs⟩ := dg_cons.1 h
    have := ih hxs
    simp only [val10, List.length_cons, Nat.pow_succ]
    omega
theorem val10_pos {xs : List Nat} (h : xs.getLast? ≠ some 0) (hn : xs ≠ []) : 0 < val10 xs := by
  induction xs with
  | nil => exact absurd rfl hn
  | cons x xs ih =>
    cases xs with
    | nil => simp [val10] at h ⊢; omega
    | cons y ys =>
      rw [List.getLast?_cons_cons] at h
      have := ih h (by simp)
      simp only [val10] at this ⊢; omega
/-- Digits without noughts at the end are their number's. -/
theorem dig_val10 {xs : List Nat} (h : Dg xs) (ht : xs.getLast? ≠ some 0) : dig (val10 xs) = xs := by
  induction xs with
  | nil => rfl
  | cons x xs ih =>
    have ⟨hx, hxs⟩ := dg_cons.1 h
    have hp := val10_pos ht (by simp)
    rw [dig_pos (by omega)]
    have e1 : val10 (x :: xs) % 10 = x := by simp only [val10]; omega
    have e2 : val10 (x :: xs) / 10 = val10 xs := by simp only [val10]; omega
    have h3 : xs.getLast? ≠ some 0 := by
      cases xs with
      | nil => simp
      | cons y ys => rwa [List.getLast?_cons_cons] at ht
    rw [e1, e2, ih hxs h3]
theorem length_dig_le {n k : Nat} (h : n < 10 ^ k) : (dig n).length ≤ k := by
  induction k generalizing n with
  | zero =>
    have : n = 0 := by simpa using h
    subst this; simp [dig_zero]
  | succ k ih =>
    rcases Nat.eq_zero_or_pos n with h0 | h0
    · subst h0; simp [dig_zero]
    · rw [dig_pos (by omega)]
      have : n / 10 < 10 ^ k := by
        rw [Nat.pow_succ] at h
        exact Nat.div_lt_of_lt_mul (by rw [Nat.mul_comm]; exact h)
      have := ih this
      simp; omega

/-- A digit's letter. -/
def chr (d : Nat) : UInt8 := UInt8.ofNat (48 + d)
theorem chr_nat {d : Nat} (h : d < 10) : (chr d).toNat = 48 + d := by
  unfold chr
  rw [UInt8.toNat_ofNat']
  exact Nat.mod_eq_of_lt (by omega)
/-- A number's text, letter by letter. -/
def dtext (n : Nat) : List UInt8 := if n = 0 then [48] else ((dig n).map chr).reverse
theorem dtext_zero : dtext 0 = [48] := rfl
theorem dtext_pos {n : Nat} (h : n ≠ 0) : dtext n = ((dig n).map chr).reverse := if_neg h

/-- Is a letter a digit? -/
def isDg (c : UInt8) : Bool := decide (48 ≤ c.toNat ∧ c.toNat ≤ 57)
/-- The number that letters say. -/
def pval (l : List UInt8) : Nat := l.foldl (fun a c => a * 10 + (c.toNat - 48)) 0
theorem pval_snoc (l : List UInt8) (c : UInt8) : pval (l ++ [c]) = pval l * 10 + (c.toNat - 48) := by simp [pval, List.foldl_append]
theorem pval_take_succ (l : List UInt8) (k : Nat) (h : k < l.length) : pval (l.take (k + 1)) = pval (l.take k) * 10 + (l[k].toNat - 48) := by
  rw [List.take_succ_eq_append_getElem h, pval_snoc]
theorem isDg_iff (c : UInt8) : isDg c = true ↔ 48 ≤ c.toNat ∧ c.toNat ≤ 57 := by simp [isDg]
theorem pval_lt (l : List UInt8) (h : l.all isDg = true) : pval l < 10 ^ l.length := by
  suffices H : ∀ k, k ≤ l.length → pval (l.take k) < 10 ^ k by
    have := H l.length (Nat.le_refl _); rwa [List.take_length] at this
  intro k
  induction k with
  | zero => intro _; simp [pval]
  | succ k ih =>
    intro hk
    have h1 := ih (by omega)
    have h2 := (isDg_iff _).1 (List.all_eq_true.1 h l[k] (List.getElem_mem (by omega)))
    rw [pval_take_succ l k (by omega), Nat.pow_succ]
    omega
theorem pval_digits {xs : List Nat} (h : Dg xs) : pval ((xs.map chr).reverse) = val10 xs := by
  induction xs with
  | nil => rfl
  | cons x xs ih =>
    have ⟨hx, hxs⟩ := dg_cons.1 h
    rw [List.map_cons, List.reverse_cons, pval_snoc, ih hxs, chr_nat hx, val10]
    omega
theorem isDg_chr {d : Nat} (h : d < 10) : isDg (chr d) = true := (isDg_iff _).2 (by rw [chr_nat h]; omega)
theorem all_digits {xs : List Nat} (h : Dg xs) : ((xs.map chr).reverse).all isDg = true := by
  rw [List.all_eq_true]
  intro c hc
  rw [List.mem_reverse, List.mem_map] at hc
  obtain ⟨d, hd, rfl⟩ := hc
  exact isDg_chr (h d hd)
theorem pval_dtext (n : Nat) : pval (dtext n) = n := by
  by_cases h : n = 0
  · subst h; rfl
  · rw [dtext_pos h, pval_digits (dg_dig n), val10_dig]
theorem all_dtext (n : Nat) : (dtext n).all isDg = true := by
  by_cases h : n = 0
  · subst h; rfl
  · rw [dtext_pos h]; exact all_digits (dg_dig n)
theorem length_dtext {n k : Nat} (h : n < 10 ^ k) (hk : 0 < k) : 0 < (dtext n).length ∧ (dtext n).length ≤ k := by
  by_cases h0 : n = 0
  · subst h0; exact ⟨by decide, hk⟩
  · rw [dtext_pos h0, List.length_reverse, List.length_map]
    refine ⟨?_, length_dig_le h⟩
    rw [dig_pos h0]; simp
/-- No nought stands ahead, but in 0 itself. -/
theorem dtext_head (n : Nat) : (dtext n).length = 1 ∨ ∀ c, (dtext n)[0]? = some c → c ≠ 48 := by
  by_cases h0 : n = 0
  · subst h0; left; rfl
  · right
    intro c hc
    rw [dtext_pos h0, List.getElem?_reverse (by rw [List.length_map, dig_pos h0]; simp)] at hc
    have hl := dig_last n
    rw [List.getLast?_eq_getElem?] at hl
    rw [List.length_map, List.getElem?_map, Nat.sub_zero] at hc
    cases hd : (dig n)[(dig n).length - 1]? with
    | none => rw [hd] at hc; cases hc
    | some d =>
      rw [hd] at hc hl
      injection hc with hc
      subst hc
      intro e
      have hd10 : d < 10 := dg_dig n d (List.mem_of_getElem? hd)
      have := congrArg UInt8.toNat e
      rw [chr_nat hd10] at this
      have e48 : (48 : UInt8).toNat = 48 := rfl
      rw [e48] at this
      exact hl (by rw [show d = 0 by omega])

/-! Trimming a text of all that is a digit. -/
def digitsC : List UInt8 := [48, 49, 50, 51, 52, 53, 54, 55, 56, 57]
theorem mem_digits (c : UInt8) : digitsC.contains c = isDg c := by
  rw [Bool.eq_iff_iff, isDg_iff]
  have key : ∀ n : Fin 256, (digitsC.contains (UInt8.ofNat n.val) = true ↔ 48 ≤ n.val ∧ n.val ≤ 57) := by decide +kernel
  have := key ⟨c.toNat, c.toNat_lt⟩
  rwa [UInt8.ofNat_toNat] at this
theorem dropWhile_nil {p : UInt8 → Bool} : ∀ (l : List UInt8), l.dropWhile p = [] ↔ l.all p = true
  | [] => by simp
  | c :: l => by
    cases h : p c with
    | true => simp [List.dropWhile, h, dropWhile_nil l]
    | false => simp [List.dropWhile, h]
theorem dropWhile_all_of {p : UInt8 → Bool} : ∀ (l : List UInt8), (l.dropWhile p).all p = true → l.all p = true
  | [], _ => rfl
  | c :: l, h => by
    cases hc : p c with
    | true =>
      simp only [List.dropWhile, hc] at h
      simp [hc, dropWhile_all_of l h]
    | false => simp [List.dropWhile, hc] at h
theorem trim_nil (l : List UInt8) : Go.Lib.trimS l digitsC = [] ↔ l.all isDg = true := by
  have hp : (digitsC.contains ·) = isDg := funext mem_digits
  unfold Go.Lib.trimS Go.Lib.trimLeftS Go.Lib.trimRightS
  rw [hp, dropWhile_nil, List.all_reverse]
  refine ⟨fun h => ?_, fun h => ?_⟩
  · have := dropWhile_all_of _ h
    rwa [List.all_reverse] at this
  · have : l.reverse.dropWhile isDg = [] := (dropWhile_nil _).2 (by rw [List.all_reverse]; exact h)
    rw [this]; rfl
end Pg
