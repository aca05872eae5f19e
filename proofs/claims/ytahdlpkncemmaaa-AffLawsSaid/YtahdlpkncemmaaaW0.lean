/- Natural numbers as rows of limbs (base 2 · Rational numbers as a sign and two numbe · Sums of multiples over rationals, expres. Conditions: those that each theorem names. -/

set_option maxRecDepth 100000
set_option maxHeartbeats 8000000
set_option linter.unusedSimpArgs false
set_option linter.unusedVariables false
namespace Pg
def val : List Nat → Nat
 | [] => 0
 | x :: xs => x + 4294967296 * val xs
def Ok (xs : List Nat) : Prop := ∀ x ∈ xs, x < 4294967296
def limbsF : Nat → Nat → List Nat
 | 0, _ => []
 | f + 1, n => if n = 0 then [] else n % 4294967296 :: limbsF f (n / 4294967296)
def limbs (n : Nat) : List Nat := limbsF n n
theorem limbsF_more : ∀ (f n : Nat), n ≤ f → limbsF f n = limbsF n n := by
 intro f
 induction f using Nat.strongRecOn with
 | ind f ih =>
  intro n hn
  cases f with
  | zero =>
   have : n = 0 := by omega
   subst this; rfl
  | succ f =>
   cases n with
   | zero => simp [limbsF]
   | succ n =>
    simp only [limbsF]
    have h : (n + 1) / 4294967296 ≤ n := by omega
    rw [ih f (by omega) _ (by omega), ih n (by omega) _ h]
theorem limbs_zero : limbs 0 = [] := rfl
theorem limbs_pos {n : Nat} (h : n ≠ 0) : limbs n = n % 4294967296 :: limbs (n / 4294967296) := by
 unfold limbs
 cases n with
 | zero => exact absurd rfl h
 | succ n =>
  simp only [limbsF]
  rw [if_neg (by omega), limbsF_more n _ (by omega)]
theorem limbs_eq_nil {n : Nat} : limbs n = [] ↔ n = 0 := by
 constructor
 ·intro h
  rcases Nat.eq_zero_or_pos n with h0 | h0
  ·exact h0
  ·rw [limbs_pos (by omega)] at h; cases h
 ·rintro rfl; rfl
theorem val_limbs (n : Nat) : val (limbs n) = n := by
 induction n using Nat.strongRecOn with
 | ind n ih =>
  rcases Nat.eq_zero_or_pos n with h0 | h0
  ·subst h0; rfl
  ·rw [limbs_pos (by omega), val, ih _ (by omega)]; omega
theorem ok_nil : Ok [] := by intro x hx; cases hx
theorem ok_cons {x : Nat} {xs : List Nat} : Ok (x :: xs) ↔ x < 4294967296 ∧ Ok xs := by
 unfold Ok; simp
theorem ok_append {xs ys : List Nat} : Ok (xs ++ ys) ↔ Ok xs ∧ Ok ys := by
 unfold Ok; simp only [List.mem_append]
 exact ⟨fun h => ⟨fun x hx => h x (.inl hx), fun x hx => h x (.inr hx)⟩, fun h x hx => hx.elim (h.1 x) (h.2 x)⟩
theorem Ok.take {xs : List Nat} (h : Ok xs) (k : Nat) : Ok (xs.take k) := fun x hx => h x (List.mem_of_mem_take hx)
theorem Ok.drop {xs : List Nat} (h : Ok xs) (k : Nat) : Ok (xs.drop k) := fun x hx => h x (List.mem_of_mem_drop hx)
theorem Ok.get {xs : List Nat} (h : Ok xs) {i : Nat} (hi : i < xs.length) : xs[i] < 4294967296 := h _ (List.getElem_mem hi)
theorem Ok.getD {xs : List Nat} (h : Ok xs) (i : Nat) : xs.getD i 0 < 4294967296 := by
 rcases Nat.lt_or_ge i xs.length with hi | hi
 ·simp [List.getD, hi]; exact h.get hi
 ·simp [List.getD, hi]
theorem Ok.set {xs : List Nat} (h : Ok xs) (i : Nat) {v : Nat} (hv : v < 4294967296) : Ok (xs.set i v) := by
 intro x hx
 rcases List.mem_or_eq_of_mem_set hx with hx | hx
 ·exact h x hx
 ·subst hx; exact hv
theorem ok_replicate (n : Nat) : Ok (List.replicate n 0) := by
 intro x hx; rw [List.mem_replicate] at hx; omega
theorem ok_limbs (n : Nat) : Ok (limbs n) := by
 induction n using Nat.strongRecOn with
 | ind n ih =>
  rcases Nat.eq_zero_or_pos n with h0 | h0
  ·subst h0; exact ok_nil
  ·rw [limbs_pos (by omega)]
   exact ok_cons.2 ⟨by omega, ih _ (by omega)⟩
def Trimmed (xs : List Nat) : Prop := xs.getLast? ≠ some 0
theorem trimmed_nil : Trimmed [] := by simp [Trimmed]
theorem trimmed_limbs (n : Nat) : Trimmed (limbs n) := by
 induction n using Nat.strongRecOn with
 | ind n ih =>
  rcases Nat.eq_zero_or_pos n with h0 | h0
  ·subst h0; exact trimmed_nil
  ·rw [limbs_pos (by omega)]
   unfold Trimmed
   by_cases h1 : n / 4294967296 = 0
   ·rw [h1, limbs_zero]; simp; omega
   ·have := ih (n / 4294967296) (by omega)
    unfold Trimmed at this
    rw [List.getLast?_cons]
    rw [limbs_pos h1] at this ⊢
    rw [List.getLast?_cons] at this ⊢
    simpa using this
theorem val_append (xs ys : List Nat) : val (xs ++ ys) = val xs + 4294967296 ^ xs.length * val ys := by
 induction xs with
 | nil => simp [val]
 | cons x xs ih =>
  simp only [List.cons_append, val, ih, List.length_cons, Nat.pow_succ]
  rw [Nat.mul_add, Nat.mul_comm (4294967296 ^ xs.length) 4294967296, Nat.mul_assoc]; omega
theorem val_lt {xs : List Nat} (h : Ok xs) : val xs < 4294967296 ^ xs.length := by
 induction xs with
 | nil => simp [val]
 | cons x xs ih =>
  have ⟨hx, hxs⟩ := ok_cons.1 h
  have := ih hxs
  simp only [val, List.length_cons, Nat.pow_succ]
  omega
theorem val_replicate (n : Nat) : val (List.replicate n 0) = 0 := by
 induction n with
 | zero => rfl
 | succ n ih => simp [List.replicate_succ, val, ih]
theorem val_pos_of {xs : List Nat} (h : Trimmed xs) (hn : xs ≠ []) : 0 < val xs := by
 induction xs with
 | nil => exact absurd rfl hn
 | cons x xs ih =>
  unfold Trimmed at h
  cases xs with
  | nil => simp [val] at h ⊢; omega
  | cons y ys =>
   rw [List.getLast?_cons_cons] at h
   have := ih h (by simp)
   simp only [val] at this ⊢; omega
theorem Trimmed.tail {x : Nat} {xs : List Nat} (h : Trimmed (x :: xs)) : Trimmed xs := by
 cases xs with
 | nil => exact trimmed_nil
 | cons y ys => unfold Trimmed at *; rwa [List.getLast?_cons_cons] at h
theorem limbs_val {xs : List Nat} (h : Ok xs) (ht : Trimmed xs) : limbs (val xs) = xs := by
 induction xs with
 | nil => rfl
 | cons x xs ih =>
  have ⟨hx, hxs⟩ := ok_cons.1 h
  have hp := val_pos_of ht (by simp)
  rw [limbs_pos (by omega)]
  have e1 : val (x :: xs) % 4294967296 = x := by simp only [val]; omega
  have e2 : val (x :: xs) / 4294967296 = val xs := by simp only [val]; omega
  rw [e1, e2, ih hxs ht.tail]
theorem val_snoc_zero (xs : List Nat) : val (xs ++ [0]) = val xs := by rw [val_append]; simp [val]
theorem length_limbs_le {n k : Nat} (h : n < 4294967296 ^ k) : (limbs n).length ≤ k := by
 induction k generalizing n with
 | zero =>
  have : n = 0 := by simpa using h
  subst this; simp [limbs_zero]
 | succ k ih =>
  rcases Nat.eq_zero_or_pos n with h0 | h0
  ·subst h0; simp [limbs_zero]
  ·rw [limbs_pos (by omega)]
   have : n / 4294967296 < 4294967296 ^ k := by
    rw [Nat.pow_succ] at h
    exact Nat.div_lt_of_lt_mul (by rw [Nat.mul_comm]; exact h)
   have := ih this
   simp; omega
theorem length_limbs_val {xs : List Nat} (h : Ok xs) : (limbs (val xs)).length ≤ xs.length := length_limbs_le (val_lt h)
theorem lt_pow_length (n : Nat) : n < 4294967296 ^ (limbs n).length := by
 have := val_lt (ok_limbs n); rwa [val_limbs] at this
theorem pow_length_le {n : Nat} (h : n ≠ 0) : 4294967296 ^ ((limbs n).length - 1) ≤ n := by
 rcases Nat.lt_or_ge n (4294967296 ^ ((limbs n).length - 1)) with hlt | hge
 ·have h1 := length_limbs_le hlt
  have : (limbs n).length ≠ 0 := by intro e; exact h (limbs_eq_nil.1 (List.eq_nil_of_length_eq_zero e))
  omega
 ·exact hge
theorem limbs_val_take {xs : List Nat} (h : Ok xs) : limbs (val xs) = xs.take (limbs (val xs)).length := by
 induction hn : xs.length generalizing xs with
 | zero =>
  have : xs = [] := List.eq_nil_of_length_eq_zero hn
  subst this; simp [val, limbs_zero]
 | succ n ih =>
  by_cases ht : Trimmed xs
  ·rw [limbs_val h ht]; simp
  ·unfold Trimmed at ht
   have hl : xs.getLast? = some 0 := Classical.byContradiction ht
   obtain ⟨ys, rfl⟩ : ∃ ys, xs = ys ++ [0] := by
    have hne : xs ≠ [] := by intro e; subst e; simp at hn
    refine ⟨xs.dropLast, ?_⟩
    have := List.dropLast_concat_getLast hne
    rw [List.getLast?_eq_some_getLast hne] at hl
    injection hl with hl
    rw [hl] at this; exact this.symm
   rw [val_snoc_zero]
   have hy := (ok_append.1 h).1
   have hle := length_limbs_val hy
   rw [List.take_append_of_le_length hle]
   exact ih hy (by simpa using hn)
theorem val_take_drop (xs : List Nat) (k : Nat) (hk : k ≤ xs.length) : val xs = val (xs.take k) + 4294967296 ^ k * val (xs.drop k) := by
 have := val_append (xs.take k) (xs.drop k)
 rw [List.take_append_drop, List.length_take, Nat.min_eq_left hk] at this
 exact this
theorem val_set (xs : List Nat) (i v : Nat) (hi : i < xs.length) : val (xs.set i v) + 4294967296 ^ i * xs[i] = val xs + 4294967296 ^ i * v := by
 induction xs generalizing i with
 | nil => simp at hi
 | cons x xs ih =>
  cases i with
  | zero => simp [val]; omega
  | succ i =>
   have := ih i (by simpa using hi)
   simp only [List.set_cons_succ, val, List.getElem_cons_succ, Nat.pow_succ]
   have e1 : 4294967296 ^ i * 4294967296 * xs[i]'(by simpa using hi) = 4294967296 * (4294967296 ^ i * xs[i]'(by simpa using hi)) := by
    rw [Nat.mul_comm (4294967296 ^ i) 4294967296, Nat.mul_assoc]
   have e2 : 4294967296 ^ i * 4294967296 * v = 4294967296 * (4294967296 ^ i * v) := by
    rw [Nat.mul_comm (4294967296 ^ i) 4294967296, Nat.mul_assoc]
   rw [e1, e2]; omega
theorem val_take_succ (xs : List Nat) (k : Nat) (hk : k < xs.length) : val (xs.take (k + 1)) = val (xs.take k) + 4294967296 ^ k * xs[k] := by
 rw [List.take_succ_eq_append_getElem hk, val_append, List.length_take, Nat.min_eq_left (by omega)]
 simp [val]
theorem take_set_succ {α} (xs : List α) (k : Nat) (v : α) (hk : k < xs.length) : (xs.set k v).take (k + 1) = xs.take k ++ [v] := by
 rw [List.take_succ_eq_append_getElem (by simpa using hk)]
 rw [List.take_set, List.set_eq_of_length_le (by rw [List.length_take]; omega)]; simp
theorem limbs_inj {a b : Nat} (h : limbs a = limbs b) : a = b := by rw [← val_limbs a, h, val_limbs]
end Pg
namespace Pg
def sg (neg : Bool) (N : Nat) : Int := if neg = true then -(N : Int) else (N : Int)
def rv (neg : Bool) (N D : Nat) : Rat := mkRat (sg neg N) D
def rneg (q : Rat) : Bool := decide (q.num < 0)
def rnum (q : Rat) : Nat := q.num.natAbs
theorem sg_natAbs (neg : Bool) (N : Nat) : (sg neg N).natAbs = N := by unfold sg; split <;> simp
theorem sg_self (z : Int) : sg (decide (z < 0)) z.natAbs = z := by
 unfold sg; split <;> rename_i h <;> simp at h <;> omega
theorem rv_zero {neg : Bool} {N D : Nat} (h : N = 0 ∨ D = 0) : rv neg N D = 0 := by
 unfold rv
 rcases h with rfl | rfl
 ·have : sg neg 0 = 0 := by unfold sg; split <;> rfl
  rw [this]; exact Rat.zero_mkRat _
 ·exact Rat.mkRat_zero _
theorem rv_den (neg : Bool) (N : Nat) {D : Nat} (hD : D ≠ 0) : (rv neg N D).den = D / Nat.gcd N D := by
 unfold rv
 rw [Rat.den_mkRat, if_neg hD, sg_natAbs, Nat.gcd_comm]
theorem rv_numz (neg : Bool) (N : Nat) {D : Nat} (hD : D ≠ 0) : (rv neg N D).num = sg neg (N / Nat.gcd N D) := by
 unfold rv
 rw [Rat.num_mkRat, if_neg hD, sg_natAbs, Nat.gcd_comm]
 have hd : Nat.gcd N D ∣ N := Nat.gcd_dvd_left _ _
 unfold sg
 split
 ·rw [Int.neg_ediv_of_dvd (Int.ofNat_dvd.2 hd)]; rfl
 ·rfl
theorem rv_num (neg : Bool) (N : Nat) {D : Nat} (hD : D ≠ 0) : rnum (rv neg N D) = N / Nat.gcd N D := by
 unfold rnum; rw [rv_numz neg N hD, sg_natAbs]
theorem rv_neg {neg : Bool} {N D : Nat} (hN : N ≠ 0) (hD : D ≠ 0) : rneg (rv neg N D) = neg := by
 unfold rneg
 rw [rv_numz neg N hD]
 have hg : 0 < Nat.gcd N D := Nat.gcd_pos_of_pos_left _ (by omega)
 have : 0 < N / Nat.gcd N D := Nat.div_pos (Nat.le_of_dvd (by omega) (Nat.gcd_dvd_left _ _)) hg
 unfold sg
 cases neg <;> simp <;> omega
theorem rv_self (q : Rat) : rv (rneg q) (rnum q) q.den = q := by
 unfold rv rneg rnum; rw [sg_self, Rat.mkRat_self]
theorem sg_num (q : Rat) : sg (rneg q) (rnum q) = q.num := sg_self _
theorem rnum_zero_iff {q : Rat} : rnum q = 0 ↔ q = 0 := by
 unfold rnum
 rw [Int.natAbs_eq_zero]
 exact Rat.num_eq_zero
theorem rnum_zero : rnum 0 = 0 := rfl
theorem rneg_zero : rneg 0 = false := rfl
theorem rden_zero : (0 : Rat).den = 1 := rfl
theorem gcd_q (q : Rat) : Nat.gcd (rnum q) q.den = 1 := q.reduced
theorem rv_eq {q r : Rat} (h1 : rneg q = rneg r) (h2 : rnum q = rnum r) (h3 : q.den = r.den) : q = r := by
 rw [← rv_self q, h1, h2, h3, rv_self]
theorem rv_add (a b : Rat) : a + b = mkRat (sg (rneg a) (rnum a * b.den) + sg (rneg b) (rnum b * a.den)) (a.den * b.den) := by
 rw [Rat.add_def']
 congr 1
 have e : ∀ (n : Bool) (x y : Nat), sg n (x * y) = sg n x * (y : Int) := fun n x y => by
  unfold sg; split
  ·rw [Int.natCast_mul, Int.neg_mul]
  ·exact Int.natCast_mul _ _
 rw [e, e, sg_num, sg_num]
theorem sg_xor (s t : Bool) (x y : Nat) : sg (s != t) (x * y) = sg s x * sg t y := by
 unfold sg
 cases s <;> cases t <;> simp [Int.natCast_mul, Int.neg_mul, Int.mul_neg]
theorem rv_mul (a b : Rat) : a * b = rv (rneg a != rneg b) (rnum a * rnum b) (a.den * b.den) := by
 rw [Rat.mul_def']
 unfold rv
 rw [sg_xor, sg_num, sg_num]
end Pg
namespace Pg
structure RW where
 s : Bool
 xs : List Nat
 ys : List Nat
def RW.q (r : RW) : Rat := rv r.s (val r.xs) (val r.ys)
def rwOf (q : Rat) : RW := ⟨rneg q, limbs (rnum q), limbs q.den⟩
theorem rwOf_q (q : Rat) : (rwOf q).q = q := by
 unfold RW.q rwOf
 rw [val_limbs, val_limbs, rv_self]
structure TQ where
 v : Int
 c : Rat
structure CQ where
 s : Int
 t : List TQ
 k : Rat
structure TW where
 v : Int
 r : RW
structure CW where
 s : Int
 t : List TW
 r : RW
def TW.q (t : TW) : TQ := ⟨t.v, t.r.q⟩
def CW.q (c : CW) : CQ := ⟨c.s, c.t.map TW.q, c.r.q⟩
def twOf (t : TQ) : TW := ⟨t.v, rwOf t.c⟩
def cwOf (c : CQ) : CW := ⟨c.s, c.t.map twOf, rwOf c.k⟩
theorem twOf_q (t : TQ) : (twOf t).q = t := by unfold TW.q twOf; rw [rwOf_q]
theorem map_twOf (l : List TQ) : (l.map twOf).map TW.q = l := by
 induction l with
 | nil => rfl
 | cons t l ih => rw [List.map_cons, List.map_cons, twOf_q, ih]
theorem cwOf_q (c : CQ) : (cwOf c).q = c := by unfold CW.q cwOf; rw [map_twOf, rwOf_q]
def keepT (t : TQ) (l : List TQ) : List TQ := if t.c = 0 then l else t :: l
def addT : List TQ → List TQ → List TQ
 | [], m => m.foldr keepT []
 | a :: l, [] => (a :: l).foldr keepT []
 | a :: l, b :: m => if a.v < b.v then keepT a (addT l (b :: m)) else if b.v < a.v then keepT b (addT (a :: l) m) else keepT ⟨a.v, a.c + b.c⟩ (addT l m)
termination_by l m => l.length + m.length
def scaleT (l : List TQ) (q : Rat) : List TQ := l.foldr (fun t r => keepT ⟨t.v, t.c * q⟩ r) []
def addC (a b : CQ) : CQ := ⟨a.s, addT a.t b.t, a.k + b.k⟩
def scaleC (a : CQ) (q : Rat) : CQ := ⟨a.s, scaleT a.t q, a.k * q⟩
def valAt (l : List Rat) (i : Int) : Rat := if 0 ≤ i then l.getD i.toNat 0 else 0
theorem foldr_keep {l : List TQ} (h : ∀ t ∈ l, t.c ≠ 0) : l.foldr keepT [] = l := by
 induction l with
 | nil => rfl
 | cons t l ih =>
  rw [List.foldr_cons, ih fun x hx => h x (List.mem_cons_of_mem _ hx)]
  unfold keepT
  rw [if_neg (h t List.mem_cons_self)]
theorem addT_comm : ∀ l m, addT l m = addT m l := by
 intro l m
 induction l, m using addT.induct with
 | case1 m => cases m <;> simp [addT]
 | case2 a l => simp [addT]
 | case3 a l b m h ih => rw [addT, if_pos h, addT, if_neg (by omega), if_pos h, ih]
 | case4 a l b m h h2 ih => rw [addT, if_neg h, if_pos h2, addT, if_pos h2, ih]
 | case5 a l b m h h2 ih => rw [addT, if_neg h, if_neg h2, addT, if_neg h2, if_neg h, ih, show a.v = b.v by omega, Rat.add_comm]
theorem scaleT_none (q : Rat) {l : List TQ} (h : ∀ t ∈ l, t.c ≠ 0) (hq : q ≠ 0) : scaleT l q = l.map fun t => ⟨t.v, t.c * q⟩ := by
 induction l with
 | nil => rfl
 | cons t l ih =>
  have h0 := h t List.mem_cons_self
  have hm : t.c * q ≠ 0 := fun e => by rcases Rat.mul_eq_zero.1 e with e | e <;> contradiction
  unfold scaleT at ih ⊢
  rw [List.foldr_cons, ih fun x hx => h x (List.mem_cons_of_mem _ hx)]
  unfold keepT
  rw [if_neg hm]
  rfl
theorem addT_less {l : List TQ} (h : ∀ t ∈ l, t.c ≠ 0) : addT l (scaleT l (-1)) = [] := by
 rw [scaleT_none _ h (by decide)]
 clear h
 induction l with
 | nil => simp [addT]
 | cons t l ih =>
  rw [List.map_cons, addT, if_neg (by simp), if_neg (by simp), ih]
  unfold keepT
  rw [if_pos (by show t.c + t.c * -1 = 0; rw [Rat.mul_neg, Rat.mul_one, Rat.add_neg_cancel])]
theorem addT_twice (l : List TQ) : addT l l = scaleT l 2 := by
 induction l with
 | nil => simp [addT, scaleT]
 | cons t l ih =>
  rw [addT, if_neg (by omega), if_neg (by omega), ih]
  unfold scaleT
  rw [List.foldr_cons]
  congr 2
  rw [show (2 : Rat) = 1 + 1 by decide +kernel, Rat.mul_add, Rat.mul_one]
def termsOk (n : Int) : Int → List TQ → Bool
 | _, [] => true
 | least, t :: l => decide (least ≤ t.v) && decide (t.v < n) && decide (t.c ≠ 0) && termsOk n (t.v + 1) l
theorem termsOk_mono {n a b : Int} {l : List TQ} (h : termsOk n b l = true) (hab : a ≤ b) : termsOk n a l = true := by
 cases l with
 | nil => rfl
 | cons t l => simp only [termsOk, Bool.and_eq_true, decide_eq_true_eq] at h ⊢; exact ⟨⟨⟨by omega, h.1.1.2⟩, h.1.2⟩, h.2⟩
theorem termsOk_keep {n a : Int} {t : TQ} {l : List TQ} (h1 : a ≤ t.v) (h2 : t.v < n) (h : termsOk n (t.v + 1) l = true) : termsOk n a (keepT t l) = true := by
 unfold keepT
 split
 ·exact termsOk_mono h (by omega)
 ·rename_i h0
  simp only [termsOk, Bool.and_eq_true, decide_eq_true_eq]
  exact ⟨⟨⟨h1, h2⟩, h0⟩, h⟩
theorem termsOk_nz {n a : Int} {l : List TQ} (h : termsOk n a l = true) : ∀ t ∈ l, t.c ≠ 0 := by
 induction l generalizing a with
 | nil => intro t ht; simp at ht
 | cons t l ih =>
  simp only [termsOk, Bool.and_eq_true, decide_eq_true_eq] at h
  intro x hx
  rcases List.mem_cons.1 hx with rfl | hx
  ·exact h.1.2
  ·exact ih h.2 x hx
theorem termsOk_add {n : Int} : ∀ l m (a : Int), termsOk n a l = true → termsOk n a m = true → termsOk n a (addT l m) = true := by
 intro l m
 induction l, m using addT.induct with
 | case1 m => intro a _ h; rw [addT, foldr_keep (termsOk_nz h)]; exact h
 | case2 b l => intro a h _; rw [addT, foldr_keep (termsOk_nz h)]; exact h
 | case3 a l b m h ih =>
  intro z h1 h2
  simp only [termsOk, Bool.and_eq_true, decide_eq_true_eq] at h1 h2
  rw [addT, if_pos h]
  refine termsOk_keep h1.1.1.1 h1.1.1.2 (ih _ h1.2 ?_)
  simp only [termsOk, Bool.and_eq_true, decide_eq_true_eq]
  exact ⟨⟨⟨by omega, h2.1.1.2⟩, h2.1.2⟩, h2.2⟩
 | case4 a l b m h h' ih =>
  intro z h1 h2
  simp only [termsOk, Bool.and_eq_true, decide_eq_true_eq] at h1 h2
  rw [addT, if_neg h, if_pos h']
  refine termsOk_keep h2.1.1.1 h2.1.1.2 (ih _ ?_ h2.2)
  simp only [termsOk, Bool.and_eq_true, decide_eq_true_eq]
  exact ⟨⟨⟨by omega, h1.1.1.2⟩, h1.1.2⟩, h1.2⟩
 | case5 a l b m h h' ih =>
  intro z h1 h2
  simp only [termsOk, Bool.and_eq_true, decide_eq_true_eq] at h1 h2
  rw [addT, if_neg h, if_neg h']
  refine termsOk_keep h1.1.1.1 h1.1.1.2 (ih _ h1.2 ?_)
  rw [show a.v = b.v by omega]
  exact h2.2
theorem termsOk_scale {n : Int} (q : Rat) : ∀ l (a : Int), termsOk n a l = true → termsOk n a (scaleT l q) = true := by
 intro l
 induction l with
 | nil => intro a h; exact h
 | cons t l ih =>
  intro a h
  simp only [termsOk, Bool.and_eq_true, decide_eq_true_eq] at h
  unfold scaleT at ih ⊢
  rw [List.foldr_cons]
  exact termsOk_keep h.1.1.1 h.1.1.2 (ih _ h.2)
inductive XE where
 | num (q : Rat)
 | name (s : List UInt8)
 | neg (a : XE)
 | bin (k : Nat) (a b : XE)
structure EnvQ where
 vars : List (List UInt8)
 names : List (List UInt8)
 vals : List Rat
def idx (l : List (List UInt8)) (s : List UInt8) : Option Nat := l.findIdx? (· == s)
def nameC (s : List UInt8) (v : EnvQ) : Except Nat CQ :=
 match idx v.vars s with
 | some i => .ok ⟨0, [⟨i, 1⟩], 0⟩
 | none => match idx v.names s with
  | some i => .ok ⟨0, [], v.vals.getD i 0⟩
  | none => .error 5
def binC (k : Nat) (a b : CQ) : Except Nat CQ :=
 if k = 3 then .ok (addC a b)
 else if k = 4 then .ok (addC a (scaleC b (-1)))
 else if k = 5 then (if a.t ≠ [] ∧ b.t ≠ [] then .error 6 else if a.t ≠ [] then .ok (scaleC a b.k) else .ok (scaleC b a.k))
 else if b.t ≠ [] then .error 6 else if b.k = 0 then .error 7 else .ok (scaleC a (1 / b.k))
def sumX (v : EnvQ) : XE → Except Nat CQ
 | .num q => .ok ⟨0, [], q⟩
 | .name s => nameC s v
 | .neg a => match sumX v a with
  | .error x => .error x
  | .ok c => .ok (scaleC c (-1))
 | .bin k a b => match sumX v a with
  | .error x => .error x
  | .ok c => match sumX v b with
   | .error x => .error x
   | .ok d => binC k c d
theorem findIdx_lt {l : List (List UInt8)} {s : List UInt8} {i : Nat} (h : idx l s = some i) : i < l.length := by
 unfold idx at h
 exact (List.findIdx?_eq_some_iff_getElem.1 h).1
theorem sumX_ok (v : EnvQ) : ∀ (e : XE) (c : CQ), sumX v e = .ok c → c.s = 0 ∧ termsOk v.vars.length 0 c.t = true := by
 intro e
 induction e with
 | num q => intro c h; simp only [sumX, Except.ok.injEq] at h; subst h; exact ⟨rfl, rfl⟩
 | name s =>
  intro c h
  simp only [sumX, nameC] at h
  cases hi : idx v.vars s with
  | some i =>
   rw [hi] at h
   simp only [Except.ok.injEq] at h
   subst h
   have := findIdx_lt hi
   refine ⟨rfl, ?_⟩
   simp [termsOk]
   omega
  | none =>
   rw [hi] at h
   simp only at h
   cases hj : idx v.names s with
   | some i => rw [hj] at h; simp only [Except.ok.injEq] at h; subst h; exact ⟨rfl, rfl⟩
   | none => rw [hj] at h; simp at h
 | neg e ih =>
  intro c h
  simp only [sumX] at h
  cases hs : sumX v e with
  | error x => rw [hs] at h; simp at h
  | ok c0 =>
   rw [hs] at h
   simp only [Except.ok.injEq] at h
   subst h
   exact ⟨(ih _ hs).1, termsOk_scale _ _ _ (ih _ hs).2⟩
 | bin k e f ih1 ih2 =>
  intro c h
  simp only [sumX] at h
  cases hs : sumX v e with
  | error x => rw [hs] at h; simp at h
  | ok c0 =>
   cases hs2 : sumX v f with
   | error x => rw [hs, hs2] at h; simp at h
   | ok c1 =>
    rw [hs, hs2] at h
    simp only at h
    obtain ⟨a1, a2⟩ := ih1 _ hs
    obtain ⟨b1, b2⟩ := ih2 _ hs2
    unfold binC at h
    repeat' split at h
    all_goals first
     | (simp at h; done)
     | (simp only [Except.ok.injEq] at h; subst h; first | exact ⟨a1, termsOk_add _ _ _ a2 b2⟩ | exact ⟨a1, termsOk_add _ _ _ a2 (termsOk_scale _ _ _ b2)⟩ | exact ⟨a1, termsOk_scale _ _ _ a2⟩ | exact ⟨b1, termsOk_scale _ _ _ b2⟩)
def XE.names : XE → List (List UInt8)
 | .num _ => []
 | .name s => [s]
 | .neg a => a.names
 | .bin _ a b => a.names ++ b.names
def Known (v : EnvQ) (s : List UInt8) : Prop := s ∈ v.vars ∨ s ∈ v.names
theorem idx_none {l : List (List UInt8)} {s : List UInt8} : idx l s = none ↔ s ∉ l := by
 unfold idx
 rw [List.findIdx?_eq_none_iff]
 constructor
 ·intro h hm; simpa using h s hm
 ·intro h x hx; simp; intro e; exact h (e ▸ hx)
theorem nameC_cases (v : EnvQ) (s : List UInt8) : (∃ c, nameC s v = .ok c ∧ Known v s) ∨ (nameC s v = .error 5 ∧ ¬ Known v s) := by
 unfold nameC Known
 cases hi : idx v.vars s with
 | some i => exact .inl ⟨_, rfl, .inl (Classical.byContradiction fun h => by rw [idx_none.2 h] at hi; cases hi)⟩
 | none =>
  cases hj : idx v.names s with
  | some i => exact .inl ⟨_, rfl, .inr (Classical.byContradiction fun h => by rw [idx_none.2 h] at hj; cases hj)⟩
  | none => exact .inr ⟨rfl, fun h => by rcases h with h | h; exact idx_none.1 hi h; exact idx_none.1 hj h⟩
theorem sumX_names (v : EnvQ) : ∀ e : XE, (∃ c, sumX v e = .ok c ∧ ∀ s ∈ e.names, Known v s) ∨ (∃ x, sumX v e = .error x ∧ (x = 6 ∨ x = 7)) ∨ (sumX v e = .error 5 ∧ ¬ ∀ s ∈ e.names, Known v s) := by
 intro e
 induction e with
 | num q => exact .inl ⟨_, rfl, fun s h => by simp [XE.names] at h⟩
 | name s =>
  rcases nameC_cases v s with ⟨c, h, k⟩ | ⟨h, k⟩
  ·exact .inl ⟨c, h, fun x hx => by simp [XE.names] at hx; exact hx ▸ k⟩
  ·exact .inr (.inr ⟨h, fun hx => k (hx s (by simp [XE.names]))⟩)
 | neg e ih =>
  simp only [sumX]
  rcases ih with ⟨c, h, k⟩ | ⟨x, h, k⟩ | ⟨h, k⟩
  ·rw [h]; exact .inl ⟨_, rfl, k⟩
  ·rw [h]; exact .inr (.inl ⟨_, rfl, k⟩)
  ·rw [h]; exact .inr (.inr ⟨rfl, k⟩)
 | bin n e f ih1 ih2 =>
  simp only [sumX]
  rcases ih1 with ⟨c, h, k⟩ | ⟨x, h, k⟩ | ⟨h, k⟩
  ·rw [h]
   rcases ih2 with ⟨d, g, l⟩ | ⟨x, g, l⟩ | ⟨g, l⟩
   ·rw [g]
    simp only
    have hall : ∀ s ∈ (XE.bin n e f).names, Known v s := fun s hs => by
     rcases List.mem_append.1 hs with hs | hs
     ·exact k s hs
     ·exact l s hs
    unfold binC
    repeat' split
    all_goals first
     | exact .inl ⟨_, rfl, hall⟩
     | exact .inr (.inl ⟨_, rfl, .inl rfl⟩)
     | exact .inr (.inl ⟨_, rfl, .inr rfl⟩)
   ·rw [g]; exact .inr (.inl ⟨_, rfl, l⟩)
   ·rw [g]; exact .inr (.inr ⟨rfl, fun hx => l fun s hs => hx s (List.mem_append.2 (.inr hs))⟩)
  ·rw [h]; exact .inr (.inl ⟨_, rfl, k⟩)
  ·rw [h]; exact .inr (.inr ⟨rfl, fun hx => k fun s hs => hx s (List.mem_append.2 (.inl hs))⟩)
end Pg
