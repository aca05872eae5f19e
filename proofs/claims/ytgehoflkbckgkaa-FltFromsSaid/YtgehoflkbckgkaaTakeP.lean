/- Taking a divisor away, and the long division: plain mathematics of the loops. Conditions: none. -/
import Derived.Test.YtgehoflkbckgkaaDivP
namespace Pg

theorem val_div_pow {xs : List Nat} (h : Ok xs) (k : Nat) : val xs / 4294967296 ^ k = val (xs.drop k) := by
  have hp : 0 < 4294967296 ^ k := Nat.pow_pos (by omega)
  rcases Nat.lt_or_ge k xs.length with hk | hk
  · have e := val_take_drop xs k (by omega)
    have hl := val_lt (h.take k)
    rw [List.length_take, Nat.min_eq_left (by omega)] at hl
    rw [e, Nat.add_comm, Nat.mul_add_div hp, Nat.div_eq_of_lt hl, Nat.add_zero]
  · rw [List.drop_eq_nil_of_le hk]
    have hl := val_lt h
    have h2 : 4294967296 ^ xs.length ≤ 4294967296 ^ k := Nat.pow_le_pow_right (by omega) hk
    exact Nat.div_eq_of_lt (by omega)

theorem low_part {xs : List Nat} (h : Ok xs) {k : Nat} (h0 : val (xs.drop k) = 0) : val xs < 4294967296 ^ k := by
  have hp : 0 < 4294967296 ^ k := Nat.pow_pos (by omega)
  have := val_div_pow h k
  rw [h0] at this
  rcases Nat.lt_or_ge (val xs) (4294967296 ^ k) with h1 | h1
  · exact h1
  · have := Nat.div_pos h1 hp
    omega

theorem top_zero {xs : List Nat} (h : Ok xs) {k : Nat} (h0 : val xs < 4294967296 ^ k) : val (xs.drop k) = 0 := by
  rw [← val_div_pow h k]; exact Nat.div_eq_of_lt h0

theorem top3 {xs : List Nat} (h : Ok xs) {k : Nat} (h0 : val xs < 4294967296 ^ (k + 3)) :
    val xs / 4294967296 ^ k = (lim xs (k + 2) * 4294967296 + lim xs (k + 1)) * 4294967296 + lim xs k := by
  rw [val_div_pow h, val_drop_cons, val_drop_cons xs (k + 1), val_drop_cons xs (k + 1 + 1), top_zero h (k := k + 1 + 1 + 1) h0]
  rw [show k + 1 + 1 = k + 2 from rfl]
  omega
theorem top2 {xs : List Nat} (h : Ok xs) {k : Nat} (h0 : val xs < 4294967296 ^ (k + 2)) :
    val xs / 4294967296 ^ k = lim xs (k + 1) * 4294967296 + lim xs k := by
  rw [val_div_pow h, val_drop_cons, val_drop_cons xs (k + 1), top_zero h (k := k + 1 + 1) h0]
  omega

/-- What taking away keeps. -/
structure TakeInv (us ds : List Nat) (o n q k cr br : Nat) (cs : List Nat) : Prop where
  len : cs.length = us.length
  ok : Ok cs
  up : cs.drop (o + n + 1) = us.drop (o + n + 1)
  crl : cr < 4294967296
  brl : br ≤ 1
  eq : val cs + 4294967296 ^ o * (q * val (ds.take k)) = val us + 4294967296 ^ (o + k) * (br + cr)

theorem TakeInv.start (us ds : List Nat) (o n q : Nat) (h : Ok us) : TakeInv us ds o n q 0 0 0 us :=
  ⟨rfl, h, rfl, by omega, by omega, by simp [val]⟩

theorem drop_set_low {α} (xs : List α) {i j : Nat} (v : α) (h : i < j) : (xs.set i v).drop j = xs.drop j := by
  rw [List.drop_set, if_pos h]

theorem take_alg {P X V V' W u d y br b' T l cr t : Nat} (e0 : V + X = W + P * (br + cr)) (e1 : V' + P * u = V + P * d) (e2 : d + (y + br) = u + b' * 4294967296) (e4 : 4294967296 * T + y = t) (ht : t = cr + l) :
    V' + (X + P * l) = W + P * 4294967296 * (b' + T) := by
  have m2 : P * d + (P * y + P * br) = P * u + P * (b' * 4294967296) := by rw [← Nat.mul_add, ← Nat.mul_add, ← Nat.mul_add, e2]
  have m4 : P * (4294967296 * T) + P * y = P * cr + P * l := by rw [← Nat.mul_add, ← Nat.mul_add, e4, ht]
  have m5 : P * 4294967296 * (b' + T) = P * (b' * 4294967296) + P * (4294967296 * T) := by
    rw [Nat.mul_add, Nat.mul_assoc, Nat.mul_assoc, Nat.mul_comm 4294967296 b']
  rw [m5]
  rw [Nat.mul_add] at e0
  omega

theorem TakeInv.step {us ds : List Nat} {o n q k cr br : Nat} {cs : List Nat} (h : TakeInv us ds o n q k cr br cs) (hds : Ok ds) (hk : k ≤ n) (hon : o + n < us.length) (hq : q < 4294967296) (t : Nat) (ht : t = cr + q * lim ds k) :
    TakeInv us ds o n q (k + 1) (t / 4294967296) (borr (lim cs (o + k)) (t % 4294967296) br) (cs.set (o + k) (dif (lim cs (o + k)) (t % 4294967296) br)) := by
  have hp := prod_le hq (lim_lt hds k)
  have hcr := h.crl
  have hy : t % 4294967296 < 4294967296 := Nat.mod_lt _ (by omega)
  have e2 := dif_eq (lim_lt h.ok (o + k)) hy h.brl
  refine ⟨by rw [List.length_set, h.len], h.ok.set _ (dif_lt _ _ _), by rw [drop_set_low _ _ (by omega), h.up], by omega, borr_le _ _ _, ?_⟩
  have e1 := val_set' (dif (lim cs (o + k)) (t % 4294967296) br) (show o + k < cs.length by rw [h.len]; omega)
  have e3 : 4294967296 ^ o * (q * val (ds.take (k + 1))) = 4294967296 ^ o * (q * val (ds.take k)) + 4294967296 ^ (o + k) * (q * lim ds k) := by
    rw [val_take_succ0, Nat.pow_add, Nat.mul_add, Nat.mul_add]
    congr 1
    ac_rfl
  rw [e3, ← Nat.add_assoc o k 1, Nat.pow_succ]
  exact take_alg h.eq e1 e2 (Nat.div_add_mod t 4294967296) ht

/-- What giving back keeps. -/
structure BackInv (us ds : List Nat) (o n k mr : Nat) (cs : List Nat) : Prop where
  len : cs.length = us.length
  ok : Ok cs
  up : cs.drop (o + n + 1) = us.drop (o + n + 1)
  mrl : mr ≤ 1
  eq : val cs + 4294967296 ^ (o + k) * mr = val us + 4294967296 ^ o * val (ds.take k)

theorem BackInv.start (us ds : List Nat) (o n : Nat) (h : Ok us) : BackInv us ds o n 0 0 us :=
  ⟨rfl, h, rfl, by omega, by simp [val]⟩

theorem BackInv.step {us ds : List Nat} {o n k mr : Nat} {cs : List Nat} (h : BackInv us ds o n k mr cs) (hds : Ok ds) (hk : k ≤ n) (hon : o + n < us.length) (t : Nat) (ht : t = lim cs (o + k) + lim ds k + mr) :
    BackInv us ds o n (k + 1) (t / 4294967296) (cs.set (o + k) (t % 4294967296)) := by
  have h1 := lim_lt h.ok (o + k)
  have h2 := lim_lt hds k
  have h3 := h.mrl
  refine ⟨by rw [List.length_set, h.len], h.ok.set _ (Nat.mod_lt _ (by omega)), by rw [drop_set_low _ _ (by omega), h.up], by omega, ?_⟩
  have e1 := val_set' (t % 4294967296) (show o + k < cs.length by rw [h.len]; omega)
  have e3 : 4294967296 ^ o * val (ds.take (k + 1)) = 4294967296 ^ o * val (ds.take k) + 4294967296 ^ (o + k) * lim ds k := by
    rw [val_take_succ0, Nat.pow_add, Nat.mul_add]
    congr 1
    ac_rfl
  rw [e3, ← Nat.add_assoc o k 1, Nat.pow_succ]
  have e0 := h.eq
  have e4 := Nat.div_add_mod t 4294967296
  have m4 : 4294967296 ^ (o + k) * (4294967296 * (t / 4294967296)) + 4294967296 ^ (o + k) * (t % 4294967296) = 4294967296 ^ (o + k) * lim cs (o + k) + 4294967296 ^ (o + k) * lim ds k + 4294967296 ^ (o + k) * mr := by
    rw [← Nat.mul_add, ← Nat.mul_add, ← Nat.mul_add, e4, ht]
  rw [Nat.mul_assoc]
  omega

/-- What 'takes' does: it takes q divisors away, or one less and says so. -/
structure Took (us : List Nat) (o n q D : Nat) (b : Bool) (cs : List Nat) : Prop where
  len : cs.length = us.length
  ok : Ok cs
  up : cs.drop (o + n + 1) = us.drop (o + n + 1)
  eq : (b = false ∧ val cs + 4294967296 ^ o * (q * D) = val us) ∨
    (b = true ∧ val us < 4294967296 ^ o * (q * D) ∧ ∃ ov, val cs + 4294967296 ^ (o + n + 1) * ov + 4294967296 ^ o * (q * D) = val us + 4294967296 ^ (o + n + 1) + 4294967296 ^ o * D)

theorem took_kept {us ds : List Nat} {o n q cr : Nat} {cs : List Nat} (h : TakeInv us ds o n q (n + 1) cr 0 cs) (hl : ds.length = n) (hcr : cr = 0) : Took us o n q (val ds) false cs := by
  refine ⟨h.len, h.ok, h.up, .inl ⟨rfl, ?_⟩⟩
  have e := h.eq
  rw [List.take_of_length_le (by omega), hcr, Nat.zero_add, Nat.mul_zero, Nat.add_zero] at e
  exact e

theorem took_back {us ds : List Nat} {o n q cr br mr : Nat} {cs cs2 : List Nat} (h : TakeInv us ds o n q (n + 1) cr br cs) (hl : ds.length = n) (hcr : cr = 0) (hbr : br ≠ 0) (hX : val us < 4294967296 ^ (o + n + 1))
    (hus : Ok us) (h2 : BackInv cs ds o n (n + 1) mr cs2) : Took us o n q (val ds) true cs2 := by
  have e := h.eq
  have e2 := h2.eq
  have hb : br = 1 := by have := h.brl; omega
  rw [List.take_of_length_le (by omega), hcr, hb] at e
  rw [List.take_of_length_le (by omega)] at e2
  have hz : val (cs.drop (o + n + 1)) = 0 := by rw [h.up]; exact top_zero hus hX
  have hc := low_part h.ok hz
  rw [← Nat.add_assoc o n 1] at e e2
  refine ⟨h2.len.trans h.len, h2.ok, h2.up.trans h.up, .inr ⟨rfl, by omega, mr, by omega⟩⟩

/-- One digit of the long division. -/
theorem Took.digit {us : List Nat} {o n q D : Nat} {b : Bool} {cs : List Nat} (h : Took us o n q D b cs) (hus : Ok us) (hD : 0 < D) (hX : val us < 4294967296 ^ (o + n + 1))
    (hq : val us / 4294967296 ^ o / D ≤ q ∧ q ≤ val us / 4294967296 ^ o / D + 1) :
    (if b then q - 1 else q) = val us / 4294967296 ^ o / D ∧ (b = true → 0 < q) ∧ val cs + 4294967296 ^ o * (val us / 4294967296 ^ o / D * D) = val us ∧ val us < 4294967296 ^ o * (val us / 4294967296 ^ o / D * D) + 4294967296 ^ o * D := by
  have hz : val (cs.drop (o + n + 1)) = 0 := by rw [h.up]; exact top_zero hus hX
  have hc := low_part h.ok hz
  have e := h.eq
  have hP : 0 < 4294967296 ^ o := Nat.pow_pos (by omega)
  obtain ⟨P, hPe⟩ : ∃ P, P = 4294967296 ^ o := ⟨_, rfl⟩
  obtain ⟨T, hTe⟩ : ∃ T, T = 4294967296 ^ (o + n + 1) := ⟨_, rfl⟩
  rw [← hPe] at hP hq e ⊢
  rw [← hTe] at hc hX e
  clear hPe hTe hz
  obtain ⟨X, hXe⟩ : ∃ X, X = val us := ⟨_, rfl⟩
  rw [← hXe] at hX hq e ⊢
  clear hXe
  have a1 : X / P / D * D ≤ X / P := Nat.div_mul_le_self _ _
  have a2 : P * (X / P) ≤ X := Nat.mul_div_le _ _
  have a3 : P * (X / P / D * D) ≤ P * (X / P) := Nat.mul_le_mul_left _ a1
  have a4 : X / P < (X / P / D + 1) * D := by rw [Nat.mul_comm]; exact Nat.lt_mul_div_succ _ hD
  have a5 : X < P * (X / P + 1) := Nat.lt_mul_div_succ _ hP
  have a6 : P * (X / P + 1) ≤ P * ((X / P / D + 1) * D) := Nat.mul_le_mul_left _ a4
  have a7 : P * ((X / P / D + 1) * D) = P * (X / P / D * D) + P * D := by rw [Nat.add_mul, Nat.one_mul, Nat.mul_add]
  generalize X / P / D = Q at *
  have hq2 : q = Q ∨ q = Q + 1 := by omega
  rcases hq2 with rfl | rfl
  · rcases e with ⟨rfl, e⟩ | ⟨rfl, e, _⟩
    · exact ⟨rfl, (fun h => by cases h), e, by omega⟩
    · omega
  · rcases e with ⟨rfl, e⟩ | ⟨rfl, _, ov, e⟩
    · omega
    · refine ⟨rfl, fun _ => by omega, ?_, by omega⟩
      rw [a7] at e
      rcases Nat.eq_zero_or_pos ov with h0 | h0
      · subst h0; omega
      · rcases Nat.lt_or_ge ov 2 with h1 | h1
        · have : ov = 1 := by omega
          subst this; omega
        · have : T * 2 ≤ T * ov := Nat.mul_le_mul_left _ h1
          omega

/-- What the long division keeps. -/
structure LongInv (us0 : List Nat) (D m l j : Nat) (us qs : List Nat) : Prop where
  ulen : us.length = m
  qlen : qs.length = l
  uok : Ok us
  qok : Ok qs
  eq : val us0 = val us + D * val qs
  lt : val us < D * 4294967296 ^ j
  nought : ∀ i, i < j → lim qs i = 0

theorem LongInv.start {us0 : List Nat} {D l : Nat} (h : Ok us0) (hlt : val us0 < D * 4294967296 ^ l) : LongInv us0 D us0.length l l us0 (List.replicate l 0) :=
  ⟨rfl, by simp, h, ok_replicate _, by rw [val_replicate]; simp, hlt, fun i _ => lim_replicate _ _⟩

theorem LongInv.digit_lt {us0 : List Nat} {D m l i : Nat} {us qs : List Nat} (h : LongInv us0 D m l (i + 1) us qs) : val us / 4294967296 ^ i < 4294967296 * D := by
  refine Nat.div_lt_of_lt_mul ?_
  have := h.lt
  rw [Nat.pow_succ] at this
  calc val us < D * (4294967296 ^ i * 4294967296) := this
    _ = 4294967296 ^ i * (4294967296 * D) := by ac_rfl

theorem LongInv.step {us0 : List Nat} {D m l i : Nat} {us qs cs : List Nat} (h : LongInv us0 D m l (i + 1) us qs) (hi : i < l) (hl : cs.length = us.length) (hok : Ok cs) (Q : Nat) (hQ : Q < 4294967296)
    (e1 : val cs + 4294967296 ^ i * (Q * D) = val us) (e2 : val us < 4294967296 ^ i * (Q * D) + 4294967296 ^ i * D) : LongInv us0 D m l i cs (qs.set i Q) := by
  have hz := h.nought i (by omega)
  refine ⟨hl.trans h.ulen, by rw [List.length_set, h.qlen], hok, h.qok.set i hQ, ?_, by rw [Nat.mul_comm]; omega, fun k hk => by rw [lim_set_other _ (by omega)]; exact h.nought k (by omega)⟩
  have e3 := val_set' Q (show i < qs.length by rw [h.qlen]; exact hi)
  rw [hz, Nat.mul_zero, Nat.add_zero] at e3
  rw [h.eq, ← e1, e3, Nat.mul_add]
  have : D * (4294967296 ^ i * Q) = 4294967296 ^ i * (Q * D) := by ac_rfl
  omega

/-- The divisor's shape: its limbs' number, shifted so far. -/
theorem LongInv.guess {us0 : List Nat} {n m l i : Nat} {ds us qs : List Nat} (h : LongInv us0 (val ds) m l (i + 1) us qs) (hds : Ok ds) (hn : ds.length = n + 2) (hb : 0 < lim ds (n + 1)) :
    val us < 4294967296 ^ (i + (n + 2) + 1) ∧
    lim us (i + n + 2) * 4294967296 + lim us (i + n + 1) ≤ lim ds (n + 1) * 4294967296 + lim ds n ∧
    val us / 4294967296 ^ i / val ds ≤ gq ((lim us (i + n + 2) * 4294967296 + lim us (i + n + 1)) * 4294967296 + lim us (i + n)) (lim ds (n + 1) * 4294967296 + lim ds n) ∧
    gq ((lim us (i + n + 2) * 4294967296 + lim us (i + n + 1)) * 4294967296 + lim us (i + n)) (lim ds (n + 1) * 4294967296 + lim ds n) ≤ val us / 4294967296 ^ i / val ds + 1 := by
  have hdv := val_lt hds
  rw [hn] at hdv
  have hP : 0 < 4294967296 ^ n := Nat.pow_pos (by omega)
  have hX : val us < 4294967296 ^ (i + (n + 2) + 1) := by
    have h1 := h.lt
    have h2 : val ds * 4294967296 ^ (i + 1) ≤ 4294967296 ^ (n + 2) * 4294967296 ^ (i + 1) := Nat.mul_le_mul_right _ (by omega)
    rw [← Nat.pow_add] at h2
    rw [show i + (n + 2) + 1 = n + 2 + (i + 1) by omega]
    omega
  have u3 := top3 h.uok (k := i + n) (by rw [show i + n + 3 = i + (n + 2) + 1 by omega]; exact hX)
  have d2 := top2 hds (k := n) hdv
  have hU := h.digit_lt
  rw [Nat.pow_add, ← Nat.div_div_eq_div_mul] at u3
  have k := knuth hP u3.symm d2.symm (by omega) hU
  refine ⟨hX, ?_, k⟩
  have e1 : (lim us (i + n + 2) * 4294967296 + lim us (i + n + 1)) = val us / 4294967296 ^ i / 4294967296 ^ n / 4294967296 := by
    have := lim_lt h.uok (i + n)
    rw [u3]
    omega
  rw [e1, ← d2, Nat.div_div_eq_div_mul, Nat.mul_comm (4294967296 ^ n), ← Nat.div_div_eq_div_mul]
  refine Nat.div_le_div_right (Nat.le_of_lt (Nat.div_lt_of_lt_mul hU))

theorem LongInv.done {us0 : List Nat} {m l a b y : Nat} {us qs : List Nat} (h : LongInv us0 (b * 2 ^ y) m l 0 us qs) (e0 : val us0 = a * 2 ^ y) (hb : 0 < b) :
    val qs = a / b ∧ val us / 2 ^ y = a % b ∧ val us < b * 2 ^ y := by
  have hlt := h.lt
  have hP : 0 < 2 ^ y := Nat.pow_pos (by omega)
  rw [Nat.pow_zero, Nat.mul_one] at hlt
  have e := h.eq
  rw [e0] at e
  have hdv : val us = 2 ^ y * (val us / 2 ^ y) := by
    have h1 : val us % 2 ^ y = 0 := by
      have h2 : (val us + b * 2 ^ y * val qs) % 2 ^ y = 0 := by rw [← e]; exact Nat.mul_mod_left _ _
      have h3 : b * 2 ^ y * val qs = 2 ^ y * (b * val qs) := by ac_rfl
      rw [h3, Nat.add_mul_mod_self_left] at h2
      exact h2
    have := Nat.div_add_mod (val us) (2 ^ y)
    omega
  obtain ⟨r, hr⟩ : ∃ r, r = val us / 2 ^ y := ⟨_, rfl⟩
  rw [← hr] at hdv ⊢
  clear hr
  rw [hdv] at e hlt
  have e5 : a = r + b * val qs := by
    refine Nat.eq_of_mul_eq_mul_left hP ?_
    rw [Nat.mul_add, Nat.mul_comm _ a, e]
    congr 1
    ac_rfl
  have hrb : r < b := by
    rw [Nat.mul_comm b] at hlt
    exact Nat.lt_of_mul_lt_mul_left hlt
  refine ⟨?_, ?_, by rw [hdv]; exact hlt⟩
  · rw [e5, Nat.add_comm, Nat.mul_add_div hb, Nat.div_eq_of_lt hrb, Nat.add_zero]
  · rw [e5, Nat.add_mul_mod_self_left, Nat.mod_eq_of_lt hrb]
theorem TakeInv.last {us ds : List Nat} {o n q cr br : Nat} {cs : List Nat} (h : TakeInv us ds o n q n cr br cs) (hds : Ok ds) (hl : ds.length = n) (hon : o + n < us.length) (hq : q < 4294967296) :
    TakeInv us ds o n q (n + 1) 0 (borr (lim cs (o + n)) cr br) (cs.set (o + n) (dif (lim cs (o + n)) cr br)) := by
  have hc := h.crl
  have := h.step hds (Nat.le_refl n) hon hq cr (by rw [lim_behind (by omega)]; simp)
  rwa [Nat.div_eq_of_lt hc, Nat.mod_eq_of_lt hc] at this
theorem BackInv.last {us ds : List Nat} {o n mr : Nat} {cs : List Nat} (h : BackInv us ds o n n mr cs) (hds : Ok ds) (hl : ds.length = n) (hon : o + n < us.length) :
    BackInv us ds o n (n + 1) ((lim cs (o + n) + mr) / 4294967296) (cs.set (o + n) ((lim cs (o + n) + mr) % 4294967296)) :=
  h.step hds (Nat.le_refl n) hon _ (by rw [show lim ds n = 0 from lim_behind (by omega), Nat.add_zero])
end Pg
