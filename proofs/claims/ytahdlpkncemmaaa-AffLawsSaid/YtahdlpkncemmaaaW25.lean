/- Digits as letters in a slice of bytes th. Conditions: those that each theorem names. -/
import Derived.Test.YtahdlpkncemmaaaW1
import Derived.Test.YtahdlpkncemmaaaW22
import Derived.Sort.Row
import Derived.Laws.IdiomStrings
set_option maxRecDepth 100000
set_option maxHeartbeats 8000000
set_option linter.unusedSimpArgs false
set_option linter.unusedVariables false
namespace Pg
open Go Go.RowKit
def encD (d : Nat) : Value := .int .u8 ((48 + d : Nat) : Int)
def u8s (ds : List Nat) : List Value := ds.map encD
theorem length_u8s (ds : List Nat) : (u8s ds).length = ds.length := by simp [u8s]
theorem wpList_append_letter {P : Program} (w : World) {ops : Array Oper} {rest : List Oper} {o : Oper} {a : Act} {Q : Exit → Act → World → Prop} (hgd : o.guard = none) (s x : Operand) (t : TypeId)
  (ho : o.op = .call { callee := .builtin .append, args := #[s, x], argTypes := #[t, t] })
  (base : Nat) (e : TypeId) (ht : P.underlying t = some (.slice e)) (hinf : (P.info? e).map (fun i => (i.zero, i.size, i.bytes)) = some (some (.int .u8 0), 1, 1))
  (v : Value) (n : Nat) (ds : List Nat) (hs : a.eval s = v) (hown : w.ownsRow base e 1 v n (u8s ds))
  (ad : Addr) (c : Nat) (d : Nat) (hx : a.eval x = .slice (some ad) 1 c) (hc : w.cell? ad = some (encD d)) (hb : n + 1 ≤ 1099511627776) (hbase : base ≤ w.heap.size)
  (h : ∀ v' w', w'.ownsRow base e 1 v' (n + 1) (u8s (ds ++ [d])) → w.grownBy w' v.ownBlock → wpList P ops Q rest (a.put o.dst v') w') : wpList P ops Q (o :: rest) a w := by
 obtain ⟨i, hi, hz, hsz, hby⟩ := info_parts hinf
 refine wpList_append_own w hgd s x t ho base e i (.int .u8 0) 1 1 ht hi hz hsz hby rfl (by decide) v n (u8s ds) hs hown ad 1 c (u8s [d]) hx rfl (fun j u hu => ?_) (fun u hu => ?_) (by simp only [maxLen]; omega) (by omega) hbase
  (fun v' w' h1 h2 _ => h v' w' (by
                   have : u8s (ds ++ [d]) = u8s ds ++ u8s [d] := by simp [u8s]
                   rw [this]; exact h1) h2)
 ·have hj : j = 0 := by have := (List.getElem?_eq_some_iff.1 hu).1; simpa [u8s] using this
  subst hj
  have e0 : ad.add 0 = ad := by simp [Addr.add]
  rw [e0, hc]
  simpa [u8s] using hu
 ·obtain rfl : u = encD d := by simpa [u8s] using hu
  rfl
structure Let (w : World) (g B : Nat) (n cap : Nat) (ds : List Nat) : Prop where
 len : ds.length = n
 nc : n ≤ cap
 cm : cap ≤ 9223372036854775807
 base : B ≤ g
 at_ : ∀ j, j < n → w.cell? ⟨g, j, none⟩ = some (encD (ds.getD j 0))
 fr : ∀ j, w.frozen? ⟨g, j, none⟩ = false
theorem Let.of_own {w : World} {base t : Nat} {v : Value} {n : Nat} {ds : List Nat} (h : w.ownsRow base t 1 v n (u8s ds)) (hn : 0 < n) : ∃ g cap, v = .slice (some ⟨g, 0, none⟩) n cap ∧ Let w g base n cap ds := by
 have hlen : ds.length = n := by have := h.1; rw [length_u8s] at this; omega
 rcases h.2 with ⟨_, h0⟩ | ⟨g, cap, cur, rfl, hb, hh, hnc, hcm, hcs, htk⟩
 ·omega
 ·refine ⟨g, cap, rfl, hlen, hnc, by simpa [maxLen] using hcm, hb, fun j hj => ?_, fun j => h.frozenAt j⟩
  rw [h.cellAt j (by omega)]
  simp [u8s, show j < ds.length by omega, List.getD]
theorem Let.take {w : World} {g B n cap m : Nat} {ds : List Nat} (h : Let w g B n cap ds) (hm : m ≤ n) : Let w g B m cap (ds.take m) :=
 ⟨by rw [List.length_take, h.len]; omega, Nat.le_trans hm h.nc, h.cm, h.base, fun j hj => by
  rw [h.at_ j (by omega)]
  have : (ds.take m).getD j 0 = ds.getD j 0 := by simp [List.getD, hj]
  rw [this], h.fr⟩
theorem Let.holds {w : World} {g B n cap : Nat} {ds : List Nat} (h : Let w g B n cap ds) : Sort.Holds encD w g 0 ds.toArray := by
 intro j hj
 have hj' : j < ds.length := by simpa using hj
 refine ⟨?_, by rw [Nat.zero_add]; exact h.fr j⟩
 rw [Nat.zero_add, h.at_ j (by rw [← h.len]; exact hj')]
 congr 2
 rw [getElem!_pos ds.toArray j hj]
 simp [List.getD, hj']
theorem below_putRow {B g off n : Nat} {w w1 : World} {d : Array Nat} (h : Below B w w1) (hB : B ≤ g) : Below B w (Sort.putRow encD (Sort.ahead w1 n) g off d) := by
 refine ⟨h.os, h.tape, h.output, ?_, fun k hk => ?_⟩
 ·show w.heap.size ≤ (w1.heap.modify g _).size
  rw [Array.size_modify]; exact h.size
 ·show (w1.heap.modify g _)[k]? = _
  rw [Array.getElem?_modify, if_neg (by omega)]
  exact h.block k hk
theorem str_back {P : Program} {w w1 : World} {g B n cap : Nat} {ds : List Nat} {q : Nat} (h : Let w g B n cap ds) (hd : Dg ds) (src dst e : TypeId) (hs : P.underlying src = some (.slice e)) (he : P.underlying e = some (.int .u8)) (hds : P.underlying dst = some .string)
  (hw : w1 = Sort.putRow encD (Sort.ahead w q) g 0 ds.reverse.toArray) : (convert src dst (.slice (some ⟨g, 0, none⟩) n cap)).run P w1 = .ok (.string ⟨((ds.map chr).reverse).toArray⟩) w1 := by
 subst hw
 have hl : ((ds.map chr).reverse).length = n := by rw [List.length_reverse, List.length_map, h.len]
 have key := run_convert_bytes_back (P := P) (Sort.putRow encD (Sort.ahead w q) g 0 ds.reverse.toArray) src dst e ⟨g, 0, none⟩ cap ((ds.map chr).reverse) hs he hds (fun j hj => ?_)
 ·rw [hl] at key; exact key
 ·have hj' : j < ds.length := by simpa using hj
  rw [Addr.add_lit, Sort.cell?_putRow encD (Sort.ahead w q) g 0 ds.toArray ds.reverse.toArray (Sort.holds_ahead encD w q g 0 ds.toArray h.holds) (by simp) j (by simpa using hj')]
  congr 1
  rw [getElem!_pos ds.reverse.toArray j (by simpa using hj')]
  have e1 : ds.reverse.toArray[j]'(by simpa using hj') = ds[ds.length - 1 - j]'(by omega) := by simp
  have e2 : ((ds.map chr).reverse)[j] = chr (ds[ds.length - 1 - j]'(by omega)) := by simp [List.getElem_reverse]
  rw [e1, e2, chr_nat (hd _ (List.getElem_mem _))]
  rfl
def Tag (w : World) (A : Option Addr) (t : TypeId) : Prop := ∀ b o, A = some ⟨b, o, none⟩ → ∃ cs fr, w.heap[b]? = some (.cells cs t fr)
theorem Tag.none (w : World) (t : TypeId) : Tag w none t := fun _ _ e => by cases e
theorem Tag.below {w w' : World} {A : Option Addr} {t : TypeId} (h : Tag w A t) (hb : Below w.heap.size w w') : Tag w' A t := fun b o e => by
 obtain ⟨cs, fr, hh⟩ := h b o e
 refine ⟨cs, fr, (hb.block b ?_).trans hh⟩
 rcases Nat.lt_or_ge b w.heap.size with h1 | h1
 ·exact h1
 ·rw [Array.getElem?_eq_none h1] at hh; cases hh
theorem keep_own {w w' : World} {base t t' n : Nat} {v : Value} {xs : List Value} (hown : w.ownsRow base t 1 v n xs) (hg : w.grownBy w' v.ownBlock) (hne : t ≠ t') {A : Option Addr} {m c : Nat} {ys : List Nat} (hr : Row w A m c ys) (ht : Tag w A t') :
  Row w' A m c ys ∧ Tag w' A t' := by
 have key : ∀ b o, A = some ⟨b, o, none⟩ → w'.heap[b]? = w.heap[b]? := fun b o e => by
  obtain ⟨cs, fr, hh⟩ := ht b o e
  have hlt : b < w.heap.size := by
   rcases Nat.lt_or_ge b w.heap.size with h1 | h1
   ·exact h1
   ·rw [Array.getElem?_eq_none h1] at hh; cases hh
  refine hg.block b hlt fun e2 => ?_
  rcases hown.2 with ⟨rfl, _⟩ | ⟨g, cap, cur, rfl, _, hh2, _⟩
  ·simp [Value.ownBlock] at e2
  ·simp only [Value.ownBlock, Option.some.injEq] at e2
   subst e2
   rw [hh2] at hh
   injection hh with hh
   injection hh with _ h2
   exact hne h2
 refine ⟨⟨hr.len, hr.nc, hr.cm, hr.ok, hr.nil_, fun hn => ?_⟩, fun b o e => ?_⟩
 ·obtain ⟨b, o, e, hc⟩ := hr.at_ hn
  refine ⟨b, o, e, fun j hj => ?_⟩
  rw [World.cell?_of_block (a := ⟨b, o + j, none⟩) (key b o e)]
  exact hc j hj
 ·obtain ⟨cs, fr, hh⟩ := ht b o e
  exact ⟨cs, fr, (key b o e).trans hh⟩
theorem own_below {w w' : World} {base e size n : Nat} {v : Value} {xs : List Value} (h : w.ownsRow base e size v n xs) (hb : Below w.heap.size w w') : w'.ownsRow base e size v n xs :=
 h.kept (row := none) ⟨hb.os, hb.tape, hb.output, hb.size, fun k hk _ => hb.block k hk⟩ (by cases hv : v.ownBlock <;> simp)
/-! A group of nine digits. -/
theorem grp_step {N V L r Q i : Nat} (hi : i < 9) (h : N = V + 10 ^ L * (r + 10 ^ (9 - i) * Q)) (hr : r < 10 ^ (9 - i)) :
  N = (V + 10 ^ L * (r % 10)) + 10 ^ (L + 1) * (r / 10 + 10 ^ (9 - (i + 1)) * Q) ∧ r / 10 < 10 ^ (9 - (i + 1)) := by
 have e : 10 ^ (9 - i) = 10 * 10 ^ (9 - (i + 1)) := by
  rw [show 9 - i = (9 - (i + 1)) + 1 by omega, Nat.pow_succ, Nat.mul_comm]
 rw [e] at h hr
 generalize 10 ^ (9 - (i + 1)) = E at *
 refine ⟨?_, by omega⟩
 have hd := Nat.div_add_mod r 10
 rw [h, Nat.pow_succ]
 generalize r / 10 = r' at *
 generalize r % 10 = d at *
 rw [← hd, Nat.mul_assoc (10 ^ L) 10, Nat.mul_add 10 r', ← Nat.mul_assoc 10 E Q, Nat.add_assoc V, ← Nat.mul_add (10 ^ L)]
 congr 2
 omega
theorem pow_le_of {N V L M : Nat} (h : N = V + 10 ^ L * M) (hM : 0 < M) : 10 ^ L ≤ N := by
 have : 10 ^ L * 1 ≤ 10 ^ L * M := Nat.mul_le_mul_left _ hM
 omega
theorem len_of {N L K : Nat} (h : 10 ^ L ≤ N) (hN : N < 10 ^ K) : L < K := by
 rcases Nat.lt_or_ge L K with h1 | h1
 ·exact h1
 ·have := Nat.pow_le_pow_right (show 0 < 10 by omega) h1; omega
theorem val10_snoc (ds : List Nat) (d : Nat) : val10 (ds ++ [d]) = val10 ds + 10 ^ ds.length * d := by rw [val10_append]; simp [val10]
theorem val10_strip {ds : List Nat} {m : Nat} (hm : m < ds.length) (h : ds.getD m 0 = 0) : val10 (ds.take m) = val10 (ds.take (m + 1)) := by
 rw [List.take_succ_eq_append_getElem hm, val10_snoc]
 have : ds[m] = 0 := by simpa [List.getD, hm] using h
 rw [this]; simp
theorem dig_strip {ds : List Nat} {m N : Nat} (hd : Dg ds) (hm : m < ds.length) (hv : val10 (ds.take (m + 1)) = N) (h : ds.getD m 0 ≠ 0) : dig N = ds.take (m + 1) := by
 rw [← hv]
 refine dig_val10 (hd.take _) ?_
 rw [List.take_succ_eq_append_getElem hm, List.getLast?_concat]
 have : ds[m] ≠ 0 := by simpa [List.getD, hm] using h
 intro e
 injection e with e
 exact this e
end Pg
