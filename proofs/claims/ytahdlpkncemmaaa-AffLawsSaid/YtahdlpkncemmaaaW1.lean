/- Rows of limbs in memory · Sums and products of rows, limb by limb · What a loop over rows counts down. Conditions: those that each theorem names. -/
import Derived.Test.YtahdlpkncemmaaaW0
import Derived.WalkKit
import Derived.WalkSpells
import Derived.Laws.AppendOwnNone
import Derived.Deep.Draws
set_option maxRecDepth 100000
set_option maxHeartbeats 8000000
set_option linter.unusedSimpArgs false
set_option linter.unusedVariables false
namespace Pg
open Go Go.RowKit
theorem hid {p : Prop} (h : p) : Hid p := h
def lim (xs : List Nat) (i : Nat) : Nat := xs.getD i 0
theorem lim_lt {xs : List Nat} (h : Ok xs) (i : Nat) : lim xs i < 4294967296 := h.getD i
theorem lim_get {xs : List Nat} {i : Nat} (h : i < xs.length) : lim xs i = xs[i] := by simp [lim, List.getD, h]
def tl (xs : List Nat) : Nat := (limbs (val xs)).length
theorem tl_le {xs : List Nat} (h : Ok xs) : tl xs ≤ xs.length := length_limbs_val h
structure Row (w : World) (A : Option Addr) (n c : Nat) (xs : List Nat) : Prop where
 len : xs.length = n
 nc : n ≤ c
 cm : c ≤ 9223372036854775807
 ok : Ok xs
 nil_ : A = none → c = 0
 at_ : 0 < n → ∃ b o, A = some ⟨b, o, none⟩ ∧ ∀ j, j < n → w.cell? ⟨b, o + j, none⟩ = some (.int .u32 ((lim xs j : Nat) : Int))
def slen : Value → Nat | .slice _ n _ => n | _ => 0
theorem Row.nil (w : World) : Row w none 0 0 [] := ⟨rfl, Nat.le_refl _, by decide, ok_nil, fun _ => rfl, fun h => absurd h (by decide)⟩
section
variable {w w' : World} {A : Option Addr} {n c B : Nat} {xs : List Nat}
theorem Row.keep (h : Row w A n c xs) (hk : ∀ p : Addr, p.block < w.heap.size → w'.cell? p = w.cell? p) : Row w' A n c xs :=
 ⟨h.len, h.nc, h.cm, h.ok, h.nil_, fun hn => by
  obtain ⟨b, o, e, hc⟩ := h.at_ hn
  refine ⟨b, o, e, fun j hj => ?_⟩
  have hcj := hc j hj
  rw [hk _ (World.block_lt_of_cell? w _ hcj)]
  exact hcj⟩
theorem Row.below (h : Row w A n c xs) (hb : Below w.heap.size w w') : Row w' A n c xs := h.keep fun _ hp => hb.cell hp
theorem Row.drew (h : Row w A n c xs) : Row w.drew A n c xs := ⟨h.len, h.nc, h.cm, h.ok, h.nil_, h.at_⟩
theorem Row.alloc (h : Row w A n c xs) (o : Obj) : Row (w.alloc o) A n c xs := h.keep fun p hp => World.cell?_alloc_lt w o p hp
theorem Row.take (h : Row w A n c xs) {m : Nat} (hm : m ≤ n) : Row w A m c (xs.take m) := by
 refine ⟨by rw [List.length_take, h.len]; omega, Nat.le_trans hm h.nc, h.cm, h.ok.take m, h.nil_, fun h0 => ?_⟩
 obtain ⟨b, o, e, hc⟩ := h.at_ (by omega)
 refine ⟨b, o, e, fun j hj => ?_⟩
 rw [hc j (by omega)]
 have : lim (xs.take m) j = lim xs j := by simp [lim, List.getD, hj]
 rw [this]
theorem Row.trim (h : Row w A n c xs) : Row w A (tl xs) c (limbs (val xs)) := by
 have e := limbs_val_take h.ok
 have := h.take (m := tl xs) (by rw [← h.len]; exact tl_le h.ok)
 unfold tl at this ⊢
 rwa [← e] at this
end
theorem tl_cases {xs : List Nat} (h : Ok xs) : (xs = [] ∧ tl xs = 0) ∨ (0 < xs.length ∧ 0 < lim xs (xs.length - 1) ∧ tl xs = xs.length) ∨
  (0 < xs.length ∧ lim xs (xs.length - 1) = 0 ∧ tl xs = tl (xs.take (xs.length - 1)) ∧ val xs = val (xs.take (xs.length - 1)) ∧ tl xs < xs.length) := by
 rcases Nat.eq_zero_or_pos xs.length with h0 | h0
 ·left
  have : xs = [] := List.eq_nil_of_length_eq_zero h0
  subst this; exact ⟨rfl, rfl⟩
 ·right
  have hl : lim xs (xs.length - 1) = xs[xs.length - 1] := lim_get (by omega)
  have hs : xs.getLast? = some (lim xs (xs.length - 1)) := by
   rw [hl, List.getLast?_eq_getElem?]; simp [show xs.length - 1 < xs.length from by omega]
  rcases Nat.eq_zero_or_pos (lim xs (xs.length - 1)) with h1 | h1
  ·right
   have hv : val xs = val (xs.take (xs.length - 1)) := by
    have := val_take_succ xs (xs.length - 1) (by omega)
    rw [← hl, h1, show xs.length - 1 + 1 = xs.length from by omega, List.take_length] at this
    simpa using this
   refine ⟨h0, h1, by unfold tl; rw [← hv], hv, ?_⟩
   have := tl_le (h.take (xs.length - 1))
   unfold tl at this ⊢
   rw [← hv] at this
   rw [List.length_take] at this
   omega
  ·left
   refine ⟨h0, h1, ?_⟩
   unfold tl
   rw [limbs_val h (by unfold Trimmed; rw [hs]; simp; omega)]
def u32s (xs : List Nat) : List Value := xs.map fun (x : Nat) => Value.int .u32 (x : Int)
theorem length_u32s (xs : List Nat) : (u32s xs).length = xs.length := by simp [u32s]
theorem u32s_get {xs : List Nat} {i : Nat} (h : i < xs.length) : (u32s xs)[i]? = some (.int .u32 ((lim xs i : Nat) : Int)) := by
 simp [u32s, lim_get h, h]
theorem u32s_one (xs : List Nat) : ∀ u ∈ u32s xs, u.oneCell' = true := by
 intro u hu
 obtain ⟨_, _, rfl⟩ := List.mem_map.1 hu
 rfl
theorem u32s_append (xs ys : List Nat) : u32s (xs ++ ys) = u32s xs ++ u32s ys := by simp [u32s]
def Blk (w : World) (g : Nat) (t : TypeId) (cs : List Nat) : Prop := w.heap[g]? = some (.cells (u32s cs).toArray t (0, 0))
section
variable {w w' : World} {g t B : Nat} {cs : List Nat}
theorem Blk.lt (h : Blk w g t cs) : g < w.heap.size := by
 rcases Nat.lt_or_ge g w.heap.size with hlt | hge
 ·exact hlt
 ·unfold Blk at h; rw [Array.getElem?_eq_none hge] at h; cases h
theorem Blk.cell (h : Blk w g t cs) {i : Nat} (hi : i < cs.length) : w.cell? ⟨g, i, none⟩ = some (.int .u32 ((lim cs i : Nat) : Int)) := by
 rw [cell_of_row w g i _ t (0, 0) h, List.getElem?_toArray]
 exact u32s_get hi
theorem Blk.frozen (h : Blk w g t cs) (i : Nat) : w.frozen? ⟨g, i, none⟩ = false := frozen_of_row w g i _ t h
theorem Blk.set (h : Blk w g t cs) (i v : Nat) (n : Int) (hn : n = (v : Int)) : Blk (w.setCell ⟨g, i, none⟩ (.int .u32 n)) g t (cs.set i v) := by
 subst hn
 unfold Blk at h ⊢
 rw [heap_setCell_same w g i _ t _ h]
 simp [u32s, List.map_set]
theorem Blk.drew (h : Blk w g t cs) : Blk w.drew g t cs := h
theorem Blk.drewN (h : Blk w g t cs) (n : Nat) : Blk (w.drewN n) g t cs := h
theorem Blk.below (h : Blk w g t cs) (hb : Below w.heap.size w w') : Blk w' g t cs := (hb.block g h.lt).trans h
theorem Blk.alloc (h : Blk w g t cs) (o : Obj) : Blk (w.alloc o) g t cs := (Below.heap_alloc w o g h.lt).trans h
theorem Blk.new (w : World) (t : TypeId) (cs : List Nat) : Blk (w.alloc (.cells (u32s cs).toArray t)) w.heap.size t cs := heap_alloc_new w _
theorem Blk.addcell (h : Blk w g t cs) : ∀ j v, (u32s cs)[j]? = some v → w.cell? ((⟨g, 0, none⟩ : Addr).add j) = some v := by
 intro j v hv
 have hj : j < cs.length := by have := (List.getElem?_eq_some_iff.1 hv).1; rwa [length_u32s] at this
 rw [u32s_get hj] at hv
 rw [Addr.add_lit, Nat.zero_add, h.cell hj]
 exact hv
theorem Blk.row (h : Blk w g t cs) (hok : Ok cs) (hm : cs.length ≤ 9223372036854775807) : Row w (some ⟨g, 0, none⟩) cs.length cs.length cs :=
 ⟨rfl, Nat.le_refl _, hm, hok, (fun e => by cases e), fun _ => ⟨g, 0, rfl, fun j hj => by rw [Nat.zero_add]; exact h.cell hj⟩⟩
end
theorem Row.lt {w : World} {A : Option Addr} {n c : Nat} {xs : List Nat} (h : Row w A n c xs) {b o : Nat} (hn : 0 < n) (hA : A = some ⟨b, o, none⟩) : b < w.heap.size := by
 obtain ⟨b', o', e, hc⟩ := h.at_ hn
 rw [hA] at e
 injection e with e
 injection e with e1 e2
 subst e1
 exact World.block_lt_of_cell? w _ (hc 0 hn)
theorem Row.of_own {w : World} {base t : Nat} {v : Value} {n : Nat} {xs : List Nat} (h : w.ownsRow base t 1 v n (u32s xs)) (hok : Ok xs) :
  ∃ A c, v = .slice A n c ∧ Row w A n c xs := by
 have hlen : xs.length = n := by have := h.1; rw [length_u32s] at this; omega
 rcases h.2 with ⟨rfl, rfl⟩ | ⟨g, cap, cur, rfl, _, hh, hnc, hcm, hcs, htk⟩
 ·have hx : xs = [] := List.eq_nil_of_length_eq_zero hlen
  subst hx
  exact ⟨none, 0, rfl, Row.nil w⟩
 ·refine ⟨_, _, rfl, hlen, hnc, by simpa [maxLen] using hcm, hok, (fun e => by cases e), fun hn => ⟨g, 0, rfl, fun j hj => ?_⟩⟩
  rw [Nat.zero_add, h.cellAt j (by omega)]
  exact u32s_get (by omega)
theorem Row.one (w : World) (t : TypeId) (y : Int) (x : Nat) (g : Nat) (hg : g = w.heap.size) (hy : y = (x : Int)) (hx : x < 4294967296) :
  Row (w.alloc (.cells #[.int .u32 y] t)) (some ⟨g, 0, none⟩) 1 1 [x] := by
 subst hy hg
 exact (Blk.new w t [x]).row (ok_cons.2 ⟨hx, ok_nil⟩) (by simp)
theorem Row.two (w : World) (t : TypeId) (y0 y1 : Int) (x0 x1 : Nat) (g : Nat) (hg : g = w.heap.size) (h0 : y0 = (x0 : Int)) (h1 : y1 = (x1 : Int)) (b0 : x0 < 4294967296) (b1 : x1 < 4294967296) :
  Row (w.alloc (.cells #[.int .u32 y0, .int .u32 y1] t)) (some ⟨g, 0, none⟩) 2 2 [x0, x1] := by
 subst h0 h1 hg
 exact (Blk.new w t [x0, x1]).row (ok_cons.2 ⟨b0, ok_cons.2 ⟨b1, ok_nil⟩⟩) (by simp)
theorem val_two (n : Nat) (h : n < 18446744073709551616) : val [n % 4294967296, n / 4294967296 % 4294967296] = n := by simp [val]; omega
theorem val_one (n : Nat) : val [n] = n := by simp [val]
theorem Below.then_ {w w2 w3 : World} (h : Below w.heap.size w w2) (h' : Below w2.heap.size w2 w3) : Below w.heap.size w w3 := h.trans (h'.mono h.size)
theorem Below.new_ {w w2 : World} (h : Below w.heap.size w w2) (o : Obj) : Below w.heap.size w (w2.alloc o) := h.alloc h.size o
theorem Below.drewN_ {w w2 : World} {B : Nat} (h : Below B w w2) (n : Nat) : Below B w (w2.drewN n) := ⟨h.os, h.tape, h.output, h.size, h.block⟩
theorem bel {n : Nat} {w w' : World} (h : Below n w w' := by repeat first | exact Below.refl _ _ | assumption | refine Pg.Below.then_ ?_ (by assumption) | refine Pg.Below.new_ ?_ _ | refine Pg.Below.drewN_ ?_ _) : Below n w w' := h
theorem fi_ {α : Sort _} {a b : α} (h : a = b := by first | rfl | exact congrArg _ (by first | rfl | omega | (rw [IntKind.wrap_i64]; omega))) : a = b := h
theorem Row.drewN {w : World} {A : Option Addr} {n c : Nat} {xs : List Nat} (h : Row w A n c xs) (k : Nat) : Row (w.drewN k) A n c xs := ⟨h.len, h.nc, h.cm, h.ok, h.nil_, h.at_⟩
def Ret (w : World) (N : Nat) (e : Ending) (w' : World) : Prop :=
 ∃ A c, e = .returned (.slice A (limbs N).length c) ∧ Row w' A (limbs N).length c (limbs N) ∧ Below w.heap.size w w'
theorem Ret.of_row {w w' : World} {A : Option Addr} {n c N : Nat} {xs : List Nat} (h : Row w' A n c xs) (e : xs = limbs N) (hb : Below w.heap.size w w') : Ret w N (.returned (.slice A n c)) w' := by
 subst e
 have := h.len
 subst this
 exact ⟨A, c, rfl, h, hb⟩
theorem own_nil (w : World) (t : TypeId) : (w.alloc (.cells #[] t)).ownsRow w.heap.size t 1 (.slice (some ⟨w.heap.size, 0, none⟩) 0 0) 0 (u32s []) :=
 World.ownsRow_lit w #[] 0 (Nat.le_refl _) (by decide) rfl
theorem wpList_append_row {P : Program} (w : World) {ops : Array Oper} {rest : List Oper} {o : Oper} {a : Act} {Q : Exit → Act → World → Prop} (hgd : o.guard = none) (s x : Operand) (t : TypeId)
  (ho : o.op = .call { callee := .builtin .append, args := #[s, x], argTypes := #[t, t] })
  (base : Nat) (e : TypeId) (ht : P.underlying t = some (.slice e)) (hinf : (P.info? e).map (fun i => (i.zero, i.size, i.bytes)) = some (some (.int .u32 0), 1, 4))
  (v : Value) (n : Nat) (xs : List Nat) (hs : a.eval s = v) (hown : w.ownsRow base e 1 v n (u32s xs))
  (A : Option Addr) (m c : Nat) (ys : List Nat) (hx : a.eval x = .slice A m c) (hr : Row w A m c ys) (hb : n + m ≤ 35184372088832) (hbase : base ≤ w.heap.size)
  (h : ∀ v' w', w'.ownsRow base e 1 v' (n + m) (u32s (xs ++ ys)) → w.grownBy w' v.ownBlock → wpList P ops Q rest (a.put o.dst v') w') : wpList P ops Q (o :: rest) a w := by
 obtain ⟨i, hi, hz, hsz, hby⟩ := info_parts hinf
 rw [u32s_append] at h
 by_cases hm : m = 0
 ·subst hm
  have hy : ys = [] := List.eq_nil_of_length_eq_zero hr.len
  subst hy
  cases A with
  | none =>
   have hc := hr.nil_ rfl
   subst hc
   exact wpList_append_own_none hgd s x t ho base e i 1 ht hi v n (u32s xs) hs hown hx (h v w (by simpa [u32s] using hown) (World.grownBy.refl w _))
  | some ad =>
   exact wpList_append_own w hgd s x t ho base e i (.int .u32 0) 1 4 ht hi hz hsz hby rfl (by decide) v n (u32s xs) hs hown ad 0 c (u32s []) hx rfl
    (fun j u hu => by simp [u32s] at hu) (u32s_one _) (by simp only [maxLen]; omega) (by omega) hbase (fun v' w' h1 h2 _ => h v' w' h1 h2)
 ·obtain ⟨b, of, rfl, hc⟩ := hr.at_ (by omega)
  refine wpList_append_own w hgd s x t ho base e i (.int .u32 0) 1 4 ht hi hz hsz hby rfl (by decide) v n (u32s xs) hs hown ⟨b, of, none⟩ m c (u32s ys) hx
   (by rw [length_u32s, hr.len]; omega) (fun j u hu => ?_) (u32s_one _) (by simp only [maxLen]; omega) (by omega) hbase (fun v' w' h1 h2 _ => h v' w' h1 h2)
  have hj : j < ys.length := by have := (List.getElem?_eq_some_iff.1 hu).1; rwa [length_u32s] at this
  rw [u32s_get hj] at hu
  injection hu with hu
  subst hu
  rw [Addr.add_lit, hc j (by rw [← hr.len]; exact hj)]
theorem run_make_row {P : Program} (t e : TypeId) (ht : P.underlying t = some (.slice e)) (hinf : (P.info? e).map (fun i => (i.zero, i.size, i.bytes)) = some (some (.int .u32 0), 1, 4))
  (k : Int) (n : Nat) (hk : k = (n : Int)) (hn : n ≤ 35184372088832) (w : World) :
  (Instr.makeSlice t (.int .i64 k) (.int .i64 k)).run P w = .ok (.slice (some ⟨w.heap.size, 0, none⟩) n n) (w.alloc (.cells (u32s (List.replicate n 0)).toArray e)) := by
 obtain ⟨i, hi, hz, hsz, hby⟩ := info_parts hinf
 subst hk
 have hb : (i.bytes : Int) * (n : Int) ≤ 281474976710656 := by rw [hby]; omega
 have hr := run_make (P := P) w t e i (.int .u32 0) ht hi hz .i64 .i64 n n (by omega) (by omega) hb (by omega)
 simp only [Int.toNat_natCast] at hr
 rw [hr, hsz, Nat.mul_one]
 have : madeCells (Value.int .u32 0).cells n = (u32s (List.replicate n 0)).toArray := by
  have h1 := toList_madeCells_one (.int .u32 0) n
  have h2 : (u32s (List.replicate n 0)) = List.replicate n (.int .u32 0) := by simp [u32s]
  rw [h2, ← h1]; rfl
 rw [this]
theorem lim_replicate (n i : Nat) : lim (List.replicate n 0) i = 0 := by
 unfold lim List.getD
 rw [List.getElem?_replicate]
 split <;> rfl
theorem lim_set_same {xs : List Nat} {i : Nat} (v : Nat) (h : i < xs.length) : lim (xs.set i v) i = v := by
 simp [lim, List.getD, h]
theorem lim_set_other {xs : List Nat} {i j : Nat} (v : Nat) (h : i ≠ j) : lim (xs.set i v) j = lim xs j := by
 simp [lim, List.getD, List.getElem?_set_ne h]
theorem val_set' {xs : List Nat} {i : Nat} (v : Nat) (h : i < xs.length) : val (xs.set i v) + 4294967296 ^ i * lim xs i = val xs + 4294967296 ^ i * v := by
 rw [lim_get h]; exact val_set xs i v h
theorem val_take_succ' {xs : List Nat} {k : Nat} (h : k < xs.length) : val (xs.take (k + 1)) = val (xs.take k) + 4294967296 ^ k * lim xs k := by
 rw [lim_get h]; exact val_take_succ xs k h
theorem lim_take {xs : List Nat} {i k : Nat} (h : i < k) : lim (xs.take k) i = lim xs i := by simp [lim, List.getD, h]
theorem lim_drop (xs : List Nat) (i k : Nat) : lim (xs.drop k) i = lim xs (k + i) := by simp [lim, List.getD, List.getElem?_drop]
theorem val_take_succ0 (xs : List Nat) (k : Nat) : val (xs.take (k + 1)) = val (xs.take k) + 4294967296 ^ k * lim xs k := by
 rcases Nat.lt_or_ge k xs.length with h | h
 ·exact val_take_succ' h
 ·have e : lim xs k = 0 := by simp [lim, List.getD, h]
  rw [List.take_of_length_le (by omega), List.take_of_length_le h, e]; simp
theorem lim_behind {xs : List Nat} {i : Nat} (h : xs.length ≤ i) : lim xs i = 0 := by simp [lim, List.getD, h]
end Pg
namespace Pg
structure AddInv (p q : List Nat) (k cr : Nat) (cs : List Nat) : Prop where
 len : cs.length = p.length + 1
 ok : Ok cs
 le : cr ≤ 1
 eq : val (cs.take k) + cr * 4294967296 ^ k = val (p.take k) + val (q.take k)
theorem AddInv.start (p q : List Nat) : AddInv p q 0 0 (List.replicate (p.length + 1) 0) :=
 ⟨by simp, ok_replicate _, by omega, by simp [val]⟩
theorem mul_split (P t : Nat) : P * t = P * (t % 4294967296) + t / 4294967296 * (P * 4294967296) := by
 have h := Nat.mod_add_div t 4294967296
 have h2 : t / 4294967296 * (P * 4294967296) = P * (4294967296 * (t / 4294967296)) := by
  rw [Nat.mul_comm (t / 4294967296), Nat.mul_assoc]
 rw [h2, ← Nat.mul_add, h]
theorem AddInv.step {p q : List Nat} {k cr : Nat} {cs : List Nat} (h : AddInv p q k cr cs) (hp : Ok p) (hq : Ok q) (hk : k < p.length) (t : Nat) (ht : t = cr + lim p k + lim q k) :
  AddInv p q (k + 1) (t / 4294967296) (cs.set k (t % 4294967296)) := by
 have h1 := lim_lt hp k
 have h2 := lim_lt hq k
 have h3 := h.le
 refine ⟨by rw [List.length_set, h.len], h.ok.set k (by omega), by omega, ?_⟩
 have hl : k < cs.length := by rw [h.len]; omega
 rw [take_set_succ cs k _ hl, val_append, List.length_take, Nat.min_eq_left (by omega), val_take_succ0, val_take_succ0, Nat.pow_succ]
 have e := mul_split (4294967296 ^ k) t
 have e2 := h.eq
 rw [ht] at e
 rw [Nat.mul_add, Nat.mul_add, Nat.mul_comm (4294967296 ^ k) cr] at e
 rw [val_one, ht]
 omega
theorem AddInv.done {p q : List Nat} {cr : Nat} {cs : List Nat} (h : AddInv p q p.length cr cs) (hq : q.length ≤ p.length) : val (cs.set p.length cr) = val p + val q := by
 have hl : p.length < cs.length := by rw [h.len]; omega
 have e := h.eq
 rw [List.take_length, List.take_of_length_le hq] at e
 have e2 := take_set_succ cs p.length cr hl
 rw [List.take_of_length_le (by rw [List.length_set, h.len]; omega)] at e2
 rw [e2, val_append, List.length_take, Nat.min_eq_left (by omega), val_one, Nat.mul_comm]
 exact e
structure MulOut (p q : List Nat) (i : Nat) (cs : List Nat) : Prop where
 len : cs.length = p.length + q.length
 ok : Ok cs
 eq : val cs = val (p.take i) * val q
 zero : ∀ j, i + q.length ≤ j → lim cs j = 0
structure MulIn (p q : List Nat) (i k cr : Nat) (cs : List Nat) : Prop where
 len : cs.length = p.length + q.length
 ok : Ok cs
 le : cr < 4294967296
 eq : val cs + cr * 4294967296 ^ (i + k) = val (p.take i) * val q + lim p i * val (q.take k) * 4294967296 ^ i
 zero : ∀ j, i + q.length ≤ j → lim cs j = 0
theorem MulOut.start (p q : List Nat) : MulOut p q 0 (List.replicate (p.length + q.length) 0) :=
 ⟨by simp, ok_replicate _, by simp [val, val_replicate], fun j _ => lim_replicate _ _⟩
theorem MulOut.inner {p q : List Nat} {i : Nat} {cs : List Nat} (h : MulOut p q i cs) : MulIn p q i 0 0 cs :=
 ⟨h.len, h.ok, by omega, by simp [val, h.eq], h.zero⟩
theorem prod_le {a b : Nat} (ha : a < 4294967296) (hb : b < 4294967296) : a * b ≤ 18446744065119617025 :=
 Nat.mul_le_mul (show a ≤ 4294967295 by omega) (show b ≤ 4294967295 by omega)
theorem MulIn.step {p q : List Nat} {i k cr : Nat} {cs : List Nat} (h : MulIn p q i k cr cs) (hp : Ok p) (hq : Ok q) (hi : i < p.length) (hk : k < q.length) (t : Nat) (ht : t = cr + (lim p i * lim q k + lim cs (i + k))) :
  MulIn p q i (k + 1) (t / 4294967296) (cs.set (i + k) (t % 4294967296)) := by
 have h1 := prod_le (lim_lt hp i) (lim_lt hq k)
 have h2 := lim_lt h.ok (i + k)
 have h3 := h.le
 refine ⟨by rw [List.length_set, h.len], h.ok.set _ (by omega), by omega, ?_, fun j hj => ?_⟩
 ·have hl : i + k < cs.length := by rw [h.len]; omega
  have e1 := val_set' (xs := cs) (i := i + k) (t % 4294967296) hl
  have e2 := mul_split (4294967296 ^ (i + k)) t
  have e3 := h.eq
  rw [val_take_succ0, show i + (k + 1) = i + k + 1 from by omega, Nat.pow_succ]
  rw [ht, Nat.mul_add, Nat.mul_add, Nat.mul_comm (4294967296 ^ (i + k)) cr, ← ht] at e2
  have e4 : lim p i * (val (q.take k) + 4294967296 ^ k * lim q k) * 4294967296 ^ i = lim p i * val (q.take k) * 4294967296 ^ i + 4294967296 ^ (i + k) * (lim p i * lim q k) := by
   rw [Nat.mul_add, Nat.add_mul, Nat.pow_add]
   congr 1
   ac_rfl
  rw [e4]
  omega
 ·rw [lim_set_other _ (by omega)]
  exact h.zero j hj
theorem MulIn.done {p q : List Nat} {i cr : Nat} {cs : List Nat} (h : MulIn p q i q.length cr cs) (hi : i < p.length) :
  MulOut p q (i + 1) (cs.set (i + q.length) cr) := by
 refine ⟨by rw [List.length_set, h.len], h.ok.set _ h.le, ?_, fun j hj => ?_⟩
 ·have hl : i + q.length < cs.length := by rw [h.len]; omega
  have e1 := val_set' (xs := cs) (i := i + q.length) cr hl
  have e3 := h.eq
  rw [h.zero _ (Nat.le_refl _)] at e1
  rw [List.take_length] at e3
  have e4 : (val (p.take i) + 4294967296 ^ i * lim p i) * val q = val (p.take i) * val q + lim p i * val q * 4294967296 ^ i := by
   rw [Nat.add_mul]; congr 1
   ac_rfl
  rw [val_take_succ0, e4]
  rw [Nat.mul_comm (4294967296 ^ (i + q.length)) cr] at e1
  omega
 ·rw [lim_set_other _ (by omega)]
  exact h.zero j (by omega)
theorem MulOut.done {p q : List Nat} {cs : List Nat} (h : MulOut p q p.length cs) : val cs = val p * val q := by
 rw [h.eq, List.take_length]
theorem MulIn.rest {p q : List Nat} {i : Nat} {cs : List Nat} (h : MulIn p q i q.length 0 cs) : MulOut p q (i + 1) cs := by
 refine ⟨h.len, h.ok, ?_, fun j hj => h.zero j (by omega)⟩
 have e3 := h.eq
 rw [List.take_length] at e3
 have e4 : (val (p.take i) + 4294967296 ^ i * lim p i) * val q = val (p.take i) * val q + lim p i * val q * 4294967296 ^ i := by
  rw [Nat.add_mul]; congr 1
  ac_rfl
 rw [val_take_succ0, e4]
 omega
end Pg
namespace Pg
open Go Go.RowKit
def cellN (w : World) (b o j : Nat) : Nat := match w.cell? ⟨b, o + j, none⟩ with | some (.int _ z) => z.toNat | _ => 0
def rowval (w : World) : Value → Nat | .slice (some ⟨b, o, _⟩) n _ => val ((List.range n).map (cellN w b o)) | _ => 0
theorem Row.rowval {w : World} {A : Option Addr} {n c : Nat} {xs : List Nat} (h : Row w A n c xs) : rowval w (.slice A n c) = val xs := by
 rcases Nat.eq_zero_or_pos n with h0 | h0
 ·subst h0
  have hx : xs = [] := List.eq_nil_of_length_eq_zero h.len
  subst hx
  cases A with
  | none => rfl
  | some a => cases a; rfl
 ·obtain ⟨b, o, rfl, hc⟩ := h.at_ h0
  show val ((List.range n).map (cellN w b o)) = val xs
  congr 1
  refine List.ext_getElem (by simp [h.len]) fun j h1 h2 => ?_
  have hj : j < n := by rw [← h.len]; exact h2
  rw [List.getElem_map, List.getElem_range]
  unfold cellN
  rw [hc j hj]
  simp [lim_get h2]
theorem limbs_mono {a b : Nat} (h : a ≤ b) : (limbs a).length ≤ (limbs b).length := length_limbs_le (Nat.lt_of_le_of_lt h (lt_pow_length b))
theorem limbs_one : limbs 1 = [1] := by
 have := limbs_val (xs := [1]) (ok_cons.2 ⟨by omega, ok_nil⟩) (by simp [Trimmed])
 simpa [val] using this
end Pg
