/- Blocks of a call's own, known whole; row · Walks · The functions of rat and pantographref2 . Conditions: those that each theorem names. -/
import Derived.Test.YtahdlpkncemmaaaW29
import Derived.Test.YtahdlpkncemmaaaW30
import Derived.Test.YtahdlpkncemmaaaW17
set_option maxRecDepth 100000
set_option maxHeartbeats 8000000
set_option linter.unusedSimpArgs false
set_option linter.unusedVariables false
namespace Pg
open Go Go.RowKit
def Bs (w : World) (g : Nat) (t : TypeId) (cs : List Value) : Prop := w.heap[g]? = some (.cells cs.toArray t (0, 0))
section
variable {w w' : World} {g : Nat} {t : TypeId} {cs : List Value}
theorem Bs.new (w : World) (t : TypeId) (cs : List Value) (g : Nat) (hg : g = w.heap.size) : Bs (w.alloc (.cells cs.toArray t)) g t cs := by subst hg; exact heap_alloc_new w _
theorem Bs.lt (h : Bs w g t cs) : g < w.heap.size := by
 rcases Nat.lt_or_ge g w.heap.size with h1 | h1
 ·exact h1
 ·unfold Bs at h; rw [Array.getElem?_eq_none h1] at h; cases h
theorem Bs.alloc (h : Bs w g t cs) (o : Obj) : Bs (w.alloc o) g t cs := (Below.heap_alloc w o g h.lt).trans h
theorem Bs.below (h : Bs w g t cs) (hb : Below w.heap.size w w') : Bs w' g t cs := (hb.block g h.lt).trans h
theorem Bs.under {B : Nat} (h : Bs w g t cs) (hb : Below B w w') (hg : g < B) : Bs w' g t cs := (hb.block g hg).trans h
theorem Bs.drewN (h : Bs w g t cs) (n : Nat) : Bs (w.drewN n) g t cs := h
theorem Bs.grown {row : Option Nat} (h : Bs w g t cs) (hw : w.grownBy w' row) (hne : some g ≠ row) : Bs w' g t cs := (hw.block g h.lt hne).trans h
theorem Bs.cell (h : Bs w g t cs) (i : Nat) {v : Value} (hv : cs[i]? = some v) : w.cell? ⟨g, i, none⟩ = some v := by
 rw [cell_of_row w g i _ t (0, 0) h, List.getElem?_toArray]; exact hv
theorem Bs.cell_inv (h : Bs w g t cs) {i : Nat} {v : Value} (hv : w.cell? ⟨g, i, none⟩ = some v) : cs[i]? = some v := by
 rw [cell_of_row w g i _ t (0, 0) h, List.getElem?_toArray] at hv; exact hv
theorem Bs.at (h : Bs w g t cs) : CellsAt w g 0 cs := fun j hj => by rw [Nat.zero_add, cell_of_row w g j _ t (0, 0) h, List.getElem?_toArray]
theorem Bs.frozen (h : Bs w g t cs) (i : Nat) : w.frozen? ⟨g, i, none⟩ = false := frozen_of_row w g i _ t h
theorem Bs.set (h : Bs w g t cs) (i : Nat) (u : Value) : Bs (w.setCell ⟨g, i, none⟩ u) g t (cs.set i u) := by
 unfold Bs
 rw [heap_setCell_same w g i _ t u h]
 simp
theorem kept_set (w : World) (g i : Nat) (u : Value) : w.grownBy (w.setCell ⟨g, i, none⟩ u) (some g) :=
 ⟨rfl, rfl, rfl, by simp, fun k _ hk => heap_setCell_other w ⟨g, i, none⟩ k u (fun e => hk (by rw [e]))⟩
theorem kept_then {row : Option Nat} {a b c : World} (h : a.grownBy b row) (k : b.grownBy c row) : a.grownBy c row :=
 ⟨k.os.trans h.os, k.tape.trans h.tape, k.output.trans h.output, Nat.le_trans h.size k.size, fun i hi hn => (k.block i (Nat.lt_of_lt_of_le hi h.size) hn).trans (h.block i hi hn)⟩
theorem Below.kept {B : Nat} (hk : w.grownBy w' (some g)) (hg : B ≤ g) (hB : B ≤ w.heap.size) : Below B w w' :=
 ⟨hk.os, hk.tape, hk.output, hk.size, fun i hi => hk.block i (by omega) (fun e => by injection e with e; omega)⟩
end
def Stored (w : World) (g : Nat) (t : TypeId) (ds : List Value) (W : World) : Prop := Bs W g t ds ∧ w.grownBy W (some g) ∧ W.heap.size = w.heap.size
def NewBs (w : World) (t : TypeId) (cs : List Value) (W : World) : Prop := Bs W w.heap.size t cs ∧ Below w.heap.size w W ∧ W.heap.size = w.heap.size + 1
theorem made_new (w : World) (t : TypeId) (cs : List Value) : NewBs w t cs (w.alloc (.cells cs.toArray t)) := ⟨Bs.new _ _ _ _ rfl, Below.new_ (Below.refl _ _) _, by simp⟩
section
variable {P : Program} {c : Code} {Q : Exit → Act → World → Prop} {a : Act} {w : World} {g : Nat} {t : TypeId} {cs : List Value}
theorem wp_at1 {i : Nat} {u : Value} {ds : List Value} (h : Bs w g t cs) (hd : cs.set i u = ds) (k : ∀ W, Stored w g t ds W → Code.wp P c Q a W) : Code.wp P c Q a (w.setCell ⟨g, i, none⟩ u) :=
 k _ ⟨hd ▸ h.set i u, kept_set _ _ _ _, by simp⟩
theorem stored1 {i : Nat} {u : Value} (h : Bs w g t cs) : Stored w g t (cs.set i u) (w.setCell ⟨g, i, none⟩ u) := ⟨h.set i u, kept_set _ _ _ _, by simp⟩
theorem stored3 {u0 u1 u2 : Value} {x0 x1 x2 : Value} (h : Bs w g t [x0, x1, x2]) : Stored w g t [u0, u1, u2] (((w.setCell ⟨g, 0, none⟩ u0).setCell ⟨g, 1, none⟩ u1).setCell ⟨g, 2, none⟩ u2) :=
 ⟨((h.set 0 u0).set 1 u1).set 2 u2, kept_then (kept_then (kept_set _ _ _ _) (kept_set _ _ _ _)) (kept_set _ _ _ _), by simp⟩
theorem stored4 {u0 u1 u2 u3 : Value} {x0 x1 x2 x3 : Value} (h : Bs w g t [x0, x1, x2, x3]) : Stored w g t [u0, u1, u2, u3] ((((w.setCell ⟨g, 0, none⟩ u0).setCell ⟨g, 1, none⟩ u1).setCell ⟨g, 2, none⟩ u2).setCell ⟨g, 3, none⟩ u3) :=
 ⟨(((h.set 0 u0).set 1 u1).set 2 u2).set 3 u3, kept_then (kept_then (kept_then (kept_set _ _ _ _) (kept_set _ _ _ _)) (kept_set _ _ _ _)) (kept_set _ _ _ _), by simp⟩
theorem stored5 {u0 u1 u2 u3 u4 : Value} {x0 x1 x2 x3 x4 : Value} (h : Bs w g t [x0, x1, x2, x3, x4]) : Stored w g t [u0, u1, u2, u3, u4] (((((w.setCell ⟨g, 0, none⟩ u0).setCell ⟨g, 1, none⟩ u1).setCell ⟨g, 2, none⟩ u2).setCell ⟨g, 3, none⟩ u3).setCell ⟨g, 4, none⟩ u4) :=
 ⟨((((h.set 0 u0).set 1 u1).set 2 u2).set 3 u3).set 4 u4, kept_then (kept_then (kept_then (kept_then (kept_set _ _ _ _) (kept_set _ _ _ _)) (kept_set _ _ _ _)) (kept_set _ _ _ _)) (kept_set _ _ _ _), by simp⟩
theorem wp_world (F : World → Prop) (hF : F w) (h : ∀ W, F W → Code.wp P c Q a W) : Code.wp P c Q a w := h w hF
end
theorem bp_world {P : Program} {f : Func} {R : Ending → World → Prop} {e : Exit} {a : Act} {w : World} (F : World → Prop) (hF : F w) (h : ∀ W, F W → bodyPost P f R e a W) : bodyPost P f R e a w := h w hF
def noU (cs : List Value) : Prop := ∀ u ∈ cs, ∀ n, u ≠ .int .u32 n
theorem noU_nil : noU [] := fun u h => by simp at h
theorem noU_bool {b : Bool} {cs : List Value} (h : noU cs) : noU (.bool b :: cs) := fun u hu n e => by
 rcases List.mem_cons.1 hu with rfl | hu
 ·cases e
 ·exact h u hu n e
theorem noU_slice {A : Option Addr} {n c : Nat} {cs : List Value} (h : noU cs) : noU (.slice A n c :: cs) := fun u hu n e => by
 rcases List.mem_cons.1 hu with rfl | hu
 ·cases e
 ·exact h u hu n e
theorem noU_i64 {n : Int} {cs : List Value} (h : noU cs) : noU (.int .i64 n :: cs) := fun u hu n e => by
 rcases List.mem_cons.1 hu with rfl | hu
 ·cases e
 ·exact h u hu n e
theorem noU_append {a b : List Value} (ha : noU a) (hb : noU b) : noU (a ++ b) := fun u hu => by
 rcases List.mem_append.1 hu with h | h
 ·exact ha u h
 ·exact hb u h
theorem Row.off {w w' : World} {A : Option Addr} {n c g : Nat} {xs : List Nat} (h : Row w A n c xs) (hg : ∀ o x, w.cell? ⟨g, o, none⟩ ≠ some (.int .u32 x)) (hk : w.grownBy w' (some g)) : Row w' A n c xs :=
 ⟨h.len, h.nc, h.cm, h.ok, h.nil_, fun hn => by
  obtain ⟨b, o, e, hc⟩ := h.at_ hn
  refine ⟨b, o, e, fun j hj => hk.cell (hc j hj) fun e' => ?_⟩
  injection e' with e'
  exact hg (o + j) _ (by rw [← e']; exact hc j hj)⟩
theorem Bs.noLimb {w : World} {g : Nat} {t : TypeId} {cs : List Value} (h : Bs w g t cs) (hu : noU cs) : ∀ o x, w.cell? ⟨g, o, none⟩ ≠ some (.int .u32 x) :=
 fun _ x e => hu _ (List.mem_of_getElem? (h.cell_inv e)) x rfl
theorem RowsAt.off {w w' : World} {r : RW} {v0 v1 v2 : Value} {g : Nat} (h : RowsAt w r v0 v1 v2) (hg : ∀ o x, w.cell? ⟨g, o, none⟩ ≠ some (.int .u32 x)) (hk : w.grownBy w' (some g)) : RowsAt w' r v0 v1 v2 := by
 obtain ⟨A, n, c, A', n', c', e0, e1, e2, h1, h2, h3⟩ := h
 exact ⟨A, n, c, A', n', c', e0, e1, e2, h1.off hg hk, h2.off hg hk, h3⟩
theorem RowsAt.kept {w w' : World} {r : RW} {v0 v1 v2 : Value} {g : Nat} {t : TypeId} {cs : List Value} (h : RowsAt w r v0 v1 v2) (hB : Bs w g t cs) (hu : noU cs) (hk : w.grownBy w' (some g)) : RowsAt w' r v0 v1 v2 := h.off (hB.noLimb hu) hk
structure OwnZ (w : World) (base : Nat) (e : TypeId) (sz : Nat) (v : Value) (n : Nat) (xs : List Value) : Prop where
 own : w.ownsRow base e sz v n xs
 noL : ∀ g, v.ownBlock = some g → ∀ o x, w.cell? ⟨g, o, none⟩ ≠ some (.int .u32 x)
theorem OwnZ.nil (w : World) (base : Nat) (e : TypeId) (sz : Nat) : OwnZ w base e sz (.slice none 0 0) 0 [] := ⟨World.ownsRow_nil w base e sz, fun g h => by cases h⟩
section
variable {w w' : World} {base : Nat} {e : TypeId} {sz : Nat} {v : Value} {n : Nat} {xs : List Value}
theorem OwnZ.grown {row : Option Nat} (h : OwnZ w base e sz v n xs) (hk : w.grownBy w' row) (hne : v.ownBlock = none ∨ v.ownBlock ≠ row) : OwnZ w' base e sz v n xs :=
 ⟨h.own.kept hk hne, fun g hg o x hx => by
  have hl := (h.own.lt g hg).2
  have hb := hk.block g hl (by rcases hne with h1 | h1; rw [hg] at h1; cases h1; rw [← hg]; exact h1)
  exact h.noL g hg o x ((World.cell?_of_block (a := ⟨g, o, none⟩) hb).symm.trans hx)⟩
theorem grown_of (hb : Below w.heap.size w w') (row : Option Nat) : w.grownBy w' row := ⟨hb.os, hb.tape, hb.output, hb.size, fun k hk _ => hb.block k hk⟩
theorem OwnZ.below (h : OwnZ w base e sz v n xs) (hb : Below w.heap.size w w') : OwnZ w' base e sz v n xs :=
 h.grown (grown_of hb none) (by cases hv : v.ownBlock <;> simp)
theorem OwnZ.apart (h : OwnZ w base e sz v n xs) {g : Nat} (hg : g < base) : v.ownBlock = none ∨ v.ownBlock ≠ some g := by
 cases hv : v.ownBlock with
 | none => exact .inl rfl
 | some k => exact .inr fun e => by injection e with e; have := (h.own.lt k hv).1; omega
theorem RowsAt.ownZ {r : RW} {v0 v1 v2 : Value} (hr : RowsAt w r v0 v1 v2) (h : OwnZ w base e sz v n xs) (hk : w.grownBy w' v.ownBlock) : RowsAt w' r v0 v1 v2 := by
 cases hv : v.ownBlock with
 | none =>
  rw [hv] at hk
  exact hr.below ⟨hk.os, hk.tape, hk.output, hk.size, fun k hk' => hk.block k hk' (by simp)⟩
 | some g =>
  rw [hv] at hk
  exact hr.off (h.noL g hv) hk
theorem Below.ownZ {B : Nat} (h : OwnZ w base e sz v n xs) (hk : w.grownBy w' v.ownBlock) (hB : B ≤ base) (hs : B ≤ w.heap.size) : Below B w w' :=
 ⟨hk.os, hk.tape, hk.output, hk.size, fun i hi => hk.block i (by omega) (fun e => by have := (h.own.lt i e.symm).1; omega)⟩
theorem noLimb_of {g : Nat} {arr : Array Value} {t : TypeId} {fz : Nat × Nat} (h : w.heap[g]? = some (.cells arr t fz)) (hu : ∀ u ∈ arr.toList, ∀ n, u ≠ .int .u32 n) : ∀ o x, w.cell? ⟨g, o, none⟩ ≠ some (.int .u32 x) := by
 intro o x hx
 rw [cell_of_row w g o arr t fz h] at hx
 refine hu _ ?_ x rfl
 rw [← Array.getElem?_toList] at hx
 exact List.mem_of_getElem? hx
end
theorem zeroCells_mem {z : Array Value} {n : Nat} {u : Value} (h : u ∈ (Builtin.zeroCells z n).toList) : u ∈ z.toList := by
 simp only [Builtin.zeroCells, Array.toList_map, List.mem_map] at h
 obtain ⟨i, hi, rfl⟩ := h
 have hi2 : i < n * z.size := by simpa using hi
 have hp : 0 < z.size := by
  rcases Nat.eq_zero_or_pos z.size with h0 | h0
  ·rw [h0] at hi2; omega
  ·exact h0
 have hm := Nat.mod_lt i hp
 rw [getElem!_pos z (i % z.size) hm]
 exact Array.getElem_mem_toList _
section
variable {P : Program} (w : World)
theorem append_noL (base : Nat) (t ty e : TypeId) (i : TypeInfo) (z : Value) (size bytes : Nat) (ht : P.underlying t = some (.slice e)) (hi : P.info? e = some i) (hz : i.zero = some z)
  (hsize : i.size = size) (hby : i.bytes = bytes)
  (v : Value) (n : Nat) (xs : List Value) (hown : OwnZ w base e size v n xs)
  (a : Addr) (m c : Nat) (news : List Value) (hm0 : 0 < m) (hl : news.length = m * size) (hnews : ∀ j u, news[j]? = some u → w.cell? (a.add j) = some u) (h1 : ∀ u ∈ news, u.oneCell' = true)
  (h63 : n + m ≤ maxLen) (hbytes : (n + m) * bytes ≤ 140737488355328) (hzU : noU z.cells.toList) (hnU : noU news)
  {v' : Value} {w' : World} (hr : (Builtin.append_ #[t, t] ty #[v, .slice (some a) m c]).run P w = .ok v' w') :
  ∀ g, v'.ownBlock = some g → ∀ o x, w'.cell? ⟨g, o, none⟩ ≠ some (.int .u32 x) := by
 subst hsize
 subst hby
 have hsmall : n + m ≤ 9223372036854775807 := by simp only [maxLen] at h63; omega
 have zu : ∀ k, noU (Builtin.zeroCells z.cells k).toList := fun k u hu => hzU u (zeroCells_mem hu)
 rcases hown.own.2 with ⟨rfl, rfl⟩ | ⟨g, cap, cur, rfl, hbg, hg, hnc, hcm, hcs, htake⟩
 ·have hb := hbytes
  rw [Nat.zero_add] at hb
  rw [run_append_nil (P := P) w t ty e i z ht hi hz a m c news hl hnews hm0 (by omega) (by omega)] at hr
  injection hr with e1 e2
  subst e1 e2
  intro g hg
  simp only [Value.ownBlock, Option.some.injEq] at hg
  subst hg
  refine noLimb_of (heap_alloc_new w.drew _) ?_
  rw [Array.toList_append]
  exact noU_append hnU (zu _)
 ·have cu : noU cur.toList := fun u hu x e => by
   obtain ⟨j, hj⟩ := List.getElem?_of_mem hu
   rw [Array.getElem?_toList] at hj
   exact hown.noL g rfl j x (by rw [cell_of_row w g j cur _ (0, 0) hg, hj, e])
  by_cases hroom : n + m ≤ cap
  ·have hfit : n * i.size + news.length ≤ cur.size := by rw [hl, hcs, ← Nat.add_mul]; exact Nat.mul_le_mul_right _ hroom
   rw [run_append_room (P := P) w t ty e i ht hi g n cap cur hg a m c news hl hnews h1 hroom hfit] at hr
   injection hr with e1 e2
   subst e1 e2
   intro g' hg'
   simp only [Value.ownBlock, Option.some.injEq] at hg'
   subst hg'
   refine noLimb_of (setRow_heap w g cur _ e _ hg) ?_
   exact noU_append (noU_append (fun u hu => cu u (List.mem_of_mem_take hu)) hnU) (fun u hu => cu u (List.mem_of_mem_drop hu))
  ·have holds : ∀ j u, xs[j]? = some u → w.cell? ((⟨g, 0, none⟩ : Addr).add j) = some u := hown.own.cells (g := g) rfl
   rw [run_append_grow (P := P) w t ty e i z ht hi hz ⟨g, 0, none⟩ n cap xs hown.own.1 holds a m c news hl hnews (by omega) (by omega) (growslice_fits (by omega) hbytes)] at hr
   injection hr with e1 e2
   subst e1 e2
   intro g' hg'
   simp only [Value.ownBlock, Option.some.injEq] at hg'
   subst hg'
   refine noLimb_of (heap_alloc_new w.drew _) ?_
   rw [Array.toList_append, Array.toList_append]
   refine noU_append (noU_append ?_ hnU) (zu _)
   rw [← htake]
   exact fun u hu => cu u (List.mem_of_mem_take hu)
theorem wp_append_z {o : Oper} {a : Act} {K : Act → World → Prop} {Q : Exit → Act → World → Prop} (s x : Operand) (t : TypeId)
  (ho : o.op = .call { callee := .builtin .append, args := #[s, x], argTypes := #[t, t] })
  (base : Nat) (e : TypeId) (sz bytes : Nat) (z : Value) (ht : P.underlying t = some (.slice e)) (hinf : (P.info? e).map (fun i => (i.zero, i.size, i.bytes)) = some (some z, sz, bytes)) (hzs : z.cells.size = sz) (hsz : 0 < sz) (hzU : noU z.cells.toList)
  (v : Value) (n : Nat) (xs : List Value) (hs : a.eval s = v) (hown : OwnZ w base e sz v n xs)
  (b c : Nat) (cs : List Value) (t2 : TypeId) (hx : a.eval x = .slice (some ⟨b, 0, none⟩) 1 c) (hl : cs.length = sz) (hc : Bs w b t2 cs) (h1 : ∀ u ∈ cs, u.oneCell' = true) (hcU : noU cs) (hm : n + 1 ≤ maxLen) (hb : (n + 1) * bytes ≤ 140737488355328) (hbase : base ≤ w.heap.size)
  (h : ∀ A' c' w', OwnZ w' base e sz (.slice A' (n + 1) c') (n + 1) (xs ++ cs) → w.grownBy w' v.ownBlock → K (a.put o.dst (.slice A' (n + 1) c')) w') : o.wp P a w K Q := by
 obtain ⟨i, hi, hz, hsz', hby⟩ := info_parts hinf
 have hcells : ∀ j u, cs[j]? = some u → w.cell? ((⟨b, 0, none⟩ : Addr).add j) = some u := fun j u hu => by
  rw [Addr.add_lit, cell_of_row w b _ _ t2 (0, 0) hc]
  simpa using hu
 obtain ⟨v', w', hr, h2, h3, _⟩ := run_append_own (P := P) w base t o.type e i z sz bytes ht hi hz hsz' hby hzs hsz v n xs hown.own ⟨b, 0, none⟩ 1 c cs (by rw [hl, Nat.one_mul]) hcells h1 hm hb hbase
 have h4 := append_noL (P := P) w base t o.type e i z sz bytes ht hi hz hsz' hby v n xs hown ⟨b, 0, none⟩ 1 c cs (by omega) (by rw [hl, Nat.one_mul]) hcells h1 hm hb hzU hcU hr
 unfold Oper.wp execOp
 simp only [ho, resolve, invoke, builtin, Sem.run_bind, Sem.run_pure, Result.andThen_ok, List.map_toArray, List.map_cons, List.map_nil, hs, hx, hr]
 obtain ⟨A', c', rfl⟩ : ∃ A c, v' = .slice A (n + 1) c := by
  rcases h2.2 with ⟨rfl, e0⟩ | ⟨g, cap, cur, rfl, _⟩
  ·exact absurd e0 (by omega)
  ·exact ⟨_, _, rfl⟩
 exact h A' c' w' ⟨h2, h4⟩ h3
theorem wpList_append_z {ops : Array Oper} {rest : List Oper} {o : Oper} {a : Act} {Q : Exit → Act → World → Prop} (hgd : o.guard = none) (s x : Operand) (t : TypeId)
  (ho : o.op = .call { callee := .builtin .append, args := #[s, x], argTypes := #[t, t] })
  (base : Nat) (e : TypeId) (sz bytes : Nat) (z : Value) (ht : P.underlying t = some (.slice e)) (hinf : (P.info? e).map (fun i => (i.zero, i.size, i.bytes)) = some (some z, sz, bytes)) (hzs : z.cells.size = sz) (hsz : 0 < sz) (hzU : noU z.cells.toList)
  (v : Value) (n : Nat) (xs : List Value) (hs : a.eval s = v) (hown : OwnZ w base e sz v n xs)
  (b c : Nat) (cs : List Value) (t2 : TypeId) (hx : a.eval x = .slice (some ⟨b, 0, none⟩) 1 c) (hl : cs.length = sz) (hc : Bs w b t2 cs) (h1 : ∀ u ∈ cs, u.oneCell' = true) (hcU : noU cs) (hm : n + 1 ≤ maxLen) (hb : (n + 1) * bytes ≤ 140737488355328) (hbase : base ≤ w.heap.size)
  (h : ∀ A' c' w', OwnZ w' base e sz (.slice A' (n + 1) c') (n + 1) (xs ++ cs) → w.grownBy w' v.ownBlock → wpList P ops Q rest (a.put o.dst (.slice A' (n + 1) c')) w') : wpList P ops Q (o :: rest) a w :=
 wpList_plain hgd fun _ hK => wp_append_z w s x t ho base e sz bytes z ht hinf hzs hsz hzU v n xs hs hown b c cs t2 hx hl hc h1 hcU hm hb hbase fun A' c' w' h2 h3 => hK _ _ (h A' c' w' h2 h3)
end
structure RV where
 s : Bool
 A : Option Addr
 n : Nat
 c : Nat
 A' : Option Addr
 n' : Nat
 c' : Nat
def RV.at (w : World) (x : RV) (r : RW) : Prop := RowsAt w r (.bool x.s) (.slice x.A x.n x.c) (.slice x.A' x.n' x.c')
theorem rows_rv {w : World} {r : RW} {v0 v1 v2 : Value} (h : RowsAt w r v0 v1 v2) : ∃ x : RV, v0 = .bool x.s ∧ v1 = .slice x.A x.n x.c ∧ v2 = .slice x.A' x.n' x.c' ∧ x.at w r := by
 obtain ⟨A, n, c, A', n', c', rfl, rfl, rfl, h⟩ := h
 exact ⟨⟨r.s, A, n, c, A', n', c'⟩, rfl, rfl, rfl, A, n, c, A', n', c', rfl, rfl, rfl, h⟩
theorem RV.at.ownZ {w w' : World} {base : Nat} {e : TypeId} {sz : Nat} {v : Value} {n : Nat} {xs : List Value} {y : RV} {r : RW} (hr : y.at w r) (h : OwnZ w base e sz v n xs) (hk : w.grownBy w' v.ownBlock) : y.at w' r := RowsAt.ownZ hr h hk
structure TV where
 v : Int
 x : RV
def TV.cells (u : TV) : List Value := [.int .i64 u.v, .bool u.x.s, .slice u.x.A u.x.n u.x.c, .slice u.x.A' u.x.n' u.x.c']
theorem TV.len (u : TV) : u.cells.length = 4 := rfl
theorem TV.one (u : TV) : ∀ c ∈ u.cells, c.oneCell' = true := by
 intro c hc
 simp [TV.cells] at hc
 rcases hc with rfl | rfl | rfl | rfl <;> rfl
theorem TV.noU (u : TV) : noU u.cells := noU_i64 (noU_bool (noU_slice (noU_slice noU_nil)))
def TRead (w : World) : List TV → List TW → Prop
 | [], [] => True
 | u :: us, t :: ts => (u.v = t.v ∧ u.x.at w t.r) ∧ TRead w us ts
 | _, _ => False
theorem TRead.imp {w w' : World} (H : ∀ (x : RV) r, x.at w r → x.at w' r) : ∀ {us : List TV} {ts : List TW}, TRead w us ts → TRead w' us ts
 | [], [], _ => trivial
 | _ :: _, _ :: _, h => ⟨⟨h.1.1, H _ _ h.1.2⟩, TRead.imp H h.2⟩
 | [], _ :: _, h => h.elim
 | _ :: _, [], h => h.elim
theorem TRead.below {w w' : World} {us : List TV} {ts : List TW} (h : TRead w us ts) (hb : Below w.heap.size w w') : TRead w' us ts := h.imp fun _ _ hx => RowsAt.below hx hb
theorem TRead.kept {w w' : World} {us : List TV} {ts : List TW} {g : Nat} {t : TypeId} {cs : List Value} (h : TRead w us ts) (hB : Bs w g t cs) (hu : noU cs) (hk : w.grownBy w' (some g)) : TRead w' us ts := h.imp fun _ _ hx => RowsAt.kept hx hB hu hk
theorem TRead.ownZ {w w' : World} {us : List TV} {ts : List TW} {base : Nat} {e : TypeId} {sz : Nat} {v : Value} {n : Nat} {xs : List Value} (h : TRead w us ts) (ho : OwnZ w base e sz v n xs) (hk : w.grownBy w' v.ownBlock) : TRead w' us ts := h.imp fun _ _ hx => RowsAt.ownZ hx ho hk
theorem TRead.snoc {w : World} {u : TV} {t : TW} (hv : u.v = t.v) (hx : u.x.at w t.r) : ∀ {us : List TV} {ts : List TW}, TRead w us ts → TRead w (us ++ [u]) (ts ++ [t])
 | [], [], _ => ⟨⟨hv, hx⟩, trivial⟩
 | _ :: _, _ :: _, h => ⟨h.1, TRead.snoc hv hx h.2⟩
 | [], _ :: _, h => h.elim
 | _ :: _, [], h => h.elim
theorem TRead.len {w : World} : ∀ {us : List TV} {ts : List TW}, TRead w us ts → us.length = ts.length
 | [], [], _ => rfl
 | _ :: _, _ :: _, h => by rw [List.length_cons, List.length_cons, TRead.len h.2]
 | [], _ :: _, h => h.elim
 | _ :: _, [], h => h.elim
theorem TRead.get {w : World} : ∀ {us : List TV} {ts : List TW}, TRead w us ts → ∀ (j : Nat) (t : TW), ts[j]? = some t → ∃ u : TV, us[j]? = some u ∧ u.v = t.v ∧ u.x.at w t.r
 | u :: us, t :: ts, h, 0, x, hx => by
  simp only [List.getElem?_cons_zero, Option.some.injEq] at hx
  subst hx
  exact ⟨u, rfl, h.1⟩
 | u :: us, t :: ts, h, j + 1, x, hx => by
  rw [List.getElem?_cons_succ] at hx ⊢
  exact TRead.get h.2 j x hx
 | [], [], _, _, _, hx => by simp at hx
theorem slTerm_of_own {w : World} {base : Nat} {e : TypeId} {v : Value} {us : List TV} {ts : List TW} {n : Nat} (hn : us.length = n) (hb : n ≤ 140737488355328) (h : OwnZ w base e 4 v n (us.flatMap TV.cells)) (hr : TRead w us ts) : ∃ A c, v = .slice A n c ∧ SlAt 4 TermAt w A n c ts := by
 have hl := hr.len
 rcases own_cells TV.len hn h.own with ⟨rfl, rfl⟩ | ⟨g, cap, rfl, _, hg, hc, hm, hx⟩
 ·simp at hn
  subst hn
  refine ⟨none, 0, rfl, by rw [← hl]; rfl, Nat.le_refl _, by omega, by omega, fun _ => rfl, fun h => absurd h (by omega)⟩
 ·refine ⟨_, cap, rfl, by omega, hc, hb, by unfold maxLen at hm; omega, (fun e => by cases e), fun _ => ⟨g, 0, rfl, hg, fun j t ht => ?_⟩⟩
  obtain ⟨u, hu, e1, e2⟩ := hr.get j t ht
  refine ⟨_, _, _, ?_, e2⟩
  rw [← e1]
  exact hx j u hu
structure Kp (B : Nat) (w w' : World) : Prop where
 below : Below B w w'
 limb : ∀ p x, w.cell? p = some (.int .u32 x) → w'.cell? p = some (.int .u32 x)
theorem Kp.of {B : Nat} {w w' : World} (hb : Below w.heap.size w w') (hB : B ≤ w.heap.size) : Kp B w w' :=
 ⟨hb.mono hB, fun p _ h => (hb.cell (World.block_lt_of_cell? w p h)).trans h⟩
theorem Kp.trans {B : Nat} {a b c : World} (h : Kp B a b) (k : Kp B b c) : Kp B a c := ⟨h.below.trans k.below, fun p x e => k.limb p x (h.limb p x e)⟩
theorem Kp.then_ {B : Nat} {a b c : World} (h : Kp B a b) (hB : B ≤ a.heap.size) (k : Below b.heap.size b c) : Kp B a c := h.trans (Kp.of k (Nat.le_trans hB h.below.size))
theorem Kp.grown {B : Nat} {w w' : World} {row : Option Nat} (hk : w.grownBy w' row) (hg : ∀ g, row = some g → B ≤ g ∧ ∀ o x, w.cell? ⟨g, o, none⟩ ≠ some (.int .u32 x)) (hB : B ≤ w.heap.size) : Kp B w w' :=
 ⟨⟨hk.os, hk.tape, hk.output, hk.size, fun i hi => hk.block i (by omega) fun e => by have := (hg i e.symm).1; omega⟩, fun p x h => by
  refine hk.cell h fun e => ?_
  obtain ⟨b, o, s⟩ := p
  have hs : s = none := World.cell?_spot h
  subst hs
  exact (hg b e.symm).2 o x h⟩
theorem Kp.stored {B : Nat} {w w' : World} {g : Nat} {t : TypeId} {cs : List Value} (hS : Bs w g t cs) (hu : noU cs) (hk : w.grownBy w' (some g)) (hB : B ≤ g) : Kp B w w' :=
 Kp.grown hk (fun k e => by injection e with e; subst e; exact ⟨hB, hS.noLimb hu⟩) (by have := hS.lt; omega)
theorem Kp.ownZ {B : Nat} {w w' : World} {base : Nat} {e : TypeId} {sz : Nat} {v : Value} {n : Nat} {xs : List Value} (h : OwnZ w base e sz v n xs) (hk : w.grownBy w' v.ownBlock) (hB : B ≤ base) (hs : B ≤ w.heap.size) : Kp B w w' :=
 Kp.grown hk (fun k e => ⟨Nat.le_trans hB (h.own.lt k e).1, h.noL k e⟩) hs
theorem Row.kp {B : Nat} {w w' : World} {A : Option Addr} {n c : Nat} {xs : List Nat} (h : Row w A n c xs) (k : Kp B w w') : Row w' A n c xs :=
 ⟨h.len, h.nc, h.cm, h.ok, h.nil_, fun hn => by
  obtain ⟨b, o, e, hc⟩ := h.at_ hn
  exact ⟨b, o, e, fun j hj => k.limb _ _ (hc j hj)⟩⟩
theorem RowsAt.kp {B : Nat} {w w' : World} {r : RW} {v0 v1 v2 : Value} (h : RowsAt w r v0 v1 v2) (k : Kp B w w') : RowsAt w' r v0 v1 v2 := by
 obtain ⟨A, n, c, A', n', c', e0, e1, e2, h1, h2, h3⟩ := h
 exact ⟨A, n, c, A', n', c', e0, e1, e2, h1.kp k, h2.kp k, h3⟩
theorem RV.at.kp {B : Nat} {w w' : World} {y : RV} {r : RW} (h : y.at w r) (k : Kp B w w') : y.at w' r := RowsAt.kp h k
theorem TRead.kp {B : Nat} {w w' : World} {us : List TV} {ts : List TW} (h : TRead w us ts) (k : Kp B w w') : TRead w' us ts := h.imp fun _ _ hx => RowsAt.kp hx k
theorem Bs.kp {B : Nat} {w w' : World} {g : Nat} {t : TypeId} {cs : List Value} (h : Bs w g t cs) (k : Kp B w w') (hg : g < B) : Bs w' g t cs := h.under k.below hg
def ConRet (w : World) (c : CW) (e : Ending) (w' : World) : Prop := ∃ v, e = .returned v ∧ ConVal w' v c ∧ Below w.heap.size w w'
def noT (cs : List Value) : Prop := ∀ (i : Nat) k n b, cs[i]? = some (.int k n) → cs[i + 1]? ≠ some (.bool b)
theorem noT_con {a : Int} {A B C : Option Addr} {n c n' c' n2 c2 : Nat} {b : Bool} : noT [.int .i64 a, .slice A n c, .bool b, .slice B n' c', .slice C n2 c2] := by
 intro i k m d h1 h2
 match i with
 | 0 => simp at h2
 | 1 => simp at h1
 | 2 => simp at h1
 | 3 => simp at h1
 | 4 => simp at h1
 | i + 5 => simp at h1
theorem ConVal.kept {w w' : World} {v : Value} {c : CW} {g : Nat} {t : TypeId} {cs : List Value} (h : ConVal w v c) (hB : Bs w g t cs) (hu : noU cs) (ht : noT cs) (hk : w.grownBy w' (some g)) : ConVal w' v c := by
 obtain ⟨T, n, m, v0, v1, v2, e, ⟨h1, h2, h3, h4, h5, h6⟩, hr⟩ := h
 refine ⟨T, n, m, v0, v1, v2, e, ⟨h1, h2, h3, h4, h5, fun hn => ?_⟩, hr.kept hB hu hk⟩
 obtain ⟨b, o, rfl, hb, hx⟩ := h6 hn
 have hbg : b ≠ g := by
  rintro rfl
  obtain ⟨x, hx0⟩ : ∃ x, c.t[0]? = some x := ⟨c.t[0]'(by omega), List.getElem?_eq_getElem _⟩
  obtain ⟨u0, u1, u2, hc, A, n, c2, A', n', c', rfl, _⟩ := hx 0 x hx0
  have q0 := hB.cell_inv (hc.at_ 0 rfl)
  have q1 := hB.cell_inv (hc.at_ 1 rfl)
  exact ht _ _ _ _ q0 q1
 refine ⟨b, o, rfl, Nat.lt_of_lt_of_le hb hk.size, fun j x hj => ?_⟩
 obtain ⟨u0, u1, u2, hc, hr'⟩ := hx j x hj
 refine ⟨u0, u1, u2, fun i hi => ?_, hr'.kept hB hu hk⟩
 rw [← hc i hi]
 exact World.cell?_of_block (a := ⟨b, _, none⟩) (hk.block b hb (fun e => hbg (by injection e)))
end Pg
namespace Pg
end Pg
namespace Go.Proofs.Ytahdlpkncemmaaa
open Go.RowKit Pg
def ManyRet (w : World) (P : Prop) (e : Ending) (w' : World) : Prop := ∃ b : Bool, e = .returned (.bool b) ∧ (b = false → P) ∧ Below w.heap.size w w'
end Go.Proofs.Ytahdlpkncemmaaa
namespace Pg
open Go Go.RowKit
open Go.Proofs.Ytahdlpkncemmaaa
def RetQ (w : World) (q : Rat) (e : Ending) (w' : World) : Prop := ∃ y : RV, e = .returned (.agg #[.bool y.s, .slice y.A y.n y.c, .slice y.A' y.n' y.c']) ∧ y.at w' (rwOf q) ∧ Below w.heap.size w w'
theorem RetQ.of {w w' : World} {q : Rat} {e : Ending} {k : Nat} (h : RatRet w q e w') (hs : Short q k) (hk : k ≤ 1000000) : RetQ w q e w' := by
 obtain ⟨A, c, A', c', rfl, h1, h2, h3⟩ := h
 have a1 := hs.1
 have a2 := hs.2
 exact ⟨⟨rneg q, A, _, c, A', _, c'⟩, rfl, ⟨A, _, c, A', _, c', rfl, rfl, rfl, h1, h2, Nat.le_trans a1 (by omega), Nat.le_trans a2 (by omega)⟩, h3⟩
theorem RV.at.below {w w' : World} {y : RV} {r : RW} (h : y.at w r) (hw : Below w.heap.size w w') : y.at w' r := RowsAt.below h hw
theorem RV.at.arg {w : World} {y : RV} {r : RW} {k : Nat} (h : y.at w r) (hr : r.Le k) : RArg w (.agg #[.bool y.s, .slice y.A y.n y.c, .slice y.A' y.n' y.c']) r.q k := Go.Proofs.Ytahdlpkncemmaaa.rows_arg h hr
theorem RV.at.short {w : World} {y : RV} {r : RW} {k : Nat} (h : y.at w r) (hr : r.Le k) (hk : 1 ≤ k) : Short r.q k := (h.arg hr).short hk
theorem short_le {q : Rat} {k : Nat} (h : Short q k) : (rwOf q).Le k := h
end Pg
namespace Go.Proofs.Ytahdlpkncemmaaa
open Go.RowKit Pg
section
variable {x y : RV} {r s : RW} {k : Nat}
theorem Mul_Q (w : World) (hx : x.at w r) (hy : y.at w s) (hr : r.Le k) (hs : s.Le k) (hk : k ≤ 262144) (hk1 : 1 ≤ k) {q : Rat} (hq : r.q * s.q = q) :
  Calls Try.prog 16 #[.agg #[.bool x.s, .slice x.A x.n x.c, .slice x.A' x.n' x.c'], .agg #[.bool y.s, .slice y.A y.n y.c, .slice y.A' y.n' y.c']] w (RetQ w q) := by
 subst hq; exact (Mul_R w (hx.arg hr) (hy.arg hs) hk hk1).mono fun e w' h => RetQ.of h ((hx.short hr hk1).mul (hy.short hs hk1)) (by omega)
theorem Add_Q (w : World) (hx : x.at w r) (hy : y.at w s) (hr : r.Le k) (hs : s.Le k) (hk : k ≤ 262144) (hk1 : 1 ≤ k) {q : Rat} (hq : r.q + s.q = q) :
  Calls Try.prog 13 #[.agg #[.bool x.s, .slice x.A x.n x.c, .slice x.A' x.n' x.c'], .agg #[.bool y.s, .slice y.A y.n y.c, .slice y.A' y.n' y.c']] w (RetQ w q) := by
 subst hq; exact (Add_R w (hx.arg hr) (hy.arg hs) hk hk1).mono fun e w' h => RetQ.of h ((hx.short hr hk1).add (hy.short hs hk1)) (by omega)
theorem Short.sub {p q : Rat} {k l : Nat} (hp : Short p k) (hq : Short q l) : Short (p - q) (k + l + 1) := by rw [Rat.sub_eq_add_neg]; exact hp.add hq.neg
theorem Norm_Q (w : World) (hx : x.at w r) (hr : r.Le k) (hk : k ≤ 262144) (hk1 : 1 ≤ k) :
  Calls Try.prog 14 #[.agg #[.bool x.s, .slice x.A x.n x.c, .slice x.A' x.n' x.c']] w (RetQ w r.q) := by
 have hs := hx.short hr hk1
 obtain ⟨A, n, c, A', n', c', e0, e1, e2, h1, h2, h3⟩ := hx
 rw [e0, e1, e2]
 have g1 := h1.len
 have g2 := h2.len
 have l1 := hr.1
 have l2 := hr.2
 exact (Rnorm_any _ _ _ _ _ _ _ _ _ w h1 h2 (by omega) (by omega)).mono fun e w' h => RetQ.of h hs (by omega)
def RetQB (w : World) (q : Rat) (b : Bool) (e : Ending) (w' : World) : Prop := ∃ y : RV, e = .returned (.tuple #[.agg #[.bool y.s, .slice y.A y.n y.c, .slice y.A' y.n' y.c'], .bool b]) ∧ y.at w' (rwOf q) ∧ Below w.heap.size w w'
theorem RetQB.of {w w' : World} {q : Rat} {b : Bool} {e : Ending} {k : Nat} (h : DivRet w q b e w') (hs : Short q k) (hk : k ≤ 1000000) : RetQB w q b e w' := by
 obtain ⟨v, rfl, h⟩ := h
 obtain ⟨y, e, h1, h2⟩ := RetQ.of h hs hk
 injection e with e
 subst e
 exact ⟨y, rfl, h1, h2⟩
theorem Short.div {p q : Rat} {k l : Nat} (hp : Short p k) (hq : Short q l) : Short (p / q) (k + l) := by rw [Rat.div_def]; exact hp.mul hq.inv
theorem Div_Q (w : World) (hx : x.at w r) (hy : y.at w s) (hr : r.Le k) (hs : s.Le k) (hk : k ≤ 262144) (hk1 : 1 ≤ k) {q : Rat} {b : Bool} (hq : r.q / s.q = q) (hb : decide (s.q ≠ 0) = b) :
  Calls Try.prog 59 #[.agg #[.bool x.s, .slice x.A x.n x.c, .slice x.A' x.n' x.c'], .agg #[.bool y.s, .slice y.A y.n y.c, .slice y.A' y.n' y.c']] w (RetQB w q b) := by
 subst hq hb; exact (Div_R w (hx.arg hr) (hy.arg hs) hk hk1).mono fun e w' h => RetQB.of h ((hx.short hr hk1).div (hy.short hs hk1)) (by omega)
theorem Int_Q (n : Int) (w : World) (h1 : -1 ≤ n) (h2 : n ≤ 2) {q : Rat} (hq : (n : Rat) = q) : Calls Try.prog 47 #[.int .i64 n] w (RetQ w q) := by
 subst hq
 have hs : Short (n : Rat) 1 := by
  match n, h1, h2 with
  | -1, _, _ => exact ⟨by rw [rnum_int]; exact length_limbs_le (by decide), by rw [rden_int]; exact length_limbs_le (by decide)⟩
  | 0, _, _ => exact short_zero
  | 1, _, _ => exact short_one
  | 2, _, _ => exact ⟨by rw [rnum_int]; exact length_limbs_le (by decide), by rw [rden_int]; exact length_limbs_le (by decide)⟩
 exact (Int_any n w (by omega) (by omega)).mono fun e w' h => RetQ.of h hs (by omega)
theorem r2Int_Q (n : Int) (w : World) (h1 : -1 ≤ n) (h2 : n ≤ 2) {q : Rat} (hq : (n : Rat) = q) : Calls Try.prog 8 #[.int .i64 n] w (RetQ w q) := by
 subst hq
 have hs : Short (n : Rat) 1 := by
  match n, h1, h2 with
  | -1, _, _ => exact ⟨by rw [rnum_int]; exact length_limbs_le (by decide), by rw [rden_int]; exact length_limbs_le (by decide)⟩
  | 0, _, _ => exact short_zero
  | 1, _, _ => exact short_one
  | 2, _, _ => exact ⟨by rw [rnum_int]; exact length_limbs_le (by decide), by rw [rden_int]; exact length_limbs_le (by decide)⟩
 exact (r2Int_any n w (by omega) (by omega)).mono fun e w' h => RetQ.of h hs (by omega)
theorem r2Same_Q (w : World) (hx : x.at w r) (hy : y.at w s) (hr : r.Le k) (hs : s.Le k) (hk : k ≤ 262144) {b : Bool} (hb : eqQ r.q s.q = b) :
  Calls Try.prog 19 #[.agg #[.bool x.s, .slice x.A x.n x.c, .slice x.A' x.n' x.c'], .agg #[.bool y.s, .slice y.A y.n y.c, .slice y.A' y.n' y.c']] w fun e w' => e = .returned (.bool b) ∧ Below w.heap.size w w' := by
 subst hb
 obtain ⟨A, n, c, A', n', c', e0, e1, e2, h1, h2, h3⟩ := hx
 obtain ⟨C, m, d, C', m', d', f0, f1, f2, i1, i2, i3⟩ := hy
 rw [e0, e1, e2, f0, f1, f2]
 have a1 := h1.len
 have a2 := h2.len
 have b1 := i1.len
 have b2 := i2.len
 have l1 := hr.1
 have l2 := hr.2
 have m1 := hs.1
 have m2 := hs.2
 exact r2Same_any _ _ _ _ _ _ _ _ _ _ _ _ _ _ _ _ _ _ w h1 h2 i1 i2 (by omega) (by omega) (by omega) (by omega)
theorem Zero_Q (w : World) (hx : x.at w r) (hr : r.Le k) (hk : k ≤ 262144) {b : Bool} (hb : decide (r.q = 0) = b) :
  Calls Try.prog 15 #[.agg #[.bool x.s, .slice x.A x.n x.c, .slice x.A' x.n' x.c']] w fun e w' => e = .returned (.bool b) ∧ Below w.heap.size w w' := by
 subst hb; exact Zero_R w (hx.arg hr) hk
theorem r2Zero_Q (w : World) (hx : x.at w r) (hr : r.Le k) (hk : k ≤ 262144) {b : Bool} (hb : decide (r.q = 0) = b) :
  Calls Try.prog 10 #[.agg #[.bool x.s, .slice x.A x.n x.c, .slice x.A' x.n' x.c']] w fun e w' => e = .returned (.bool b) ∧ Below w.heap.size w w' := by
 subst hb; exact r2Zero_R w (hx.arg hr) hk
end
end Go.Proofs.Ytahdlpkncemmaaa
namespace Pg
open Go Go.RowKit
def putsO (a : Act) : List (Option Nat) → List Value → Act
 | some d :: ds, v :: vs => putsO (a.put (some d) v) ds vs
 | none :: ds, _ :: vs => putsO a ds vs
 | _, _ => a
theorem putsO_defers : ∀ (ds : List (Option Nat)) (vs : List Value) (a : Act), (putsO a ds vs).defers = a.defers
 | some d :: ds, v :: vs, a => by rw [putsO, putsO_defers ds vs]; rfl
 | none :: ds, _ :: vs, a => by rw [putsO, putsO_defers ds vs]
 | [], _, _ => rfl
 | some _ :: _, [], _ => rfl
 | none :: _, [], _ => rfl
theorem putsO_other : ∀ (ds : List (Option Nat)) (vs : List Value) (a : Act) (k : Nat), some k ∉ ds → (putsO a ds vs).tmps[k]? = a.tmps[k]?
 | some d :: ds, v :: vs, a, k, h => by
  rw [putsO, putsO_other ds vs _ k (fun hm => h (List.mem_cons_of_mem _ hm)), put_ne a _ (fun e : d = k => h (by rw [e]; exact List.mem_cons_self))]
 | none :: ds, _ :: vs, a, k, h => by rw [putsO, putsO_other ds vs a k (fun hm => h (List.mem_cons_of_mem _ hm))]
 | [], _, _, _, _ => rfl
 | some _ :: _, [], _, _, _ => rfl
 | none :: _, [], _, _, _ => rfl
def nodO : List (Option Nat) → Bool
 | [] => true
 | some d :: ds => !ds.contains (some d) && nodO ds
 | none :: ds => nodO ds
theorem nodO_tail {x : Option Nat} {ds : List (Option Nat)} (h : nodO (x :: ds) = true) : nodO ds = true := by
 cases x with
 | none => exact h
 | some d => simp only [nodO, Bool.and_eq_true] at h; exact h.2
theorem nodO_head {d : Nat} {ds : List (Option Nat)} (h : nodO (some d :: ds) = true) : some d ∉ ds := by
 simp only [nodO, Bool.and_eq_true, Bool.not_eq_true'] at h
 intro hm
 have := List.contains_iff_mem.2 hm
 rw [h.1] at this
 cases this
theorem nodO_inj : ∀ {ds : List (Option Nat)}, nodO ds = true → ∀ (i j d : Nat), ds[i]? = some (some d) → ds[j]? = some (some d) → i = j
 | x :: ds, h, 0, 0, d, _, _ => rfl
 | x :: ds, h, 0, j + 1, d, hi, hj => by
  simp only [List.getElem?_cons_zero, Option.some.injEq] at hi
  rw [List.getElem?_cons_succ] at hj
  subst hi
  exact absurd (List.mem_of_getElem? hj) (nodO_head h)
 | x :: ds, h, i + 1, 0, d, hi, hj => by
  simp only [List.getElem?_cons_zero, Option.some.injEq] at hj
  rw [List.getElem?_cons_succ] at hi
  subst hj
  exact absurd (List.mem_of_getElem? hi) (nodO_head h)
 | x :: ds, h, i + 1, j + 1, d, hi, hj => by
  rw [List.getElem?_cons_succ] at hi hj
  rw [nodO_inj (nodO_tail h) i j d hi hj]
 | [], _, i, _, _, hi, _ => by simp at hi
theorem putsO_at : ∀ (ds : List (Option Nat)) (vs : List Value) (a : Act) (i d : Nat) (v : Value), nodO ds = true → d < a.tmps.size → ds[i]? = some (some d) → vs[i]? = some v → (putsO a ds vs).tmps[d]? = some v
 | some e :: ds, u :: vs, a, 0, d, v, h, hlt, hd, hv => by
  simp only [List.getElem?_cons_zero, Option.some.injEq] at hd hv
  subst hd hv
  rw [putsO, putsO_other ds vs _ e (nodO_head h)]
  exact put_eq a u hlt
 | none :: ds, u :: vs, a, 0, d, v, h, hlt, hd, hv => by simp at hd
 | some e :: ds, u :: vs, a, i + 1, d, v, h, hlt, hd, hv => by
  rw [List.getElem?_cons_succ] at hd hv
  rw [putsO]
  exact putsO_at ds vs _ i d v (nodO_tail h) (by rw [put_size]; exact hlt) hd hv
 | none :: ds, u :: vs, a, i + 1, d, v, h, hlt, hd, hv => by
  rw [List.getElem?_cons_succ] at hd hv
  rw [putsO]
  exact putsO_at ds vs a i d v (nodO_tail h) hlt hd hv
 | [], _, _, _, _, _, _, _, hd, _ => by simp at hd
 | _ :: _, [], _, _, _, _, _, _, _, hv => by simp at hv
def waits (ops : Array Oper) (j i : Nat) : Bool := match ops[j]? with | some o => o.after.any (fun e => Region.binds .any e && e.on == i) | none => false
structure GInv (ops : Array Oper) (a0 : Act) (w0 : World) (G : World → Prop) (p : Nat) (lk : Option Nat) (ds : List (Option Nat)) (V : Nat → World → Value → Prop) (l : Array Bool) (a : Act) (w : World) : Prop where
 frame : ∀ k, some k ∉ ds → a.tmps[k]? = a0.tmps[k]?
 size : a.tmps.size = a0.tmps.size
 defers : a.defers = a0.defers
 grown : G w
 below : l.getD p false = false → Below w0.heap.size w0 w
 has : ∀ i x, ds[i]? = some x → l.getD i false = true → ∃ v, (∀ d, x = some d → a.tmps[d]? = some v) ∧ V i w v ∧ (i = p → ∀ j d, lk = some j → ds[j]? = some (some d) → a.tmps[d]? = some v)
 old : ∀ i d, ds[i]? = some (some d) → l.getD i false = false → a.tmps[d]? = a0.tmps[d]?
 closed : ∀ i o, ops[i]? = some o → l.getD i false = true → ∀ e ∈ o.after, Region.binds .any e = true → l.getD e.on false = true
 sz : l.size = ops.size
structure GAt (ops : Array Oper) (a0 : Act) (w0 : World) (G : World → Prop) (p : Nat) (ds : List (Option Nat)) (V : Nat → World → Value → Prop) (i : Nat) (o : Oper) (a : Act) (w : World) : Prop where
 frame : ∀ k, some k ∉ ds → a.tmps[k]? = a0.tmps[k]?
 grown : G w
 below_ : (p == i || decide (ops.size ≤ p) || waits ops p i) = true → Below w0.heap.size w0 w
 dep : ∀ j d, ds[j]? = some (some d) → o.after.any (fun e => Region.binds .any e && e.on == j) = true → ∃ v, a.tmps[d]? = some v ∧ V j w v
 old_ : ∀ (j d : Nat), ds[j]? = some (some d) → waits ops j i = true → a.tmps[d]? = a0.tmps[d]?
section
variable {ops : Array Oper} {a0 : Act} {w0 : World} {G : World → Prop} {p : Nat} {ds : List (Option Nat)} {V : Nat → World → Value → Prop} {i : Nat} {o : Oper} {a : Act} {w : World}
theorem GAt.old (h : GAt ops a0 w0 G p ds V i o a w) (k : Nat) (v : Value) (hk : ds.contains (some k) = false) (hv : a0.tmps[k]? = some v) : a.tmps.getD k undef = v :=
 getD_of ((h.frame k (by intro hm; have := List.contains_iff_mem.2 hm; rw [hk] at this; cases this)).trans hv)
theorem GAt.own (h : GAt ops a0 w0 G p ds V i o a w) (j k : Nat) (v : Value) (hk : ds[j]? = some (some k)) (hw : waits ops j i = true) (hv : a0.tmps[k]? = some v) : a.tmps.getD k undef = v := getD_of ((h.old_ j k hk hw).trans hv)
theorem GAt.below (h : GAt ops a0 w0 G p ds V i o a w) (hb : (p == i || decide (ops.size ≤ p) || waits ops p i) = true := by kernel_rfl) : Below w0.heap.size w0 w := h.below_ hb
theorem GAt.new (h : GAt ops a0 w0 G p ds V i o a w) (j d : Nat) (hd : ds[j]? = some (some d)) (ho : o.after.any (fun e => Region.binds .any e && e.on == j) = true) : ∃ v, a.tmps.getD d undef = v ∧ V j w v := by
 obtain ⟨v, h1, h2⟩ := h.dep j d hd ho
 exact ⟨v, getD_of h1, h2⟩
end
theorem wpOp_unwantedG {P : Program} {ops : Array Oper} {Q : Exit → Act → World → Prop} {i : Nat} {o : Oper} {K : Act → World → Prop} {a : Act} {w : World} {j d : Nat} {b : Bool} {c : Value} {oj : Oper} (ho : ops[i]? = some o) (hg : o.guard = some (j, b)) (hj : ops[j]? = some oj) (hd : oj.dst = some d) (hv : a.tmps[d]? = some c) (hc : c ≠ .bool b)
  (h : K (a.put o.dst undef) w) : wpOp P ops Q i K a w := by
 have : Region.wanted o (yielded ops a.tmps) = false := by
  unfold Region.wanted yielded
  rw [hg]
  simp only [hj, Option.bind_some, hd, hv]
  cases c <;> first | rfl | (simp; intro e; exact hc (by rw [e]))
 unfold wpOp
 rw [ho]
 simp only [this]
 exact h
theorem drawG_region {P : Program} {id : Nat} {ops : Array Oper} {Q : Exit → Act → World → Prop} {a0 : Act} {w0 : World} (R : World → World → Prop) (G : World → Prop) (p : Nat) (lk : Option Nat) (ds : List (Option Nat)) (V : Nat → World → Value → Prop)
  (hm : P.follows .mixedOrders = true) (hlen : ops.size = ds.length) (hnd : nodO ds = true) (hlt : ∀ (i d : Nat), ds[i]? = some (some d) → d < a0.tmps.size)
  (hdst : ∀ (i : Nat) (x : Option Nat), ds[i]? = some x → ∃ o : Oper, ops[i]? = some o ∧ o.dst = x)
  (hord : (List.range ops.size).all (fun i => match ops[i]? with | some o => o.after.all (fun e => !Region.binds .any e || decide (e.on < i)) | none => true) = true)
  (hG0 : ∀ w, Below w0.heap.size w0 w → G w) (hG1 : ∀ w w', G w → Below w.heap.size w w' → G w') (hG2 : ∀ w w', Below w0.heap.size w0 w → R w w' → G w')
  (hlk : ∀ j, lk = some j → j ≠ p ∧ waits ops p j = true)
  (hst : ∀ i w w' v, Below w.heap.size w w' → V i w v → V i w' v)
  (hst2 : ∀ i w w' v, i ≠ p → Below w0.heap.size w0 w → R w w' → V i w v → V i w' v)
  (hstep : ∀ (i : Nat) (o : Oper) (x : Option Nat), ops[i]? = some o → ds[i]? = some x → i ≠ p →
   (o.guard = none ∧ ∀ a w, GAt ops a0 w0 G p ds V i o a w → ∀ K : Act → World → Prop, (∀ v w', V i w' v → Below w.heap.size w w' → K (a.put x v) w') → Oper.wp P o a w K Q) ∨
   (∃ j b dj, o.guard = some (j, b) ∧ ds[j]? = some (some dj) ∧ o.after.any (fun e => Region.binds .any e && e.on == j) = true ∧
    (((∀ w v, V j w v → v = .bool b) ∧ ∀ a w, GAt ops a0 w0 G p ds V i o a w → ∀ K : Act → World → Prop, (∀ v w', V i w' v → Below w.heap.size w w' → K (a.put x v) w') → Oper.wp P o a w K Q) ∨
     ((∃ c, c ≠ .bool b ∧ ∀ w v, V j w v → v = c) ∧ ∀ w, V i w undef))))
  (hpst : ∀ (o : Oper) (x : Option Nat), ops[p]? = some o → ds[p]? = some x → o.guard = none ∧ ∀ a w, GAt ops a0 w0 G p ds V p o a w → ∀ K : Act → World → Prop, (∀ v w', V p w' v → R w w' → (∀ j d, lk = some j → ds[j]? = some (some d) → a.tmps[d]? = some v) → K (a.put x v) w') → Oper.wp P o a w K Q)
  (hfin : ∀ vs w', vs.length = ds.length → (∀ i v, vs[i]? = some v → V i w' v) → G w' → (∀ j, lk = some j → ds[p]? = some none → (∃ d, ds[j]? = some (some d)) → vs[p]? = vs[j]?) → Q .normal (putsO a0 ds vs) w') :
  (Code.region id ops true).wp P Q a0 w0 := by
 refine wp_region_any hm ?_
 refine wpAny_inv (fun l a w => l.size = ops.size ∧ GInv ops a0 w0 G p lk ds V l a w) ?_ ?_ _ _ _ _ (by simp) ?_
 ·rintro l a w hr ⟨hsz, hI⟩
  have hall : ∀ i, i < ops.size → l.getD i false = true := by
   intro i
   induction i using Nat.strongRecOn with
   | ind i ih =>
    intro hi
    refine Classical.byContradiction fun hn => ?_
    have h1 : l.getD i true = false := listed_of (by omega) hn
    rw [List.all_eq_true] at hord
    have h2 := hord i (List.mem_range.2 hi)
    have hm : i ∈ Region.ready .any ops l := by
     rw [mem_ready]
     refine ⟨h1, _, Array.getElem?_eq_getElem hi, fun e he hbe => ?_⟩
     rw [Array.getElem?_eq_getElem hi] at h2
     have h3 := (Array.all_eq_true_iff_forall_mem.1 h2) e he
     rw [hbe] at h3
     have h4 : e.on < i := by simpa using h3
     exact ih e.on h4 (by omega)
    rw [hr] at hm
    cases hm
  have hv : ∀ i, i < ds.length → ∃ v, (∀ d, ds[i]? = some (some d) → a.tmps[d]? = some v) ∧ V i w v ∧ (i = p → ∀ j d, lk = some j → ds[j]? = some (some d) → a.tmps[d]? = some v) := by
   intro i hi
   obtain ⟨v, h1, h2, h3⟩ := hI.has i (ds[i]) (List.getElem?_eq_getElem hi) (hall i (by omega))
   exact ⟨v, fun d hd => by rw [List.getElem?_eq_getElem hi] at hd; injection hd with hd; exact h1 d hd, h2, h3⟩
  have hvs : ∃ vs : List Value, vs.length = ds.length ∧ ∀ i v, vs[i]? = some v → (∀ d, ds[i]? = some (some d) → a.tmps[d]? = some v) ∧ V i w v ∧ (i = p → ∀ j d, lk = some j → ds[j]? = some (some d) → a.tmps[d]? = some v) := by
   refine ⟨List.ofFn fun i : Fin ds.length => Classical.choose (hv i.1 i.2), by simp, fun i v hi => ?_⟩
   rw [List.getElem?_ofFn] at hi
   split at hi
   ·injection hi with hi
    subst hi
    rename_i hlt
    exact Classical.choose_spec (hv i hlt)
   ·cases hi
  obtain ⟨vs, hl, hvs⟩ := hvs
  have e1 : a.tmps = (putsO a0 ds vs).tmps := by
   apply Array.ext_getElem?
   intro k
   by_cases hk : some k ∈ ds
   ·obtain ⟨i, hi⟩ := List.getElem?_of_mem hk
    have hil := (List.getElem?_eq_some_iff.1 hi).1
    have h1 : vs[i]? = some (vs[i]'(by omega)) := List.getElem?_eq_getElem _
    rw [(hvs i _ h1).1 _ hi, putsO_at ds vs a0 i k _ hnd (hlt i k hi) hi h1]
   ·rw [hI.frame k hk, putsO_other ds vs a0 k hk]
  have e2 : a.defers = (putsO a0 ds vs).defers := by rw [putsO_defers]; exact hI.defers
  have e3 : a = putsO a0 ds vs := by
   cases a
   cases h : putsO a0 ds vs
   rw [h] at e1 e2
   simp only at e1 e2
   rw [e1, e2]
  rw [e3]
  refine hfin vs w hl (fun i v h => (hvs i v h).2.1) hI.grown (fun j hj hp ⟨d, hjd⟩ => ?_)
  have hpl := (List.getElem?_eq_some_iff.1 hp).1
  have hjl := (List.getElem?_eq_some_iff.1 hjd).1
  have h1 : vs[p]? = some (vs[p]'(by omega)) := List.getElem?_eq_getElem _
  have h2 : vs[j]? = some (vs[j]'(by omega)) := List.getElem?_eq_getElem _
  have h3 := (hvs p _ h1).2.2 rfl j d hj hjd
  have h4 := (hvs j _ h2).1 d hjd
  rw [h1, h2, ← h3, ← h4]
 ·rintro l a w i hi ⟨hsz, hI⟩ K hK
  obtain ⟨hun, o, ho, hall⟩ := mem_ready.1 hi
  have hi8 := (Array.getElem?_eq_some_iff.1 ho).1
  have hil : i < ds.length := by omega
  have hd : ds[i]? = some (ds[i]'hil) := List.getElem?_eq_getElem _
  generalize ds[i]'hil = x at *
  obtain ⟨o', ho', hod⟩ := hdst i x hd
  rw [ho] at ho'
  injection ho' with ho'
  subst ho'
  have hni : l.getD i false = false := by
   rcases hb : l.getD i false with _ | _
   ·rfl
   ·exact absurd hb (not_listed' hun)
  have hwaits : ∀ j, waits ops j i = true → l.getD j false = false := by
   intro j hw
   rcases hb : l.getD j false with _ | _
   ·rfl
   ·exfalso
    unfold waits at hw
    cases hoj : ops[j]? with
    | none => rw [hoj] at hw; cases hw
    | some oj =>
     rw [hoj] at hw
     have := dep_of hw (hI.closed j oj hoj hb)
     rw [hni] at this
     cases this
  -- the invariant behind it
  have next : ∀ v w', V i w' v → (i ≠ p → Below w.heap.size w w') → (i = p → R w w' ∧ ∀ j d, lk = some j → ds[j]? = some (some d) → a.tmps[d]? = some v) → GInv ops a0 w0 G p lk ds V (l.setIfInBounds i true) (a.put x v) w' := by
   intro v w' hV hbn hgr
   have hkeep : ∀ j v', l.getD j false = true → V j w v' → V j w' v' := by
    intro j v' hlj hj
    by_cases hip : i = p
    ·refine hst2 j w w' v' (fun e => ?_) (hI.below (hip ▸ hni)) (hgr hip).1 hj
     rw [e, ← hip, hni] at hlj
     cases hlj
    ·exact hst j w w' v' (hbn hip) hj
   have hput : ∀ k, x ≠ some k → (a.put x v).tmps[k]? = a.tmps[k]? := by
    intro k hk
    cases x with
    | none => rfl
    | some d => exact put_ne a _ (fun e => hk (by rw [e]))
   refine ⟨fun k hk => (hput k (fun e => hk (by rw [← e]; exact List.mem_of_getElem? hd))).trans (hI.frame k hk), ?_, ?_, ?_, fun hnp => ?_, fun j y hj hl => ?_, fun j d hj hl => ?_, fun j oj hj hl e he hbe => ?_, by rw [Array.size_setIfInBounds]; exact hI.sz⟩
   ·cases x with
    | none => exact hI.size
    | some d => exact (put_size _ _ _).trans hI.size
   ·cases x with
    | none => exact hI.defers
    | some d => exact hI.defers
   ·by_cases hip : i = p
    ·exact hG2 _ _ (hI.below (hip ▸ hni)) (hgr hip).1
    ·exact hG1 _ _ hI.grown (hbn hip)
   ·by_cases hip : i = p
    ·subst hip
     rw [Array.getD_eq_getD_getElem?, Array.getElem?_setIfInBounds_self_of_lt (by omega)] at hnp
     cases hnp
    ·rw [getD_set_ne false hip] at hnp
     exact Below.then_ (hI.below hnp) (hbn hip)
   ·by_cases e : j = i
    ·subst e
     rw [hd] at hj
     injection hj with hj
     subst hj
     refine ⟨v, fun d hxd => ?_, hV, fun hip j' d hj' hd' => ?_⟩
     ·subst hxd
      exact put_eq _ _ (by rw [hI.size]; exact hlt j d hd)
     ·rw [hput d (fun e' => (hlk j' hj').1 ((nodO_inj hnd j' j d hd' (by rw [hd, e'])).trans hip))]
      exact (hgr hip).2 j' d hj' hd'
    ·rcases bit_set hl with h | h
     ·exact absurd h e
     ·obtain ⟨v', h1, h2, h3⟩ := hI.has j y hj h
      refine ⟨v', fun d hyd => ?_, hkeep j v' h h2, fun hjp j' d hj' hd' => ?_⟩
      ·subst hyd
       rw [hput d (fun e' => e (nodO_inj hnd j i d hj (by rw [hd, e'])))]
       exact h1 d rfl
      ·rw [hput d (fun e' => ?_)]
       ·exact h3 hjp j' d hj' hd'
       ·have e1 := nodO_inj hnd j' i d hd' (by rw [hd, e'])
        have hw := (hlk j' hj').2
        rw [e1, ← hjp] at hw
        have := hwaits j hw
        rw [h] at this
        cases this
   ·by_cases e : j = i
    ·subst e
     rw [Array.getD_eq_getD_getElem?, Array.getElem?_setIfInBounds_self_of_lt (by omega)] at hl
     cases hl
    ·rw [getD_set_ne false (fun e' => e e'.symm)] at hl
     rw [hput d (fun e' => e (nodO_inj hnd j i d hj (by rw [hd, e'])))]
     exact hI.old j d hj hl
   ·have old : l.getD e.on false = true := by
     rcases bit_set hl with h | h
     ·subst h
      rw [ho] at hj
      injection hj with hj
      subst hj
      exact hall e he hbe
     ·exact hI.closed j oj hj h e he hbe
    by_cases e' : i = e.on
    ·rw [← e', Array.getD_eq_getD_getElem?, Array.getElem?_setIfInBounds_self_of_lt (by omega)]; rfl
    ·rw [getD_set_ne false e']; exact old
  have keep : ∀ v w', V i w' v → (i ≠ p → Below w.heap.size w w') → (i = p → R w w' ∧ ∀ j d, lk = some j → ds[j]? = some (some d) → a.tmps[d]? = some v) → K (a.put x v) w' := fun v w' hV hb hg =>
   hK _ _ ⟨by rw [Array.size_setIfInBounds]; exact hsz, next v w' hV hb hg⟩
  have hat : GAt ops a0 w0 G p ds V i o a w := ⟨hI.frame, hI.grown, fun hb => hI.below (by
    simp only [Bool.or_eq_true, beq_iff_eq, decide_eq_true_eq] at hb
    rcases hb with (rfl | hb) | hb
    ·exact hni
    ·rw [Array.getD_eq_getD_getElem?, Array.getElem?_eq_none (by omega)]; rfl
    ·exact hwaits p hb),
   fun j d hj hb => by
    obtain ⟨v, h1, h2, _⟩ := hI.has j _ hj (dep_of hb hall)
    exact ⟨v, h1 d rfl, h2⟩,
   fun j d hj hw => hI.old j d hj (hwaits j hw)⟩
  by_cases hip : i = p
  ·subst hip
   obtain ⟨hg, hs⟩ := hpst o x ho hd
   exact wpOp_plain ho hg (fun K' hK' => hs a w hat K' (fun v w' hV hb hl => hK' _ _ (keep v w' hV (fun h => absurd rfl h) (fun _ => ⟨hb, hl⟩))))
  ·rcases hstep i o x ho hd hip with ⟨hg, hs⟩ | ⟨j, b, dj, hg, hdj, hdep, hway⟩
   ·exact wpOp_plain ho hg (fun K' hK' => hs a w hat K' (fun v w' hV hb => hK' _ _ (keep v w' hV (fun _ => hb) (fun h => absurd h hip))))
   ·obtain ⟨oj, hoj, hoj'⟩ := hdst j _ hdj
    obtain ⟨vj, g1, g2⟩ := hat.dep j dj hdj hdep
    rcases hway with ⟨hv, hs⟩ | ⟨⟨c, hc, hv⟩, hu⟩
    ·rw [hv w vj g2] at g1
     exact wpOp_wanted ho hg hoj hoj' g1 (fun K' hK' => hs a w hat K' (fun v w' hV hb => hK' _ _ (keep v w' hV (fun _ => hb) (fun h => absurd h hip))))
    ·rw [hv w vj g2] at g1
     refine wpOp_unwantedG ho hg hoj hoj' g1 hc ?_
     rw [hod]
     exact keep _ _ (hu w) (fun _ => ⟨rfl, rfl, rfl, Nat.le_refl _, fun _ _ => rfl⟩) (fun h => absurd h hip)
 ·refine ⟨by simp, fun _ _ => rfl, rfl, rfl, hG0 _ ⟨rfl, rfl, rfl, Nat.le_refl _, fun _ _ => rfl⟩, fun _ => ⟨rfl, rfl, rfl, Nat.le_refl _, fun _ _ => rfl⟩, fun i _ _ h => ?_, fun _ _ _ _ => rfl, fun i o _ h => ?_, by simp⟩
  ·rw [Array.getD_eq_getD_getElem?, Array.getElem?_replicate] at h
   split at h <;> simp at h
  ·rw [Array.getD_eq_getD_getElem?, Array.getElem?_replicate] at h
   split at h <;> simp at h
inductive Hg where
 | is (v : Value)
 | such (q : World → Value → Prop)
 | own (q : World → Value → Prop)
 | non
def Hg.ok : Hg → World → Value → Prop
 | .is v0, _, v => v = v0
 | .such q, w, v => ∀ w', Below w.heap.size w w' → q w' v
 | .own q, w, v => ∀ w', Below w.heap.size w w' → q w' v
 | .non, _, _ => True
theorem Hg.below {h : Hg} {w w' : World} {v : Value} (hb : Below w.heap.size w w') (hk : h.ok w v) : h.ok w' v := by
 cases h with
 | is v0 => exact hk
 | such q => exact fun w2 h2 => hk w2 (Below.then_ hb h2)
 | own q => exact fun w2 h2 => hk w2 (Below.then_ hb h2)
 | non => trivial
def hg (hs : List Hg) (i : Nat) (w : World) (v : Value) : Prop := match hs[i]? with | some h => h.ok w v | none => True
def gwayG (hs : List Hg) (o : Oper) : Option Bool := match o.guard with
 | none => some true
 | some (j, b) => match hs[j]? with
  | some (.is (.bool c)) => some (c == b)
  | some (.is (.tuple _)) => some false
  | _ => none
section
variable {ops : Array Oper} {a0 : Act} {w0 : World} {G : World → Prop} {p : Nat} {ds : List (Option Nat)} {hs : List Hg} {i : Nat} {o : Oper} {a : Act} {w : World}
theorem bg_is (h : GAt ops a0 w0 G p ds (hg hs) i o a w) (j d : Nat) {v : Value} (hd : ds[j]? = some (some d) := by rfl) (hh : hs[j]? = some (.is v) := by rfl) (ho : o.after.any (fun e => Region.binds .any e && e.on == j) = true := by kernel_rfl) : a.tmps.getD d undef = v := by
 obtain ⟨v', h1, h2⟩ := h.new j d hd ho
 unfold hg at h2
 rw [hh] at h2
 rw [h1]; exact h2
theorem bg_such (h : GAt ops a0 w0 G p ds (hg hs) i o a w) (j d : Nat) {q : World → Value → Prop} (hd : ds[j]? = some (some d) := by rfl) (hh : hs[j]? = some (.such q) := by rfl) (ho : o.after.any (fun e => Region.binds .any e && e.on == j) = true := by kernel_rfl) : ∃ v, a.tmps.getD d undef = v ∧ ∀ w', Below w.heap.size w w' → q w' v := by
 obtain ⟨v', h1, h2⟩ := h.new j d hd ho
 unfold hg at h2
 rw [hh] at h2
 exact ⟨v', h1, h2⟩
theorem bg_link (h : GAt ops a0 w0 G p ds (hg hs) i o a w) (j d : Nat) {q : World → Value → Prop} (hd : ds[j]? = some (some d) := by rfl) (hh : hs[j]? = some (.such q) := by rfl) (ho : o.after.any (fun e => Region.binds .any e && e.on == j) = true := by kernel_rfl) : ∃ v, a.tmps[d]? = some v ∧ a.tmps.getD d undef = v ∧ ∀ w', Below w.heap.size w w' → q w' v := by
 obtain ⟨v', h1, h2⟩ := h.dep j d hd ho
 unfold hg at h2
 rw [hh] at h2
 exact ⟨v', h1, getD_of h1, h2⟩
end
def GStp (ops : Array Oper) (a0 : Act) (w0 : World) (R : World → World → Prop) (G : World → Prop) (p : Nat) (lk : Option Nat) (P : Program) (ds : List (Option Nat)) (hs : List Hg) (Q : Exit → Act → World → Prop) (i : Nat) (o : Oper) (x : Option Nat) (h : Hg) : Prop :=
 match gwayG hs o with
 | some true => ∀ a w, GAt ops a0 w0 G p ds (hg hs) i o a w → ∀ K : Act → World → Prop, (∀ v w', h.ok w' v → (if i = p then R w w' ∧ (∀ j d, lk = some j → ds[j]? = some (some d) → a.tmps[d]? = some v) else Below w.heap.size w w') → K (a.put x v) w') → Oper.wp P o a w K Q
 | some false => h = .is undef
 | none => False
def GStps (ops : Array Oper) (a0 : Act) (w0 : World) (R : World → World → Prop) (G : World → Prop) (p : Nat) (lk : Option Nat) (P : Program) (ds : List (Option Nat)) (hs : List Hg) (Q : Exit → Act → World → Prop) : Nat → List Oper → List (Option Nat) → List Hg → Prop
 | i, o :: os, d :: ds', h :: hs' => GStp ops a0 w0 R G p lk P ds hs Q i o d h ∧ GStps ops a0 w0 R G p lk P ds hs Q (i + 1) os ds' hs'
 | _, [], [], [] => True
 | _, _, _, _ => False
theorem GStps.at {ops : Array Oper} {a0 : Act} {w0 : World} {R : World → World → Prop} {G : World → Prop} {p : Nat} {lk : Option Nat} {P : Program} {ds : List (Option Nat)} {hs : List Hg} {Q : Exit → Act → World → Prop} : ∀ {n : Nat} {os : List Oper} {ds' : List (Option Nat)} {hs' : List Hg}, GStps ops a0 w0 R G p lk P ds hs Q n os ds' hs' → ∀ (i : Nat) (o : Oper) (x : Option Nat), os[i]? = some o → ds'[i]? = some x → ∃ h, hs'[i]? = some h ∧ GStp ops a0 w0 R G p lk P ds hs Q (n + i) o x h
 | n, o :: os, d :: ds', h :: hs', hd, 0, o', d', ho, hd' => by
  simp only [List.getElem?_cons_zero, Option.some.injEq] at ho hd'
  subst ho hd'
  exact ⟨h, rfl, hd.1⟩
 | n, o :: os, d :: ds', h :: hs', hd, i + 1, o', d', ho, hd' => by
  obtain ⟨h', e, hh⟩ := GStps.at hd.2 i o' d' (by simpa using ho) (by simpa using hd')
  rw [show n + 1 + i = n + (i + 1) by omega] at hh
  exact ⟨h', by simpa using e, hh⟩
 | _, [], [], [], _, i, o', d', _, hd' => by simp at hd'
 | _, [], _ :: _, _, h, _, _, _, _, _ => h.elim
 | _, _ :: _, _ :: _, [], h, _, _, _, _, _ => h.elim
 | _, [], [], _ :: _, h, _, _, _, _, _ => h.elim
 | _, _ :: _, [], _, h, _, _, _, _, _ => h.elim
def AllHg (w : World) : List Hg → List Value → Prop
 | h :: hs, v :: vs => h.ok w v ∧ AllHg w hs vs
 | [], [] => True
 | _, _ => False
theorem allHg {w : World} : ∀ {hs : List Hg} {vs : List Value}, vs.length = hs.length → (∀ i v, vs[i]? = some v → hg hs i w v) → AllHg w hs vs
 | [], [], _, _ => trivial
 | [], _ :: _, h, _ => by simp at h
 | _ :: _, [], h, _ => by simp at h
 | h :: hs, v :: vs, hl, hv => ⟨hv 0 v rfl, allHg (by simpa using hl) (fun i v' hi => by have := hv (i + 1) v' (by simpa using hi); unfold hg at this ⊢; simpa using this)⟩
section
variable {w : World} {v : Value} {q : World → Value → Prop} {hs : List Hg} {vs : List Value}
theorem AllHg.is_ (h : AllHg w (.is v :: hs) vs) : ∃ vs', vs = v :: vs' ∧ AllHg w hs vs' := by
 cases vs with
 | nil => exact h.elim
 | cons u us => obtain ⟨h1, h2⟩ := h; exact ⟨us, by rw [show u = v from h1], h2⟩
theorem AllHg.such_ (h : AllHg w (.such q :: hs) vs) : ∃ v vs', vs = v :: vs' ∧ (∀ w', Below w.heap.size w w' → q w' v) ∧ AllHg w hs vs' := by
 cases vs with
 | nil => exact h.elim
 | cons u us => obtain ⟨h1, h2⟩ := h; exact ⟨u, us, rfl, h1, h2⟩
theorem AllHg.own_ (h : AllHg w (.own q :: hs) vs) : ∃ v vs', vs = v :: vs' ∧ (∀ w', Below w.heap.size w w' → q w' v) ∧ AllHg w hs vs' := by
 cases vs with
 | nil => exact h.elim
 | cons u us => obtain ⟨h1, h2⟩ := h; exact ⟨u, us, rfl, h1, h2⟩
theorem AllHg.nil_ (h : AllHg w [] vs) : vs = [] := by
 cases vs with
 | nil => rfl
 | cons u us => exact h.elim
end
def closedG (ops : Array Oper) (n p : Nat) (lk : Option Nat) (ds : List (Option Nat)) (hs : List Hg) : Bool :=
 (List.range ops.size).all (fun i => match ops[i]? with | some o => o.after.all (fun e => !Region.binds .any e || decide (e.on < i)) | none => true) &&
 (List.range ds.length).all (fun i => match ops[i]?, ds[i]? with
  | some o, some x => o.dst == x && (match x with | some d => decide (d < n) | none => true) && (match o.guard with | none => true | some (j, _) => i != p && (match ds[j]? with | some (some _) => true | _ => false) && o.after.any (fun e => Region.binds .any e && e.on == j))
  | _, _ => false) &&
 (List.range hs.length).all (fun i => i == p || (match hs[i]? with | some (.own _) => false | _ => true)) &&
 (match lk with | none => true | some j => j != p && waits ops p j && (match ds[p]? with | some none => true | _ => false) && (match ds[j]? with | some (some _) => true | _ => false))
theorem draw_G {P : Program} {id : Nat} {ops : Array Oper} {Q : Exit → Act → World → Prop} {a0 : Act} {w0 : World} (R : World → World → Prop) (G : World → Prop) (p : Nat) (lk : Option Nat) (ds : List (Option Nat)) (hs : List Hg) {n : Nat}
  (hm : P.follows .mixedOrders = true) (hlen : ops.size = ds.length) (hlh : hs.length = ds.length) (hnd : nodO ds = true) (hn : a0.tmps.size = n) (hcl : closedG ops n p lk ds hs = true)
  (hG0 : ∀ w, Below w0.heap.size w0 w → G w) (hG1 : ∀ w w', G w → Below w.heap.size w w' → G w') (hG2 : ∀ w w', Below w0.heap.size w0 w → R w w' → G w')
  (hsu : ∀ q w w' v, .such q ∈ hs → Below w0.heap.size w0 w → R w w' → (∀ W, Below w.heap.size w W → q W v) → ∀ W, Below w'.heap.size w' W → q W v)
  (hstep : GStps ops a0 w0 R G p lk P ds hs Q 0 ops.toList ds hs)
  (hfin : ∀ vs w', AllHg w' hs vs → G w' → (∀ j, lk = some j → vs[p]? = vs[j]?) → ∀ a, a = putsO a0 ds vs → Q .normal a w') :
  (Code.region id ops true).wp P Q a0 w0 := by
 unfold closedG at hcl
 simp only [Bool.and_eq_true] at hcl
 obtain ⟨⟨⟨hord, hall⟩, hown⟩, hlk⟩ := hcl
 have point : ∀ (i : Nat) (o : Oper) (x : Option Nat), ops[i]? = some o → ds[i]? = some x → o.dst = x ∧ (∀ d, x = some d → d < n) ∧ ∀ j b, o.guard = some (j, b) → i ≠ p ∧ (∃ dj, ds[j]? = some (some dj)) ∧ o.after.any (fun e => Region.binds .any e && e.on == j) = true := by
  intro i o x ho hd
  have h := List.all_eq_true.1 hall i (List.mem_range.2 (List.getElem?_eq_some_iff.1 hd).1)
  rw [ho, hd] at h
  simp only [Bool.and_eq_true, beq_iff_eq] at h
  refine ⟨h.1.1, fun d e => ?_, fun j b hg => ?_⟩
  ·have h2 := h.1.2
   rw [e] at h2
   simpa using h2
  ·have h2 := h.2
   rw [hg] at h2
   simp only [Bool.and_eq_true, bne_iff_ne] at h2
   refine ⟨h2.1.1, ?_, h2.2⟩
   have h3 := h2.1.2
   split at h3
   ·rename_i d e; exact ⟨d, e⟩
   ·cases h3
 have hlk2 : ∀ j, lk = some j → j ≠ p ∧ waits ops p j = true ∧ ds[p]? = some none ∧ ∃ d, ds[j]? = some (some d) := by
  intro j hj
  subst hj
  simp only [Bool.and_eq_true, bne_iff_ne] at hlk
  refine ⟨hlk.1.1.1, hlk.1.1.2, ?_, ?_⟩
  ·have h3 := hlk.1.2
   split at h3
   ·assumption
   ·cases h3
  ·have h3 := hlk.2
   split at h3
   ·rename_i d e; exact ⟨d, e⟩
   ·cases h3
 refine drawG_region R G p lk ds (hg hs) hm hlen hnd (fun i d hd => ?_) (fun i x hd => ?_) hord hG0 hG1 hG2 (fun j hj => ⟨(hlk2 j hj).1, (hlk2 j hj).2.1⟩) (fun i w w' v hb h => ?_) (fun i w w' v hip hbw hb h => ?_) (fun i o x ho hd hip => ?_) (fun o x ho hd => ?_) (fun vs w' h1 hv hb hl => hfin vs w' (allHg (h1.trans hlh.symm) hv) hb (fun j hj => hl j hj (hlk2 j hj).2.2.1 (hlk2 j hj).2.2.2) _ rfl)
 ·have hi := (List.getElem?_eq_some_iff.1 hd).1
  rw [hn]
  exact (point i _ _ (Array.getElem?_eq_getElem (by omega)) hd).2.1 d rfl
 ·have hi := (List.getElem?_eq_some_iff.1 hd).1
  have ho : ops[i]? = some (ops[i]'(by omega)) := Array.getElem?_eq_getElem _
  exact ⟨_, ho, (point i _ x ho hd).1⟩
 ·unfold hg at h ⊢
  split at h
  ·exact Hg.below hb h
  ·trivial
 ·unfold hg at h ⊢
  split at h
  ·rename_i h0 he
   cases h0 with
   | is v0 => exact h
   | such q => exact hsu q w w' v (List.mem_of_getElem? he) hbw hb h
   | own q =>
    exfalso
    have h3 := List.all_eq_true.1 hown i (List.mem_range.2 (List.getElem?_eq_some_iff.1 he).1)
    rw [he] at h3
    simp at h3
    exact hip h3
   | non => trivial
  ·trivial
 ·obtain ⟨h, e, hh⟩ := hstep.at i o x (by rw [Array.getElem?_toList]; exact ho) hd
  rw [Nat.zero_add] at hh
  have run : ∀ v w', h.ok w' v → Pg.hg hs i w' v := fun v w' hv => by unfold Pg.hg; rw [e]; exact hv
  unfold GStp at hh
  cases hg : o.guard with
  | none =>
   left
   refine ⟨rfl, fun a w hA K hK => ?_⟩
   unfold gwayG at hh
   rw [hg] at hh
   exact hh a w hA K (fun v w' hv hb => hK v w' (run v w' hv) (by rw [if_neg hip] at hb; exact hb))
  | some jb =>
   obtain ⟨j, b⟩ := jb
   right
   obtain ⟨_, ⟨dj, hj⟩, hdep⟩ := (point i o x ho hd).2.2 j b hg
   refine ⟨j, b, dj, rfl, hj, hdep, ?_⟩
   unfold gwayG at hh
   rw [hg] at hh
   simp only at hh
   cases hsj : hs[j]? with
   | none => rw [hsj] at hh; exact hh.elim
   | some hj' =>
    rw [hsj] at hh
    cases hj' with
    | such q => exact hh.elim
    | own q => exact hh.elim
    | non => exact hh.elim
    | is v0 =>
     cases v0 with
     | bool c =>
      simp only at hh
      have hval : ∀ w v, Pg.hg hs j w v → v = .bool c := fun w v hv => by unfold Pg.hg at hv; rw [hsj] at hv; exact hv
      cases hcb : (c == b) with
      | true =>
       rw [hcb] at hh
       left
       refine ⟨fun w v hv => by rw [hval w v hv, eq_of_beq hcb], fun a w hA K hK => hh a w hA K (fun v w' hv hb => hK v w' (run v w' hv) (by rw [if_neg hip] at hb; exact hb))⟩
      | false =>
       rw [hcb] at hh
       right
       refine ⟨⟨.bool c, (fun e => by injection e with e; subst e; simp at hcb), hval⟩, fun w => run _ _ ?_⟩
       have hu : h = .is undef := hh
       rw [hu]
       exact rfl
     | tuple ts =>
      simp only at hh
      right
      refine ⟨⟨.tuple ts, (fun e => by cases e), (fun w v hv => by unfold Pg.hg at hv; rw [hsj] at hv; exact hv)⟩, fun w => run _ _ ?_⟩
      have hu : h = .is undef := hh
      rw [hu]
      exact rfl
     | _ => exact hh.elim
 ·obtain ⟨h, e, hh⟩ := hstep.at p o x (by rw [Array.getElem?_toList]; exact ho) hd
  rw [Nat.zero_add] at hh
  have hg0 : o.guard = none := by
   cases hg : o.guard with
   | none => rfl
   | some jb => exact absurd rfl ((point p o x ho hd).2.2 jb.1 jb.2 hg).1
  refine ⟨hg0, fun a w hA K hK => ?_⟩
  unfold GStp gwayG at hh
  rw [hg0] at hh
  exact hh a w hA K (fun v w' hv hb => by rw [if_pos rfl] at hb; exact hK v w' (by unfold Pg.hg; rw [e]; exact hv) hb.1 hb.2)
end Pg
namespace Pg
open Go Go.RowKit
def FreshAt (w0 : World) (T : TypeId) (n : Nat) (W : World) (v : Value) : Prop := ∃ g cs, v = .pointer (some ⟨g, 0, none⟩) ∧ w0.heap.size ≤ g ∧ Bs W g T cs ∧ (noU cs ∧ noT cs) ∧ cs.length = n
def FreshR (w0 : World) (T : TypeId) (n : Nat) (W W' : World) : Prop := ∃ g cs ds, w0.heap.size ≤ g ∧ Bs W g T cs ∧ (noU cs ∧ noT cs) ∧ cs.length = n ∧ Bs W' g T ds ∧ (noU ds ∧ noT ds) ∧ ds.length = n ∧ W.grownBy W' (some g)
theorem FreshAt.below {w0 W W' : World} {T : TypeId} {n : Nat} {v : Value} (h : FreshAt w0 T n W v) (hb : Below W.heap.size W W') : FreshAt w0 T n W' v := by
 obtain ⟨g, cs, e, h1, h2, h3⟩ := h
 exact ⟨g, cs, e, h1, h2.below hb, h3⟩
theorem FreshAt.after {w0 W W' : World} {T : TypeId} {n : Nat} {v : Value} (h : FreshAt w0 T n W v) (r : FreshR w0 T n W W') : FreshAt w0 T n W' v := by
 obtain ⟨g, cs, e, h1, h2, h3, h4⟩ := h
 obtain ⟨g', cs', ds, r1, r2, r3, r4, r5, r6, r7, r8⟩ := r
 by_cases hg : g = g'
 ·subst hg; exact ⟨g, ds, e, h1, r5, r6, r7⟩
 ·exact ⟨g, cs, e, h1, h2.grown r8 (fun e => hg (by injection e)), h3, h4⟩
theorem FreshR.rows {w0 W W' : World} {T : TypeId} {n : Nat} {y : RV} {r : RW} (h : FreshR w0 T n W W') (hy : y.at W r) : y.at W' r := by
 obtain ⟨g', cs', ds, r1, r2, r3, r4, r5, r6, r7, r8⟩ := h
 exact RowsAt.kept hy r2 r3.1 r8
def CV (w : World) (T : Option Addr) (n m : Nat) (y : RV) (c : CW) : Prop := SlAt 4 TermAt w T n m c.t ∧ y.at w c.r
theorem CV.below {w w' : World} {T : Option Addr} {n m : Nat} {y : RV} {c : CW} (h : CV w T n m y c) (hb : Below w.heap.size w w') : CV w' T n m y c := ⟨h.1.below termAt_stays hb, h.2.below hb⟩
theorem CV.val {w : World} {T : Option Addr} {n m : Nat} {y : RV} {c : CW} (h : CV w T n m y c) : ConVal w (.agg #[.int .i64 c.s, .slice T n m, .bool y.s, .slice y.A y.n y.c, .slice y.A' y.n' y.c']) c := ⟨_, _, _, _, _, _, rfl, h.1, h.2⟩
theorem ConVal.cv {w : World} {v : Value} {c : CW} (h : ConVal w v c) : ∃ (T : Option Addr) (n m : Nat) (y : RV), v = .agg #[.int .i64 c.s, .slice T n m, .bool y.s, .slice y.A y.n y.c, .slice y.A' y.n' y.c'] ∧ CV w T n m y c := by
 obtain ⟨T, n, m, v0, v1, v2, rfl, h1, h2⟩ := h
 obtain ⟨y, rfl, rfl, rfl, hy⟩ := rows_rv h2
 exact ⟨T, n, m, y, rfl, h1, hy⟩
theorem CV.kept {w w' : World} {T : Option Addr} {n m : Nat} {y : RV} {c : CW} {g : Nat} {t : TypeId} {cs : List Value} (h : CV w T n m y c) (hB : Bs w g t cs) (hu : noU cs) (ht : noT cs) (hk : w.grownBy w' (some g)) : CV w' T n m y c := by
 obtain ⟨T', n', m', y', e, h'⟩ := (ConVal.kept h.val hB hu ht hk).cv
 injection e with e
 simp only [Array.mk.injEq, List.cons.injEq, Value.slice.injEq, Value.bool.injEq, true_and, and_true] at e
 obtain ⟨⟨rfl, rfl, rfl⟩, e1, ⟨e2, e3, e4⟩, e5, e6, e7⟩ := e
 have : y = y' := by cases y; cases y'; simp only at *; subst_vars; rfl
 subst this
 exact h'
theorem FreshR.cv {w0 W W' : World} {T0 : TypeId} {k : Nat} {T : Option Addr} {n m : Nat} {y : RV} {c : CW} (h : FreshR w0 T0 k W W') (hc : CV W T n m y c) : CV W' T n m y c := by
 obtain ⟨g', cs', ds, r1, r2, r3, r4, r5, r6, r7, r8⟩ := h
 exact hc.kept r2 r3.1 r3.2 r8
theorem noT_rat {b : Bool} {B C : Option Addr} {n' c' n2 c2 : Nat} : noT [.bool b, .slice B n' c', .slice C n2 c2] := by
 intro i k m d h1 h2
 match i with
 | 0 => simp at h1
 | 1 => simp at h1
 | 2 => simp at h1
 | i + 3 => simp at h1
theorem FreshR.bel {w0 W W' : World} {T : TypeId} {n : Nat} (hb : Below w0.heap.size w0 W) (h : FreshR w0 T n W W') : Below w0.heap.size w0 W' := by
 obtain ⟨g', cs', ds, r1, r2, r3, r4, r5, r6, r7, r8⟩ := h
 exact hb.trans (Below.kept r8 r1 hb.size)
theorem len3 {cs : List Value} (h : cs.length = 3) : ∃ a b c, cs = [a, b, c] := by
 match cs, h with
 | [a, b, c], _ => exact ⟨a, b, c, rfl⟩
theorem len5 {cs : List Value} (h : cs.length = 5) : ∃ a b c d e, cs = [a, b, c, d, e] := by
 match cs, h with
 | [a, b, c, d, e], _ => exact ⟨a, b, c, d, e, rfl⟩
end Pg
