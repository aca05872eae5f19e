/- Walks. Conditions: those that each theorem names. -/
import Derived.Test.YtahdlpkncemmaaaGreatY39
import Derived.Test.YtahdlpkncemmaaaGreatY31
import Derived.Maps.AppendAt
set_option maxRecDepth 100000
set_option maxHeartbeats 8000000
set_option linter.unusedSimpArgs false
set_option linter.unusedVariables false
namespace Pg
open Go Go.RowKit
mutual
def PT.names : PT → List (List UInt8)
 | .mk k _ s kids => (if k = 2 then [s] else []) ++ PT.namess kids
def PT.namess : List PT → List (List UInt8)
 | [] => []
 | e :: l => PT.names e ++ PT.namess l
end
theorem PT.namess_take {l : List PT} {k : Nat} {x : PT} (h : l[k]? = some x) : PT.namess (l.take (k + 1)) = PT.namess (l.take k) ++ x.names := by
 induction l generalizing k with
 | nil => simp at h
 | cons e l ih =>
  cases k with
  | zero =>
   simp at h; subst h
   simp [PT.namess]
  | succ k =>
   rw [List.getElem?_cons_succ] at h
   rw [List.take_succ_cons, List.take_succ_cons]
   unfold PT.namess
   rw [ih h, List.append_assoc]
mutual
theorem PT.names_len : ∀ t : PT, t.names.length ≤ t.wt ∧ ∀ s ∈ t.names, s.length ≤ t.wt
 | .mk k r s kids => by
  have h := PT.namess_len kids
  unfold PT.names PT.wt
  refine ⟨?_, fun x hx => ?_⟩
  ·rw [List.length_append]
   have : (if k = 2 then [s] else []).length ≤ 1 := by split <;> simp
   omega
  ·rcases List.mem_append.1 hx with hx | hx
   ·split at hx
    ·simp at hx; subst hx; omega
    ·simp at hx
   ·have := h.2 x hx; omega
theorem PT.namess_len : ∀ l : List PT, (PT.namess l).length ≤ PT.wts l ∧ ∀ s ∈ PT.namess l, s.length ≤ PT.wts l
 | [] => ⟨Nat.zero_le _, fun s h => by simp [PT.namess] at h⟩
 | e :: l => by
  have h1 := PT.names_len e
  have h2 := PT.namess_len l
  unfold PT.namess PT.wts
  refine ⟨by rw [List.length_append]; omega, fun x hx => ?_⟩
  rcases List.mem_append.1 hx with hx | hx
  ·have := h1.2 x hx; omega
  ·have := h2.2 x hx; omega
end
theorem PT.wts_get {l : List PT} {k : Nat} {x : PT} (h : l[k]? = some x) : x.wt ≤ PT.wts l := by
 induction l generalizing k with
 | nil => simp at h
 | cons e l ih =>
  cases k with
  | zero => simp at h; subst h; unfold PT.wts; omega
  | succ k =>
   rw [List.getElem?_cons_succ] at h
   have := ih h
   unfold PT.wts; omega
theorem PT.wts_take_le : ∀ (l : List PT) (j : Nat), PT.wts (l.take j) ≤ PT.wts l
 | [], j => by simp [PT.wts]
 | e :: l, 0 => by simp [PT.wts]
 | e :: l, j + 1 => by
  rw [List.take_succ_cons]
  unfold PT.wts
  have := PT.wts_take_le l j
  omega
theorem PT.namess_sub : ∀ (l : List PT) (j : Nat) (s : List UInt8), s ∈ PT.namess (l.take j) → s ∈ PT.namess l
 | [], j, s, h => by simpa using h
 | e :: l, 0, s, h => by simp [PT.namess] at h
 | e :: l, j + 1, s, h => by
  rw [List.take_succ_cons] at h
  unfold PT.namess at h ⊢
  rcases List.mem_append.1 h with h | h
  ·exact List.mem_append_left _ h
  ·exact List.mem_append_right _ (PT.namess_sub l j s h)
end Pg
namespace Go.Proofs.YtahdlpkncemmaaaGreat
open Go.RowKit Pg
theorem Has5_C {A : Option Addr} {n c : Nat} {l : List (List UInt8)} (w : World) (s : List UInt8) (h : SlAt 1 NameAt w A n c l) :
  Calls Tryz.prog 32 #[.slice A n c, .string (str s)] w fun e w' => e = .returned (.bool (decide (s ∈ l))) ∧ Below w.heap.size w w' := by
 have HS := hid h
 have hn := h.2.2.1
 clear h
 go_enter Tryz.func32, Tryz.ntmps32
 go_wp2_with fail
 go_loopw [5] (fun i wr => ∃ j : Nat, j ≤ n ∧ i = .int .i64 (j : Int) ∧ Hid (∀ i, i < j → l[i]? ≠ some s) ∧ Below w.heap.size w wr) (fun i _ => n - (intOf i).toNat)
 case atStart => exact ⟨0, Nat.zero_le _, rfl, hid (fun i hi => absurd hi (by omega)), Below.refl _ _⟩
 case round =>
  obtain ⟨j, hj, rfl, HN, hb⟩ := hrel
  by_cases hlt : j < n
  ·obtain ⟨e1, _, _, _, _, e6⟩ := HS.out
   obtain ⟨b', o', rfl, hbl, hx'⟩ := e6 (by omega)
   obtain ⟨t, ht⟩ : ∃ t, l[j]? = some t := ⟨l[j]'(by omega), List.getElem?_eq_getElem _⟩
   obtain ⟨hca, _⟩ := nameAt_stays _ _ _ _ _ hbl (hx' j t ht) hb
   have c0 : wr.cell? ⟨b', o' + j, none⟩ = some (.string (str t)) := by have := hca.at_ 0 (v := .string (str t)) rfl; rwa [Nat.mul_one] at this
   have HT := hid ht
   clear e1 e6 hx' ht hca
   by_cases hs : t = s
   ·subst hs
    have HM := hid (decide_eq_true (List.mem_of_getElem? HT.out))
    go_wp2_with fail
    go_ret
    exact ⟨by rw [HM.out]; rfl, hb⟩
   ·have h1 := str_beq hs
    have HD := hid hs
    clear hs
    go_wp2_with fail
    refine ⟨⟨j + 1, hlt, by go_num, hid (fun i hi => ?_), hb⟩, ?_⟩
    ·rcases Nat.lt_or_ge i j with h | h
     ·exact HN.out i h
     ·obtain rfl : i = j := by omega
      rw [HT.out]
      exact fun e => HD.out (by injection e)
    ·simp [intOf]; omega
  ·obtain rfl : j = n := by omega
   go_wp2_with fail
   go_ret
   have hm : s ∉ l := fun hm => by
    obtain ⟨i, hi⟩ := List.getElem?_of_mem hm
    exact HN.out i (by rw [← HS.out.1]; exact (List.getElem?_eq_some_iff.1 hi).1) hi
   exact ⟨by rw [decide_eq_false hm]; rfl, hb⟩
def stc (s : List UInt8) : List Value := [.string (str s)]
theorem slName_of_own {w : World} {base : Nat} {e : TypeId} {v : Value} {us : List (List UInt8)} (hb : us.length ≤ 140737488355328) (hl : ∀ s ∈ us, s.length ≤ 140737488355328) (h : w.ownsRow base e 1 v us.length (us.flatMap stc)) : ∃ A c, v = .slice A us.length c ∧ SlAt 1 NameAt w A us.length c us := by
 rcases own_cells (f := stc) (fun _ => rfl) rfl h with ⟨rfl, rfl⟩ | ⟨g, cap, rfl, _, hg, hc, hm, hx⟩
 ·exact ⟨none, 0, rfl, rfl, Nat.le_refl _, by simp, by omega, fun _ => rfl, fun h => absurd h (by simp)⟩
 ·refine ⟨_, cap, rfl, rfl, hc, hb, by unfold maxLen at hm; omega, (fun e => by cases e), fun _ => ⟨g, 0, rfl, hg, fun j t ht => ⟨hx j t ht, hl t (List.mem_of_getElem? ht)⟩⟩⟩
theorem wpList_append_names {P : Program} {w : World} {ops : Array Oper} {rest : List Oper} {o : Oper} {a : Act} {Q : Exit → Act → World → Prop} (hgd : o.guard = none) (s x : Operand) (t : TypeId)
  (ho : o.op = .call { callee := .builtin .append, args := #[s, x], argTypes := #[t, t] })
  (base : Nat) (e : TypeId) (sz bytes : Nat) (z : Value) (ht : P.underlying t = some (.slice e)) (hinf : (P.info? e).map (fun i => (i.zero, i.size, i.bytes)) = some (some z, sz, bytes)) (hzs : z.cells.size = sz) (hsz : 0 < sz)
  (v : Value) (n : Nat) (xs : List Value) (hs : a.eval s = v) (hown : w.ownsRow base e sz v n xs)
  (ad : Addr) (m c : Nat) (news : List Value) (hx : a.eval x = .slice (some ad) m c) (hl : news.length = m * sz) (hnews : ∀ j u, news[j]? = some u → w.cell? (ad.add j) = some u) (h1 : ∀ u ∈ news, u.oneCell' = true)
  (h63 : n + m ≤ maxLen) (hbytes : (n + m) * bytes ≤ 140737488355328) (hbase : base ≤ w.heap.size)
  (h : ∀ v' w', w'.ownsRow base e sz v' (n + m) (xs ++ news) → w.grownBy w' v.ownBlock → (v'.ownBlock = v.ownBlock ∨ v'.ownBlock = some w.heap.size) → wpList P ops Q rest (a.put o.dst v') w') : wpList P ops Q (o :: rest) a w := by
 obtain ⟨i, hi, hz, hsz', hby⟩ := info_parts hinf
 exact wpList_append_own_at w hgd s x t ho base e i z sz bytes ht hi hz hsz' hby hzs hsz v n xs hs hown ad m c news hx hl hnews h1 h63 hbytes hbase fun v' w' h1 h2 _ h3 => h v' w' h1 h2 h3
theorem infoStr : (Tryz.prog.info? 9).map (fun i => (i.zero, i.size, i.bytes)) = some (some (.string ⟨#[]⟩), 1, 16) := by kernel_rfl
theorem below_own {w w' : World} {base B : Nat} {e : TypeId} {sz n : Nat} {v : Value} {xs : List Value} (h : w.ownsRow base e sz v n xs) (hk : w.grownBy w' v.ownBlock) (hB : B ≤ base) (hs : B ≤ w.heap.size) : Below B w w' :=
 ⟨hk.os, hk.tape, hk.output, hk.size, fun i hi => hk.block i (by omega) fun e => by have := (h.lt i e.symm).1; omega⟩
theorem ownsRow_base {w : World} {base base' : Nat} {e : TypeId} {sz n : Nat} {v : Value} {xs : List Value} (h : w.ownsRow base e sz v n xs) (hb : base' ≤ base) : w.ownsRow base' e sz v n xs := by
 obtain ⟨h1, h2 | ⟨g, cap, cur, e1, e2, e3⟩⟩ := h
 ·exact ⟨h1, .inl h2⟩
 ·exact ⟨h1, .inr ⟨g, cap, cur, e1, Nat.le_trans hb e2, e3⟩⟩
def NamesRet (w : World) (t : PT) (e : Ending) (w' : World) : Prop := ∃ (v : Value) (us : List (List UInt8)), e = .returned v ∧ w'.ownsRow w.heap.size 9 1 v us.length (us.flatMap stc) ∧ (∀ s, s ∈ us ↔ s ∈ t.names) ∧ us.length ≤ t.names.length ∧ Below w.heap.size w w'
theorem apart_of {w : World} {base g : Nat} {e : TypeId} {sz n : Nat} {v : Value} {xs : List Value} (h : w.ownsRow base e sz v n xs) (hg : g < base) : some g ≠ v.ownBlock := fun e => by
 have := (h.lt g e.symm).1; omega
structure TwoRows (w : World) (base : Nat) (L M : Value) (us ms : List (List UInt8)) : Prop where
 own : w.ownsRow base 9 1 L us.length (us.flatMap stc)
 row : w.ownsRow base 9 1 M ms.length (ms.flatMap stc)
 ne : L.ownBlock = none ∨ L.ownBlock ≠ M.ownBlock
theorem TwoRows.below {w w' : World} {base : Nat} {L M : Value} {us ms : List (List UInt8)} (h : TwoRows w base L M us ms) (hb : Below w.heap.size w w') : TwoRows w' base L M us ms :=
 ⟨h.own.kept (grown_of hb none) (by cases hv : L.ownBlock <;> simp), h.row.kept (grown_of hb none) (by cases hv : M.ownBlock <;> simp), h.ne⟩
theorem TwoRows.more {w w' : World} {base : Nat} {L L' M : Value} {us ms : List (List UInt8)} {s : List UInt8} (h : TwoRows w base L M us ms) (h1 : w'.ownsRow base 9 1 L' (us.length + 1) (us.flatMap stc ++ [.string (str s)])) (h2 : w.grownBy w' L.ownBlock) (h3 : L'.ownBlock = L.ownBlock ∨ L'.ownBlock = some w.heap.size) : TwoRows w' base L' M (us ++ [s]) ms := by
 have hM : M.ownBlock = none ∨ M.ownBlock ≠ L.ownBlock := by
  cases hm : M.ownBlock with
  | none => exact .inl rfl
  | some g =>
   rcases h.ne with e | e
   ·rw [e]; simp
   ·rw [hm] at e; exact .inr fun e' => e e'.symm
 refine ⟨by rw [List.length_append, List.flatMap_append, List.flatMap_singleton]; exact h1, h.row.kept h2 hM, ?_⟩
 rcases h3 with e | e
 ·rw [e]; exact h.ne
 ·rw [e]
  refine .inr fun e' => ?_
  have := (h.row.lt _ e'.symm).2
  omega
theorem Names5_C : ∀ (m : Nat) (t : PT), SizeOf.sizeOf t ≤ m → t.wt ≤ 1000000 → ∀ (v : Value) (w : World), PT.Val w v t →
  Calls Tryz.prog 31 #[v] w (NamesRet w t) := by
 intro m
 induction m with
 | zero => intro t ht; cases t; simp at ht
 | succ m ih =>
  intro t ht hwt v w hv
  match t, ht, hwt, hv with
  | .mk k r name kids, ht, hwt, hv =>
  obtain ⟨v0, v1, v2, K, kc, rfl, hr, hnm, hkc, hk47, hA⟩ := hv
  obtain ⟨A, n, c, A', n', c', rfl, rfl, rfl, _, _, l1, l2⟩ := hr
  have hw0 : PT.wts kids ≤ 1000000 := by unfold PT.wt at hwt; omega
  have HL := hid (And.intro (PT.namess_len kids).1 hw0)
  have HW := hid fun (j : Nat) (x : PT) (h : kids[j]? = some x) => Nat.le_trans (PT.wts_get h) hw0
  have HNL := hid (PT.names_len (.mk k r name kids)).2
  have HWt := hid hwt
  obtain ⟨N, hN⟩ : ∃ N, kids.length = N := ⟨_, rfl⟩
  rw [hN] at hkc hk47 hA ⊢
  have HB := hid (B6n.newg w 27 (.int .i64 k) (.bool r.s) (.slice A n c) (.slice A' n' c') (.string (str name)) (.slice K N kc) _ rfl)
  have HN := hid hN
  have HSz := hid ht
  clear hN ht hwt hw0
  go_enter Tryz.func31, Tryz.ntmps31
  go_upto_region 2 with fail
  refine wp_world (F := fun W => B6n W w.heap.size 27 (.int .i64 k) (.bool r.s) (.slice A n c) (.slice A' n' c') (.string (str name)) (.slice K N kc) ∧ Below w.heap.size w W) ⟨HB.out, Pg.bel⟩ ?_
  rintro w1 ⟨HB1, hb1⟩
  obtain ⟨k0, k1, k2, k3, k4, k5⟩ := HB1.cells
  have hs1 : w.heap.size + 1 ≤ w1.heap.size := HB1.lt
  replace HB1 := hid HB1
  obtain ⟨P0, hP0⟩ : ∃ P0, (if k = 2 then [name] else []) = P0 := ⟨_, rfl⟩
  have HP := hid hP0
  obtain ⟨E, hE⟩ : ∃ E, (k == 2) = E := ⟨_, rfl⟩
  have HE := hid hE
  have hst : Below w.heap.size w w1 ∧ w.heap.size + 1 ≤ w1.heap.size := ⟨hb1, hs1⟩
  clear hP0 hb1
  rcases E with _ | _
  all_goals first
   | (
     have hp : P0 = [] := by rw [← HP.out, if_neg (by simpa using HE.out)]
     have hO := hid (show w1.ownsRow (w.heap.size + 1) 9 1 (.slice none 0 0) P0.length (P0.flatMap stc) from by rw [hp]; exact World.ownsRow_nil _ _ _ _)
     have hbS := hst.1
     have HBS := hid HB1.out
     clear hp HE HB1
     go_wp2_with fail
     clear hE hst k0 k1 k2 k3 k4 k5 hs1)
   | (
     have hp : P0 = [name] := by rw [← HP.out, if_pos (by simpa using HE.out)]
     clear HE
     go_wp2_with (at_builtin; refine wpList_append_names rfl _ _ 28 rfl (w.heap.size + 1) 9 1 16 _ Tryz.underlying28 infoStr rfl (by decide) (.slice none 0 0) 0 [] rfl (World.ownsRow_nil _ _ _ _) _ 1 _ [.string (str name)] rfl rfl (cell_one_new _ _ _) (fun u hu => by simp at hu; subst hu; rfl) (by simp only [maxLen]; omega) (by omega) (by simp; omega) ?_; intro L2 w2 hO2 hk2 _)
     have hO := hid (show w2.ownsRow (w.heap.size + 1) 9 1 L2 P0.length (P0.flatMap stc) from by rw [hp]; exact hO2)
     have hb2 := Below.then_ (Below.new_ (Below.refl _ _) _) (below_none hk2)
     have hbS := Below.then_ hst.1 hb2
     have HBS := hid (HB1.out.below hb2)
     clear hp HB1 hO2 hk2 hb2 hE hst k0 k1 k2 k3 k4 k5 hs1)
  all_goals (
   go_loopw [3, 4] (fun l i wr => ∃ (j : Nat) (us : List (List UInt8)) (L : Value), j ≤ N ∧ i = .int .i64 (j : Int) ∧ L = l ∧ Hid (wr.ownsRow (w.heap.size + 1) 9 1 L us.length (us.flatMap stc)) ∧ Hid ((∀ s, s ∈ us ↔ s ∈ P0 ++ PT.namess (kids.take j)) ∧ us.length ≤ (P0 ++ PT.namess (kids.take j)).length) ∧ Hid (B6n wr w.heap.size 27 (.int .i64 k) (.bool r.s) (.slice A n c) (.slice A' n' c') (.string (str name)) (.slice K N kc)) ∧ Below w.heap.size w wr) (fun _ i _ => N - (intOf i).toNat)
   case atStart => exact ⟨0, P0, _, Nat.zero_le _, rfl, rfl, hO, hid ⟨fun s => by simp [PT.namess], by simp [PT.namess]⟩, HBS, hbS⟩
   case round =>
    clear hO HBS hbS
    obtain ⟨j, us, L, hj, rfl, rfl, hO, hM, HX, hb⟩ := hrel
    obtain ⟨k0, k1, k2, k3, k4, k5⟩ := HX.out.cells
    by_cases hlt : j < N
    ·obtain ⟨b', o', rfl, hb', hkids⟩ := hA (by omega)
     obtain ⟨x, hx⟩ : ∃ x, kids[j]? = some x := ⟨kids[j]'(by rw [HN.out]; exact hlt), List.getElem?_eq_getElem _⟩
     have HI := hid (ih x (PT.size_kid8 hx HSz.out) (HW.out j x hx))
     obtain ⟨c0, c1, c2, c3, c4, c5, hca, hval⟩ := (PT.At.below hb x b' _ hb' (hkids.get j x hx)).val
     have c0' : wr.cell? ⟨b', o' + j * 6, none⟩ = some c0 := hca.at_ 0 rfl
     have c1' := hca.at_ 1 rfl
     have c2' := hca.at_ 2 rfl
     have c3' := hca.at_ 3 rfl
     have c4' := hca.at_ 4 rfl
     have c5' := hca.at_ 5 rfl
     have HO := hid hval
     have HXX := hid hx
     have hxw := PT.names_len x
     have hxw2 := HW.out j x hx
     have HQ := hid (And.intro hxw hxw2)
     have husl : us.length ≤ 1 + 1000000 := by
      have h1 := hM.out.2
      have h2 := (PT.namess_len (kids.take j)).1
      have h3 : PT.wts (kids.take j) ≤ PT.wts kids := PT.wts_take_le kids j
      have h4 := HL.out.2
      have h5 : P0.length ≤ 1 := by rw [← HP.out]; split <;> simp
      rw [List.length_append] at h1
      omega
     clear hca hval hkids hA ih hx hxw hxw2
     go_wp2_with (go_at_call 31; (with_reducible refine (HI.out _ _ HO.out).mono ?_); rintro e w2 ⟨M, ms, rfl, hOM, hMm, hMl, hb2⟩; obtain ⟨MA, mc, rfl, _⟩ := slName_of_own (by have := HQ.out.1.1; have := HQ.out.2; omega) (fun s hs => by have := HQ.out.1.2 s ((hMm s).1 hs); have := HQ.out.2; omega) hOM)
     have hms : ms.length ≤ 1000000 := by have := HQ.out.1.1; have := HQ.out.2; omega
     have HML := hid fun (s : List UInt8) (hs : s ∈ ms) => (show s.length ≤ 1000000 by have := HQ.out.1.2 s ((hMm s).1 hs); have := HQ.out.2; omega)
     have HUL := hid fun (s : List UInt8) (hs : s ∈ us) => (show s.length ≤ 1000000 by
      have h1 := (hM.out.1 s).1 hs
      refine Nat.le_trans (HNL.out s ?_) HWt.out
      unfold PT.names
      rcases List.mem_append.1 h1 with h1 | h1
      ·rw [HP.out]; exact List.mem_append_left _ h1
      ·exact List.mem_append_right _ (PT.namess_sub kids j s h1))
     have HX2 := hid (HX.out.below hb2)
     have hbw := Below.then_ hb hb2
     have hT : Hid (TwoRows w2 (w.heap.size + 1) L (.slice MA ms.length mc) us ms) := hid ⟨hO.out.kept (grown_of hb2 none) (by cases hv : L.ownBlock <;> simp), ownsRow_base hOM (by have := HX.out.lt; omega), by
      cases hv : L.ownBlock with
      | none => exact .inl rfl
      | some g =>
       refine .inr fun e => ?_
       have h1 := (hO.out.lt g hv).2
       have h2 := (hOM.lt g e.symm).1
       omega⟩
     have HMm := hid hMm
     have HMl := hid hMl
     clear c0' c1' c2' c3' c4' c5' k0 k1 k2 k3 k4 k5 hOM hMm hMl HI HO hb2 hb HX
     go_loopw [3, 6] (fun l p wr => ∃ (q : Nat) (vs : List (List UInt8)) (L : Value), q ≤ ms.length ∧ p = .int .i64 (q : Int) ∧ L = l ∧ Hid (TwoRows wr (w.heap.size + 1) L (.slice MA ms.length mc) vs ms) ∧ Hid ((∀ s, s ∈ vs ↔ s ∈ us ∨ s ∈ ms.take q) ∧ vs.length ≤ us.length + q) ∧ Hid (B6n wr w.heap.size 27 (.int .i64 k) (.bool r.s) (.slice A n c) (.slice A' n' c') (.string (str name)) (.slice (some ⟨b', o', none⟩) N kc)) ∧ Below w.heap.size w wr) (fun _ p _ => ms.length - (intOf p).toNat)
     case atStart => exact ⟨0, us, _, Nat.zero_le _, rfl, rfl, hT, hid ⟨fun s => by simp, Nat.le_refl _⟩, HX2, hbw⟩
     case round =>
      clear hT HX2 hbw
      obtain ⟨q, vs, L2, hq, rfl, rfl, hT, hV, HX, hb⟩ := hrel
      have hvl : vs.length ≤ 2000001 := by have := hV.out.2; omega
      have hvs : ∀ s ∈ vs, s.length ≤ 140737488355328 := fun s hs => by
       rcases (hV.out.1 s).1 hs with h | h
       ·have := HUL.out s h; omega
       ·have := HML.out s (List.mem_of_mem_take h); omega
      by_cases hqt : q < ms.length
      ·obtain ⟨s, hs⟩ : ∃ s, ms[q]? = some s := ⟨ms[q], List.getElem?_eq_getElem _⟩
       obtain ⟨MA', mc', eM, hSM⟩ := slName_of_own (by omega) (fun s hs => by have := HML.out s hs; omega) hT.out.row
       injection eM with e1 e2 e3
       subst e1 e3
       obtain ⟨_, _, _, _, _, e6⟩ := hSM
       obtain ⟨bm, om, rfl, hbm, hxm⟩ := e6 (by omega)
       obtain ⟨hcm, _⟩ := hxm q s hs
       have m0 : wr.cell? ⟨bm, om + q, none⟩ = some (.string (str s)) := by have := hcm.at_ 0 (v := .string (str s)) rfl; rwa [Nat.mul_one] at this
       obtain ⟨LA, lc, rfl, hSL⟩ := slName_of_own (by omega) hvs hT.out.own
       have HH := hid (Has5_C wr s hSL)
       have hi0 : (0 : Int) ≤ (q : Int) := Int.natCast_nonneg _
       have hi1 : (q : Int) < (ms.length : Int) := by omega
       obtain ⟨D, hD⟩ : ∃ D, decide (s ∈ vs) = D := ⟨_, rfl⟩
       rw [hD] at HH
       have HD := hid hD
       have HSq := hid hs
       have hbm' := hid fun (W : World) (hW : Below wr.heap.size wr W) => (show W.cell? ⟨bm, om + q, none⟩ = some (.string (str s)) from hW.cell hbm |>.trans m0)
       clear e6 hxm hcm hSL hs hD
       rcases D with _ | _
       ·go_wp2_with (first
         | (go_at_call 32; (with_reducible refine (HH.out).mono ?_); rintro e w3 ⟨rfl, hb3⟩; have m1 := hbm'.out _ hb3; have hT3 := hid (hT.out.below hb3); have hs3 : w.heap.size + 1 ≤ w3.heap.size := by { have := HX.out.lt; have := hb3.size; omega }; clear m0)
         | (at_builtin; refine wpList_append_names rfl _ _ 28 rfl (w.heap.size + 1) 9 1 16 _ Tryz.underlying28 infoStr rfl (by decide) (.slice LA vs.length lc) vs.length _ rfl (hT3.out.below (Below.new_ (Below.refl _ _) _)).own _ 1 _ [.string (str s)] rfl rfl (cell_one_new _ _ _) (fun u hu => by simp at hu; subst hu; rfl) (by simp only [maxLen]; omega) (by omega) (by simp; omega) ?_; intro L3 w4 hO4 hk4 hat4))
        have hxa := (HX.out.below hb3).alloc (.cells #[.string (str s)] 9)
        have ho3 := (hT3.out.below (Below.new_ (Below.refl _ _) (.cells #[.string (str s)] 9)))
        have hx4 := (hk4.block _ hxa.lt (apart_of ho3.own (by omega))).trans hxa
        have hb3a := (Below.then_ hb hb3).alloc (by omega) (.cells #[.string (str s)] 9)
        have hb4 := hb3a.trans (below_own ho3.own hk4 (by omega) (by simp; omega))
        refine ⟨⟨q + 1, vs ++ [s], L3, hqt, by go_num, rfl, hid (ho3.more hO4 hk4 hat4), hid ⟨fun u => ?_, by have := hV.out.2; rw [List.length_append]; simp; omega⟩, hid hx4, hb4⟩, ?_⟩
        ·rw [List.mem_append, hV.out.1 u, List.take_add_one, HSq.out, List.mem_append, or_assoc]
         simp
        ·simp [intOf]; omega
       ·go_wp2_with (go_at_call 32; (with_reducible refine (HH.out).mono ?_); rintro e w3 ⟨rfl, hb3⟩)
        have hin := of_decide_eq_true HD.out
        refine ⟨⟨q + 1, vs, _, hqt, by go_num, rfl, hid (hT.out.below hb3), hid ⟨fun u => ?_, by have := hV.out.2; omega⟩, hid (HX.out.below hb3), Below.then_ hb hb3⟩, ?_⟩
        ·rw [hV.out.1 u, List.take_add_one, HSq.out, List.mem_append, ← or_assoc]
         refine ⟨.inl, fun h => h.elim id fun h => ?_⟩
         simp at h
         subst h
         exact (hV.out.1 _).1 hin
        ·simp [intOf]; omega
      ·obtain rfl : q = ms.length := by omega
       obtain ⟨k0, k1, k2, k3, k4, k5⟩ := HX.out.cells
       go_wp2_with fail
       refine ⟨⟨j + 1, vs, L2, hlt, by go_num, rfl, hid hT.out.own, hid ⟨fun s => ?_, ?_⟩, HX, hb⟩, ?_⟩
       ·rw [PT.namess_take HXX.out, ← List.append_assoc, List.mem_append, hV.out.1 s, List.take_length, hM.out.1 s, HMm.out s]
       ·have h1 := hV.out.2
        have h2 := hM.out.2
        have h3 := HMl.out
        rw [PT.namess_take HXX.out, ← List.append_assoc, List.length_append]
        omega
       ·simp [intOf]; omega
    ·go_wp2_with fail
     go_ret
     obtain rfl : j = N := by omega
     have e1 : kids.take j = kids := List.take_of_length_le (by rw [HN.out]; omega)
     have h1 := hM.out
     rw [e1] at h1
     have e2 : (PT.mk k r name kids).names = P0 ++ PT.namess kids := by rw [← HP.out]; unfold PT.names; rfl
     exact ⟨L, us, rfl, ownsRow_base hO.out (by omega), fun s => by rw [e2]; exact h1.1 s, by rw [e2]; exact h1.2, hb⟩)
end Go.Proofs.YtahdlpkncemmaaaGreat
