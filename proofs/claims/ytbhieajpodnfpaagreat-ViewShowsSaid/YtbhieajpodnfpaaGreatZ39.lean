/- From the readings of a form and a document to what view reads, behind the law's tests · Walk: pantographlaw19.other. Conditions: those that each theorem names. -/
import Derived.Test.YtbhieajpodnfpaaGreatZ34
import Derived.Test.YtbhieajpodnfpaaGreatZ36
import Derived.Test.YtbhieajpodnfpaaGreatZ37
import Derived.Test.YtbhieajpodnfpaaGreatZ38
import Derived.Test.YtbhieajpodnfpaaGreatZ19
import Derived.Test.YtbhieajpodnfpaaGreatZ28
namespace Go.Proofs.YtbhieajpodnfpaaGreat
open Go.RowKit Pg
theorem SlAt.map_mem {α β : Type} {sz : Nat} {E : World → Nat → Nat → α → Prop} {E' : World → Nat → Nat → β → Prop} (f : α → β) {w : World} {A : Option Addr} {n c : Nat} {l : List α} (hE : ∀ b o x, x ∈ l → E w b o x → E' w b o (f x)) (h : SlAt sz E w A n c l) : SlAt sz E' w A n c (l.map f) := by
  obtain ⟨h1, h2, h3, h4, h5, h6⟩ := h
  refine ⟨by simp [h1], h2, h3, h4, h5, fun hn => ?_⟩
  obtain ⟨b, o, e, hb, hx⟩ := h6 hn
  refine ⟨b, o, e, hb, fun j x hj => ?_⟩
  rw [List.getElem?_map] at hj
  match hl : l[j]?, hj with
  | some y, hj =>
    simp at hj
    subst hj
    exact hE _ _ _ (List.mem_of_getElem? hl) (hx j y hl)
/-- What view reads of a form and a document. -/
def vdata (x : FormD) (y : DocD) : VData := ⟨x.pg.map (·.1), x.fl, x.ru.map (·.name), y.va.map (·.2), y.ou, y.pi.map (·.on), y.fi⟩
theorem vread_of {w : World} {x : FormD} {y : DocD} (hx : x.Ok w) (hy : y.Ok w) (hv : ∀ a ∈ y.va, a.1.n ≤ 3 ∧ a.1.n' ≤ 3) :
    VRead w x.GA x.FA x.RA y.VA y.UA y.QA y.LA x.gn x.gc x.fn x.fc x.rn x.rc y.vn y.vc y.un y.uc y.qn y.qc y.ln y.lc 3 (vdata x y) where
  pages := SlAt.map (·.1) pagAt_name hx.pg
  flds := hx.fl
  rules := SlAt.map (·.name) rulAt_name hx.ru
  vals := SlAt.map_mem (·.2) (fun b o a ha h => by
    obtain ⟨hc, xs, ys, h1, h2, _, _, h5⟩ := h
    obtain ⟨l1, l2⟩ := hv a ha
    exact ⟨_, _, _, _, _, _, _, xs, ys, hc, h1, h2, l1, l2, h5⟩) hy.va
  outs := hy.ou
  pins := SlAt.map (·.on) pnAt_on hy.pi
  filled := hy.fi
end Go.Proofs.YtbhieajpodnfpaaGreat
namespace Pg
open Go Go.RowKit
theorem wp_append_one {P : Program} (w : World) {o : Oper} {a : Act} {K : Act → World → Prop} {Q : Exit → Act → World → Prop} (s x : Operand) (t : TypeId)
    (ho : o.op = .call { callee := .builtin .append, args := #[s, x], argTypes := #[t, t] })
    (base : Nat) (e : TypeId) (sz bytes : Nat) (z : Value) (ht : P.underlying t = some (.slice e)) (hinf : (P.info? e).map (fun i => (i.zero, i.size, i.bytes)) = some (some z, sz, bytes)) (hzs : z.cells.size = sz) (hsz : 0 < sz)
    (v : Value) (n : Nat) (xs : List Value) (hs : a.eval s = v) (hown : w.ownsRow base e sz v n xs)
    (b c : Nat) (cs : List Value) (t2 : TypeId) (hx : a.eval x = .slice (some ⟨b, 0, none⟩) 1 c) (hl : cs.length = sz) (hc : w.heap[b]? = some (.cells cs.toArray t2 (0, 0))) (h1 : ∀ u ∈ cs, u.oneCell' = true) (hm : n + 1 ≤ maxLen) (hb : (n + 1) * bytes ≤ 140737488355328) (hbase : base ≤ w.heap.size)
    (h : ∀ v' w', w'.ownsRow base e sz v' (n + 1) (xs ++ cs) → w.grownBy w' v.ownBlock → K (a.put o.dst v') w') : o.wp P a w K Q := by
  obtain ⟨i, hi, hz, hsz', hby⟩ := info_parts hinf
  refine wp_append_own w s x t ho base e i z sz bytes ht hi hz hsz' hby hzs hsz v n xs hs hown ⟨b, 0, none⟩ 1 c cs hx (by rw [hl, Nat.one_mul]) (fun j u hu => ?_) h1 hm hb hbase
    (fun v' w' h1 h2 _ => h v' w' h1 h2)
  rw [Addr.add_lit, cell_of_row w b _ _ t2 (0, 0) hc]
  simpa using hu
theorem CellsAt.grown {w w' : World} {b o : Nat} {cs : List Value} {row : Option Nat} (h : CellsAt w b o cs) (hb : b < w.heap.size) (hw : w.grownBy w' row) (hne : some b ≠ row) : CellsAt w' b o cs :=
  fun j hj => (World.cell?_of_block (a := ⟨b, _, none⟩) (hw.block b hb hne)).trans (h j hj)
end Pg
namespace Go.Proofs.YtbhieajpodnfpaaGreat
open Go.RowKit Pg
theorem B6n.grown {w w' : World} {g : Nat} {t : TypeId} {v0 v1 v2 v3 v4 v5 : Value} {row : Option Nat} (h : B6n w g t v0 v1 v2 v3 v4 v5) (hw : w.grownBy w' row) (hne : some g ≠ row) : B6n w' g t v0 v1 v2 v3 v4 v5 := (hw.block g h.lt hne).trans h
theorem B6n.set4 {w : World} {g : Nat} {t : TypeId} {v0 v1 v2 v3 v4 v5 : Value} (h : B6n w g t v0 v1 v2 v3 v4 v5) (u : Value) : B6n (w.setCell ⟨g, 4, none⟩ u) g t v0 v1 v2 v3 u v5 := by
  have h1 := heap_setCell_same w g 4 _ t u h
  unfold B6n
  rw [h1]; rfl
theorem B6n.setOther {w : World} {g h : Nat} {t : TypeId} {v0 v1 v2 v3 v4 v5 : Value} (hB : B6n w g t v0 v1 v2 v3 v4 v5) (hne : g ≠ h) (o : Nat) (u : Value) : B6n (w.setCell ⟨h, o, none⟩ u) g t v0 v1 v2 v3 v4 v5 := by
  unfold B6n
  rw [heap_setCell_other _ ⟨h, o, none⟩ g u hne]
  exact hB
theorem B6n.frozen {w : World} {g : Nat} {t : TypeId} {v0 v1 v2 v3 v4 v5 : Value} (h : B6n w g t v0 v1 v2 v3 v4 v5) (o : Nat) : w.frozen? ⟨g, o, none⟩ = false := by
  unfold B6n at h
  simp [World.frozen?, h]
theorem B6n.setAll {w : World} {g : Nat} {t : TypeId} {v0 v1 v2 v3 v4 v5 : Value} (h : B6n w g t v0 v1 v2 v3 v4 v5) (u0 u1 u2 u3 u4 u5 : Value) : B6n ((((((w.setCell ⟨g, 0, none⟩ u0).setCell ⟨g, 1, none⟩ u1).setCell ⟨g, 2, none⟩ u2).setCell ⟨g, 3, none⟩ u3).setCell ⟨g, 4, none⟩ u4).setCell ⟨g, 5, none⟩ u5) g t u0 u1 u2 u3 u4 u5 := by
  have h1 := heap_setCell_same w g 0 _ t u0 h
  have h2 := heap_setCell_same _ g 1 _ t u1 h1
  have h3 := heap_setCell_same _ g 2 _ t u2 h2
  have h4 := heap_setCell_same _ g 3 _ t u3 h3
  have h5 := heap_setCell_same _ g 4 _ t u4 h4
  have h6 := heap_setCell_same _ g 5 _ t u5 h5
  unfold B6n
  rw [h6]; rfl
theorem own_set {w : World} {base : Nat} {e : TypeId} {sz : Nat} {v : Value} {n : Nat} {xs : List Value} (h : w.ownsRow base e sz v n xs) {g : Nat} (hg : g < base) (o : Nat) (u : Value) : (w.setCell ⟨g, o, none⟩ u).ownsRow base e sz v n xs := by
  refine h.kept (row := some g) ⟨rfl, rfl, rfl, by simp [World.setCell], fun k _ hne => heap_setCell_other w ⟨g, o, none⟩ k u (fun e => hne (by rw [e]))⟩ ?_
  match hv : v.ownBlock with
  | none => exact .inl rfl
  | some k => exact .inr (fun e => by have := (h.lt k hv).1; injection e with e; omega)
theorem own_slice {w : World} {base : Nat} {e : TypeId} {sz : Nat} {v : Value} {n : Nat} {xs : List Value} (h : w.ownsRow base e sz v n xs) : ∃ A c, v = .slice A n c := by
  rcases h.2 with ⟨rfl, rfl⟩ | ⟨g, cap, cur, rfl, _⟩
  · exact ⟨_, _, rfl⟩
  · exact ⟨_, _, rfl⟩
def pin5 (x : Pn) : List Value := [.bool x.on, .bool x.tells, .bool x.h.s, .slice x.h.A x.h.n x.h.c, .slice x.h.A' x.h.n' x.h.c']
theorem pin5_len (x : Pn) : (pin5 x).length = 5 := rfl
theorem pin5_one (x : Pn) : ∀ u ∈ pin5 x, u.oneCell' = true := by
  intro u hu
  simp [pin5] at hu
  rcases hu with rfl | rfl | rfl | rfl | rfl <;> rfl
theorem infoPin : (Tryz.prog.info? 73).map (fun i => (i.zero, i.size, i.bytes)) = some (some (.agg #[.bool false, .bool false, .bool false, .slice none 0 0, .slice none 0 0]), 5, 64) := by kernel_rfl
/-- A document's own: its pins lie anew. -/
def OtherRet (w : World) (PA OA VA UA LA : Option Addr) (pn pc on oc vn vc un uc ln lc qn : Nat) (pi : List Pn) (e : Ending) (w' : World) : Prop :=
  ∃ A c, e = .returned (.agg #[.slice PA pn pc, .slice OA on oc, .slice VA vn vc, .slice UA un uc, .slice A qn c, .slice LA ln lc]) ∧ SlAt 5 BoolAt w' A qn c (pi.map (·.on)) ∧ Below w.heap.size w w'
theorem pins_of_own {w : World} {base : Nat} {e : TypeId} {v : Value} {pi : List Pn} {n : Nat} (hn : pi.length = n) (hb : n ≤ 140737488355328) (h : w.ownsRow base e 5 v n (pi.flatMap pin5)) : ∃ A c, v = .slice A n c ∧ SlAt 5 BoolAt w A n c (pi.map (·.on)) := by
  rcases own_cells pin5_len hn h with ⟨rfl, rfl⟩ | ⟨g, cap, rfl, _, hg, hc, hm, hx⟩
  · simp at hn
    subst hn
    exact ⟨none, 0, rfl, rfl, Nat.le_refl _, by omega, by omega, fun _ => rfl, fun h => absurd h (by omega)⟩
  · refine ⟨_, cap, rfl, by simp [hn], hc, hb, by unfold maxLen at hm; omega, (fun e => by cases e), fun _ => ⟨g, 0, rfl, hg, fun j y hj => ?_⟩⟩
    rw [List.getElem?_map] at hj
    match hl : pi[j]?, hj with
    | some z, hj =>
      simp at hj
      subst hj
      exact CellsAt.take (hx j z hl) 1
set_option maxRecDepth 100000 in
set_option maxHeartbeats 8000000 in
theorem other_any (PA OA VA UA QA LA : Option Addr) (pn pc on oc vn vc un uc qn qc ln lc : Nat) (pi : List Pn) (w : World) (hP : SlAt 5 PnAt w QA qn qc pi) (hq : qn ≤ 1000) :
    Calls Tryz.prog 7 #[.agg #[.slice PA pn pc, .slice OA on oc, .slice VA vn vc, .slice UA un uc, .slice QA qn qc, .slice LA ln lc]] w (OtherRet w PA OA VA UA LA pn pc on oc vn vc un uc ln lc qn pi) := by
  have HX0 := hid (((B6n.newg w 35 (.slice PA pn pc) (.slice OA on oc) (.slice VA vn vc) (.slice UA un uc) (.slice QA qn qc) (.slice LA ln lc) _ rfl).alloc (.cells #[.slice none 0 0, .slice none 0 0, .slice none 0 0, .slice none 0 0, .slice none 0 0, .slice none 0 0] 40)).alloc (.cells #[.slice PA pn pc, .slice OA on oc, .slice VA vn vc, .slice UA un uc, .slice none 0 0, .slice LA ln lc] 40))
  have HY0 := hid ((B6n.newg (w.alloc (.cells #[.slice PA pn pc, .slice OA on oc, .slice VA vn vc, .slice UA un uc, .slice QA qn qc, .slice LA ln lc] 35)) 40 (.slice none 0 0) (.slice none 0 0) (.slice none 0 0) (.slice none 0 0) (.slice none 0 0) (.slice none 0 0) (w.heap.size + 1) (by simp)).alloc (.cells #[.slice PA pn pc, .slice OA on oc, .slice VA vn vc, .slice UA un uc, .slice none 0 0, .slice LA ln lc] 40))
  have HZ0 := hid (B6n.newg ((w.alloc (.cells #[.slice PA pn pc, .slice OA on oc, .slice VA vn vc, .slice UA un uc, .slice QA qn qc, .slice LA ln lc] 35)).alloc (.cells #[.slice none 0 0, .slice none 0 0, .slice none 0 0, .slice none 0 0, .slice none 0 0, .slice none 0 0] 40)) 40 (.slice PA pn pc) (.slice OA on oc) (.slice VA vn vc) (.slice UA un uc) (.slice none 0 0) (.slice LA ln lc) (w.heap.size + 2) (by simp))
  obtain ⟨k0, k1, k2, k3, k4, k5⟩ := (B6n.newg w 35 (.slice PA pn pc) (.slice OA on oc) (.slice VA vn vc) (.slice UA un uc) (.slice QA qn qc) (.slice LA ln lc) _ rfl).alloc (.cells #[.slice none 0 0, .slice none 0 0, .slice none 0 0, .slice none 0 0, .slice none 0 0, .slice none 0 0] 40) |>.cells
  have HPn := hid hP
  have HLen := hid hP.1
  clear hP
  go_enter Tryz.func7, Tryz.ntmps7
  go_wp2_with fail
  go_loopw [4] (fun i wr => ∃ (k : Nat) (s : Value), k ≤ qn ∧ i = .int .i64 k ∧ Hid (wr.ownsRow (w.heap.size + 3) 73 5 s k ((pi.take k).flatMap pin5)) ∧ Below w.heap.size w wr ∧ Hid (B6n wr w.heap.size 35 (.slice PA pn pc) (.slice OA on oc) (.slice VA vn vc) (.slice UA un uc) (.slice QA qn qc) (.slice LA ln lc)) ∧ Hid (B6n wr (w.heap.size + 1) 40 (.slice none 0 0) (.slice none 0 0) (.slice none 0 0) (.slice none 0 0) (.slice none 0 0) (.slice none 0 0)) ∧ Hid (B6n wr (w.heap.size + 2) 40 (.slice PA pn pc) (.slice OA on oc) (.slice VA vn vc) (.slice UA un uc) s (.slice LA ln lc))) (fun i _ => qn - (intOf i).toNat)
  case atStart => exact ⟨0, _, Nat.zero_le _, rfl, hid (World.ownsRow_nil _ _ _ _), (by repeat first | exact Below.refl _ _ | assumption | refine Pg.Below.then_ ?_ (by assumption) | refine Pg.Below.new_ ?_ _ | refine Pg.Below.drewN_ ?_ _), HX0, HY0, HZ0⟩
  case round =>
    obtain ⟨k, s, hk, rfl, HO, hb, HX, HY, HZ⟩ := hrel
    clear k0 k1 k2 k3 k4 k5 HX0 HY0 HZ0
    obtain ⟨k0, k1, k2, k3, k4, k5⟩ := HX.out.cells
    by_cases hlt : k < qn
    · obtain ⟨_, _, _, _, _, q6⟩ := HPn.out.below pnAt_stays hb
      obtain ⟨b', o', rfl, hb', hx'⟩ := q6 (by omega)
      obtain ⟨x, hx⟩ : ∃ x, pi[k]? = some x := ⟨pi[k]'(by rw [HLen.out]; exact hlt), List.getElem?_eq_getElem _⟩
      have HC := hid (hx' k x hx).1
      have HT := hid (take_succ_flat pin5 hx)
      have HB' := hid hb'
      have hbl' : b' < w.heap.size := by
        obtain ⟨_, _, _, _, _, g6⟩ := HPn.out
        obtain ⟨b2, o2, e, hb2, _⟩ := g6 (by omega)
        simp only [Option.some.injEq, Addr.mk.injEq] at e
        omega
      have hrx : some w.heap.size ≠ s.ownBlock := fun e => by have := (HO.out.lt _ e.symm).1; omega
      have hry : some (w.heap.size + 1) ≠ s.ownBlock := fun e => by have := (HO.out.lt _ e.symm).1; omega
      have hrz : some (w.heap.size + 2) ≠ s.ownBlock := fun e => by have := (HO.out.lt _ e.symm).1; omega
      have hrp : some b' ≠ s.ownBlock := fun e => by have := (HO.out.lt _ e.symm).1; omega
      have hsz3 : w.heap.size + 3 ≤ wr.heap.size := HZ.out.lt
      clear hx' q6 hx HPn k0 k1 k2 k3 k4 k5
      obtain ⟨k0, k1, k2, k3, k4, k5⟩ := HX.out.cells
      go_upto_region 5 with fail
      refine draw_app (s.ownBlock) 8 [23, 24, 25, 26, 27, 28, 29, 30, 31, 32] [.is (.pointer (some ⟨w.heap.size + 2, 4, none⟩)), .is s, .is (.pointer (some ⟨w.heap.size, 4, none⟩)), .is (.slice (some ⟨b', o', none⟩) qn qc), .is (.int .i64 (k : Int)), .is (.pointer (some ⟨b', o' + k * 5, none⟩)), .is (.agg #[.bool x.on, .bool x.tells, .bool x.h.s, .slice x.h.A x.h.n x.h.c, .slice x.h.A' x.h.n' x.h.c']), .fresh (pin5 x) 73, .own (fun W v => W.ownsRow (w.heap.size + 3) 73 5 v (k + 1) ((pi.take (k + 1)).flatMap pin5)), .is (.pointer (some ⟨w.heap.size + 2, 4, none⟩))]
        (by kernel_rfl) (by kernel_rfl) (by kernel_rfl) (by decide) (by decide) (by kernel_rfl) (by kernel_rfl) (by kernel_rfl) rfl (by rfl) (fun g hg => (HO.out.lt g hg).2) ?_ ?_
      · refine ⟨?_, ?_, ?_, ?_, ?_, ?_, ?_, ?_, ?_, ?_, trivial⟩
        · intro a w3 hA hbl K hK
          have t3 := hA.old 3 _ rfl rfl
          go_simp
          exact hK _ _ (by first | rfl | exact congrArg _ (by first | rfl | omega | (rw [IntKind.wrap_i64]; omega))) (Below.refl _ _)
        · intro a w3 hA hbl K hK
          have t23 := bw_is hA 0 23 rfl rfl (by kernel_rfl)
          have hz := HZ.out.grown hA.grown hrz
          obtain ⟨k0, k1, k2, k3, k4, k5⟩ := hz.cells
          go_simp
          exact hK _ _ (by first | rfl | exact congrArg _ (by first | rfl | omega | (rw [IntKind.wrap_i64]; omega))) (Below.refl _ _)
        · intro a w3 hA hbl K hK
          have t1 := hA.old 1 _ rfl rfl
          go_simp
          exact hK _ _ (by first | rfl | exact congrArg _ (by first | rfl | omega | (rw [IntKind.wrap_i64]; omega))) (Below.refl _ _)
        · intro a w3 hA hbl K hK
          have t25 := bw_is hA 2 25 rfl rfl (by kernel_rfl)
          have hz := HX.out.grown hA.grown hrx
          obtain ⟨k0, k1, k2, k3, k4, k5⟩ := hz.cells
          go_simp
          exact hK _ _ (by first | rfl | exact congrArg _ (by first | rfl | omega | (rw [IntKind.wrap_i64]; omega))) (Below.refl _ _)
        · intro a w3 hA hbl K hK
          have t4 := hA.old 4 _ rfl rfl
          go_simp
          exact hK _ _ (by first | rfl | exact congrArg _ (by first | rfl | omega | (rw [IntKind.wrap_i64]; omega))) (Below.refl _ _)
        · intro a w3 hA hbl K hK
          have t26 := bw_is hA 3 26 rfl rfl (by kernel_rfl)
          have t27 := bw_is hA 4 27 rfl rfl (by kernel_rfl)
          go_simp
          exact hK _ _ (by first | rfl | exact congrArg _ (by first | rfl | omega | (rw [IntKind.wrap_i64]; omega))) (Below.refl _ _)
        · intro a w3 hA hbl K hK
          have t28 := bw_is hA 5 28 rfl rfl (by kernel_rfl)
          have hcx : CellsAt w3 b' (o' + k * 5) [.bool x.on, .bool x.tells, .bool x.h.s, .slice x.h.A x.h.n x.h.c, .slice x.h.A' x.h.n' x.h.c'] := HC.out.grown HB'.out hA.grown hrp
          have c0 : w3.cell? ⟨b', o' + k * 5, none⟩ = some (.bool x.on) := hcx.at_ 0 rfl
          have c1 := hcx.at_ 1 rfl
          have c2 := hcx.at_ 2 rfl
          have c3 := hcx.at_ 3 rfl
          have c4 := hcx.at_ 4 rfl
          clear hcx
          go_simp
          exact hK _ _ (by first | rfl | exact congrArg _ (by first | rfl | omega | (rw [IntKind.wrap_i64]; omega))) (Below.refl _ _)
        · intro a w3 hA hbl K hK
          have t29 := bw_is hA 6 29 rfl rfl (by kernel_rfl)
          have t29b := t29
          rw [Array.getD_eq_getD_getElem?] at t29b
          go_simp
          exact hK _ _ ⟨w3.heap.size, rfl, hA.grown.size, heap_alloc_new w3 _⟩ (Below.new_ (Below.refl _ _) _)
        · intro a w3 hA hbl K hK
          have t24 := bw_is hA 1 24 rfl rfl (by kernel_rfl)
          obtain ⟨b30, t30, B30, h30⟩ := bw_fresh hA 7 30 rfl rfl (by kernel_rfl)
          refine wp_append_one w3 (.tmp 24) (.tmp 30) 38 rfl (w.heap.size + 3) 73 5 64 _ Tryz.underlying38 infoPin rfl (by decide) s k _ t24 (own_below HO.out hbl) b30 1 (pin5 x) 73 t30 rfl h30 (pin5_one x) (by simp only [maxLen]; omega) (by omega) (by have := hbl.size; omega) ?_
          intro v' w' hown' hgr
          rw [← HT.out] at hown'
          exact hK _ _ (fun W hW => own_below hown' hW) hgr
        · intro a w3 hA hbl K hK
          have t3 := hA.old 3 _ rfl rfl
          go_simp
          exact hK _ _ (by first | rfl | exact congrArg _ (by first | rfl | omega | (rw [IntKind.wrap_i64]; omega))) (Below.refl _ _)
      rintro vs w5 hV hg5 act hact hold hnew K hK
      have hV' := hV.is_
      clear hV
      obtain ⟨_, rfl, hV⟩ := hV'
      have hV' := hV.is_
      clear hV
      obtain ⟨_, rfl, hV⟩ := hV'
      have hV' := hV.is_
      clear hV
      obtain ⟨_, rfl, hV⟩ := hV'
      have hV' := hV.is_
      clear hV
      obtain ⟨_, rfl, hV⟩ := hV'
      have hV' := hV.is_
      clear hV
      obtain ⟨_, rfl, hV⟩ := hV'
      have hV' := hV.is_
      clear hV
      obtain ⟨_, rfl, hV⟩ := hV'
      have hV' := hV.is_
      clear hV
      obtain ⟨_, rfl, hV⟩ := hV'
      have hV' := hV.fresh_
      clear hV
      obtain ⟨v30, _, rfl, hV⟩ := hV'
      have hV' := hV.own_
      clear hV
      obtain ⟨v31, _, rfl, p31, hV⟩ := hV'
      have hV' := hV.is_
      clear hV
      obtain ⟨_, rfl, hV⟩ := hV'
      obtain rfl := hV.nil_
      clear hV
      simp only [puts] at hact
      have tq1 := hnew 9 32 _ rfl rfl
      have tq2 := hnew 8 31 _ rfl rfl
      clear hold hnew
      have Hact := hid hact
      clear hact
      have hz := HZ.out.grown hg5 hrz
      have hx := HX.out.grown hg5 hrx
      have hy := HY.out.grown hg5 hry
      have ho := p31 w5 (Below.refl _ _)
      obtain ⟨A3, c3, hv3⟩ := own_slice ho
      subst hv3
      obtain ⟨f0, f1, f2, f3, f4, f5⟩ := hz.cells
      have hfz := hz.frozen 4
      go_simp
      refine hK _ _ ?_
      have hact := Hact.out
      clear Hact tq1 tq2
      subst hact
      go_simp
      go_wp2_with fail
      go_roundw
      case rel =>
        refine ⟨k + 1, _, hlt, by go_num, hid (own_set ho (by omega) 4 _), ?_, hid (hx.setOther (by omega) 4 _), hid (hy.setOther (by omega) 4 _), hid (hz.set4 _)⟩
        exact (Below.grown hb hg5 hb.size (fun g hg => by have := (HO.out.lt g hg).1; omega)).setCell (by simp) _
      case measure => simp [intOf]; omega
    · obtain rfl : k = qn := by omega
      rw [List.take_of_length_le (by rw [HLen.out]; omega)] at HO
      obtain ⟨A, c, rfl, hA⟩ := pins_of_own HLen.out (by omega) HO.out
      obtain ⟨f0, f1, f2, f3, f4, f5⟩ := (show B6n wr (w.heap.size + 1 + 1) _ _ _ _ _ _ _ from HZ.out).cells
      have y0 := HY.out.frozen 0
      have y1 := HY.out.frozen 1
      have y2 := HY.out.frozen 2
      have y3 := HY.out.frozen 3
      have y4 := HY.out.frozen 4
      have y5 := HY.out.frozen 5
      obtain ⟨j0, j1, j2, j3, j4, j5⟩ := HY.out.cells
      have hlg : w.heap.size + 1 < w.heap.size + 3 := by omega
      have hown := own_set (own_set (own_set (own_set (own_set (own_set HO.out hlg 0 (.slice PA pn pc)) hlg 1 (.slice OA on oc)) hlg 2 (.slice VA vn vc)) hlg 3 (.slice UA un uc)) hlg 4 (.slice A k c)) hlg 5 (.slice LA ln lc)
      obtain ⟨A2, c2, e2, hA2⟩ := pins_of_own HLen.out (by omega) hown
      cases e2
      have hbe : Below w.heap.size w ((((((wr.setCell ⟨w.heap.size + 1, 0, none⟩ (.slice PA pn pc)).setCell ⟨w.heap.size + 1, 1, none⟩ (.slice OA on oc)).setCell ⟨w.heap.size + 1, 2, none⟩ (.slice VA vn vc)).setCell ⟨w.heap.size + 1, 3, none⟩ (.slice UA un uc)).setCell ⟨w.heap.size + 1, 4, none⟩ (.slice A k c)).setCell ⟨w.heap.size + 1, 5, none⟩ (.slice LA ln lc)) :=
        (((((hb.setCell (by simp) _).setCell (by simp) _).setCell (by simp) _).setCell (by simp) _).setCell (by simp) _).setCell (by simp) _
      go_wp2_with fail
      refine bodyPost_ret (by have q0 := fun u0 u1 u2 u3 u4 u5 => (HY.out.setAll u0 u1 u2 u3 u4 u5).cells.1; have q1 := fun u0 u1 u2 u3 u4 u5 => (HY.out.setAll u0 u1 u2 u3 u4 u5).cells.2.1; have q2 := fun u0 u1 u2 u3 u4 u5 => (HY.out.setAll u0 u1 u2 u3 u4 u5).cells.2.2.1; have q3 := fun u0 u1 u2 u3 u4 u5 => (HY.out.setAll u0 u1 u2 u3 u4 u5).cells.2.2.2.1; have q4 := fun u0 u1 u2 u3 u4 u5 => (HY.out.setAll u0 u1 u2 u3 u4 u5).cells.2.2.2.2.1; have q5 := fun u0 u1 u2 u3 u4 u5 => (HY.out.setAll u0 u1 u2 u3 u4 u5).cells.2.2.2.2.2; simp [results, Tryz.results7, go_sem, q0, q1, q2, q3, q4, q5]; rfl) rfl ?_
      exact ⟨A, c, rfl, hA2, hbe⟩
end Go.Proofs.YtbhieajpodnfpaaGreat
