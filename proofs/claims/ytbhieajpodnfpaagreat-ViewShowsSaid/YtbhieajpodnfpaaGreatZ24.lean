/- flt.To and pantographref4.To by rationals; pantographlaw4.big of one and of two; what an argument's reading says of a rational. Conditions: those that each theorem names. -/
import Derived.Test.YtbhieajpodnfpaaGreatZ22
import Derived.Test.YtbhieajpodnfpaaGreatZ15
import Derived.Test.YtbhieajpodnfpaaGreatZ23
import Derived.Lib.SmallJoins
import Derived.SizedLaws
namespace Pg
open Go Go.RowKit
theorem Row.of_read0 {w : World} {x : Addr} {len cap : Nat} {zs : List Int} (hl : len ≤ cap) (hm : cap ≤ maxLen) (hz : len ≤ zs.length) (hc : ∀ i, i < zs.length → w.cell? (x.add i) = some (.int .u32 (zs.getD i 0))) (hw : ∀ n ∈ zs, (Lit.int .u32 n).wf = true) :
    ∃ xs, Row w (some x) len cap xs := by
  obtain ⟨b, o, s⟩ := x
  have hbd : ∀ n ∈ zs, 0 ≤ n ∧ n < 4294967296 := by
    intro n hn
    have := bounds_u32 (hw n hn)
    omega
  refine ⟨(zs.take len).map Int.toNat, by simp; omega, hl, by unfold maxLen at hm; omega, ?_, (fun e => by cases e), fun h0 => ?_⟩
  · intro x hx
    obtain ⟨n, hn, rfl⟩ := List.mem_map.1 hx
    have := hbd n (List.mem_of_mem_take hn)
    omega
  · have h0c := hc 0 (by omega)
    have hs : s = none := by simpa [Addr.add] using World.cell?_spot h0c
    subst hs
    refine ⟨b, o, rfl, fun j hj => ?_⟩
    have hj' := hc j (by omega)
    rw [Addr.add_lit] at hj'
    rw [hj']
    have hjz : j < zs.length := by omega
    have hb := hbd zs[j] (List.getElem_mem hjz)
    have e1 : zs.getD j 0 = zs[j] := by simp [List.getD, hjz]
    have e2 : lim ((zs.take len).map Int.toNat) j = zs[j].toNat := by simp [lim, List.getD, hj, hjz]
    rw [e1, e2]
    congr 2
    omega
end Pg
namespace Go.Proofs.YtbhieajpodnfpaaGreat
open Go.RowKit Pg
theorem Short.blen {q : Rat} {k : Nat} (h : Short q k) : Pg.blen (rnum q) ≤ 32 * k ∧ Pg.blen q.den ≤ 32 * k := by
  have key : ∀ N, (limbs N).length ≤ k → Pg.blen N ≤ 32 * k := fun N hN => blen_upto (by
    have h1 := Nat.lt_of_lt_of_le (lt_pow_length N) (Nat.pow_le_pow_right (by omega) hN)
    rwa [base_pow] at h1)
  exact ⟨key _ h.1, key _ h.2⟩
theorem Short.mono {q : Rat} {k l : Nat} (h : Short q k) (hl : k ≤ l) : Short q l := ⟨Nat.le_trans h.1 hl, Nat.le_trans h.2 hl⟩
theorem RArg.mono {w : World} {v : Value} {q : Rat} {k l : Nat} (h : RArg w v q k) (hl : k ≤ l) : RArg w v q l := by
  obtain ⟨s, A, n, c, A', n', c', xs, ys, e, h1, h2, h3, h4, h5⟩ := h
  exact ⟨s, A, n, c, A', n', c', xs, ys, e, h1, h2, Nat.le_trans h3 hl, Nat.le_trans h4 hl, h5⟩
theorem Short.mul {p q : Rat} {k l : Nat} (hp : Short p k) (hq : Short q l) : Short (p * q) (k + l) := by
  rw [rv_mul]
  have hD : p.den * q.den ≠ 0 := Nat.mul_ne_zero p.den_nz q.den_nz
  have key : ∀ {a b : Nat}, (limbs a).length ≤ k → (limbs b).length ≤ l → (limbs (a * b)).length ≤ k + l := fun {a b} h1 h2 => length_limbs_le (by
    rw [Nat.pow_add]
    exact Nat.mul_lt_mul'' (Nat.lt_of_lt_of_le (lt_pow_length a) (Nat.pow_le_pow_right (by omega) h1)) (Nat.lt_of_lt_of_le (lt_pow_length b) (Nat.pow_le_pow_right (by omega) h2)))
  unfold Short
  rw [rv_num _ _ hD, rv_den _ _ hD]
  exact ⟨Nat.le_trans (limbs_mono (Nat.div_le_self _ _)) (key hp.1 hq.1), Nat.le_trans (limbs_mono (Nat.div_le_self _ _)) (key hp.2 hq.2)⟩
theorem Short.rv {s : Bool} {N D k : Nat} (hD : D ≠ 0) (h1 : (limbs N).length ≤ k) (h2 : (limbs D).length ≤ k) : Short (rv s N D) k := by
  unfold Short
  rw [rv_num _ _ hD, rv_den _ _ hD]
  exact ⟨Nat.le_trans (limbs_mono (Nat.div_le_self _ _)) h1, Nat.le_trans (limbs_mono (Nat.div_le_self _ _)) h2⟩
theorem limbs_shifted (n : Nat) : (limbs (2 ^ (32 * n))).length ≤ n + 1 := length_limbs_le (by
  rw [base_pow]; exact Nat.pow_lt_pow_right (by omega) (by omega))
/-- flt.To. -/
theorem fltTo_R {v : Value} {q : Rat} {k : Nat} (w : World) (h : RArg w v q k) (hk : k ≤ 120) (h1 : 1 ≤ k) :
    Calls Tryz.prog 27 #[v] w fun e w' => e = .returned (.float .f64 (fw q)) ∧ Below w.heap.size w w' := by
  have hs := (h.short h1).blen
  obtain ⟨s, A, n, c, A', n', c', xs, ys, rfl, h1, h2, h3, h4, h5⟩ := h
  exact fltTo_any _ _ _ _ _ _ _ _ _ w h1 h2 (by omega) (by omega) q h5 (by omega) (by omega)
/-- pantographref4.To. -/
theorem r4To_R {v : Value} {q : Rat} {k : Nat} (w : World) (h : RArg w v q k) (hk : k ≤ 120) (h1 : 1 ≤ k) :
    Calls Tryz.prog 28 #[v] w fun e w' => e = .returned (.float .f64 (fw q)) ∧ Below w.heap.size w w' := by
  have hs := (h.short h1).blen
  obtain ⟨s, A, n, c, A', n', c', xs, ys, rfl, h1, h2, h3, h4, h5⟩ := h
  exact r4To_any _ _ _ _ _ _ _ _ _ w h1 h2 (by omega) (by omega) q h5 (by omega) (by omega)
def B6 (w : World) (g : Nat) (t : TypeId) (v0 v1 v2 v3 v4 v5 : Value) : Prop := w.heap[g]? = some (.cells #[v0, v1, v2, v3, v4, v5] t (0, 0))
theorem B6.newg (w : World) (t : TypeId) (v0 v1 v2 v3 v4 v5 : Value) (g : Nat) (hg : g = w.heap.size) : B6 (w.alloc (.cells #[v0, v1, v2, v3, v4, v5] t)) g t v0 v1 v2 v3 v4 v5 := by subst hg; exact heap_alloc_new w _
set_option maxRecDepth 100000 in
/-- What a rational's reading says. -/
theorem RArg.of_trod {H : Type} {enc : TypeId × Value → H} {r : Reach} {b0 base : Nat} {spare : Nat → Bool} {held : Bool} {w : World} {v : Value} {d : DataW H} {p : List MemPlace} (hv : Value.okWide Tryz.prog w r b0 53 v) (h : DataW.Trod enc Tryz.prog w base spare held 53 v d p)
    (hz : ∀ x ∈ d.weights Tryz.prog 53, x ≤ reachBytes) : ∃ q, RArg w v q 140737488355328 := by
  obtain ⟨c0, c1, c2, y0, y1, y2, m, rfl, rfl, rfl, h0, h1, h2⟩ := Go.Joins.open_agg3 Tryz.underlying53 (by kernel_rfl) (by kernel_rfl) hv h
  have hz1 : ∀ (j : Nat) t (d : DataW H), [4, 51, 51][j]? = some t → [y0.1, y1.1, y2.1][j]? = some d → ∀ x ∈ d.weights Tryz.prog t, x ≤ reachBytes := by
    intro j t d ht hd x hx
    refine hz x ?_
    unfold DataW.weights
    rw [Tryz.underlying53]
    exact DataW.weights_mem_each ht hd x hx
  obtain ⟨s, e0, rfl⟩ := DataW.trod_bool Tryz.underlying4 h0
  have key : ∀ {c : Value} {y : DataW H × List MemPlace}, DataW.trod enc Tryz.prog w base spare held m 51 [c] = some y → (∀ x ∈ y.1.weights Tryz.prog 51, x ≤ reachBytes) → ∃ A n k xs, c = .slice A n k ∧ Row w A n k xs ∧ n ≤ 140737488355328 := by
    intro c y hy hzy
    rcases Go.ChangeShapes.open_ints Tryz.underlying51 Tryz.underlying79 (by kernel_rfl) hy with ⟨hcs, _⟩ | ⟨x, l, k, zs, hcs, _, hl, hm, hz, hx, hcell, hwz⟩
    · simp at hcs
      subst hcs
      exact ⟨_, _, _, _, rfl, Row.nil w, by omega⟩
    · simp at hcs
      subst hcs
      subst hx
      have hb := hzy ((zs.length) * 4) (by
        unfold DataW.weights
        rw [Tryz.underlying51]
        refine List.mem_cons.2 (.inl ?_)
        have e4 : Tryz.prog.bytesOf 79 = 4 := by kernel_rfl
        rw [e4]
        simp [Go.ChangeShapes.lits]; omega)
      have hlz : l ≤ zs.length := by rw [hz]; split <;> omega
      have hrb := reachBytes_lt
      obtain ⟨xs, hr⟩ := Row.of_read0 (x := x) (len := l) (cap := k) (zs := zs) hl hm hlz hcell hwz
      exact ⟨_, _, _, _, rfl, hr, by omega⟩
  obtain ⟨A, n, c, xs, rfl, hr, hn⟩ := key h1 (hz1 1 _ _ rfl rfl)
  obtain ⟨A', n', c', ys, rfl, hr', hn'⟩ := key h2 (hz1 2 _ _ rfl rfl)
  simp at e0
  subst e0
  exact ⟨_, RArg.mk hr hr' hn hn'⟩
end Go.Proofs.YtbhieajpodnfpaaGreat
