/- Two sums as a row of two; what a light r. Conditions: those that each theorem names. -/
import Derived.Test.YtahdlpkncemmaaaGreatX47
import Derived.Test.YtahdlpkncemmaaaGreatX39
import Derived.Test.YtahdlpkncemmaaaGreatX34
set_option maxRecDepth 100000
set_option maxHeartbeats 8000000
set_option linter.unusedSimpArgs false
set_option linter.unusedVariables false
namespace Go.Proofs.YtahdlpkncemmaaaGreat
open Go.RowKit Pg
theorem termsW_le {k : Nat} : ∀ l : List TW, (∀ t ∈ l, t.r.Le k) → termsW l ≤ l.length * (2 * k + 1)
 | [], _ => Nat.zero_le _
 | t :: l, h => by
  have h1 := termsW_le l fun x hx => h x (List.mem_cons_of_mem _ hx)
  have h2 := h t List.mem_cons_self
  unfold RW.Le at h2
  unfold termsW
  rw [List.length_cons, Nat.add_mul, Nat.one_mul]
  omega
theorem heavy_two {a b : CW} (hla : a.Le 1048576 ∧ a.t.length ≤ 1048576) (hlb : b.Le 1048576 ∧ b.t.length ≤ 1048576) (h : sumW [a, b] < 9223372036854775808 → sumW [a, b] ≤ 150) : a.Le 150 ∧ a.t.length ≤ 150 ∧ b.Le 150 ∧ b.t.length ≤ 150 := by
 have h1 := termsW_le a.t hla.1.1
 have h2 := termsW_le b.t hlb.1.1
 have h3 := hla.1.2
 have h4 := hlb.1.2
 have g1 := hla.2
 have g2 := hlb.2
 have c1 := conW_le a
 have c2 := conW_le b
 unfold RW.Le at h3 h4
 have m1 : a.t.length * 2097153 ≤ 1048576 * 2097153 := Nat.mul_le_mul_right _ g1
 have m2 : b.t.length * 2097153 ≤ 1048576 * 2097153 := Nat.mul_le_mul_right _ g2
 have e : sumW [a, b] = conW a + conW b := rfl
 have k1 : conW a ≤ 2099201 + a.t.length * 2097153 := by unfold conW; omega
 have k2 : conW b ≤ 2099201 + b.t.length * 2097153 := by unfold conW; omega
 have h5 := h (by omega)
 exact ⟨c1.1.mono (by omega), by omega, c2.1.mono (by omega), by omega⟩
theorem two_cons {w : World} {g : Nat} {ty : TypeId} {T T' : Option Addr} {n m n' m' : Nat} {x x' : RV} {a b : CW} (h : Bs w g ty [.int .i64 a.s, .slice T n m, .bool x.s, .slice x.A x.n x.c, .slice x.A' x.n' x.c', .int .i64 b.s, .slice T' n' m', .bool x'.s, .slice x'.A x'.n x'.c, .slice x'.A' x'.n' x'.c']) (ha : CV w T n m x a) (hb : CV w T' n' m' x' b) : SlAt 5 ConAt w (some ⟨g, 0, none⟩) 2 2 [a, b] :=
 ⟨rfl, Nat.le_refl _, by omega, by omega, (fun e => by cases e), fun _ => ⟨g, 0, rfl, h.lt, fun j c hj => by
  match j, hj with
  | 0, hj =>
   simp only [List.getElem?_cons_zero, Option.some.injEq] at hj
   subst hj
   exact ⟨T, n, m, _, _, _, h.at.sub 0 5 (by simp), ha.1, ha.2⟩
  | 1, hj =>
   simp only [List.getElem?_cons_succ, List.getElem?_cons_zero, Option.some.injEq] at hj
   subst hj
   exact ⟨T', n', m', _, _, _, h.at.sub 5 5 (by simp), hb.1, hb.2⟩
  | j + 2, hj => simp at hj⟩⟩
theorem one_rat {w : World} {g : Nat} {ty : TypeId} {z : RV} {r : RW} (h : Bs w g ty [.bool z.s, .slice z.A z.n z.c, .slice z.A' z.n' z.c']) (hz : z.at w r) : SlAt 3 RawAt w (some ⟨g, 0, none⟩) 1 1 [r] :=
 ⟨rfl, Nat.le_refl _, by omega, by omega, (fun e => by cases e), fun _ => ⟨g, 0, rfl, h.lt, fun j c hj => by
  match j, hj with
  | 0, hj =>
   simp only [List.getElem?_cons_zero, Option.some.injEq] at hj
   subst hj
   exact ⟨_, _, _, h.at, hz⟩
  | j + 1, hj => simp at hj⟩⟩
theorem con_short {w : World} {v : Value} {a : CW} {k : Nat} (h : ConVal w v a) (hl : a.Le k) (hk : 1 ≤ k) : ShortC a.q k := by
 obtain ⟨T, n, m, x, rfl, hS, hr⟩ := h.cv
 refine ⟨fun t ht => ?_, hr.short hl.2 hk⟩
 obtain ⟨u, hu, rfl⟩ := List.mem_map.1 ht
 obtain ⟨i, hi⟩ := List.getElem?_of_mem hu
 have hin : i < n := by rw [← hS.1]; exact (List.getElem?_eq_some_iff.1 hi).1
 obtain ⟨_, _, _, _, _, e6⟩ := hS
 obtain ⟨b, o, rfl, hb, hx⟩ := e6 (by omega)
 obtain ⟨v0, v1, v2, hca, hrt⟩ := hx i u hi
 obtain ⟨z, rfl, rfl, rfl, hz⟩ := rows_rv hrt
 exact hz.short (hl.1 u hu) hk
end Go.Proofs.YtahdlpkncemmaaaGreat
