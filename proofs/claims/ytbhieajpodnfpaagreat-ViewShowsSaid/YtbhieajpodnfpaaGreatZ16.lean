/- What an argument's reading says of a slice of limbs. Conditions: those that each theorem names. -/
import Derived.Test.YtbhieajpodnfpaaGreatZ1
import Derived.OpenShut
namespace Pg
open Go Go.RowKit

theorem Row.of_read {w : World} {a : Option Addr} {len cap : Nat} {zs : List Int}
    (h : (a = none ∧ len = 0 ∧ cap = 0 ∧ zs = []) ∨
      ∃ x, a = some x ∧ len ≤ cap ∧ cap ≤ maxLen ∧ zs.length = cap ∧ (∀ i, i < zs.length → w.cell? (x.add i) = some (.int .u32 (zs.getD i 0))) ∧ ∀ n ∈ zs, (Lit.int .u32 n).wf = true) :
    ∃ xs, Row w a len cap xs := by
  rcases h with ⟨rfl, rfl, rfl, _⟩ | ⟨⟨b, o, s⟩, rfl, hl, hm, hz, hc, hw⟩
  · exact ⟨[], Row.nil w⟩
  · have hbd : ∀ n ∈ zs, 0 ≤ n ∧ n < 4294967296 := by
      intro n hn
      have := bounds_u32 (hw n hn)
      omega
    refine ⟨(zs.take len).map Int.toNat, by simp; omega, hl, by simpa [maxLen] using hm, ?_, (fun e => by cases e), fun h0 => ?_⟩
    · intro x hx
      obtain ⟨n, hn, rfl⟩ := List.mem_map.1 hx
      have := hbd n (List.mem_of_mem_take hn)
      omega
    · have h0c := hc 0 (by omega)
      have hs : s = none := by simpa [Addr.add] using World.cell?_spot h0c
      subst hs
      refine ⟨b, o, rfl, fun j hj => ?_⟩
      have hj' := hc j (by omega)
      rw [Addr.add_lit] at hj'
      rw [hj']
      have hjz : j < zs.length := by omega
      have hb := hbd zs[j] (List.getElem_mem hjz)
      have e1 : zs.getD j 0 = zs[j] := by simp [List.getD, hjz]
      have e2 : lim ((zs.take len).map Int.toNat) j = zs[j].toNat := by simp [lim, List.getD, hj, hjz]
      rw [e1, e2]
      congr 2
      omega
end Pg
