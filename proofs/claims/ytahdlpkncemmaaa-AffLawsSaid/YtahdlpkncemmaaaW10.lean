/- Walk. Conditions: those that each theorem names. -/
import Derived.Test.YtahdlpkncemmaaaW5
import Derived.Test.YtahdlpkncemmaaaW7
set_option maxRecDepth 100000
set_option maxHeartbeats 8000000
set_option linter.unusedSimpArgs false
set_option linter.unusedVariables false
namespace Go.Proofs.Ytahdlpkncemmaaa
open Go.RowKit Pg
theorem div32_any (hi lo y : Nat) (w : World) (hI lI yI : Int) (eh : hI = (hi : Int)) (el : lI = (lo : Int)) (ey : yI = (y : Int)) (hl : lo < 4294967296) (hy : y < 4294967296) (hh : hi < y) :
  Calls Try.prog 60 #[.int .u32 hI, .int .u32 lI, .int .u32 yI] w fun e w' =>
   e = .returned (.tuple #[.int .u32 (((hi * 4294967296 + lo) / y : Nat) : Int), .int .u32 (((hi * 4294967296 + lo) % y : Nat) : Int)]) ∧ Below w.heap.size w w' := by
 subst eh el ey
 have h1 : ((y : Int) != 0) = true := by simp; omega
 have h2 : decide ((y : Int) ≤ (hi : Int)) = false := by simp; omega
 have h3 : decide (y ≤ hi) = false := by simp; omega
 have hj := join_or hl (Nat.lt_trans hh hy)
 obtain ⟨u, hu⟩ : ∃ u, u = hi * 4294967296 + lo := ⟨_, rfl⟩
 rw [← hu] at hj ⊢
 have hub : u < 18446744073709551616 := by omega
 have hq : u / y < 4294967296 := Nat.div_lt_of_lt_mul (by
  have : (hi + 1) * 4294967296 ≤ y * 4294967296 := Nat.mul_le_mul_right _ hh
  omega)
 have hr : u % y < y := Nat.mod_lt _ (by omega)
 have hy1 : (1 : Int) ≤ (y : Int) := by omega
 have H1 : Hid (IntKind.u64.wrap ((u : Int) / (y : Int)) % 4294967296 = ((u / y : Nat) : Int)) := hid (by
  have e : (u : Int) / (y : Int) = ((u / y : Nat) : Int) := by rw [Int.natCast_ediv]
  rw [e]
  generalize u / y = v at *
  rw [IntWalk.u64_in _ (by omega)]; omega)
 have H2 : Hid ((u : Int) % (y : Int) = ((u % y : Nat) : Int)) := hid (by rw [Int.natCast_emod])
 have HU := hid hu
 clear hu
 go_enter Try.func60, Try.ntmps60
 go_wp2_with fail
 go_quiet (fail)
 go_wp2_with fail
 go_ret2
 refine ⟨?_, Pg.bel⟩
 rw [← H1.out, ← H2.out]
 rfl
end Go.Proofs.Ytahdlpkncemmaaa
