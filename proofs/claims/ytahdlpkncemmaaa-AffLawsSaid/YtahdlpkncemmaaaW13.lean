/- The shelf's contracts for math/bits.Len3. Conditions: those that each theorem names. -/
import Derived.Shelf.Small.Bits
import Derived.Test.YtahdlpkncemmaaaProg
set_option maxRecDepth 100000
set_option maxHeartbeats 8000000
set_option linter.unusedSimpArgs false
set_option linter.unusedVariables false
namespace Go.Proofs
open Go.Shelf
def Try.lays133_ren : Go.Shelf.Ren := ⟨fun | 133 => 61 | 128 => 71 | n => n, fun | 51 => 44 | 3 => 3 | 4 => 4 | 46 => 61 | 5 => 5 | 9 => 9 | n => n, fun | n => n⟩
theorem Try.lays133 : Go.Proofs.Lays.n133 Try.prog Try.lays133_ren := {
 mixed := by kernel_rfl
 f128 := Try.func71.trans (congrArg some (by kernel_rfl))
 f133 := Try.func61.trans (congrArg some (by kernel_rfl))
 t3 := Try.underlying3
 a3 := Try.isAgg3
 z3 := Try.sizeOf3
 v3 := Try.zeroValue3
 t4 := Try.underlying4
 a4 := Try.isAgg4
 z4 := Try.sizeOf4
 v4 := Try.zeroValue4
 t5 := Try.underlying5
 a5 := Try.isAgg5
 z5 := Try.sizeOf5
 v5 := Try.zeroValue5
 t9 := Try.underlying9
 a9 := Try.isAgg9
 z9 := Try.sizeOf9
 v9 := Try.zeroValue9
 t46 := Try.underlying61
 a46 := Try.isAgg61
 z46 := Try.sizeOf61
 v46 := Try.zeroValue61
 t51 := Try.underlying44
 a51 := Try.isAgg44
 z51 := Try.sizeOf44
 v51 := Try.zeroValue44 }
theorem Try.bits_LeadingZeros32 (x : Int) (w : World) (h0 : 0 ≤ x) (h1 : x ≤ 4294967295) :
  Calls Try.prog 61 #[.int .u32 x] w fun e w' => e = .returned (.int .i64 (32 - (Lib.bitLen x.toNat : Int))) ∧ w' = w := Any.bits_LeadingZeros32 Try.lays133 x w h0 h1
end Go.Proofs
