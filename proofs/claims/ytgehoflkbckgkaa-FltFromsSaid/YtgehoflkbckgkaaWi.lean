/- Walks: math/bits.Sub32, Add32. Conditions: the types' own ranges. -/
import Derived.Test.YtgehoflkbckgkaaWh
import Derived.Test.YtgehoflkbckgkaaBitP
import Derived.Test.YtgehoflkbckgkaaWdv
namespace Go.Proofs.Ytgehoflkbckgkaa
open Go.RowKit Pg

set_option maxHeartbeats 400000 in
theorem sub32_any (x y br : Nat) (w : World) (xI yI bI : Int) (ex : xI = (x : Int)) (ey : yI = (y : Int)) (eb : bI = (br : Int)) (hx : x < 4294967296) (hy : y < 4294967296) (hb : br ≤ 1) :
    Calls Try.prog 82 #[.int .u32 xI, .int .u32 yI, .int .u32 bI] w fun e w' =>
      e = .returned (.tuple #[.int .u32 ((dif x y br : Nat) : Int), .int .u32 ((borr x y br : Nat) : Int)]) ∧ w = w' := by
  subst ex ey eb
  have hs : IntKind.u32.signed = false := rfl
  go_enter Try.func82, Try.ntmps82
  go_wp2_with fail
  go_ret2
  refine ⟨?_, rfl⟩
  have e1 : (((x : Int) - (y : Int)) % 4294967296 - (br : Int)) % 4294967296 = ((dif x y br : Nat) : Int) := by rw [← walk_dif hx hy hb]; omega
  have e2 := walk_borr hx hy hb
  rw [← e1, ← e2]
  rfl
set_option maxHeartbeats 400000 in
theorem add32_any (x y br : Nat) (w : World) (xI yI bI : Int) (ex : xI = (x : Int)) (ey : yI = (y : Int)) (eb : bI = (br : Int)) (hx : x < 4294967296) (hy : y < 4294967296) (hb : br ≤ 1) :
    Calls Try.prog 83 #[.int .u32 xI, .int .u32 yI, .int .u32 bI] w fun e w' =>
      e = .returned (.tuple #[.int .u32 (((x + y + br) % 4294967296 : Nat) : Int), .int .u32 (((x + y + br) / 4294967296 : Nat) : Int)]) ∧ w = w' := by
  subst ex ey eb
  go_enter Try.func83, Try.ntmps83
  go_wp2_with fail
  go_ret2
  refine ⟨?_, rfl⟩
  have e1 : ((x : Int) + (y : Int) + (br : Int)) % 4294967296 = (((x + y + br) % 4294967296 : Nat) : Int) := by omega
  have e2 : ((x : Int) + (y : Int) + (br : Int)) / 4294967296 = (((x + y + br) / 4294967296 : Nat) : Int) := by omega
  rw [← e1, ← e2]
  rfl
end Go.Proofs.Ytgehoflkbckgkaa
