/-
  No cell of these rows narrows 'for every input' (looked for: loops, veiled, ifaces, maps, wideKeys, modest, calm, conditions, laid).
  DERIVED. THE GIVEN ROWS OF THIS SEAT. 8 by the template 'for every input the law returns true; each argument reads behind the call as it read before'; 0 by the template 'total and deterministic' (their statements: YtgehoflkbckgkaaTotals.lean).
  GIVEN WITH THE SEED: the statements are not yours to turn. If you find one false, say at which input.
  Laid BY PROGRAM, IN A SANDBOX (cutbox-rows.mjs): the forced cells as the released guide's own fill.sh prints them over the translation 3c37a42655642d92… (all of the seat's roots in one cut). By AI agents, Wed Nov 11 2026. No macro, syntax, notation, axiom, sorry.
-/
import Derived.Test.YtgehoflkbckgkaaChecked
import GoSem.Claim
import GoSem.ClaimJoined
import GoSem.ClaimMapViews
import Derived.JoinedTies
import Derived.KernelRfl
namespace Go.Proofs.Ytgehoflkbckgkaa
/- THE CELL 'sum', in the pinned program and in every row, IS THE sha256 OF THE DUMP (.gsa) THAT YtgehoflkbckgkaaProg.lean LOADS. Nothing in Lean hashes anything: it is a label: what it is worth is what the hold of that sum in a sandbox is worth. -/
noncomputable def Try.pinned : Pinned := { name := "ytgehoflkbckgkaa", sum := "3c37a42655642d92dcb46f9f5d06ab38af33bafbd3929db3f89e66a6a423297f", checked := Try.checked }
namespace Rows
def none {H : Type} : Left H := { results := [], args := [] }

/-- 'pantographlaw4.FltFroms': WHATEVER THE INPUT: true; the input reads as it did. -/
def fltFromsSpec : ChangeSpec := { name := "fltFroms", fn := fun _ => fun
  | [d] => { results := [.lit (.bool true)], args := [d] }
  | _ => none }
def fltFromsRow : OpenClaim := { program := "ytgehoflkbckgkaa", sum := "3c37a42655642d92dcb46f9f5d06ab38af33bafbd3929db3f89e66a6a423297f", func := "pantograph/pantographlaw4.FltFroms", spec := "fltFroms", inPlace := ["math.Float64frombits", "math.Float64bits"], named := ["math/bits.overflowError"], apart := false }
def FltFromsSaid : Prop := fltFromsRow.holds Try.pinned (OpenSpec.ofChange fltFromsSpec)

/-- ITS FALSE NEIGHBOUR: 'it returns false'. Refute it at one input. -/
def fltFromsWrong : ChangeSpec := { name := "fltFroms", fn := fun _ => fun
  | [d] => { results := [.lit (.bool false)], args := [d] }
  | _ => none }
def FltFromsWrongFalsely : Prop := fltFromsRow.holds Try.pinned (OpenSpec.ofChange fltFromsWrong)

/-- 'pantographlaw4.FltTos': WHATEVER THE INPUT: true; the input reads as it did. -/
def fltTosSpec : ChangeSpec := { name := "fltTos", fn := fun _ => fun
  | [d1, d2] => { results := [.lit (.bool true)], args := [d1, d2] }
  | _ => none }
def fltTosRow : OpenClaim := { program := "ytgehoflkbckgkaa", sum := "3c37a42655642d92dcb46f9f5d06ab38af33bafbd3929db3f89e66a6a423297f", func := "pantograph/pantographlaw4.FltTos", spec := "fltTos", inPlace := ["math.Float64bits", "math.Float64frombits"], named := ["math/bits.overflowError"], apart := false }
def FltTosSaid : Prop := fltTosRow.holds Try.pinned (OpenSpec.ofChange fltTosSpec)

/-- ITS FALSE NEIGHBOUR: 'it returns false'. Refute it at one input. -/
def fltTosWrong : ChangeSpec := { name := "fltTos", fn := fun _ => fun
  | [d1, d2] => { results := [.lit (.bool false)], args := [d1, d2] }
  | _ => none }
def FltTosWrongFalsely : Prop := fltTosRow.holds Try.pinned (OpenSpec.ofChange fltTosWrong)

/-- 'pantographlaw4.FltBack': WHATEVER THE INPUT: true; the input reads as it did. -/
def fltBackSpec : ChangeSpec := { name := "fltBack", fn := fun _ => fun
  | [d] => { results := [.lit (.bool true)], args := [d] }
  | _ => none }
def fltBackRow : OpenClaim := { program := "ytgehoflkbckgkaa", sum := "3c37a42655642d92dcb46f9f5d06ab38af33bafbd3929db3f89e66a6a423297f", func := "pantograph/pantographlaw4.FltBack", spec := "fltBack", inPlace := ["math.Float64frombits", "math.Float64bits"], named := ["math/bits.overflowError"], apart := false }
def FltBackSaid : Prop := fltBackRow.holds Try.pinned (OpenSpec.ofChange fltBackSpec)

/-- ITS FALSE NEIGHBOUR: 'it returns false'. Refute it at one input. -/
def fltBackWrong : ChangeSpec := { name := "fltBack", fn := fun _ => fun
  | [d] => { results := [.lit (.bool false)], args := [d] }
  | _ => none }
def FltBackWrongFalsely : Prop := fltBackRow.holds Try.pinned (OpenSpec.ofChange fltBackWrong)

/-- 'pantographlaw4.FltNear': WHATEVER THE INPUT: true; the input reads as it did. -/
def fltNearSpec : ChangeSpec := { name := "fltNear", fn := fun _ => fun
  | [d] => { results := [.lit (.bool true)], args := [d] }
  | _ => none }
def fltNearRow : OpenClaim := { program := "ytgehoflkbckgkaa", sum := "3c37a42655642d92dcb46f9f5d06ab38af33bafbd3929db3f89e66a6a423297f", func := "pantograph/pantographlaw4.FltNear", spec := "fltNear", inPlace := ["math.Float64bits", "math.Float64frombits"], named := ["math/bits.overflowError"], apart := false }
def FltNearSaid : Prop := fltNearRow.holds Try.pinned (OpenSpec.ofChange fltNearSpec)

/-- ITS FALSE NEIGHBOUR: 'it returns false'. Refute it at one input. -/
def fltNearWrong : ChangeSpec := { name := "fltNear", fn := fun _ => fun
  | [d] => { results := [.lit (.bool false)], args := [d] }
  | _ => none }
def FltNearWrongFalsely : Prop := fltNearRow.holds Try.pinned (OpenSpec.ofChange fltNearWrong)

/-- 'pantographlaw4.FltEdges': WHATEVER THE INPUT: true; the input reads as it did. -/
def fltEdgesSpec : ChangeSpec := { name := "fltEdges", fn := fun _ => fun
  | [d1, d2] => { results := [.lit (.bool true)], args := [d1, d2] }
  | _ => none }
def fltEdgesRow : OpenClaim := { program := "ytgehoflkbckgkaa", sum := "3c37a42655642d92dcb46f9f5d06ab38af33bafbd3929db3f89e66a6a423297f", func := "pantograph/pantographlaw4.FltEdges", spec := "fltEdges", inPlace := ["math.Float64bits", "math.Float64frombits"], named := ["math/bits.overflowError"], apart := false }
def FltEdgesSaid : Prop := fltEdgesRow.holds Try.pinned (OpenSpec.ofChange fltEdgesSpec)

/-- ITS FALSE NEIGHBOUR: 'it returns false'. Refute it at one input. -/
def fltEdgesWrong : ChangeSpec := { name := "fltEdges", fn := fun _ => fun
  | [d1, d2] => { results := [.lit (.bool false)], args := [d1, d2] }
  | _ => none }
def FltEdgesWrongFalsely : Prop := fltEdgesRow.holds Try.pinned (OpenSpec.ofChange fltEdgesWrong)

/-- 'pantographlaw4.FltOrder': WHATEVER THE INPUT: true; the input reads as it did. -/
def fltOrderSpec : ChangeSpec := { name := "fltOrder", fn := fun _ => fun
  | [d1, d2] => { results := [.lit (.bool true)], args := [d1, d2] }
  | _ => none }
def fltOrderRow : OpenClaim := { program := "ytgehoflkbckgkaa", sum := "3c37a42655642d92dcb46f9f5d06ab38af33bafbd3929db3f89e66a6a423297f", func := "pantograph/pantographlaw4.FltOrder", spec := "fltOrder", inPlace := ["math.Float64bits", "math.Float64frombits"], named := ["math/bits.overflowError"], apart := false }
def FltOrderSaid : Prop := fltOrderRow.holds Try.pinned (OpenSpec.ofChange fltOrderSpec)

/-- ITS FALSE NEIGHBOUR: 'it returns false'. Refute it at one input. -/
def fltOrderWrong : ChangeSpec := { name := "fltOrder", fn := fun _ => fun
  | [d1, d2] => { results := [.lit (.bool false)], args := [d1, d2] }
  | _ => none }
def FltOrderWrongFalsely : Prop := fltOrderRow.holds Try.pinned (OpenSpec.ofChange fltOrderWrong)

/-- 'pantographlaw4.FltInts': WHATEVER THE INPUT: true; the input reads as it did. -/
def fltIntsSpec : ChangeSpec := { name := "fltInts", fn := fun _ => fun
  | [d] => { results := [.lit (.bool true)], args := [d] }
  | _ => none }
def fltIntsRow : OpenClaim := { program := "ytgehoflkbckgkaa", sum := "3c37a42655642d92dcb46f9f5d06ab38af33bafbd3929db3f89e66a6a423297f", func := "pantograph/pantographlaw4.FltInts", spec := "fltInts", inPlace := ["math.Float64bits", "math.Float64frombits"], named := ["math/bits.overflowError"], apart := false }
def FltIntsSaid : Prop := fltIntsRow.holds Try.pinned (OpenSpec.ofChange fltIntsSpec)

/-- ITS FALSE NEIGHBOUR: 'it returns false'. Refute it at one input. -/
def fltIntsWrong : ChangeSpec := { name := "fltInts", fn := fun _ => fun
  | [d] => { results := [.lit (.bool false)], args := [d] }
  | _ => none }
def FltIntsWrongFalsely : Prop := fltIntsRow.holds Try.pinned (OpenSpec.ofChange fltIntsWrong)

/-- 'pantographlaw4.FltSigns': WHATEVER THE INPUT: true; the input reads as it did. -/
def fltSignsSpec : ChangeSpec := { name := "fltSigns", fn := fun _ => fun
  | [d] => { results := [.lit (.bool true)], args := [d] }
  | _ => none }
def fltSignsRow : OpenClaim := { program := "ytgehoflkbckgkaa", sum := "3c37a42655642d92dcb46f9f5d06ab38af33bafbd3929db3f89e66a6a423297f", func := "pantograph/pantographlaw4.FltSigns", spec := "fltSigns", inPlace := ["math.Float64bits", "math.Float64frombits"], named := ["math/bits.overflowError"], apart := false }
def FltSignsSaid : Prop := fltSignsRow.holds Try.pinned (OpenSpec.ofChange fltSignsSpec)

/-- ITS FALSE NEIGHBOUR: 'it returns false'. Refute it at one input. -/
def fltSignsWrong : ChangeSpec := { name := "fltSigns", fn := fun _ => fun
  | [d] => { results := [.lit (.bool false)], args := [d] }
  | _ => none }
def FltSignsWrongFalsely : Prop := fltSignsRow.holds Try.pinned (OpenSpec.ofChange fltSignsWrong)

/- THE SECOND FORM. 'bulk': how many values and letters a reading holds, each counted each time it is reached (what is shared counts as often as it is met; a slice's spare places count too). A statement '..UptoSaid' is the law's where the arguments, and the package variables that the reading takes, are together of bulk at most 1048576: NARROWER than '..Said'. Prove '..Said' where nothing that the law and all that it calls make is longer than what came in: it says more and counts as full. Else prove '..UptoSaid'. A law counts once. -/
mutual
def uptoBulk {H : Type} : DataW H → Nat
  | .lit (.string bytes) => bytes.length + 1
  | .lit _ => 1
  | .nil => 1
  | .ptr d => uptoBulk d + 1
  | .slice elems spare => uptoBulkAll elems + uptoBulkAll spare + 1
  | .agg parts => uptoBulkAll parts + 1
  | .iface _ d => uptoBulk d + 1
  | .map entries => uptoBulkEntries entries + 1
  | .held _ => 1
def uptoBulkAll {H : Type} : List (DataW H) → Nat
  | [] => 0
  | d :: r => uptoBulk d + uptoBulkAll r
def uptoBulkEntries {H : Type} : List (Lit × DataW H) → Nat
  | [] => 0
  | x :: r => uptoBulkEntry x + uptoBulkEntries r
def uptoBulkEntry {H : Type} : Lit × DataW H → Nat
  | (.string bytes, d) => bytes.length + uptoBulk d + 1
  | (_, d) => uptoBulk d + 1
 end
def uptoSmall : (H : Type) → List (DataW H) → Bool := fun _ ds => decide (uptoBulkAll ds ≤ 1048576)
def OpenSpec.upto (s : _root_.Go.ChangeSpec) : _root_.Go.OpenSpec := { _root_.Go.OpenSpec.ofChange s with cond := some uptoSmall }

/-- 'pantographlaw4.FltFroms', WHERE WHAT IT READS IS OF BULK AT MOST 1048576: true; the input reads as it did. -/
def fltFromsUptoRow : OpenClaim := { program := "ytgehoflkbckgkaa", sum := "3c37a42655642d92dcb46f9f5d06ab38af33bafbd3929db3f89e66a6a423297f", func := "pantograph/pantographlaw4.FltFroms", spec := "fltFroms", inPlace := ["math.Float64frombits", "math.Float64bits"], named := ["math/bits.overflowError"], apart := false, narrowed := true }
def FltFromsUptoSaid : Prop := fltFromsUptoRow.holds Try.pinned (OpenSpec.upto fltFromsSpec)

/-- 'pantographlaw4.FltTos', WHERE WHAT IT READS IS OF BULK AT MOST 1048576: true; the input reads as it did. -/
def fltTosUptoRow : OpenClaim := { program := "ytgehoflkbckgkaa", sum := "3c37a42655642d92dcb46f9f5d06ab38af33bafbd3929db3f89e66a6a423297f", func := "pantograph/pantographlaw4.FltTos", spec := "fltTos", inPlace := ["math.Float64bits", "math.Float64frombits"], named := ["math/bits.overflowError"], apart := false, narrowed := true }
def FltTosUptoSaid : Prop := fltTosUptoRow.holds Try.pinned (OpenSpec.upto fltTosSpec)

/-- 'pantographlaw4.FltBack', WHERE WHAT IT READS IS OF BULK AT MOST 1048576: true; the input reads as it did. -/
def fltBackUptoRow : OpenClaim := { program := "ytgehoflkbckgkaa", sum := "3c37a42655642d92dcb46f9f5d06ab38af33bafbd3929db3f89e66a6a423297f", func := "pantograph/pantographlaw4.FltBack", spec := "fltBack", inPlace := ["math.Float64frombits", "math.Float64bits"], named := ["math/bits.overflowError"], apart := false, narrowed := true }
def FltBackUptoSaid : Prop := fltBackUptoRow.holds Try.pinned (OpenSpec.upto fltBackSpec)

/-- 'pantographlaw4.FltNear', WHERE WHAT IT READS IS OF BULK AT MOST 1048576: true; the input reads as it did. -/
def fltNearUptoRow : OpenClaim := { program := "ytgehoflkbckgkaa", sum := "3c37a42655642d92dcb46f9f5d06ab38af33bafbd3929db3f89e66a6a423297f", func := "pantograph/pantographlaw4.FltNear", spec := "fltNear", inPlace := ["math.Float64bits", "math.Float64frombits"], named := ["math/bits.overflowError"], apart := false, narrowed := true }
def FltNearUptoSaid : Prop := fltNearUptoRow.holds Try.pinned (OpenSpec.upto fltNearSpec)

/-- 'pantographlaw4.FltEdges', WHERE WHAT IT READS IS OF BULK AT MOST 1048576: true; the input reads as it did. -/
def fltEdgesUptoRow : OpenClaim := { program := "ytgehoflkbckgkaa", sum := "3c37a42655642d92dcb46f9f5d06ab38af33bafbd3929db3f89e66a6a423297f", func := "pantograph/pantographlaw4.FltEdges", spec := "fltEdges", inPlace := ["math.Float64bits", "math.Float64frombits"], named := ["math/bits.overflowError"], apart := false, narrowed := true }
def FltEdgesUptoSaid : Prop := fltEdgesUptoRow.holds Try.pinned (OpenSpec.upto fltEdgesSpec)

/-- 'pantographlaw4.FltOrder', WHERE WHAT IT READS IS OF BULK AT MOST 1048576: true; the input reads as it did. -/
def fltOrderUptoRow : OpenClaim := { program := "ytgehoflkbckgkaa", sum := "3c37a42655642d92dcb46f9f5d06ab38af33bafbd3929db3f89e66a6a423297f", func := "pantograph/pantographlaw4.FltOrder", spec := "fltOrder", inPlace := ["math.Float64bits", "math.Float64frombits"], named := ["math/bits.overflowError"], apart := false, narrowed := true }
def FltOrderUptoSaid : Prop := fltOrderUptoRow.holds Try.pinned (OpenSpec.upto fltOrderSpec)

/-- 'pantographlaw4.FltInts', WHERE WHAT IT READS IS OF BULK AT MOST 1048576: true; the input reads as it did. -/
def fltIntsUptoRow : OpenClaim := { program := "ytgehoflkbckgkaa", sum := "3c37a42655642d92dcb46f9f5d06ab38af33bafbd3929db3f89e66a6a423297f", func := "pantograph/pantographlaw4.FltInts", spec := "fltInts", inPlace := ["math.Float64bits", "math.Float64frombits"], named := ["math/bits.overflowError"], apart := false, narrowed := true }
def FltIntsUptoSaid : Prop := fltIntsUptoRow.holds Try.pinned (OpenSpec.upto fltIntsSpec)

/-- 'pantographlaw4.FltSigns', WHERE WHAT IT READS IS OF BULK AT MOST 1048576: true; the input reads as it did. -/
def fltSignsUptoRow : OpenClaim := { program := "ytgehoflkbckgkaa", sum := "3c37a42655642d92dcb46f9f5d06ab38af33bafbd3929db3f89e66a6a423297f", func := "pantograph/pantographlaw4.FltSigns", spec := "fltSigns", inPlace := ["math.Float64bits", "math.Float64frombits"], named := ["math/bits.overflowError"], apart := false, narrowed := true }
def FltSignsUptoSaid : Prop := fltSignsUptoRow.holds Try.pinned (OpenSpec.upto fltSignsSpec)

end Rows
end Go.Proofs.Ytgehoflkbckgkaa
