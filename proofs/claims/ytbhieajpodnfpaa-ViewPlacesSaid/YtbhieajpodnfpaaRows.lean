/-
  NARROWER THAN 'FOR EVERY INPUT', by the rows' own cells (each row's printed sentence says how): ViewPages: loops · ViewPlaces: loops.
  DERIVED. THE GIVEN ROWS OF THIS SEAT. 3 by the template 'for every input the law returns true; each argument reads behind the call as it read before'; 0 by the template 'total and deterministic' (their statements: YtbhieajpodnfpaaTotals.lean).
  GIVEN WITH THE SEED: the statements are not yours to turn. If you find one false, say at which input.
  Laid BY PROGRAM, IN A SANDBOX (cutbox-rows.mjs): the forced cells as the released guide's own fill.sh prints them over the translation 4173fcc0c879e881… (all of the seat's roots in one cut). By AI agents, Wed Nov 11 2026. No macro, syntax, notation, axiom, sorry.
-/
import Derived.Test.YtbhieajpodnfpaaChecked
import GoSem.Claim
import GoSem.ClaimJoined
import GoSem.ClaimMapViews
import Derived.JoinedTies
import Derived.KernelRfl
namespace Go.Proofs.Ytbhieajpodnfpaa
/- THE CELL 'sum', in the pinned program and in every row, IS THE sha256 OF THE DUMP (.gsa) THAT YtbhieajpodnfpaaProg.lean LOADS. Nothing in Lean hashes anything: it is a label: what it is worth is what the hold of that sum in a sandbox is worth. -/
noncomputable def Try.pinned : Pinned := { name := "ytbhieajpodnfpaa", sum := "4173fcc0c879e88170c5a994bfa2a0ba1028a6cfef8eab21eb87bd8026ada8da", checked := Try.checked }
namespace Rows
def none {H : Type} : Left H := { results := [], args := [] }

/-- 'pantographlaw19.ViewExact': WHATEVER THE INPUT: true; the input reads as it did. -/
def viewExactSpec : ChangeSpec := { name := "viewExact", fn := fun _ => fun
  | [d1, d2] => { results := [.lit (.bool true)], args := [d1, d2] }
  | _ => none }
def viewExactRow : OpenClaim := { program := "ytbhieajpodnfpaa", sum := "4173fcc0c879e88170c5a994bfa2a0ba1028a6cfef8eab21eb87bd8026ada8da", func := "pantograph/pantographlaw19.ViewExact", spec := "viewExact", inPlace := ["internal/abi.NoEscape", "internal/bytealg.MakeNoZero"], named := ["math/bits.overflowError"], apart := false }
def ViewExactSaid : Prop := viewExactRow.holds Try.pinned (OpenSpec.ofChange viewExactSpec)

/-- ITS FALSE NEIGHBOUR: 'it returns false'. Refute it at one input. -/
def viewExactWrong : ChangeSpec := { name := "viewExact", fn := fun _ => fun
  | [d1, d2] => { results := [.lit (.bool false)], args := [d1, d2] }
  | _ => none }
def ViewExactWrongFalsely : Prop := viewExactRow.holds Try.pinned (OpenSpec.ofChange viewExactWrong)

/-- 'pantographlaw19.ViewPages': WHATEVER THE INPUT: true; the input reads as it did. -/
def viewPagesSpec : ChangeSpec := { name := "viewPages", fn := fun _ => fun
  | [d1, d2] => { results := [.lit (.bool true)], args := [d1, d2] }
  | _ => none }
def viewPagesRow : OpenClaim := { program := "ytbhieajpodnfpaa", sum := "4173fcc0c879e88170c5a994bfa2a0ba1028a6cfef8eab21eb87bd8026ada8da", func := "pantograph/pantographlaw19.ViewPages", spec := "viewPages", inPlace := ["internal/abi.NoEscape", "internal/bytealg.MakeNoZero"], recurses := true, named := ["math/bits.overflowError"], loops := true, apart := false }
def ViewPagesSaid : Prop := viewPagesRow.holds Try.pinned (OpenSpec.ofChange viewPagesSpec)

/-- ITS FALSE NEIGHBOUR: 'it returns false'. Refute it at one input. -/
def viewPagesWrong : ChangeSpec := { name := "viewPages", fn := fun _ => fun
  | [d1, d2] => { results := [.lit (.bool false)], args := [d1, d2] }
  | _ => none }
def ViewPagesWrongFalsely : Prop := viewPagesRow.holds Try.pinned (OpenSpec.ofChange viewPagesWrong)

/-- 'pantographlaw19.ViewPlaces': WHATEVER THE INPUT: true; the input reads as it did. -/
def viewPlacesSpec : ChangeSpec := { name := "viewPlaces", fn := fun _ => fun
  | [d1, d2, d3] => { results := [.lit (.bool true)], args := [d1, d2, d3] }
  | _ => none }
def viewPlacesRow : OpenClaim := { program := "ytbhieajpodnfpaa", sum := "4173fcc0c879e88170c5a994bfa2a0ba1028a6cfef8eab21eb87bd8026ada8da", func := "pantograph/pantographlaw19.ViewPlaces", spec := "viewPlaces", inPlace := ["internal/abi.NoEscape", "internal/bytealg.MakeNoZero", "math.Float64bits", "math.Float64frombits"], recurses := true, named := ["math/bits.overflowError"], loops := true, apart := false }
def ViewPlacesSaid : Prop := viewPlacesRow.holds Try.pinned (OpenSpec.ofChange viewPlacesSpec)

/-- ITS FALSE NEIGHBOUR: 'it returns false'. Refute it at one input. -/
def viewPlacesWrong : ChangeSpec := { name := "viewPlaces", fn := fun _ => fun
  | [d1, d2, d3] => { results := [.lit (.bool false)], args := [d1, d2, d3] }
  | _ => none }
def ViewPlacesWrongFalsely : Prop := viewPlacesRow.holds Try.pinned (OpenSpec.ofChange viewPlacesWrong)

/- THE SECOND FORM. 'bulk': how many values and letters a reading holds, each counted each time it is reached (what is shared counts as often as it is met; a slice's spare places count too). A statement '..UptoSaid' is the law's where the arguments, and the package variables that the reading takes, are together of bulk at most 1048576: NARROWER than '..Said'. Prove '..Said' where nothing that the law and all that it calls make is longer than what came in: it says more and counts as full. Else prove '..UptoSaid'. A law counts once. -/
mutual
def uptoBulk {H : Type} : DataW H → Nat
  | .lit (.string bytes) => bytes.length + 1
  | .lit _ => 1
  | .nil => 1
  | .ptr d => uptoBulk d + 1
  | .slice elems spare => uptoBulkAll elems + uptoBulkAll spare + 1
  | .agg parts => uptoBulkAll parts + 1
  | .iface _ d => uptoBulk d + 1
  | .map entries => uptoBulkEntries entries + 1
  | .held _ => 1
def uptoBulkAll {H : Type} : List (DataW H) → Nat
  | [] => 0
  | d :: r => uptoBulk d + uptoBulkAll r
def uptoBulkEntries {H : Type} : List (Lit × DataW H) → Nat
  | [] => 0
  | x :: r => uptoBulkEntry x + uptoBulkEntries r
def uptoBulkEntry {H : Type} : Lit × DataW H → Nat
  | (.string bytes, d) => bytes.length + uptoBulk d + 1
  | (_, d) => uptoBulk d + 1
 end
def uptoSmall : (H : Type) → List (DataW H) → Bool := fun _ ds => decide (uptoBulkAll ds ≤ 1048576)
def OpenSpec.upto (s : _root_.Go.ChangeSpec) : _root_.Go.OpenSpec := { _root_.Go.OpenSpec.ofChange s with cond := some uptoSmall }

/-- 'pantographlaw19.ViewExact', WHERE WHAT IT READS IS OF BULK AT MOST 1048576: true; the input reads as it did. -/
def viewExactUptoRow : OpenClaim := { program := "ytbhieajpodnfpaa", sum := "4173fcc0c879e88170c5a994bfa2a0ba1028a6cfef8eab21eb87bd8026ada8da", func := "pantograph/pantographlaw19.ViewExact", spec := "viewExact", inPlace := ["internal/abi.NoEscape", "internal/bytealg.MakeNoZero"], named := ["math/bits.overflowError"], apart := false, narrowed := true }
def ViewExactUptoSaid : Prop := viewExactUptoRow.holds Try.pinned (OpenSpec.upto viewExactSpec)

/-- 'pantographlaw19.ViewPages', WHERE WHAT IT READS IS OF BULK AT MOST 1048576: true; the input reads as it did. -/
def viewPagesUptoRow : OpenClaim := { program := "ytbhieajpodnfpaa", sum := "4173fcc0c879e88170c5a994bfa2a0ba1028a6cfef8eab21eb87bd8026ada8da", func := "pantograph/pantographlaw19.ViewPages", spec := "viewPages", inPlace := ["internal/abi.NoEscape", "internal/bytealg.MakeNoZero"], recurses := true, named := ["math/bits.overflowError"], loops := true, apart := false, narrowed := true }
def ViewPagesUptoSaid : Prop := viewPagesUptoRow.holds Try.pinned (OpenSpec.upto viewPagesSpec)

/-- 'pantographlaw19.ViewPlaces', WHERE WHAT IT READS IS OF BULK AT MOST 1048576: true; the input reads as it did. -/
def viewPlacesUptoRow : OpenClaim := { program := "ytbhieajpodnfpaa", sum := "4173fcc0c879e88170c5a994bfa2a0ba1028a6cfef8eab21eb87bd8026ada8da", func := "pantograph/pantographlaw19.ViewPlaces", spec := "viewPlaces", inPlace := ["internal/abi.NoEscape", "internal/bytealg.MakeNoZero", "math.Float64bits", "math.Float64frombits"], recurses := true, named := ["math/bits.overflowError"], loops := true, apart := false, narrowed := true }
def ViewPlacesUptoSaid : Prop := viewPlacesUptoRow.holds Try.pinned (OpenSpec.upto viewPlacesSpec)

end Rows
end Go.Proofs.Ytbhieajpodnfpaa
