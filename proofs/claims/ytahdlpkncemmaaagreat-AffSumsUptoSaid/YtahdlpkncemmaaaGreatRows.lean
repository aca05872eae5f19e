/-
  NARROWER THAN 'FOR EVERY INPUT', by the rows' own cells (each row's printed sentence says how): AffOfs: loops · AffValues: loops · AffAgrees: loops · AffPlain: loops · AffNames: loops.
  DERIVED. THE GIVEN ROWS OF THIS SEAT. 6 by the template 'for every input the law returns true; each argument reads behind the call as it read before'; 0 by the template 'total and deterministic' (their statements: YtahdlpkncemmaaaGreatTotals.lean).
  GIVEN WITH THE SEED: the statements are not yours to turn. If you find one false, say at which input.
  Laid BY PROGRAM, IN A SANDBOX (cutbox-rows.mjs): the forced cells as the released guide's own fill.sh prints them over the translation 2a1af0ba66594826… (all of the seat's roots in one cut). By AI agents, Wed Nov 11 2026. No macro, syntax, notation, axiom, sorry.
-/
import Derived.Test.YtahdlpkncemmaaaGreatChecked
import GoSem.Claim
import GoSem.ClaimJoined
import GoSem.ClaimMapViews
import Derived.JoinedTies
import Derived.KernelRfl
namespace Go.Proofs.YtahdlpkncemmaaaGreat
/- THE CELL 'sum', in the pinned program and in every row, IS THE sha256 OF THE DUMP (.gsa) THAT YtahdlpkncemmaaaGreatProg.lean LOADS. Nothing in Lean hashes anything: it is a label: what it is worth is what the hold of that sum in a sandbox is worth. -/
noncomputable def Tryz.pinned : Pinned := { name := "ytahdlpkncemmaaagreat", sum := "2a1af0ba66594826d1c843483b1972796d203d32cd8f3856a861e27cf29bd87c", checked := Tryz.checked }
namespace Rows
def none {H : Type} : Left H := { results := [], args := [] }

/-- 'pantographlaw8.AffOfs': WHATEVER THE INPUT: true; the input reads as it did. -/
def affOfsSpec : ChangeSpec := { name := "affOfs", fn := fun _ => fun
  | [d1, d2] => { results := [.lit (.bool true)], args := [d1, d2] }
  | _ => none }
def affOfsRow : OpenClaim := { program := "ytahdlpkncemmaaagreat", sum := "2a1af0ba66594826d1c843483b1972796d203d32cd8f3856a861e27cf29bd87c", func := "pantograph/pantographlaw8.AffOfs", spec := "affOfs", inPlace := ["internal/abi.NoEscape", "internal/bytealg.MakeNoZero"], unfollowed := true, recurses := true, named := ["math/bits.overflowError"], loops := true, apart := false }
def AffOfsSaid : Prop := affOfsRow.holds Tryz.pinned (OpenSpec.ofChange affOfsSpec)

/-- ITS FALSE NEIGHBOUR: 'it returns false'. Refute it at one input. -/
def affOfsWrong : ChangeSpec := { name := "affOfs", fn := fun _ => fun
  | [d1, d2] => { results := [.lit (.bool false)], args := [d1, d2] }
  | _ => none }
def AffOfsWrongFalsely : Prop := affOfsRow.holds Tryz.pinned (OpenSpec.ofChange affOfsWrong)

/-- 'pantographlaw8.AffSums': WHATEVER THE INPUT: true; the input reads as it did. -/
def affSumsSpec : ChangeSpec := { name := "affSums", fn := fun _ => fun
  | [d1, d2, d3, d4, d5] => { results := [.lit (.bool true)], args := [d1, d2, d3, d4, d5] }
  | _ => none }
def affSumsRow : OpenClaim := { program := "ytahdlpkncemmaaagreat", sum := "2a1af0ba66594826d1c843483b1972796d203d32cd8f3856a861e27cf29bd87c", func := "pantograph/pantographlaw8.AffSums", spec := "affSums", inPlace := ["internal/abi.NoEscape", "internal/bytealg.MakeNoZero"], unfollowed := true, recurses := true, named := ["math/bits.overflowError"], apart := false }
def AffSumsSaid : Prop := affSumsRow.holds Tryz.pinned (OpenSpec.ofChange affSumsSpec)

/-- ITS FALSE NEIGHBOUR: 'it returns false'. Refute it at one input. -/
def affSumsWrong : ChangeSpec := { name := "affSums", fn := fun _ => fun
  | [d1, d2, d3, d4, d5] => { results := [.lit (.bool false)], args := [d1, d2, d3, d4, d5] }
  | _ => none }
def AffSumsWrongFalsely : Prop := affSumsRow.holds Tryz.pinned (OpenSpec.ofChange affSumsWrong)

/-- 'pantographlaw8.AffValues': WHATEVER THE INPUT: true; the input reads as it did. -/
def affValuesSpec : ChangeSpec := { name := "affValues", fn := fun _ => fun
  | [d1, d2, d3] => { results := [.lit (.bool true)], args := [d1, d2, d3] }
  | _ => none }
def affValuesRow : OpenClaim := { program := "ytahdlpkncemmaaagreat", sum := "2a1af0ba66594826d1c843483b1972796d203d32cd8f3856a861e27cf29bd87c", func := "pantograph/pantographlaw8.AffValues", spec := "affValues", inPlace := ["internal/abi.NoEscape", "internal/bytealg.MakeNoZero"], unfollowed := true, recurses := true, named := ["math/bits.overflowError"], loops := true, apart := false }
def AffValuesSaid : Prop := affValuesRow.holds Tryz.pinned (OpenSpec.ofChange affValuesSpec)

/-- ITS FALSE NEIGHBOUR: 'it returns false'. Refute it at one input. -/
def affValuesWrong : ChangeSpec := { name := "affValues", fn := fun _ => fun
  | [d1, d2, d3] => { results := [.lit (.bool false)], args := [d1, d2, d3] }
  | _ => none }
def AffValuesWrongFalsely : Prop := affValuesRow.holds Tryz.pinned (OpenSpec.ofChange affValuesWrong)

/-- 'pantographlaw8.AffAgrees': WHATEVER THE INPUT: true; the input reads as it did. -/
def affAgreesSpec : ChangeSpec := { name := "affAgrees", fn := fun _ => fun
  | [d1, d2, d3] => { results := [.lit (.bool true)], args := [d1, d2, d3] }
  | _ => none }
def affAgreesRow : OpenClaim := { program := "ytahdlpkncemmaaagreat", sum := "2a1af0ba66594826d1c843483b1972796d203d32cd8f3856a861e27cf29bd87c", func := "pantograph/pantographlaw8.AffAgrees", spec := "affAgrees", inPlace := ["internal/abi.NoEscape", "internal/bytealg.MakeNoZero"], unfollowed := true, recurses := true, named := ["math/bits.overflowError"], loops := true, apart := false }
def AffAgreesSaid : Prop := affAgreesRow.holds Tryz.pinned (OpenSpec.ofChange affAgreesSpec)

/-- ITS FALSE NEIGHBOUR: 'it returns false'. Refute it at one input. -/
def affAgreesWrong : ChangeSpec := { name := "affAgrees", fn := fun _ => fun
  | [d1, d2, d3] => { results := [.lit (.bool false)], args := [d1, d2, d3] }
  | _ => none }
def AffAgreesWrongFalsely : Prop := affAgreesRow.holds Tryz.pinned (OpenSpec.ofChange affAgreesWrong)

/-- 'pantographlaw8.AffPlain': WHATEVER THE INPUT: true; the input reads as it did. -/
def affPlainSpec : ChangeSpec := { name := "affPlain", fn := fun _ => fun
  | [d1, d2] => { results := [.lit (.bool true)], args := [d1, d2] }
  | _ => none }
def affPlainRow : OpenClaim := { program := "ytahdlpkncemmaaagreat", sum := "2a1af0ba66594826d1c843483b1972796d203d32cd8f3856a861e27cf29bd87c", func := "pantograph/pantographlaw8.AffPlain", spec := "affPlain", inPlace := ["internal/abi.NoEscape", "internal/bytealg.MakeNoZero"], unfollowed := true, recurses := true, named := ["math/bits.overflowError"], loops := true, apart := false }
def AffPlainSaid : Prop := affPlainRow.holds Tryz.pinned (OpenSpec.ofChange affPlainSpec)

/-- ITS FALSE NEIGHBOUR: 'it returns false'. Refute it at one input. -/
def affPlainWrong : ChangeSpec := { name := "affPlain", fn := fun _ => fun
  | [d1, d2] => { results := [.lit (.bool false)], args := [d1, d2] }
  | _ => none }
def AffPlainWrongFalsely : Prop := affPlainRow.holds Tryz.pinned (OpenSpec.ofChange affPlainWrong)

/-- 'pantographlaw8.AffNames': WHATEVER THE INPUT: true; the input reads as it did. -/
def affNamesSpec : ChangeSpec := { name := "affNames", fn := fun _ => fun
  | [d1, d2] => { results := [.lit (.bool true)], args := [d1, d2] }
  | _ => none }
def affNamesRow : OpenClaim := { program := "ytahdlpkncemmaaagreat", sum := "2a1af0ba66594826d1c843483b1972796d203d32cd8f3856a861e27cf29bd87c", func := "pantograph/pantographlaw8.AffNames", spec := "affNames", inPlace := ["internal/abi.NoEscape", "internal/bytealg.MakeNoZero"], unfollowed := true, recurses := true, named := ["math/bits.overflowError"], loops := true, apart := false }
def AffNamesSaid : Prop := affNamesRow.holds Tryz.pinned (OpenSpec.ofChange affNamesSpec)

/-- ITS FALSE NEIGHBOUR: 'it returns false'. Refute it at one input. -/
def affNamesWrong : ChangeSpec := { name := "affNames", fn := fun _ => fun
  | [d1, d2] => { results := [.lit (.bool false)], args := [d1, d2] }
  | _ => none }
def AffNamesWrongFalsely : Prop := affNamesRow.holds Tryz.pinned (OpenSpec.ofChange affNamesWrong)

/- THE SECOND FORM. 'bulk': how many values and letters a reading holds, each counted each time it is reached (what is shared counts as often as it is met; a slice's spare places count too). A statement '..UptoSaid' is the law's where the arguments, and the package variables that the reading takes, are together of bulk at most 1048576: NARROWER than '..Said'. Prove '..Said' where nothing that the law and all that it calls make is longer than what came in: it says more and counts as full. Else prove '..UptoSaid'. A law counts once. -/
mutual
def uptoBulk {H : Type} : DataW H → Nat
  | .lit (.string bytes) => bytes.length + 1
  | .lit _ => 1
  | .nil => 1
  | .ptr d => uptoBulk d + 1
  | .slice elems spare => uptoBulkAll elems + uptoBulkAll spare + 1
  | .agg parts => uptoBulkAll parts + 1
  | .iface _ d => uptoBulk d + 1
  | .map entries => uptoBulkEntries entries + 1
  | .held _ => 1
def uptoBulkAll {H : Type} : List (DataW H) → Nat
  | [] => 0
  | d :: r => uptoBulk d + uptoBulkAll r
def uptoBulkEntries {H : Type} : List (Lit × DataW H) → Nat
  | [] => 0
  | x :: r => uptoBulkEntry x + uptoBulkEntries r
def uptoBulkEntry {H : Type} : Lit × DataW H → Nat
  | (.string bytes, d) => bytes.length + uptoBulk d + 1
  | (_, d) => uptoBulk d + 1
 end
def uptoSmall : (H : Type) → List (DataW H) → Bool := fun _ ds => decide (uptoBulkAll ds ≤ 1048576)
def OpenSpec.upto (s : _root_.Go.ChangeSpec) : _root_.Go.OpenSpec := { _root_.Go.OpenSpec.ofChange s with cond := some uptoSmall }

/-- 'pantographlaw8.AffOfs', WHERE WHAT IT READS IS OF BULK AT MOST 1048576: true; the input reads as it did. -/
def affOfsUptoRow : OpenClaim := { program := "ytahdlpkncemmaaagreat", sum := "2a1af0ba66594826d1c843483b1972796d203d32cd8f3856a861e27cf29bd87c", func := "pantograph/pantographlaw8.AffOfs", spec := "affOfs", inPlace := ["internal/abi.NoEscape", "internal/bytealg.MakeNoZero"], unfollowed := true, recurses := true, named := ["math/bits.overflowError"], loops := true, apart := false, narrowed := true }
def AffOfsUptoSaid : Prop := affOfsUptoRow.holds Tryz.pinned (OpenSpec.upto affOfsSpec)

/-- 'pantographlaw8.AffSums', WHERE WHAT IT READS IS OF BULK AT MOST 1048576: true; the input reads as it did. -/
def affSumsUptoRow : OpenClaim := { program := "ytahdlpkncemmaaagreat", sum := "2a1af0ba66594826d1c843483b1972796d203d32cd8f3856a861e27cf29bd87c", func := "pantograph/pantographlaw8.AffSums", spec := "affSums", inPlace := ["internal/abi.NoEscape", "internal/bytealg.MakeNoZero"], unfollowed := true, recurses := true, named := ["math/bits.overflowError"], apart := false, narrowed := true }
def AffSumsUptoSaid : Prop := affSumsUptoRow.holds Tryz.pinned (OpenSpec.upto affSumsSpec)

/-- 'pantographlaw8.AffValues', WHERE WHAT IT READS IS OF BULK AT MOST 1048576: true; the input reads as it did. -/
def affValuesUptoRow : OpenClaim := { program := "ytahdlpkncemmaaagreat", sum := "2a1af0ba66594826d1c843483b1972796d203d32cd8f3856a861e27cf29bd87c", func := "pantograph/pantographlaw8.AffValues", spec := "affValues", inPlace := ["internal/abi.NoEscape", "internal/bytealg.MakeNoZero"], unfollowed := true, recurses := true, named := ["math/bits.overflowError"], loops := true, apart := false, narrowed := true }
def AffValuesUptoSaid : Prop := affValuesUptoRow.holds Tryz.pinned (OpenSpec.upto affValuesSpec)

/-- 'pantographlaw8.AffAgrees', WHERE WHAT IT READS IS OF BULK AT MOST 1048576: true; the input reads as it did. -/
def affAgreesUptoRow : OpenClaim := { program := "ytahdlpkncemmaaagreat", sum := "2a1af0ba66594826d1c843483b1972796d203d32cd8f3856a861e27cf29bd87c", func := "pantograph/pantographlaw8.AffAgrees", spec := "affAgrees", inPlace := ["internal/abi.NoEscape", "internal/bytealg.MakeNoZero"], unfollowed := true, recurses := true, named := ["math/bits.overflowError"], loops := true, apart := false, narrowed := true }
def AffAgreesUptoSaid : Prop := affAgreesUptoRow.holds Tryz.pinned (OpenSpec.upto affAgreesSpec)

/-- 'pantographlaw8.AffPlain', WHERE WHAT IT READS IS OF BULK AT MOST 1048576: true; the input reads as it did. -/
def affPlainUptoRow : OpenClaim := { program := "ytahdlpkncemmaaagreat", sum := "2a1af0ba66594826d1c843483b1972796d203d32cd8f3856a861e27cf29bd87c", func := "pantograph/pantographlaw8.AffPlain", spec := "affPlain", inPlace := ["internal/abi.NoEscape", "internal/bytealg.MakeNoZero"], unfollowed := true, recurses := true, named := ["math/bits.overflowError"], loops := true, apart := false, narrowed := true }
def AffPlainUptoSaid : Prop := affPlainUptoRow.holds Tryz.pinned (OpenSpec.upto affPlainSpec)

/-- 'pantographlaw8.AffNames', WHERE WHAT IT READS IS OF BULK AT MOST 1048576: true; the input reads as it did. -/
def affNamesUptoRow : OpenClaim := { program := "ytahdlpkncemmaaagreat", sum := "2a1af0ba66594826d1c843483b1972796d203d32cd8f3856a861e27cf29bd87c", func := "pantograph/pantographlaw8.AffNames", spec := "affNames", inPlace := ["internal/abi.NoEscape", "internal/bytealg.MakeNoZero"], unfollowed := true, recurses := true, named := ["math/bits.overflowError"], loops := true, apart := false, narrowed := true }
def AffNamesUptoSaid : Prop := affNamesUptoRow.holds Tryz.pinned (OpenSpec.upto affNamesSpec)

end Rows
end Go.Proofs.YtahdlpkncemmaaaGreat
