/-
  No cell of these rows narrows 'for every input' (looked for: loops, veiled, ifaces, maps, wideKeys, modest, calm, conditions, laid).
  DERIVED. THE GIVEN ROWS OF THIS SEAT. 8 by the template 'for every input the law returns true; each argument reads behind the call as it read before'; 0 by the template 'total and deterministic' (their statements: YtliflabkpeemdaaTotals.lean).
  GIVEN WITH THE SEED: the statements are not yours to turn. If you find one false, say at which input.
  Laid BY PROGRAM, IN A SANDBOX (cutbox-rows.mjs): the forced cells as the released guide's own fill.sh prints them over the translation 7940f49bbf93ad8c… (all of the seat's roots in one cut). By AI agents, Wed Nov 11 2026. No macro, syntax, notation, axiom, sorry.
-/
import Derived.Test.YtliflabkpeemdaaChecked
import GoSem.Claim
import GoSem.ClaimJoined
import GoSem.ClaimMapViews
import Derived.JoinedTies
import Derived.KernelRfl
namespace Go.Proofs.Ytliflabkpeemdaa
/- THE CELL 'sum', in the pinned program and in every row, IS THE sha256 OF THE DUMP (.gsa) THAT YtliflabkpeemdaaProg.lean LOADS. Nothing in Lean hashes anything: it is a label: what it is worth is what the hold of that sum in a sandbox is worth. -/
noncomputable def Try.pinned : Pinned := { name := "ytliflabkpeemdaa", sum := "7940f49bbf93ad8c9100c39bf530673bf8b84df98f38ef369c7e9e75dd0e450a", checked := Try.checked }
namespace Rows
def none {H : Type} : Left H := { results := [], args := [] }

/-- 'pantographlaw1.NatLaws': WHATEVER THE INPUT: true; the input reads as it did. -/
def natLawsSpec : ChangeSpec := { name := "natLaws", fn := fun _ => fun
  | [d1, d2, d3] => { results := [.lit (.bool true)], args := [d1, d2, d3] }
  | _ => none }
def natLawsRow : OpenClaim := { program := "ytliflabkpeemdaa", sum := "7940f49bbf93ad8c9100c39bf530673bf8b84df98f38ef369c7e9e75dd0e450a", func := "pantograph/pantographlaw1.NatLaws", spec := "natLaws", apart := false }
def NatLawsSaid : Prop := natLawsRow.holds Try.pinned (OpenSpec.ofChange natLawsSpec)

/-- ITS FALSE NEIGHBOUR: 'it returns false'. Refute it at one input. -/
def natLawsWrong : ChangeSpec := { name := "natLaws", fn := fun _ => fun
  | [d1, d2, d3] => { results := [.lit (.bool false)], args := [d1, d2, d3] }
  | _ => none }
def NatLawsWrongFalsely : Prop := natLawsRow.holds Try.pinned (OpenSpec.ofChange natLawsWrong)

/-- 'pantographlaw1.NatShifts': WHATEVER THE INPUT: true; the input reads as it did. -/
def natShiftsSpec : ChangeSpec := { name := "natShifts", fn := fun _ => fun
  | [d1, d2] => { results := [.lit (.bool true)], args := [d1, d2] }
  | _ => none }
def natShiftsRow : OpenClaim := { program := "ytliflabkpeemdaa", sum := "7940f49bbf93ad8c9100c39bf530673bf8b84df98f38ef369c7e9e75dd0e450a", func := "pantograph/pantographlaw1.NatShifts", spec := "natShifts", apart := false }
def NatShiftsSaid : Prop := natShiftsRow.holds Try.pinned (OpenSpec.ofChange natShiftsSpec)

/-- ITS FALSE NEIGHBOUR: 'it returns false'. Refute it at one input. -/
def natShiftsWrong : ChangeSpec := { name := "natShifts", fn := fun _ => fun
  | [d1, d2] => { results := [.lit (.bool false)], args := [d1, d2] }
  | _ => none }
def NatShiftsWrongFalsely : Prop := natShiftsRow.holds Try.pinned (OpenSpec.ofChange natShiftsWrong)

/-- 'pantographlaw1.NatAdds': WHATEVER THE INPUT: true; the input reads as it did. -/
def natAddsSpec : ChangeSpec := { name := "natAdds", fn := fun _ => fun
  | [d1, d2] => { results := [.lit (.bool true)], args := [d1, d2] }
  | _ => none }
def natAddsRow : OpenClaim := { program := "ytliflabkpeemdaa", sum := "7940f49bbf93ad8c9100c39bf530673bf8b84df98f38ef369c7e9e75dd0e450a", func := "pantograph/pantographlaw1.NatAdds", spec := "natAdds", apart := false }
def NatAddsSaid : Prop := natAddsRow.holds Try.pinned (OpenSpec.ofChange natAddsSpec)

/-- ITS FALSE NEIGHBOUR: 'it returns false'. Refute it at one input. -/
def natAddsWrong : ChangeSpec := { name := "natAdds", fn := fun _ => fun
  | [d1, d2] => { results := [.lit (.bool false)], args := [d1, d2] }
  | _ => none }
def NatAddsWrongFalsely : Prop := natAddsRow.holds Try.pinned (OpenSpec.ofChange natAddsWrong)

/-- 'pantographlaw1.NatLooks': WHATEVER THE INPUT: true; the input reads as it did. -/
def natLooksSpec : ChangeSpec := { name := "natLooks", fn := fun _ => fun
  | [d1, d2, d3] => { results := [.lit (.bool true)], args := [d1, d2, d3] }
  | _ => none }
def natLooksRow : OpenClaim := { program := "ytliflabkpeemdaa", sum := "7940f49bbf93ad8c9100c39bf530673bf8b84df98f38ef369c7e9e75dd0e450a", func := "pantograph/pantographlaw1.NatLooks", spec := "natLooks", apart := false }
def NatLooksSaid : Prop := natLooksRow.holds Try.pinned (OpenSpec.ofChange natLooksSpec)

/-- ITS FALSE NEIGHBOUR: 'it returns false'. Refute it at one input. -/
def natLooksWrong : ChangeSpec := { name := "natLooks", fn := fun _ => fun
  | [d1, d2, d3] => { results := [.lit (.bool false)], args := [d1, d2, d3] }
  | _ => none }
def NatLooksWrongFalsely : Prop := natLooksRow.holds Try.pinned (OpenSpec.ofChange natLooksWrong)

/-- 'pantographlaw1.NatBack': WHATEVER THE INPUT: true; the input reads as it did. -/
def natBackSpec : ChangeSpec := { name := "natBack", fn := fun _ => fun
  | [d1, d2] => { results := [.lit (.bool true)], args := [d1, d2] }
  | _ => none }
def natBackRow : OpenClaim := { program := "ytliflabkpeemdaa", sum := "7940f49bbf93ad8c9100c39bf530673bf8b84df98f38ef369c7e9e75dd0e450a", func := "pantograph/pantographlaw1.NatBack", spec := "natBack", named := ["math/bits.overflowError"], apart := false }
def NatBackSaid : Prop := natBackRow.holds Try.pinned (OpenSpec.ofChange natBackSpec)

/-- ITS FALSE NEIGHBOUR: 'it returns false'. Refute it at one input. -/
def natBackWrong : ChangeSpec := { name := "natBack", fn := fun _ => fun
  | [d1, d2] => { results := [.lit (.bool false)], args := [d1, d2] }
  | _ => none }
def NatBackWrongFalsely : Prop := natBackRow.holds Try.pinned (OpenSpec.ofChange natBackWrong)

/-- 'pantographlaw1.NatDivides': WHATEVER THE INPUT: true; the input reads as it did. -/
def natDividesSpec : ChangeSpec := { name := "natDivides", fn := fun _ => fun
  | [d1, d2] => { results := [.lit (.bool true)], args := [d1, d2] }
  | _ => none }
def natDividesRow : OpenClaim := { program := "ytliflabkpeemdaa", sum := "7940f49bbf93ad8c9100c39bf530673bf8b84df98f38ef369c7e9e75dd0e450a", func := "pantograph/pantographlaw1.NatDivides", spec := "natDivides", named := ["math/bits.overflowError"], apart := false }
def NatDividesSaid : Prop := natDividesRow.holds Try.pinned (OpenSpec.ofChange natDividesSpec)

/-- ITS FALSE NEIGHBOUR: 'it returns false'. Refute it at one input. -/
def natDividesWrong : ChangeSpec := { name := "natDivides", fn := fun _ => fun
  | [d1, d2] => { results := [.lit (.bool false)], args := [d1, d2] }
  | _ => none }
def NatDividesWrongFalsely : Prop := natDividesRow.holds Try.pinned (OpenSpec.ofChange natDividesWrong)

/-- 'pantographlaw1.NatGcds': WHATEVER THE INPUT: true; the input reads as it did. -/
def natGcdsSpec : ChangeSpec := { name := "natGcds", fn := fun _ => fun
  | [d1, d2] => { results := [.lit (.bool true)], args := [d1, d2] }
  | _ => none }
def natGcdsRow : OpenClaim := { program := "ytliflabkpeemdaa", sum := "7940f49bbf93ad8c9100c39bf530673bf8b84df98f38ef369c7e9e75dd0e450a", func := "pantograph/pantographlaw1.NatGcds", spec := "natGcds", named := ["math/bits.overflowError"], apart := false }
def NatGcdsSaid : Prop := natGcdsRow.holds Try.pinned (OpenSpec.ofChange natGcdsSpec)

/-- ITS FALSE NEIGHBOUR: 'it returns false'. Refute it at one input. -/
def natGcdsWrong : ChangeSpec := { name := "natGcds", fn := fun _ => fun
  | [d1, d2] => { results := [.lit (.bool false)], args := [d1, d2] }
  | _ => none }
def NatGcdsWrongFalsely : Prop := natGcdsRow.holds Try.pinned (OpenSpec.ofChange natGcdsWrong)

/-- 'pantographlaw1.NatOwn': WHATEVER THE INPUT: true; the input reads as it did. -/
def natOwnSpec : ChangeSpec := { name := "natOwn", fn := fun _ => fun
  | [d1, d2] => { results := [.lit (.bool true)], args := [d1, d2] }
  | _ => none }
def natOwnRow : OpenClaim := { program := "ytliflabkpeemdaa", sum := "7940f49bbf93ad8c9100c39bf530673bf8b84df98f38ef369c7e9e75dd0e450a", func := "pantograph/pantographlaw1.NatOwn", spec := "natOwn", named := ["math/bits.overflowError"], apart := false }
def NatOwnSaid : Prop := natOwnRow.holds Try.pinned (OpenSpec.ofChange natOwnSpec)

/-- ITS FALSE NEIGHBOUR: 'it returns false'. Refute it at one input. -/
def natOwnWrong : ChangeSpec := { name := "natOwn", fn := fun _ => fun
  | [d1, d2] => { results := [.lit (.bool false)], args := [d1, d2] }
  | _ => none }
def NatOwnWrongFalsely : Prop := natOwnRow.holds Try.pinned (OpenSpec.ofChange natOwnWrong)

/- THE SECOND FORM. 'bulk': how many values and letters a reading holds, each counted each time it is reached (what is shared counts as often as it is met; a slice's spare places count too). A statement '..UptoSaid' is the law's where the arguments, and the package variables that the reading takes, are together of bulk at most 1048576: NARROWER than '..Said'. Prove '..Said' where nothing that the law and all that it calls make is longer than what came in: it says more and counts as full. Else prove '..UptoSaid'. A law counts once. -/
mutual
def uptoBulk {H : Type} : DataW H → Nat
  | .lit (.string bytes) => bytes.length + 1
  | .lit _ => 1
  | .nil => 1
  | .ptr d => uptoBulk d + 1
  | .slice elems spare => uptoBulkAll elems + uptoBulkAll spare + 1
  | .agg parts => uptoBulkAll parts + 1
  | .iface _ d => uptoBulk d + 1
  | .map entries => uptoBulkEntries entries + 1
  | .held _ => 1
def uptoBulkAll {H : Type} : List (DataW H) → Nat
  | [] => 0
  | d :: r => uptoBulk d + uptoBulkAll r
def uptoBulkEntries {H : Type} : List (Lit × DataW H) → Nat
  | [] => 0
  | x :: r => uptoBulkEntry x + uptoBulkEntries r
def uptoBulkEntry {H : Type} : Lit × DataW H → Nat
  | (.string bytes, d) => bytes.length + uptoBulk d + 1
  | (_, d) => uptoBulk d + 1
 end
def uptoSmall : (H : Type) → List (DataW H) → Bool := fun _ ds => decide (uptoBulkAll ds ≤ 1048576)
def OpenSpec.upto (s : _root_.Go.ChangeSpec) : _root_.Go.OpenSpec := { _root_.Go.OpenSpec.ofChange s with cond := some uptoSmall }

/-- 'pantographlaw1.NatLaws', WHERE WHAT IT READS IS OF BULK AT MOST 1048576: true; the input reads as it did. -/
def natLawsUptoRow : OpenClaim := { program := "ytliflabkpeemdaa", sum := "7940f49bbf93ad8c9100c39bf530673bf8b84df98f38ef369c7e9e75dd0e450a", func := "pantograph/pantographlaw1.NatLaws", spec := "natLaws", apart := false, narrowed := true }
def NatLawsUptoSaid : Prop := natLawsUptoRow.holds Try.pinned (OpenSpec.upto natLawsSpec)

/-- 'pantographlaw1.NatShifts', WHERE WHAT IT READS IS OF BULK AT MOST 1048576: true; the input reads as it did. -/
def natShiftsUptoRow : OpenClaim := { program := "ytliflabkpeemdaa", sum := "7940f49bbf93ad8c9100c39bf530673bf8b84df98f38ef369c7e9e75dd0e450a", func := "pantograph/pantographlaw1.NatShifts", spec := "natShifts", apart := false, narrowed := true }
def NatShiftsUptoSaid : Prop := natShiftsUptoRow.holds Try.pinned (OpenSpec.upto natShiftsSpec)

/-- 'pantographlaw1.NatAdds', WHERE WHAT IT READS IS OF BULK AT MOST 1048576: true; the input reads as it did. -/
def natAddsUptoRow : OpenClaim := { program := "ytliflabkpeemdaa", sum := "7940f49bbf93ad8c9100c39bf530673bf8b84df98f38ef369c7e9e75dd0e450a", func := "pantograph/pantographlaw1.NatAdds", spec := "natAdds", apart := false, narrowed := true }
def NatAddsUptoSaid : Prop := natAddsUptoRow.holds Try.pinned (OpenSpec.upto natAddsSpec)

/-- 'pantographlaw1.NatLooks', WHERE WHAT IT READS IS OF BULK AT MOST 1048576: true; the input reads as it did. -/
def natLooksUptoRow : OpenClaim := { program := "ytliflabkpeemdaa", sum := "7940f49bbf93ad8c9100c39bf530673bf8b84df98f38ef369c7e9e75dd0e450a", func := "pantograph/pantographlaw1.NatLooks", spec := "natLooks", apart := false, narrowed := true }
def NatLooksUptoSaid : Prop := natLooksUptoRow.holds Try.pinned (OpenSpec.upto natLooksSpec)

/-- 'pantographlaw1.NatBack', WHERE WHAT IT READS IS OF BULK AT MOST 1048576: true; the input reads as it did. -/
def natBackUptoRow : OpenClaim := { program := "ytliflabkpeemdaa", sum := "7940f49bbf93ad8c9100c39bf530673bf8b84df98f38ef369c7e9e75dd0e450a", func := "pantograph/pantographlaw1.NatBack", spec := "natBack", named := ["math/bits.overflowError"], apart := false, narrowed := true }
def NatBackUptoSaid : Prop := natBackUptoRow.holds Try.pinned (OpenSpec.upto natBackSpec)

/-- 'pantographlaw1.NatDivides', WHERE WHAT IT READS IS OF BULK AT MOST 1048576: true; the input reads as it did. -/
def natDividesUptoRow : OpenClaim := { program := "ytliflabkpeemdaa", sum := "7940f49bbf93ad8c9100c39bf530673bf8b84df98f38ef369c7e9e75dd0e450a", func := "pantograph/pantographlaw1.NatDivides", spec := "natDivides", named := ["math/bits.overflowError"], apart := false, narrowed := true }
def NatDividesUptoSaid : Prop := natDividesUptoRow.holds Try.pinned (OpenSpec.upto natDividesSpec)

/-- 'pantographlaw1.NatGcds', WHERE WHAT IT READS IS OF BULK AT MOST 1048576: true; the input reads as it did. -/
def natGcdsUptoRow : OpenClaim := { program := "ytliflabkpeemdaa", sum := "7940f49bbf93ad8c9100c39bf530673bf8b84df98f38ef369c7e9e75dd0e450a", func := "pantograph/pantographlaw1.NatGcds", spec := "natGcds", named := ["math/bits.overflowError"], apart := false, narrowed := true }
def NatGcdsUptoSaid : Prop := natGcdsUptoRow.holds Try.pinned (OpenSpec.upto natGcdsSpec)

/-- 'pantographlaw1.NatOwn', WHERE WHAT IT READS IS OF BULK AT MOST 1048576: true; the input reads as it did. -/
def natOwnUptoRow : OpenClaim := { program := "ytliflabkpeemdaa", sum := "7940f49bbf93ad8c9100c39bf530673bf8b84df98f38ef369c7e9e75dd0e450a", func := "pantograph/pantographlaw1.NatOwn", spec := "natOwn", named := ["math/bits.overflowError"], apart := false, narrowed := true }
def NatOwnUptoSaid : Prop := natOwnUptoRow.holds Try.pinned (OpenSpec.upto natOwnSpec)

end Rows
end Go.Proofs.Ytliflabkpeemdaa
