/-
  DERIVED. GIVEN WITH THE SEED: THE CARDS: each row of YtliflabkpeemdaaDoorRows.lean that lists a variable, with what it lists TIED to the program's text (the seventh form; the later family's looks); each row that meets fmt, with fmt's text TOLD by the authors' own Lean function (tested against real Go, not proved from fmt's source: count such statements apart). THE CARD IS WHAT COUNTS. Prove the row's statement (the work); the ties are given (YtliflabkpeemdaaDoorTie.lean); close each card by the builder's one call (the guide's Derived/Test/ToyasCard.lean, 'card_holds'). Laid BY PROGRAM, IN A SANDBOX (cutbox-door.mjs). By AI agents, Wed Nov 11 2026. No macro, syntax, notation, axiom, sorry.
-/
import Derived.Test.YtliflabkpeemdaaDoorRows
import GoSem.ClaimSeven
namespace Go.Proofs.YtliflabkpeemdaaDoor
namespace Rows

/-- THE TIED CARD OF 'pantographlaw1.NatTexts'. -/
def natTextsCard : Claim7 := { stood := { row := natTextsRow, standIns := [], harness := (true, "e88cf0b696ec05a9ff126553f3dbf34999179b0d649601cc815190d069880c76"), looks := false }, kinds := [], alts := [], laidByText := true, laidKinds := [.data, .pinned], laidTests := true, laidLooks := .later }
def NatTextsCardSaid : Prop := Claim7.holds Tryd.pinned (.plain (OpenSpec.ofChange natTextsSpec)) natTextsCard

/-- THE TIED CARD OF 'pantographlaw1.NatPrints'. -/
def natPrintsCard : Claim7 := { stood := { row := natPrintsRow, standIns := [], harness := (true, "e88cf0b696ec05a9ff126553f3dbf34999179b0d649601cc815190d069880c76"), looks := false }, kinds := [], alts := [], laidByText := true, laidKinds := [.data, .pinned], laidTests := true, laidLooks := .later }
def NatPrintsCardSaid : Prop := Claim7.holds Tryd.pinned (.plain (OpenSpec.ofChange natPrintsSpec)) natPrintsCard

/-- THE SECOND FORM's CARD OF 'pantographlaw1.NatTexts'. -/
def natTextsUptoCard : Claim7 := { stood := { row := natTextsUptoRow, standIns := [], harness := (true, "e88cf0b696ec05a9ff126553f3dbf34999179b0d649601cc815190d069880c76"), looks := false }, kinds := [], alts := [], laidByText := true, laidKinds := [.data, .pinned], laidTests := true, laidLooks := .later }
def NatTextsUptoCardSaid : Prop := Claim7.holds Tryd.pinned (.plain (OpenSpec.upto natTextsSpec)) natTextsUptoCard

/-- THE SECOND FORM's CARD OF 'pantographlaw1.NatPrints'. -/
def natPrintsUptoCard : Claim7 := { stood := { row := natPrintsUptoRow, standIns := [], harness := (true, "e88cf0b696ec05a9ff126553f3dbf34999179b0d649601cc815190d069880c76"), looks := false }, kinds := [], alts := [], laidByText := true, laidKinds := [.data, .pinned], laidTests := true, laidLooks := .later }
def NatPrintsUptoCardSaid : Prop := Claim7.holds Tryd.pinned (.plain (OpenSpec.upto natPrintsSpec)) natPrintsUptoCard
end Rows
end Go.Proofs.YtliflabkpeemdaaDoor
