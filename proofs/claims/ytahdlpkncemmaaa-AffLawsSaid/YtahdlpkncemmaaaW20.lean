/- Walks · Walks · Walks. Conditions: those that each theorem names. -/
import Derived.Test.YtahdlpkncemmaaaW17
import Derived.Test.YtahdlpkncemmaaaW19
import Derived.Test.YtahdlpkncemmaaaW18
set_option maxRecDepth 100000
set_option maxHeartbeats 8000000
set_option linter.unusedSimpArgs false
set_option linter.unusedVariables false
namespace Pg
open Go Go.RowKit
end Pg
namespace Go.Proofs.Ytahdlpkncemmaaa
open Go.RowKit Pg
end Go.Proofs.Ytahdlpkncemmaaa
namespace Pg
end Pg
namespace Go.Proofs.Ytahdlpkncemmaaa
open Go.RowKit Pg
end Go.Proofs.Ytahdlpkncemmaaa
namespace Go.Proofs.Ytahdlpkncemmaaa
open Go.RowKit Pg
theorem B3.setOther {w : World} {g h : Nat} {t : TypeId} {v0 v1 v2 : Value} (hB : B3 w g t v0 v1 v2) (hne : g ≠ h) (o : Nat) (u : Value) : B3 (w.setCell ⟨h, o, none⟩ u) g t v0 v1 v2 := by
 unfold B3
 rw [heap_setCell_other _ ⟨h, o, none⟩ g u hne]
 exact hB
theorem Short.neg {q : Rat} {k : Nat} (h : Short q k) : Short (-q) k := by unfold Short at h ⊢; rw [rnum_neg, rden_neg]; exact h
end Go.Proofs.Ytahdlpkncemmaaa
namespace Go.Proofs.Ytahdlpkncemmaaa
open Go.RowKit Pg
end Go.Proofs.Ytahdlpkncemmaaa
namespace Pg
theorem blen_upto {q k : Nat} (h : q < 2 ^ k) : blen q ≤ k := by
 by_cases h0 : q = 0
 ·subst h0; rw [show blen 0 = 0 from rfl]; omega
 ·have := (blen_bounds h0).2.1
  have h2 : 2 ^ (blen q - 1) < 2 ^ k := Nat.lt_of_le_of_lt this h
  have := (Nat.pow_lt_pow_iff_right (a := 2) (by omega)).1 h2
  omega
end Pg
namespace Go.Proofs.Ytahdlpkncemmaaa
open Go.RowKit Pg
theorem CmpE (A A' : Option Addr) (n c n' c' : Nat) (xs ys : List Nat) (w : World) (a b : Nat) (r : Int) (h : Row w A n c xs) (h' : Row w A' n' c' ys) (ea : val xs = a) (eb : val ys = b) (er : cmpv a b = r) :
  Calls Try.prog 37 #[.slice A n c, .slice A' n' c'] w (fun e w' => e = .returned (.int .i64 r) ∧ Below w.heap.size w w') := by
 subst ea eb er; exact Cmp_any A A' n c n' c' xs ys w h h'
end Go.Proofs.Ytahdlpkncemmaaa
namespace Pg
end Pg
namespace Pg
end Pg
namespace Go.Proofs.Ytahdlpkncemmaaa
open Go.RowKit Pg
end Go.Proofs.Ytahdlpkncemmaaa
namespace Pg
end Pg
namespace Go.Proofs.Ytahdlpkncemmaaa
open Go.RowKit Pg
end Go.Proofs.Ytahdlpkncemmaaa
namespace Pg
end Pg
namespace Go.Proofs.Ytahdlpkncemmaaa
open Go.RowKit Pg
end Go.Proofs.Ytahdlpkncemmaaa
namespace Pg
open Ieee
end Pg
namespace Pg
open Ieee
end Pg
namespace Pg
open Ieee
end Pg
