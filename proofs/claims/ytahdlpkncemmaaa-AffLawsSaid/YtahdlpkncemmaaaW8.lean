/- Walks. Conditions: those that each theorem names. -/
import Derived.Test.YtahdlpkncemmaaaW6
import Derived.Test.YtahdlpkncemmaaaW7
set_option maxRecDepth 100000
set_option maxHeartbeats 8000000
set_option linter.unusedSimpArgs false
set_option linter.unusedVariables false
namespace Go.Proofs.Ytahdlpkncemmaaa
open Go.RowKit Pg
def Made (w : World) (t : TypeId) (N : Nat) (P : List Nat → Prop) (e : Ending) (w' : World) : Prop :=
 ∃ g cs, e = .returned (.slice (some ⟨g, 0, none⟩) N N) ∧ Hid (cs.length = N) ∧ P cs ∧ Blk w' g t cs ∧ w.heap.size ≤ g ∧ Below w.heap.size w w'
theorem left_any (A : Option Addr) (n c s m : Nat) (xs : List Nat) (w : World) (h : Row w A n c xs) (hs : s ≤ 31) (hnm : n ≤ m) (hm : m ≤ 2147483648) :
  Calls Try.prog 62 #[.slice A n c, .int .u64 (s : Int), .int .i64 (m : Int)] w
   (Made w 44 m fun cs => Ok cs ∧ Hid (val cs = val xs * 2 ^ s % 4294967296 ^ m)) := by
 have hmk := run_make_row (P := Try.prog) 23 44 Try.underlying23 info32 (m : Int) m rfl (by omega)
 have hl := hid h.len
 have hp1 := h.nc
 have hp2 := h.cm
 go_enter Try.func62, Try.ntmps62
 go_wp2_with fail
 go_loopw [15] (fun i wr => ∃ k cs, k ≤ n ∧ i = .int .i64 ((k : Nat) : Int) ∧ LeftInv xs s m k cs ∧ Blk wr w.heap.size 44 cs ∧ Below w.heap.size w wr) (fun i _ => n - (intOf i).toNat)
 case atStart => exact ⟨0, _, by omega, rfl, LeftInv.start xs s m, Blk.new _ _ _, Below.alloc (Below.refl _ _) (Nat.le_refl _) _⟩
 case round =>
  obtain ⟨k, cs, hk, rfl, hinv, hblk, hbel⟩ := hrel
  have hlp := lim_lt h.ok k
  have hlc := lim_lt hinv.ok k
  have hcl := hid hinv.len
  by_cases hlt : k < n
  ·obtain ⟨b, o, rfl, hc⟩ := h.at_ (by omega)
   have hbw := h.lt (by omega) rfl
   have g1 : wr.cell? ⟨b, o + k, none⟩ = some (.int .u32 ((lim xs k : Nat) : Int)) := (hbel.cell (by exact hbw)).trans (hc k hlt)
   have g3 := hblk.cell (i := k) (by rw [hcl.out]; omega)
   have hfz := hblk.frozen k
   have hfz2 := hblk.frozen (k + 1)
   clear hc
   by_cases hk1 : k + 1 < m
   ·have g4 := hblk.cell (i := k + 1) (by rw [hcl.out]; omega)
    go_wp2_with fail
    go_roundw
    case rel =>
     exact ⟨k + 1, _, by omega, by go_num, hinv.step h.ok hs hk1, (hblk.set k _ _ (walk_orl hlc hlp hs)).set (k + 1) _ _ (walk_hi hlp hs), (hbel.setCell (Nat.le_refl _) _).setCell (Nat.le_refl _) _⟩
    case measure => simp [intOf]; omega
   ·have hk2 : m ≤ k + 1 := by omega
    go_wp2_with fail
    go_roundw
    case rel =>
     exact ⟨k + 1, _, by omega, by go_num, hinv.last hs (by omega), hblk.set k _ _ (walk_orl hlc hlp hs), hbel.setCell (Nat.le_refl _) _⟩
    case measure => simp [intOf]; omega
  ·obtain rfl : k = n := by omega
   have hd : Hid (val cs = val xs * 2 ^ s % 4294967296 ^ m) := hid (by
    have e := hl.out
    subst e
    exact hinv.done)
   go_wp2_with fail
   go_ret
   exact ⟨w.heap.size, cs, rfl, hcl, ⟨hinv.ok, hd⟩, hblk, Nat.le_refl _, hbel⟩
theorem left_I (A : Option Addr) (n c s m : Nat) (xs : List Nat) (w : World) (sI mI : Int) (es : sI = (s : Int)) (em : mI = (m : Int)) (h : Row w A n c xs) (hs : s ≤ 31) (hnm : n ≤ m) (hm : m ≤ 2147483648) :
  Calls Try.prog 62 #[.slice A n c, .int .u64 sI, .int .i64 mI] w
   (Made w 44 m fun cs => Ok cs ∧ Hid (val cs = val xs * 2 ^ s % 4294967296 ^ m)) := by
 subst es em
 exact left_any A n c s m xs w h hs hnm hm
end Go.Proofs.Ytahdlpkncemmaaa
