/- Walk · Walk. Conditions: those that each theorem names. -/
import Derived.Test.YtahdlpkncemmaaaW10
import Derived.Test.YtahdlpkncemmaaaW12
set_option maxRecDepth 100000
set_option maxHeartbeats 8000000
set_option linter.unusedSimpArgs false
set_option linter.unusedVariables false
namespace Go.Proofs.Ytahdlpkncemmaaa
open Go.RowKit Pg
theorem small_any (A : Option Addr) (n c b : Nat) (xs : List Nat) (w : World) (h : Row w A n c xs) (hn : n ≤ 1073741824) (hb0 : 0 < b) (hb : b < 4294967296) :
  Calls Try.prog 51 #[.slice A n c, .int .u32 (b : Int)] w fun e w' => ∃ A' c', e = .returned (.tuple #[.slice A' (limbs (val xs / b)).length c', .int .u32 ((val xs % b : Nat) : Int)]) ∧ Row w' A' (limbs (val xs / b)).length c' (limbs (val xs / b)) ∧ Below w.heap.size w w' := by
 have h1 := h.nc
 have h2 := h.cm
 have hpl := hid h.len
 have hmk := run_make_row (P := Try.prog) 23 44 Try.underlying23 info32 (n : Int) n rfl (by omega)
 go_enter Try.func51, Try.ntmps51
 go_wp2_with fail
 go_loopw [7, 8] (fun s7 i wr => ∃ k rest cs, ∃ iI : Int, k ≤ n ∧ i = .int .i64 iI ∧ iI + 1 = (k : Int) ∧ s7 = .int .u32 ((rest : Nat) : Int) ∧ SmallInv xs b k rest cs ∧ Blk wr w.heap.size 44 cs ∧ Below w.heap.size w wr) (fun _ i _ => (intOf i + 1).toNat)
 case atStart =>
  have hs := SmallInv.start xs hb0
  rw [hpl.out] at hs
  exact ⟨n, 0, _, _, Nat.le_refl _, rfl, by omega, rfl, hs, Blk.new _ _ _, Below.alloc (Below.refl _ _) (Nat.le_refl _) _⟩
 case round =>
  obtain ⟨k, rest, cs, iI, hk, rfl, hi, rfl, hinv, hblk, hbel⟩ := hrel
  have hcl := hid (hinv.len.trans hpl.out)
  rcases k with _ | m
  ·obtain rfl : iI = -1 := by omega
   have HD := hid hinv.done
   have hr2 := hblk.row hinv.ok (by rw [hcl.out]; omega)
   rw [hcl.out] at hr2
   go_wp2_with (go_at_call 32; refine (trim_any _ _ _ _ _ hr2).mono ?_; rintro e w' ⟨rfl, rfl⟩)
   go_ret2
   have e1 := HD.out.1
   have e2 := HD.out.2
   subst e2
   rw [← e1]
   exact ⟨_, _, rfl, hr2.trim, hbel⟩
  ·obtain rfl : iI = (m : Int) := by omega
   have hlt := hinv.lt
   have hlp := lim_lt h.ok m
   obtain ⟨bb, o, rfl, hc⟩ := h.at_ (by omega)
   have hbw1 := h.lt (by omega) rfl
   have g1 : wr.cell? ⟨bb, o + m, none⟩ = some (.int .u32 ((lim xs m : Nat) : Int)) := (hbel.cell (by exact hbw1)).trans (hc m (by omega))
   clear hc
   have hnext := hid (hinv.step h.ok (by rw [hpl.out]; omega) (by omega))
   go_wp2_with (go_at_call 60; refine (div32_any rest (lim xs m) b _ _ _ _ (by rfl) (by rfl) (by rfl) hlp hb hlt).mono ?_; rintro e w' ⟨rfl, hb1⟩; have hblk2 := hblk.below hb1; have hfz := hblk2.frozen m; have g2 := hblk2.cell (i := m) (by rw [hcl.out]; omega))
   go_roundw
   case rel => exact ⟨m, _, _, _, by omega, rfl, by omega, by go_num, hnext.out, hblk2.set m _ _ (by go_num), (hbel.trans (hb1.mono hbel.size)).setCell (Nat.le_refl _) _⟩
   case measure => simp [intOf]
end Go.Proofs.Ytahdlpkncemmaaa
namespace Go.Proofs.Ytahdlpkncemmaaa
open Go.RowKit Pg
theorem rsmall_any (A : Option Addr) (n c b : Nat) (xs : List Nat) (w : World) (h : Row w A n c xs) (hn : n ≤ 35184372087808) (hb0 : 0 < b) (hb : b < 4294967296) :
  Calls Try.prog 40 #[.slice A n c, .int .u64 (b : Int)] w fun e w' => ∃ A' c', e = .returned (.tuple #[.slice A' (limbs (val xs / b)).length c', .int .u64 ((val xs % b : Nat) : Int)]) ∧ Row w' A' (limbs (val xs / b)).length c' (limbs (val xs / b)) ∧ Below w.heap.size w w' := by
 have h1 := h.nc
 have h2 := h.cm
 have hpl := hid h.len
 have hmk := run_make_row (P := Try.prog) 23 44 Try.underlying23 info32 (n : Int) n rfl (by omega)
 have hne : ((b : Int) != 0) = true := by simp; omega
 go_enter Try.func40, Try.ntmps40
 go_wp2_with fail
 go_loopw [7, 8] (fun s7 i wr => ∃ k rest cs, ∃ iI : Int, k ≤ n ∧ i = .int .i64 iI ∧ iI + 1 = (k : Int) ∧ s7 = .int .u64 ((rest : Nat) : Int) ∧ SmallInv xs b k rest cs ∧ Blk wr w.heap.size 44 cs ∧ Below w.heap.size w wr) (fun _ i _ => (intOf i + 1).toNat)
 case atStart =>
  have hs := SmallInv.start xs hb0
  rw [hpl.out] at hs
  exact ⟨n, 0, _, _, Nat.le_refl _, rfl, by omega, rfl, hs, Blk.new _ _ _, Below.alloc (Below.refl _ _) (Nat.le_refl _) _⟩
 case round =>
  obtain ⟨k, rest, cs, iI, hk, rfl, hi, rfl, hinv, hblk, hbel⟩ := hrel
  have hcl := hid (hinv.len.trans hpl.out)
  rcases k with _ | m
  ·obtain rfl : iI = -1 := by omega
   have HD := hid hinv.done
   have hr2 := hblk.row hinv.ok (by rw [hcl.out]; omega)
   rw [hcl.out] at hr2
   go_wp2_with (go_at_call 27; refine (rTrim_any _ _ _ _ _ hr2 (by omega)).mono ?_; rintro e w2 ⟨A2, c2, rfl, hr, hb2⟩)
   go_ret2
   have e1 := HD.out.1
   have e2 := HD.out.2
   subst e2
   rw [← e1]
   exact ⟨_, _, rfl, hr, Below.trans hbel (hb2.mono hbel.size)⟩
  ·obtain rfl : iI = (m : Int) := by omega
   have hlt := hinv.lt
   have hlp := lim_lt h.ok m
   obtain ⟨bb, o, rfl, hc⟩ := h.at_ (by omega)
   have hbw1 := h.lt (by omega) rfl
   have g1 : wr.cell? ⟨bb, o + m, none⟩ = some (.int .u32 ((lim xs m : Nat) : Int)) := (hbel.cell (by exact hbw1)).trans (hc m (by omega))
   clear hc
   have g2 := hblk.cell (i := m) (by rw [hcl.out]; omega)
   have hfz := hblk.frozen m
   have hnext := hinv.step h.ok (by rw [hpl.out]; omega) (by omega)
   have hub : rest * 4294967296 + lim xs m < 18446744073709551616 := by omega
   have hub2 : rest * 4294967296 + lim xs m < b * 4294967296 := by
    have : (rest + 1) * 4294967296 ≤ b * 4294967296 := Nat.mul_le_mul_right _ hlt
    omega
   have hj := join_or hlp (show rest < 4294967296 by omega)
   obtain ⟨u, hu⟩ : ∃ u, u = rest * 4294967296 + lim xs m := ⟨_, rfl⟩
   rw [← hu] at hnext hj hub hub2
   clear hu
   have hq : u / b < 4294967296 := Nat.div_lt_of_lt_mul hub2
   have H1 : Hid (IntKind.u64.wrap ((u : Int) / (b : Int)) % 4294967296 = ((u / b : Nat) : Int)) := hid (by
    have e : (u : Int) / (b : Int) = ((u / b : Nat) : Int) := by rw [Int.natCast_ediv]
    rw [e]
    generalize u / b = v at *
    rw [IntWalk.u64_in _ (by omega)]; omega)
   have H2 : Hid ((u : Int) % (b : Int) = ((u % b : Nat) : Int)) := hid (by rw [Int.natCast_emod])
   have HN := hid hnext
   clear hnext hub2 hq
   go_wp2_with fail
   go_roundw
   case rel => exact ⟨m, _, _, _, by omega, rfl, by omega, by rw [H2.out], HN.out, hblk.set m _ _ H1.out, hbel.setCell (Nat.le_refl _) _⟩
   case measure => simp [intOf]
end Go.Proofs.Ytahdlpkncemmaaa
