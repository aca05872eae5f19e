/- Walk: pantographref1.Gcd. Conditions: rows of at most 2^20 limbs. -/
import Derived.Test.YtgehoflkbckgkaaWx
import Derived.Test.YtgehoflkbckgkaaGcdP
namespace Go.Proofs.Ytgehoflkbckgkaa
open Go.RowKit Pg

set_option maxHeartbeats 1000000 in
/-- pantographref1.Gcd. -/
theorem rGcd_any (A A' : Option Addr) (n c n' c' : Nat) (xs ys : List Nat) (w : World) (h : Row w A n c xs) (h' : Row w A' n' c' ys) (hb : n ≤ 1048576) (hb' : n' ≤ 1048576) :
    Calls Try.prog 62 #[.slice A n c, .slice A' n' c'] w (Ret w (Nat.gcd (val xs) (val ys))) := by
  have l1 : (limbs (val xs)).length ≤ 1048576 := by have := tl_le h.ok; rw [h.len] at this; unfold tl at this; omega
  have l2 : (limbs (val ys)).length ≤ 1048576 := by have := tl_le h'.ok; rw [h'.len] at this; unfold tl at this; omega
  have hT := hid (rTrim_any A n c xs w h (by omega))
  have hT' : Hid (∀ W, Below w.heap.size w W → Calls Try.prog 60 #[.slice A' n' c'] W (Ret W (val ys))) := hid fun W hW => rTrim_any A' n' c' ys W (h'.below hW) (by omega)
  clear h h'
  generalize val xs = a at *
  generalize val ys = b at *
  obtain ⟨G, hG⟩ : ∃ G, G = Nat.gcd a b := ⟨_, rfl⟩
  rw [← hG]
  have HG := hid hG
  clear hG
  go_enter Try.func62, Try.ntmps62
  go_wp2_with (first
    | (go_at_call 60; ((with_reducible refine (hT.out).mono ?_); rintro e w1 ⟨A1, c1, rfl, hr1, hb1⟩))
    | (go_at_call 60; ((with_reducible refine (hT'.out _ hb1).mono ?_); rintro e w2 ⟨A2, c2, rfl, hr2, hb2⟩)))
  go_loopw [5, 6] (fun s0 s1 wr => ∃ N M A c A' c', s0 = .slice A (limbs N).length c ∧ s1 = .slice A' (limbs M).length c' ∧ Row wr A (limbs N).length c (limbs N) ∧ Row wr A' (limbs M).length c' (limbs M) ∧ Hid (G = Nat.gcd N M) ∧ (limbs N).length ≤ 1048576 ∧ (limbs M).length ≤ 1048576 ∧ Below w.heap.size w wr) (fun _ s1 wr => rowval wr s1)
  case atStart => exact ⟨a, b, A1, c1, A2, c2, rfl, rfl, hr1.below hb2, hr2, HG, l1, l2, (by repeat first | exact Below.refl _ _ | assumption | refine Pg.Below.then_ ?_ (by assumption) | refine Pg.Below.new_ ?_ _ | refine Pg.Below.drewN_ ?_ _)⟩
  case round =>
    obtain ⟨N, M, A3, c3, A4, c4, rfl, rfl, hN, hM, HG2, k1, k2, hbel⟩ := hrel
    have hv := hM.rowval
    rw [val_limbs] at hv
    rcases Nat.eq_zero_or_pos M with h0 | h0
    · subst h0
      have e1 : (limbs 0).length = 0 := rfl
      have hGN : Hid (G = N) := hid (by rw [HG2.out, Nat.gcd_zero_right])
      have HE := hid e1
      rw [e1]
      clear e1 hv
      go_wp2_with fail
      go_ret
      exact Ret.of_row hN (by rw [hGN.out]) hbel
    · have hpos := (tl_top (N := M) (by omega)).1
      have hd1 : decide ((0 : Int) < ((limbs M).length : Int)) = true := by simp; omega
      have HD := hid (rDivMod_any _ _ _ _ _ _ _ _ wr hN hM k1 k2)
      rw [val_limbs, val_limbs, show dmr N M = N % M by simp [dmr]; omega] at HD
      have HV := hid hv
      have HL : Hid (N % M < M) := hid (Nat.mod_lt _ h0)
      have HG3 : Hid (G = Nat.gcd M (N % M)) := hid (by rw [HG2.out, Nat.gcd_comm N M, Nat.gcd_rec M N, Nat.gcd_comm])
      clear hv
      have k3 := Nat.le_trans (limbs_mono (Nat.le_of_lt HL.out)) k2
      generalize N % M = R at *
      go_wp2_with (go_at_call 63; refine (HD.out).mono ?_; rintro e w3 ⟨A5, c5, A6, c6, rfl, hr5, hr6, hb3⟩)
      go_roundw
      case rel => exact ⟨M, R, _, _, _, _, rfl, rfl, hM.below hb3, hr6, HG3, k2, k3, Below.trans hbel (hb3.mono hbel.size)⟩
      case measure =>
        have e2 := hr6.rowval
        rw [val_limbs] at e2
        rw [e2, HV.out]
        exact HL.out
end Go.Proofs.Ytgehoflkbckgkaa
