/- Walk: pantographref1.DivMod. Conditions: rows of at most 2^20 limbs. -/
import Derived.Test.YtgehoflkbckgkaaWx2
namespace Go.Proofs.Ytgehoflkbckgkaa
open Go.RowKit Pg

set_option maxRecDepth 100000 in
set_option maxHeartbeats 3000000 in
/-- pantographref1.DivMod. -/
theorem rDivMod_any (A A' : Option Addr) (n c n' c' : Nat) (xs ys : List Nat) (w : World) (h : Row w A n c xs) (h' : Row w A' n' c' ys) (hb : n ≤ 1048576) (hb' : n' ≤ 1048576) :
    Calls Try.prog 63 #[.slice A n c, .slice A' n' c'] w (Ret3 w (val xs / val ys) (dmr (val xs) (val ys)) (dmb (val ys))) := by
  have h1 := h.nc
  have h2 := h.cm
  have h1' := h'.nc
  have h2' := h'.cm
  have hTb := hid (rTrim_any A' n' c' ys w h' (by omega))
  obtain ⟨a, ha⟩ : ∃ a, a = val xs := ⟨_, rfl⟩
  obtain ⟨b, hbv⟩ : ∃ b, b = val ys := ⟨_, rfl⟩
  rw [← ha, ← hbv]
  rw [← hbv] at hTb
  have HA := hid ha
  have HB := hid hbv
  clear ha hbv
  by_cases hz : b = 0
  · subst hz
    have e0 : (limbs 0).length = 0 := rfl
    rw [show a / 0 = 0 by simp, show dmr a 0 = 0 by rfl, show dmb 0 = false by rfl]
    go_enter Try.func63, Try.ntmps63
    go_wp2_with (go_at_call 60; refine (hTb.out).mono ?_; rintro e w1 ⟨A1, c1, rfl, hr1, hb1⟩)
    go_ret3
    exact Ret3.of_rows (Row.nil _) (Row.nil _) rfl rfl hb1
  have lb : (((limbs b).length : Int) == 0) = false := by have := (tl_top hz).1; exact beq_eq_false_iff_ne.2 (by omega)
  rw [show dmr a b = a % b by simp [dmr, hz], show dmb b = true by simp [dmb, hz]]
  have hbp : 0 < b := by omega
  have hTo : Hid (∀ W, Below w.heap.size w W → Calls Try.prog 53 #[.slice A n c] W fun e w' => e = .returned (.tuple #[.int .u64 ((to64 a : Nat) : Int), .bool (is64 a)]) ∧ Below W.heap.size W w') := hid fun W hW => by
    rw [HA.out]; exact rTo_any A n c xs W (h.below hW) (by omega)
  have hTo' : Hid (∀ W, Below w.heap.size w W → Calls Try.prog 53 #[.slice A' n' c'] W fun e w' => e = .returned (.tuple #[.int .u64 ((to64 b : Nat) : Int), .bool (is64 b)]) ∧ Below W.heap.size W w') := hid fun W hW => by
    rw [HB.out]; exact rTo_any A' n' c' ys W (h'.below hW) (by omega)
  clear hz
  by_cases hs : is64 a = true ∧ is64 b = true
  · obtain ⟨a1, a2⟩ := is64_true hs.1
    obtain ⟨a3, a4⟩ := is64_true hs.2
    rw [a2, hs.1] at hTo
    rw [a4, hs.2] at hTo'
    have hne : ((b : Int) != 0) = true := by simp; omega
    have hqle : a / b ≤ a := Nat.div_le_self _ _
    have hrlt : a % b < b := Nat.mod_lt _ hbp
    have HQ1 : Hid (IntKind.u64.wrap ((a : Int) / (b : Int)) = ((a / b : Nat) : Int)) := hid (by
      rw [← Int.natCast_ediv]; generalize a / b = v at *; exact IntWalk.u64_in _ (by omega))
    have HR1 : Hid ((a : Int) % (b : Int) = ((a % b : Nat) : Int)) := hid (Int.natCast_emod _ _).symm
    have HOq : Hid (∀ W (d : Int), d = ((a / b : Nat) : Int) → Calls Try.prog 36 #[.int .u64 d] W (Ret W (a / b))) := hid fun W d hd => by
      subst hd; exact rOf_any (a / b) W (by omega)
    have HOr : Hid (∀ W (d : Int), d = ((a % b : Nat) : Int) → Calls Try.prog 36 #[.int .u64 d] W (Ret W (a % b))) := hid fun W d hd => by
      subst hd; exact rOf_any (a % b) W (by omega)
    clear hs a2 a4 hqle hrlt
    go_enter Try.func63, Try.ntmps63
    go_wp2_with (first
      | (go_at_call 60; refine (hTb.out).mono ?_; rintro e w1 ⟨A1, c1, rfl, hr1, hb1⟩)
      | (go_at_call 53; ((with_reducible refine (hTo.out _ hb1).mono ?_); rintro e w2 ⟨rfl, hb2⟩))
      | (go_at_call 53; ((with_reducible refine (hTo'.out _ (Pg.Below.then_ hb1 hb2)).mono ?_); rintro e w3 ⟨rfl, hb3⟩)))
    have hb0 : ¬ b = 0 := by omega
    have hw3 := Pg.Below.then_ (Pg.Below.then_ hb1 hb2) hb3
    go_region_law (first
      | (go_simp; go_at_call 36; refine (HOq.out _ _ HQ1.out).mono ?_; rintro e w4 ⟨A4, c4, rfl, hr4, hb4⟩)
      | (go_simp; go_at_call 36; refine (HOr.out _ _ HR1.out).mono ?_; rintro e w5 ⟨A5, c5, rfl, hr5, hb5⟩))
    all_goals
      go_wp2_with fail
      go_ret3
      exact Ret3.of_rows (hr4.below hb5) hr5 rfl rfl (Pg.Below.then_ (Pg.Below.then_ hw3.drew hb4) hb5)
  · rcases Nat.lt_or_ge b 4294967296 with hl | hl
    · have hb64 : is64 b = true := by simp [is64]; omega
      have ha64 : is64 a = false := by
        cases hh : is64 a
        · rfl
        · exact absurd ⟨hh, hb64⟩ hs
      exact rDivMod_one A A' n c n' c' a b xs ys w h h' hb hb' HA HB hbp lb hTb hTo hTo' ha64 hl
    · exact rDivMod_bits A A' n c n' c' a b xs ys w h h' hb hb' HA HB hbp lb hTb hTo hTo' hs hl
end Go.Proofs.Ytgehoflkbckgkaa
