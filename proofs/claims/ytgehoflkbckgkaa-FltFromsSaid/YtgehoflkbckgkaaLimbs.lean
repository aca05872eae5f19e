/- Walks: each package's own limbs. Conditions: none. -/
import Derived.Test.YtgehoflkbckgkaaWb
namespace Go.Proofs.Ytgehoflkbckgkaa
open Go.RowKit Pg

set_option maxHeartbeats 400000 in
theorem limbs_ref2 (A A' : Option Addr) (n c n' c' : Nat) (xs ys : List Nat) (w : World) (h : Row w A n c xs) (h' : Row w A' n' c' ys) :
    Calls Try.prog 39 #[.slice A n c, .slice A' n' c'] w fun e w' => e = .returned (.bool (eqB xs ys)) ∧ Below w.heap.size w w' := by
  have hcm := h.cm
  have hnc := h.nc
  have hcm' := h'.cm
  have hnc' := h'.nc
  have hl := hid h.len
  have hl' := hid h'.len
  by_cases hne : n = n'
  · subst hne
    have hb : ((n : Int) != (n : Int)) = false := by simp
    go_enter Try.func39, Try.ntmps39
    go_wp2_with fail
    go_loopw [5] (fun i wr => ∃ k : Nat, k ≤ n ∧ i = .int .i64 (k : Int) ∧ Hid (∀ j, j < k → lim xs j = lim ys j) ∧ Below w.heap.size w wr) (fun i _ => n - (intOf i).toNat)
    case atStart => exact ⟨0, Nat.zero_le _, rfl, fun j hj => absurd hj (by omega), Below.refl _ _⟩
    case round =>
      obtain ⟨k, hk, rfl, hall, hbel⟩ := hrel
      by_cases hlt : k < n
      · obtain ⟨b, o, rfl, hc⟩ := (h.below hbel).at_ (by omega)
        obtain ⟨b', o', rfl, hc'⟩ := (h'.below hbel).at_ (by omega)
        have g1 := hc k hlt
        have g2 := hc' k hlt
        clear hc hc'
        by_cases he : lim xs k = lim ys k
        · have he1 : (((lim xs k : Nat) : Int) != ((lim ys k : Nat) : Int)) = false := by simp [he]
          have HE := hid he
          clear he
          go_wp2_with fail
          go_quiet (fail)
          go_wp2_with fail
          go_roundw
          case rel =>
            refine ⟨k + 1, by omega, by go_num, fun j hj => ?_, Below.trans hbel ⟨rfl, rfl, rfl, Nat.le_refl _, fun _ _ => rfl⟩⟩
            rcases Nat.lt_or_ge j k with h1 | h1
            · exact hall j h1
            · have : j = k := by omega
              subst this; exact HE.out
          case measure => simp [intOf]; omega
        · have he1 : (((lim xs k : Nat) : Int) != ((lim ys k : Nat) : Int)) = true := by simp; omega
          have HE := hid he
          clear he
          go_wp2_with fail
          go_quiet (fail)
          go_wp2_with fail
          go_ret
          exact ⟨by rw [eqB_lim k HE.out]; rfl, Below.trans hbel ⟨rfl, rfl, rfl, Nat.le_refl _, fun _ _ => rfl⟩⟩
      · have hkn : n ≤ k := by omega
        go_wp2_with fail
        go_ret
        exact ⟨by rw [eqB_all (by rw [hl.out, hl'.out]) (fun i hi => hall i (by rw [hl.out] at hi; omega))]; rfl, hbel⟩
  · have hb : ((n : Int) != (n' : Int)) = true := by simp; omega
    have HN := hid hne
    clear hne
    go_enter Try.func39, Try.ntmps39
    go_wp2_with fail
    go_ret
    exact ⟨by rw [eqB_false (fun e => HN.out (by rw [← hl.out, ← hl'.out, e]))]; rfl, Below.refl _ _⟩
theorem limbs_ref2_T (A A' : Option Addr) (n c n' c' : Nat) (xs ys : List Nat) (w : World) (h : Row w A n c xs) (h' : Row w A' n' c' ys) (e : xs = ys) :
    Calls Try.prog 39 #[.slice A n c, .slice A' n' c'] w fun e w' => e = .returned (.bool true) ∧ Below w.heap.size w w' := by
  have := limbs_ref2 A A' n c n' c' xs ys w h h'
  rwa [eqB_true e] at this

set_option maxHeartbeats 400000 in
theorem limbs_law4 (A A' : Option Addr) (n c n' c' : Nat) (xs ys : List Nat) (w : World) (h : Row w A n c xs) (h' : Row w A' n' c' ys) :
    Calls Try.prog 40 #[.slice A n c, .slice A' n' c'] w fun e w' => e = .returned (.bool (eqB xs ys)) ∧ Below w.heap.size w w' := by
  have hcm := h.cm
  have hnc := h.nc
  have hcm' := h'.cm
  have hnc' := h'.nc
  have hl := hid h.len
  have hl' := hid h'.len
  by_cases hne : n = n'
  · subst hne
    have hb : ((n : Int) != (n : Int)) = false := by simp
    go_enter Try.func40, Try.ntmps40
    go_wp2_with fail
    go_loopw [5] (fun i wr => ∃ k : Nat, k ≤ n ∧ i = .int .i64 (k : Int) ∧ Hid (∀ j, j < k → lim xs j = lim ys j) ∧ Below w.heap.size w wr) (fun i _ => n - (intOf i).toNat)
    case atStart => exact ⟨0, Nat.zero_le _, rfl, fun j hj => absurd hj (by omega), Below.refl _ _⟩
    case round =>
      obtain ⟨k, hk, rfl, hall, hbel⟩ := hrel
      by_cases hlt : k < n
      · obtain ⟨b, o, rfl, hc⟩ := (h.below hbel).at_ (by omega)
        obtain ⟨b', o', rfl, hc'⟩ := (h'.below hbel).at_ (by omega)
        have g1 := hc k hlt
        have g2 := hc' k hlt
        clear hc hc'
        by_cases he : lim xs k = lim ys k
        · have he1 : (((lim xs k : Nat) : Int) != ((lim ys k : Nat) : Int)) = false := by simp [he]
          have HE := hid he
          clear he
          go_wp2_with fail
          go_quiet (fail)
          go_wp2_with fail
          go_roundw
          case rel =>
            refine ⟨k + 1, by omega, by go_num, fun j hj => ?_, Below.trans hbel ⟨rfl, rfl, rfl, Nat.le_refl _, fun _ _ => rfl⟩⟩
            rcases Nat.lt_or_ge j k with h1 | h1
            · exact hall j h1
            · have : j = k := by omega
              subst this; exact HE.out
          case measure => simp [intOf]; omega
        · have he1 : (((lim xs k : Nat) : Int) != ((lim ys k : Nat) : Int)) = true := by simp; omega
          have HE := hid he
          clear he
          go_wp2_with fail
          go_quiet (fail)
          go_wp2_with fail
          go_ret
          exact ⟨by rw [eqB_lim k HE.out]; rfl, Below.trans hbel ⟨rfl, rfl, rfl, Nat.le_refl _, fun _ _ => rfl⟩⟩
      · have hkn : n ≤ k := by omega
        go_wp2_with fail
        go_ret
        exact ⟨by rw [eqB_all (by rw [hl.out, hl'.out]) (fun i hi => hall i (by rw [hl.out] at hi; omega))]; rfl, hbel⟩
  · have hb : ((n : Int) != (n' : Int)) = true := by simp; omega
    have HN := hid hne
    clear hne
    go_enter Try.func40, Try.ntmps40
    go_wp2_with fail
    go_ret
    exact ⟨by rw [eqB_false (fun e => HN.out (by rw [← hl.out, ← hl'.out, e]))]; rfl, Below.refl _ _⟩
theorem limbs_law4_T (A A' : Option Addr) (n c n' c' : Nat) (xs ys : List Nat) (w : World) (h : Row w A n c xs) (h' : Row w A' n' c' ys) (e : xs = ys) :
    Calls Try.prog 40 #[.slice A n c, .slice A' n' c'] w fun e w' => e = .returned (.bool true) ∧ Below w.heap.size w w' := by
  have := limbs_law4 A A' n c n' c' xs ys w h h'
  rwa [eqB_true e] at this

end Go.Proofs.Ytgehoflkbckgkaa
