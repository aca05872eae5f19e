/- Walks: pantographref1.Sub, pantographref1.Add. Conditions: rows of at most 2^30 limbs. -/
import Derived.Test.YtliflabkpeemdaaDoorWk
namespace Go.Proofs.YtliflabkpeemdaaDoor
open Go.RowKit Pg

set_option maxHeartbeats 1000000 in
/-- pantographref1.Add. -/
theorem rAdd_any (A A' : Option Addr) (n c n' c' : Nat) (p q : List Nat) (w : World) (h : Row w A n c p) (h' : Row w A' n' c' q) (hb : n ≤ 1073741824) (hb' : n' ≤ 1073741824) :
    Calls Tryd.prog 16 #[.slice A n c, .slice A' n' c'] w (Ret w (val p + val q)) := by
  have hp1 := h.nc
  have hp2 := h.cm
  have hq1 := h'.nc
  have hq2 := h'.cm
  have hpl := hid h.len
  have hql := hid h'.len
  obtain ⟨m, hm1, hm2, hm3, hmx, hmy⟩ : ∃ m : Nat, n ≤ m ∧ n' ≤ m ∧ m ≤ 1073741824 ∧ (if (n : Int) < (n' : Int) then (n' : Int) else (n : Int)) = (m : Int) ∧ (if n < n' then (n' : Int) else (n : Int)) = (m : Int) := by
    by_cases hlt : n < n'
    · exact ⟨n', by omega, by omega, by omega, by rw [if_pos (by omega)], by rw [if_pos hlt]⟩
    · exact ⟨n, by omega, by omega, by omega, by rw [if_neg (by omega)], by rw [if_neg hlt]⟩
  go_enter Tryd.func16, Tryd.ntmps16
  go_wp2_with fail
  go_loopw [5, 6, 7] (fun v s6 i wr => ∃ k cr cs, k ≤ m + 1 ∧ i = .int .i64 ((k : Nat) : Int) ∧ s6 = .int .u64 ((cr : Nat) : Int) ∧ AppInv p q k cr cs ∧ wr.ownsRow w.heap.size 33 1 v k (u32s cs) ∧ Below w.heap.size w wr) (fun _ _ i _ => m + 1 - (intOf i).toNat)
  case atStart => exact ⟨0, 0, [], by omega, rfl, rfl, AppInv.start p q, World.ownsRow_nil _ _ _ _, Below.refl _ _⟩
  case round =>
    obtain ⟨k, cr, cs, hk, rfl, rfl, hinv, hown, hbel⟩ := hrel
    have hlp := lim_lt h.ok k
    have hlq := lim_lt h'.ok k
    have hcr := hinv.le
    by_cases hlt : k < m + 1
    · have hpr := h.below hbel
      have hqr := h'.below hbel
      have hsz := hbel.size
      have hnext := hinv.step h.ok h'.ok _ rfl
      have hd1 : decide ((k : Int) < (m : Int) + 1) = true := by simp; omega
      go_wp2_with (first
        | (go_at_call 30; refine (at_any _ _ _ _ _ _ (by assumption) (by omega)).mono ?_; rintro e w' ⟨rfl, rfl⟩)
        | (at_builtin; refine wpList_append_row _ rfl _ _ 22 rfl w.heap.size 33 Tryd.underlying22 info32 _ _ _ rfl (hown.alloc _) _ _ _ [(cr + lim p k + lim q k) % 4294967296] rfl (Row.one _ _ _ _ _ rfl (by omega) (by omega)) (by omega) (by simp; omega) ?_))
      intro v' w' hown' hgr
      go_wp2_with fail
      go_roundw
      case rel => exact ⟨k + 1, (cr + lim p k + lim q k) / 4294967296, _, by omega, by go_num, by go_num, hnext, hown', Below.grown (Below.alloc hbel hbel.size _) hgr (by simp; omega) (fun g hg => (hown.lt g hg).1)⟩
      case measure => simp [intOf]; omega
    · obtain rfl : k = m + 1 := by omega
      have hd1 : decide (((m + 1 : Nat) : Int) < (m : Int) + 1) = false := by simp
      have hdone : Hid (val cs = val p + val q) := hid (hinv.fin h.ok h'.ok (by rw [hpl.out]; exact hm1) (by rw [hql.out]; exact hm2))
      obtain ⟨A3, c3, rfl, hr⟩ := Row.of_own hown hinv.ok
      go_wp2_with (go_at_call 11; refine (rTrim_any _ _ _ _ _ hr (by omega)).mono ?_; rintro e w2 ⟨A4, c4, rfl, hr4, hb4⟩)
      go_ret
      exact Ret.of_row hr4 (by rw [hdone.out]) (by repeat first | exact Below.refl _ _ | assumption | refine Pg.Below.then_ ?_ (by assumption) | refine Pg.Below.new_ ?_ _ | refine Pg.Below.drewN_ ?_ _)
end Go.Proofs.YtliflabkpeemdaaDoor
