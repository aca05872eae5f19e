/- Walks: pantographref1.Sub, pantographref1.Add. Conditions: rows of at most 2^30 limbs. -/
import Derived.Test.YtgehoflkbckgkaaWk
namespace Go.Proofs.Ytgehoflkbckgkaa
open Go.RowKit Pg

set_option maxHeartbeats 1000000 in
/-- pantographref1.Sub. -/
theorem rSub_any (A A' : Option Addr) (n c n' c' : Nat) (p q : List Nat) (w : World) (h : Row w A n c p) (h' : Row w A' n' c' q) (hb : n ≤ 1073741824) (hb' : n' ≤ 1073741824) :
    Calls Try.prog 70 #[.slice A n c, .slice A' n' c'] w (Ret2 w (val p - val q) (geB (val p) (val q))) := by
  have hC := rCmp_any A A' n c n' c' p q w h h' hb hb'
  rcases Nat.lt_or_ge (val p) (val q) with hlt | hge
  · rw [cmpv_lt hlt] at hC
    have hg : geB (val p) (val q) = false := by simp [geB]; omega
    have hz : val p - val q = 0 := by omega
    rw [hg, hz]
    have HC := hid hC
    clear hC hg hz
    go_enter Try.func70, Try.ntmps70
    go_wp2_with (go_at_call 50; refine (HC.out).mono ?_; rintro e w1 ⟨rfl, hb1⟩)
    go_ret2
    exact Ret2.of_row (Row.nil _) rfl hb1
  · have hC2 : Calls Try.prog 50 #[.slice A n c, .slice A' n' c'] w fun e w' => ∃ z : Int, 0 ≤ z ∧ e = .returned (.int .i64 z) ∧ Below w.heap.size w w' := by
      refine hC.mono fun e w' ⟨he, hb⟩ => ⟨_, ?_, he, hb⟩
      unfold cmpv; split <;> first | omega | (split <;> omega)
    have hg : geB (val p) (val q) = true := by simp [geB]; omega
    rw [hg]
    have HC := hid hC2
    clear hC hC2 hg
    have HGE := hid hge
    clear hge
    have hp1 := h.nc
    have hp2 := h.cm
    have hq1 := h'.nc
    have hq2 := h'.cm
    have hpl := hid h.len
    have hql := hid h'.len
    go_enter Try.func70, Try.ntmps70
    go_wp2_with (go_at_call 50; refine (HC.out).mono ?_; rintro e w1 ⟨z, hz, rfl, hb1⟩; (have hd : decide (z < 0) = false := by simp; omega))
    go_loopw [6, 7, 8] (fun v s7 i wr => ∃ k br cs, k ≤ n ∧ i = .int .i64 ((k : Nat) : Int) ∧ s7 = .int .u64 ((br : Nat) : Int) ∧ SubInv p q k br cs ∧ Hid (cs.length = k) ∧ wr.ownsRow w1.heap.size 50 1 v k (u32s cs) ∧ Below w1.heap.size w1 wr) (fun _ _ i _ => n - (intOf i).toNat)
    case atStart => exact ⟨0, 0, [], by omega, rfl, rfl, SubInv.start p q _ ok_nil, rfl, World.ownsRow_nil _ _ _ _, Below.refl _ _⟩
    case round =>
      obtain ⟨k, br, cs, hk, rfl, rfl, hinv, hcl, hown, hbel⟩ := hrel
      have hlp := lim_lt h.ok k
      have hlq := lim_lt h'.ok k
      have hbr := hinv.le
      by_cases hlt : k < n
      · have hpr := h.below (Below.then_ hb1 hbel)
        have hqr := h'.below (Below.then_ hb1 hbel)
        have hsz := hbel.size
        have hnext := hinv.app h.ok h'.ok hcl.out
        have hlen : Hid ((cs ++ [dif (lim p k) (lim q k) br]).length = k + 1) := hid (by simp; exact hcl.out)
        have hdl := dif_lt (lim p k) (lim q k) br
        rcases Nat.lt_or_ge (lim p k) (lim q k + br) with hlt3 | hge3
        · have hd1 : decide (((lim p k : Nat) : Int) < ((lim q k : Nat) : Int) + ((br : Nat) : Int)) = true := by simp; omega
          have eb : Hid (borr (lim p k) (lim q k) br = 1) := hid (by unfold borr; rw [if_pos hlt3])
          go_wp2_with (first
            | (go_at_call 61; refine (at_any _ _ _ _ _ _ (by assumption) (by omega)).mono ?_; rintro e w' ⟨rfl, rfl⟩)
            | (at_builtin; refine wpList_append_row _ rfl _ _ 26 rfl w1.heap.size 50 Try.underlying26 info32 _ _ _ rfl (hown.alloc _) _ _ _ [dif (lim p k) (lim q k) br] rfl (Row.one _ _ _ _ _ rfl (by unfold dif; omega) hdl) (by omega) (by simp; omega) ?_))
          intro v' w' hown' hgr
          go_wp2_with fail
          go_roundw
          case rel => exact ⟨k + 1, 1, _, by omega, by go_num, rfl, eb.out ▸ hnext, hlen, hown', Below.grown (Below.alloc hbel hbel.size _) hgr (by simp; omega) (fun g hg => (hown.lt g hg).1)⟩
          case measure => simp [intOf]; omega
        · have hd1 : decide (((lim p k : Nat) : Int) < ((lim q k : Nat) : Int) + ((br : Nat) : Int)) = false := by simp; omega
          have eb : Hid (borr (lim p k) (lim q k) br = 0) := hid (by unfold borr; rw [if_neg (by omega)])
          go_wp2_with (first
            | (go_at_call 61; refine (at_any _ _ _ _ _ _ (by assumption) (by omega)).mono ?_; rintro e w' ⟨rfl, rfl⟩)
            | (at_builtin; refine wpList_append_row _ rfl _ _ 26 rfl w1.heap.size 50 Try.underlying26 info32 _ _ _ rfl (hown.alloc _) _ _ _ [dif (lim p k) (lim q k) br] rfl (Row.one _ _ _ _ _ rfl (by unfold dif; omega) hdl) (by omega) (by simp; omega) ?_))
          intro v' w' hown' hgr
          go_wp2_with fail
          go_roundw
          case rel => exact ⟨k + 1, 0, _, by omega, by go_num, rfl, eb.out ▸ hnext, hlen, hown', Below.grown (Below.alloc hbel hbel.size _) hgr (by simp; omega) (fun g hg => (hown.lt g hg).1)⟩
          case measure => simp [intOf]; omega
      · obtain rfl : k = n := by omega
        have hdone : Hid (val cs = val p - val q) := hid (by
          have e := hpl.out
          have e2 := HGE.out
          have e4 := hcl.out
          subst e
          exact hinv.fin h.ok e4 e2)
        obtain ⟨A3, c3, rfl, hr⟩ := Row.of_own hown hinv.ok
        go_wp2_with (go_at_call 60; refine (rTrim_any _ _ _ _ _ hr (by omega)).mono ?_; rintro e w2 ⟨A4, c4, rfl, hr4, hb4⟩)
        go_ret2
        exact Ret2.of_row hr4 (by rw [hdone.out]) (by repeat first | exact Below.refl _ _ | assumption | refine Pg.Below.then_ ?_ (by assumption) | refine Pg.Below.new_ ?_ _ | refine Pg.Below.drewN_ ?_ _)

set_option maxHeartbeats 1000000 in
/-- pantographref1.Add. -/
theorem rAdd_any (A A' : Option Addr) (n c n' c' : Nat) (p q : List Nat) (w : World) (h : Row w A n c p) (h' : Row w A' n' c' q) (hb : n ≤ 1073741824) (hb' : n' ≤ 1073741824) :
    Calls Try.prog 69 #[.slice A n c, .slice A' n' c'] w (Ret w (val p + val q)) := by
  have hp1 := h.nc
  have hp2 := h.cm
  have hq1 := h'.nc
  have hq2 := h'.cm
  have hpl := hid h.len
  have hql := hid h'.len
  obtain ⟨m, hm1, hm2, hm3, hmx, hmy⟩ : ∃ m : Nat, n ≤ m ∧ n' ≤ m ∧ m ≤ 1073741824 ∧ (if (n : Int) < (n' : Int) then (n' : Int) else (n : Int)) = (m : Int) ∧ (if n < n' then (n' : Int) else (n : Int)) = (m : Int) := by
    by_cases hlt : n < n'
    · exact ⟨n', by omega, by omega, by omega, by rw [if_pos (by omega)], by rw [if_pos hlt]⟩
    · exact ⟨n, by omega, by omega, by omega, by rw [if_neg (by omega)], by rw [if_neg hlt]⟩
  go_enter Try.func69, Try.ntmps69
  go_wp2_with fail
  go_loopw [5, 6, 7] (fun v s6 i wr => ∃ k cr cs, k ≤ m + 1 ∧ i = .int .i64 ((k : Nat) : Int) ∧ s6 = .int .u64 ((cr : Nat) : Int) ∧ AppInv p q k cr cs ∧ wr.ownsRow w.heap.size 50 1 v k (u32s cs) ∧ Below w.heap.size w wr) (fun _ _ i _ => m + 1 - (intOf i).toNat)
  case atStart => exact ⟨0, 0, [], by omega, rfl, rfl, AppInv.start p q, World.ownsRow_nil _ _ _ _, Below.refl _ _⟩
  case round =>
    obtain ⟨k, cr, cs, hk, rfl, rfl, hinv, hown, hbel⟩ := hrel
    have hlp := lim_lt h.ok k
    have hlq := lim_lt h'.ok k
    have hcr := hinv.le
    by_cases hlt : k < m + 1
    · have hpr := h.below hbel
      have hqr := h'.below hbel
      have hsz := hbel.size
      have hnext := hinv.step h.ok h'.ok _ rfl
      have hd1 : decide ((k : Int) < (m : Int) + 1) = true := by simp; omega
      go_wp2_with (first
        | (go_at_call 61; refine (at_any _ _ _ _ _ _ (by assumption) (by omega)).mono ?_; rintro e w' ⟨rfl, rfl⟩)
        | (at_builtin; refine wpList_append_row _ rfl _ _ 26 rfl w.heap.size 50 Try.underlying26 info32 _ _ _ rfl (hown.alloc _) _ _ _ [(cr + lim p k + lim q k) % 4294967296] rfl (Row.one _ _ _ _ _ rfl (by omega) (by omega)) (by omega) (by simp; omega) ?_))
      intro v' w' hown' hgr
      go_wp2_with fail
      go_roundw
      case rel => exact ⟨k + 1, (cr + lim p k + lim q k) / 4294967296, _, by omega, by go_num, by go_num, hnext, hown', Below.grown (Below.alloc hbel hbel.size _) hgr (by simp; omega) (fun g hg => (hown.lt g hg).1)⟩
      case measure => simp [intOf]; omega
    · obtain rfl : k = m + 1 := by omega
      have hd1 : decide (((m + 1 : Nat) : Int) < (m : Int) + 1) = false := by simp
      have hdone : Hid (val cs = val p + val q) := hid (hinv.fin h.ok h'.ok (by rw [hpl.out]; exact hm1) (by rw [hql.out]; exact hm2))
      obtain ⟨A3, c3, rfl, hr⟩ := Row.of_own hown hinv.ok
      go_wp2_with (go_at_call 60; refine (rTrim_any _ _ _ _ _ hr (by omega)).mono ?_; rintro e w2 ⟨A4, c4, rfl, hr4, hb4⟩)
      go_ret
      exact Ret.of_row hr4 (by rw [hdone.out]) (by repeat first | exact Below.refl _ _ | assumption | refine Pg.Below.then_ ?_ (by assumption) | refine Pg.Below.new_ ?_ _ | refine Pg.Below.drewN_ ?_ _)
end Go.Proofs.Ytgehoflkbckgkaa
