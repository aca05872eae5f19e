/- Walks: nat.Sub, pantographref1.Sub, pantographref1.Add. Conditions: rows of at most 2^30 limbs. -/
import Derived.Test.YtliflabkpeemdaaWj
namespace Go.Proofs.Ytliflabkpeemdaa
open Go.RowKit Pg

/-- A call hands back the number N in a row, and whether it may. -/
def Ret2 (w : World) (N : Nat) (b : Bool) (e : Ending) (w' : World) : Prop :=
  ∃ A c, e = .returned (.tuple #[.slice A (limbs N).length c, .bool b]) ∧ Row w' A (limbs N).length c (limbs N) ∧ Below w.heap.size w w'
theorem Ret2.of_row {w w' : World} {A : Option Addr} {n c N : Nat} {b : Bool} {xs : List Nat} (h : Row w' A n c xs) (e : xs = limbs N) (hb : Below w.heap.size w w') : Ret2 w N b (.returned (.tuple #[.slice A n c, .bool b])) w' := by
  subst e
  have := h.len
  subst this
  exact ⟨A, c, rfl, h, hb⟩
/-- Is a number not below another? -/
def geB (a b : Nat) : Bool := decide (b ≤ a)

set_option maxHeartbeats 1000000 in
/-- nat.Sub. -/
theorem Sub_any (A A' : Option Addr) (n c n' c' : Nat) (xs ys : List Nat) (w : World) (h : Row w A n c xs) (h' : Row w A' n' c' ys) (hb : n ≤ 1073741824) (hb' : n' ≤ 1073741824) :
    Calls Try.prog 18 #[.slice A n c, .slice A' n' c'] w (Ret2 w (val xs - val ys) (geB (val xs) (val ys))) := by
  have hC := Cmp_any A A' n c n' c' xs ys w h h'
  rcases Nat.lt_or_ge (val xs) (val ys) with hlt | hge
  · rw [cmpv_lt hlt] at hC
    have hg : geB (val xs) (val ys) = false := by simp [geB]; omega
    have hz : val xs - val ys = 0 := by omega
    rw [hg, hz]
    have HC := hid hC
    clear hC hg hz
    go_enter Try.func18, Try.ntmps18
    go_wp2_with (go_at_call 21; refine (HC.out).mono ?_; rintro e w1 ⟨rfl, hb1⟩)
    go_ret2
    exact Ret2.of_row (Row.nil _) rfl hb1
  · have hC2 : Calls Try.prog 21 #[.slice A n c, .slice A' n' c'] w fun e w' => ∃ z : Int, 0 ≤ z ∧ e = .returned (.int .i64 z) ∧ Below w.heap.size w w' := by
      refine hC.mono fun e w' ⟨he, hb⟩ => ⟨_, ?_, he, hb⟩
      unfold cmpv; split <;> first | omega | (split <;> omega)
    have hg : geB (val xs) (val ys) = true := by simp [geB]; omega
    rw [hg]
    have HC := hid hC2
    clear hC hC2 hg
    have HGE := hid hge
    clear hge
    go_enter Try.func18, Try.ntmps18
    go_upto_region 3 with (go_at_call 21; refine (HC.out).mono ?_; rintro e w1 ⟨z, hz, rfl, hb1⟩; (have hd : decide (z < 0) = false := by simp; omega))
    have hrx := (h.below hb1).trim
    have hry := (h'.below hb1).trim
    have hx1 := h.below hb1
    have hy1 := h'.below hb1
    go_cut [0, 1] (fun s0 s1 wc => ∃ n0 n1 p q, s0 = .slice A n0 c ∧ s1 = .slice A' n1 c' ∧ Row wc A n0 c p ∧ Row wc A' n1 c' q ∧ n0 ≤ 1073741824 ∧ Hid (val p = val xs ∧ val q = val ys ∧ n1 ≤ n0) ∧ Below w.heap.size w wc)
    case first =>
      go_wp2_with (go_at_call 36; refine (trim_any _ _ _ _ _ (by assumption)).mono ?_; rintro e w' ⟨rfl, rfl⟩)
      go_meet
      refine ⟨_, _, _, _, rfl, rfl, hrx, hry, by have := tl_le h.ok; rw [h.len] at this; omega, ⟨val_limbs _, val_limbs _, ?_⟩, hb1⟩
      have h2 := HGE.out
      rcases Nat.lt_or_ge (tl xs) (tl ys) with h3 | h3
      · have := cmp_len (a := val xs) (b := val ys) h3
        omega
      · exact h3
    case rest =>
      obtain ⟨n0, n1, p, q, rfl, rfl, hp, hq, hn0, HV, hbw⟩ := hcut
      clear h h' hrx hry hx1 hy1 hb1
      have hp1 := hp.nc
      have hp2 := hp.cm
      have hq1 := hq.nc
      have hq2 := hq.cm
      have hpl := hid hp.len
      have hql := hid hq.len
      have hmk := run_make_row (P := Try.prog) 22 27 Try.underlying22 info32 (n0 : Int) n0 rfl (by omega)
      go_wp2_with fail
      go_loopw [7, 24] (fun s7 i wr => ∃ k br cs, k ≤ n0 ∧ i = .int .i64 ((k : Nat) : Int) ∧ s7 = .int .u32 ((br : Nat) : Int) ∧ SubInv p q k br cs ∧ Hid (cs.length = n0) ∧ Blk wr wc.heap.size 27 cs ∧ Below wc.heap.size wc wr) (fun _ i _ => n0 - (intOf i).toNat)
      case atStart => exact ⟨0, 0, _, by omega, rfl, rfl, SubInv.start p q _ (ok_replicate n0), by simp [Hid], Blk.new _ _ _, Below.alloc (Below.refl _ _) (Nat.le_refl _) _⟩
      case round =>
        obtain ⟨k, br, cs, hk, rfl, rfl, hinv, hcl, hblk, hbel⟩ := hrel
        have hlp := lim_lt hp.ok k
        have hlq := lim_lt hq.ok k
        have hbr := hinv.le
        have hfz := hblk.frozen k
        by_cases hlt : k < n0
        · obtain ⟨b, o, rfl, hc⟩ := hp.at_ (by omega)
          have hbw1 := hp.lt (by omega) rfl
          have g1 : wr.cell? ⟨b, o + k, none⟩ = some (.int .u32 ((lim p k : Nat) : Int)) := (hbel.cell (by exact hbw1)).trans (hc k hlt)
          have g3 := hblk.cell (i := k) (by rw [hcl.out]; omega)
          clear hc
          by_cases hlt2 : k < n1
          · obtain ⟨b', o', rfl, hc'⟩ := hq.at_ (by omega)
            have hbw' := hq.lt (by omega) rfl
            have g2 : wr.cell? ⟨b', o' + k, none⟩ = some (.int .u32 ((lim q k : Nat) : Int)) := (hbel.cell (by exact hbw')).trans (hc' k hlt2)
            clear hc'
            go_wp2_with (go_at_call 39; refine (sub32_any (lim p k) (lim q k) br _ _ _ _ (by rfl) (by rfl) (by rfl) hlp hlq hbr).mono ?_; rintro e w' ⟨rfl, rfl⟩)
            go_roundw
            case rel => exact ⟨k + 1, _, _, by omega, by go_num, rfl, hinv.set hp.ok hq.ok (by rw [hcl.out]; exact hlt), by rw [List.length_set]; exact hcl, hblk.set k _ _ rfl, hbel.setCell (Nat.le_refl _) _⟩
            case measure => simp [intOf]; omega
          · have hz : Hid (lim q k = 0) := hid (lim_behind (by rw [hql.out]; omega))
            have hlt2' : n1 ≤ k := by omega
            go_wp2_with (go_at_call 39; refine (sub32_any (lim p k) (lim q k) br _ _ _ _ (by rfl) (by rw [hz.out]; rfl) (by rfl) hlp hlq hbr).mono ?_; rintro e w' ⟨rfl, rfl⟩)
            go_roundw
            case rel => exact ⟨k + 1, _, _, by omega, by go_num, rfl, hinv.set hp.ok hq.ok (by rw [hcl.out]; exact hlt), by rw [List.length_set]; exact hcl, hblk.set k _ _ rfl, hbel.setCell (Nat.le_refl _) _⟩
            case measure => simp [intOf]; omega
        · obtain rfl : k = n0 := by omega
          have hdone : Hid (val cs = val xs - val ys) := hid (by
            have e := hpl.out
            have e2 := HGE.out
            have e3 := HV.out
            have e4 := hcl.out
            subst e
            rw [hinv.fin hp.ok e4 (by omega), e3.1, e3.2.1])
          have hr2 := hblk.row hinv.ok (by rw [hcl.out]; omega)
          rw [hcl.out] at hr2
          go_wp2_with (go_at_call 36; refine (trim_any _ _ _ _ _ hr2).mono ?_; rintro e w' ⟨rfl, rfl⟩)
          go_ret2
          exact Ret2.of_row hr2.trim (by rw [hdone.out]) (by repeat first | exact Below.refl _ _ | assumption | refine Pg.Below.then_ ?_ (by assumption) | refine Pg.Below.new_ ?_ _ | refine Pg.Below.drewN_ ?_ _)
end Go.Proofs.Ytliflabkpeemdaa
