/- Walks: pantographref1.Cmp. Conditions: rows of at most 2^30 limbs. -/
import Derived.Test.YtgehoflkbckgkaaWi
namespace Go.Proofs.Ytgehoflkbckgkaa
open Go.RowKit Pg

set_option maxHeartbeats 1000000 in
/-- pantographref1.Cmp. -/
theorem rCmp_any (A A' : Option Addr) (n c n' c' : Nat) (xs ys : List Nat) (w : World) (h : Row w A n c xs) (h' : Row w A' n' c' ys) (hn : n ≤ 1073741824) (hn' : n' ≤ 1073741824) :
    Calls Try.prog 50 #[.slice A n c, .slice A' n' c'] w fun e w' => e = .returned (.int .i64 (cmpv (val xs) (val ys))) ∧ Below w.heap.size w w' := by
  go_enter Try.func50, Try.ntmps50
  go_wp2_with fail
  refine (rTrim_any _ _ _ _ _ h (by omega)).mono ?_
  rintro e w1 ⟨A1, c1, rfl, hr1, hb1⟩
  go_wp2_with fail
  refine (rTrim_any _ _ _ _ _ (h'.below hb1) (by omega)).mono ?_
  rintro e w2 ⟨A2, c2, rfl, hq, hb2⟩
  have hp := hr1.below hb2
  obtain ⟨p, hpe⟩ : ∃ p, p = limbs (val xs) := ⟨_, rfl⟩
  obtain ⟨q, hqe⟩ : ∃ q, q = limbs (val ys) := ⟨_, rfl⟩
  obtain ⟨n0, hn0⟩ : ∃ n0, n0 = p.length := ⟨_, rfl⟩
  obtain ⟨n1, hn1⟩ : ∃ n1, n1 = q.length := ⟨_, rfl⟩
  rw [← hpe, ← hn0] at hp
  rw [← hqe, ← hn1] at hq
  have hp1 := hp.nc
  have hp2 := hp.cm
  have hq1 := hq.nc
  have hq2 := hq.cm
  have hpl := hid hn0.symm
  have hql := hid hn1.symm
  have hvp : Hid (val p = val xs) := hid (by rw [hpe, val_limbs])
  have hvq : Hid (val q = val ys) := hid (by rw [hqe, val_limbs])
  have HP := hid hpe
  have HQ := hid hqe
  rw [← hpe, ← hqe, ← hn0, ← hn1]
  clear hpe hqe h h' hr1 hn0 hn1
  by_cases hne : n0 = n1
  · subst hne
    have hb : ((n0 : Int) != (n0 : Int)) = false := by simp
    go_wp2_with fail
    go_loopw [7] (fun i wr => ∃ k : Nat, k ≤ n0 ∧ i = .int .i64 ((k : Int) - 1) ∧ Hid (∀ j, k ≤ j → lim p j = lim q j) ∧ Below w2.heap.size w2 wr) (fun i _ => (intOf i + 1).toNat)
    case atStart => exact ⟨n0, Nat.le_refl _, rfl, fun j hj => by rw [lim_behind (by rw [hpl.out]; exact hj), lim_behind (by rw [hql.out]; exact hj)], Below.refl _ _⟩
    case round =>
      obtain ⟨k, hk, rfl, hall, hbel⟩ := hrel
      rcases Nat.eq_zero_or_pos k with h0 | h0
      · have hd0 : decide ((0 : Int) ≤ (k : Int) - 1) = false := by simp; omega
        have hd1 : decide ((1 : Int) ≤ (k : Int)) = false := by simp; omega
        have HK := hid h0
        clear h0
        go_wp2_with fail
        go_ret
        refine ⟨?_, (by repeat first | exact Below.refl _ _ | assumption | refine Pg.Below.then_ ?_ (by assumption) | refine Pg.Below.new_ ?_ _ | refine Pg.Below.drewN_ ?_ _)⟩
        have he : val xs = val ys := by
          rw [← hvp.out, ← hvq.out]
          exact cmp_all (by rw [hpl.out, hql.out]) (fun j => hall.out j (by rw [HK.out]; omega))
        rw [cmpv_eq he]; rfl
      · have hd0 : decide ((0 : Int) ≤ (k : Int) - 1) = true := by simp; omega
        have hd1 : decide ((1 : Int) ≤ (k : Int)) = true := by simp; omega
        obtain ⟨b, o, rfl, hc⟩ := (hp.below hbel).at_ (by omega)
        obtain ⟨b', o', rfl, hc'⟩ := (hq.below hbel).at_ (by omega)
        have g1 := hc (k - 1) (by omega)
        have g2 := hc' (k - 1) (by omega)
        clear hc hc'
        have s2 : (0 : Int) ≤ (k : Int) - 1 := by omega
        have s4 : (k : Int) - 1 < (n0 : Int) := by omega
        have S3 : Hid (((k : Int) - 1).toNat = k - 1) := hid (by omega)
        rcases Nat.lt_trichotomy (lim p (k - 1)) (lim q (k - 1)) with he | he | he
        · have he2 : decide (((lim p (k - 1) : Nat) : Int) < ((lim q (k - 1) : Nat) : Int)) = true := by simp; omega
          have he3 : decide (lim p (k - 1) < lim q (k - 1)) = true := by simp; omega
          have hf : Hid (val xs < val ys) := hid (by
            rw [← hvp.out, ← hvq.out]
            exact cmp_at hp.ok (by rw [hpl.out, hql.out]) (k := k - 1) (by rw [hpl.out]; omega) (fun j hj => hall.out j (by omega)) he)
          clear he
          go_wp2_with fail
          have s3 := S3.out
          go_quiet (fail)
          go_wp2_with fail
          go_ret
          exact ⟨by rw [cmpv_lt hf.out]; rfl, (by repeat first | exact Below.refl _ _ | assumption | refine Pg.Below.then_ ?_ (by assumption) | refine Pg.Below.new_ ?_ _ | refine Pg.Below.drewN_ ?_ _)⟩
        · have he2 : decide (((lim p (k - 1) : Nat) : Int) < ((lim q (k - 1) : Nat) : Int)) = false := by simp; omega
          have he3 : decide (lim p (k - 1) < lim q (k - 1)) = false := by simp; omega
          have he4 : decide (((lim q (k - 1) : Nat) : Int) < ((lim p (k - 1) : Nat) : Int)) = false := by simp; omega
          have he5 : decide (lim q (k - 1) < lim p (k - 1)) = false := by simp; omega
          have HE := hid he
          clear he
          go_wp2_with fail
          have s3 := S3.out
          go_quiet (fail)
          go_wp2_with fail
          go_quiet (fail)
          clear s3
          go_wp2_with fail
          go_roundw
          case rel =>
            refine ⟨k - 1, by omega, by go_num, fun j hj => ?_, (by repeat first | exact Below.refl _ _ | assumption | refine Pg.Below.then_ ?_ (by assumption) | refine Pg.Below.new_ ?_ _ | refine Pg.Below.drewN_ ?_ _)⟩
            rcases Nat.lt_or_ge j k with h1 | h1
            · have : j = k - 1 := by omega
              subst this; exact HE.out
            · exact hall.out j h1
          case measure => simp [intOf]; omega
        · have he2 : decide (((lim p (k - 1) : Nat) : Int) < ((lim q (k - 1) : Nat) : Int)) = false := by simp; omega
          have he3 : decide (lim p (k - 1) < lim q (k - 1)) = false := by simp; omega
          have he4 : decide (((lim q (k - 1) : Nat) : Int) < ((lim p (k - 1) : Nat) : Int)) = true := by simp; omega
          have he5 : decide (lim q (k - 1) < lim p (k - 1)) = true := by simp; omega
          have hf : Hid (val ys < val xs) := hid (by
            rw [← hvp.out, ← hvq.out]
            exact cmp_at hq.ok (by rw [hpl.out, hql.out]) (k := k - 1) (by rw [hql.out]; omega) (fun j hj => (hall.out j (by omega)).symm) he)
          clear he
          go_wp2_with fail
          have s3 := S3.out
          go_quiet (fail)
          go_wp2_with fail
          go_quiet (fail)
          go_wp2_with fail
          go_ret
          exact ⟨by rw [cmpv_gt hf.out]; rfl, (by repeat first | exact Below.refl _ _ | assumption | refine Pg.Below.then_ ?_ (by assumption) | refine Pg.Below.new_ ?_ _ | refine Pg.Below.drewN_ ?_ _)⟩
  · have hb : ((n0 : Int) != (n1 : Int)) = true := by simp; omega
    rcases Nat.lt_or_ge n0 n1 with hlt | hlt
    · have hf : Hid (val xs < val ys) := hid (cmp_len (by rw [← HP.out, ← HQ.out, hpl.out, hql.out]; exact hlt))
      have hd : decide ((n0 : Int) < (n1 : Int)) = true := by simp; omega
      have hd' : decide (n0 < n1) = true := by simp; omega
      go_wp2_with fail
      go_ret
      exact ⟨by rw [cmpv_lt hf.out]; rfl, (by repeat first | exact Below.refl _ _ | assumption | refine Pg.Below.then_ ?_ (by assumption) | refine Pg.Below.new_ ?_ _ | refine Pg.Below.drewN_ ?_ _)⟩
    · have hf : Hid (val ys < val xs) := hid (cmp_len (by rw [← HP.out, ← HQ.out, hpl.out, hql.out]; omega))
      have hd : decide ((n0 : Int) < (n1 : Int)) = false := by simp; omega
      have hd' : decide (n0 < n1) = false := by simp; omega
      go_wp2_with fail
      go_ret
      exact ⟨by rw [cmpv_gt hf.out]; rfl, (by repeat first | exact Below.refl _ _ | assumption | refine Pg.Below.then_ ?_ (by assumption) | refine Pg.Below.new_ ?_ _ | refine Pg.Below.drewN_ ?_ _)⟩
end Go.Proofs.Ytgehoflkbckgkaa
