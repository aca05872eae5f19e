/- Walk: pantographref1.Mul. Conditions: rows of at most 2^30 limbs. -/
import Derived.Test.YtgehoflkbckgkaaWe
namespace Go.Proofs.Ytgehoflkbckgkaa
open Go.RowKit Pg

theorem at_q (A : Option Addr) (n c : Nat) (xs : List Nat) (i : Nat) (w : World) (h : Row w A n c xs) (hi : i ≤ 9223372036854775807) :
    Calls Try.prog 61 #[.slice A n c, .int .i64 (i : Int)] w fun e w' => e = .returned (.int .u64 ((lim xs i : Nat) : Int)) ∧ w' = w :=
  (at_any A n c xs i w h hi).mono fun _ _ ⟨a, b⟩ => ⟨a, b.symm⟩

set_option maxHeartbeats 1000000 in
/-- pantographref1.Mul. -/
theorem rMul_any (A A' : Option Addr) (n0 c n1 c' : Nat) (p q : List Nat) (w : World) (hp : Row w A n0 c p) (hq : Row w A' n1 c' q) (hn1 : n0 ≤ 1073741824) (hn2 : n1 ≤ 1073741824) :
    Calls Try.prog 41 #[.slice A n0 c, .slice A' n1 c'] w (Ret w (val p * val q)) := by
  have hmk := run_make_row (P := Try.prog) 26 50 Try.underlying26 info32 ((n0 : Int) + (n1 : Int)) (n0 + n1) (by omega) (by omega)
  have hpl := hid hp.len
  have hql := hid hq.len
  have hp1 := hp.nc
  have hp2 := hp.cm
  have hq1 := hq.nc
  have hq2 := hq.cm
  go_enter Try.func41, Try.ntmps41
  go_wp2_with fail
  go_loopw [6] (fun i wr => ∃ k cs, k ≤ n0 ∧ i = .int .i64 ((k : Nat) : Int) ∧ MulOut p q k cs ∧ Blk wr w.heap.size 50 cs ∧ Below w.heap.size w wr) (fun i _ => n0 - (intOf i).toNat)
  case atStart => exact ⟨0, _, by omega, rfl, hpl.out ▸ hql.out ▸ MulOut.start p q, Blk.new _ _ _, Below.alloc (Below.refl _ _) (Nat.le_refl _) _⟩
  case round =>
    obtain ⟨i, cs, hi, rfl, hout, hblk, hbel⟩ := hrel
    by_cases hlt : i < n0
    · obtain ⟨b, o, rfl, hc⟩ := hp.at_ (by omega)
      have hbw := hp.lt (by omega) rfl
      go_wp2_with fail
      have hin0 := hout.inner
      clear hout
      obtain ⟨wo, rfl⟩ : ∃ wo : World, wo = wr := ⟨_, rfl⟩
      go_loopw [7, 8] (fun s8 j wr => ∃ k cr ds, j = .int .i64 ((k : Nat) : Int) ∧ s8 = .int .u64 ((cr : Nat) : Int) ∧ k ≤ n1 + 1 ∧ cr < 4294967296 ∧ (n1 < k → cr ≤ 0) ∧ Hid ((k ≤ n1 ∧ MulIn p q i k cr ds) ∨ (k = n1 + 1 ∧ cr = 0 ∧ MulOut p q (i + 1) ds)) ∧ Blk wr w.heap.size 50 ds ∧ Below w.heap.size w wr) (fun _ j _ => n1 + 1 - (intOf j).toNat)
      case atStart => exact ⟨0, 0, _, rfl, rfl, by omega, by omega, fun _ => by omega, .inl ⟨by omega, hin0⟩, hblk, hbel⟩
      case round =>
        obtain ⟨k, cr, ds, rfl, rfl, hk, hcr, hkc, hor, hblk2, hbel2⟩ := hrel
        clear hin0 hblk hbel
        have HK := hid hkc
        clear hkc
        by_cases hgo : k < n1 ∨ 0 < cr
        · have hk1 : k ≤ n1 := by have := HK.out; omega
          have hin : MulIn p q i k cr ds := by
            rcases hor.out with h | h
            · exact h.2
            · omega
          have hcl := hid hin.len
          have g1 : wr.cell? ⟨b, o + i, none⟩ = some (.int .u32 ((lim p i : Nat) : Int)) := (hbel2.cell (by exact hbw)).trans (hc i hlt)
          have g3 := hblk2.cell (i := i + k) (by rw [hcl.out, hpl.out, hql.out]; omega)
          have hfz := hblk2.frozen (i + k)
          have hq2' := hq.below hbel2
          have b1 := lim_lt hp.ok i
          have b2 := lim_lt hq.ok k
          have b3 := lim_lt hin.ok (i + k)
          have b4 : ((lim p i : Nat) : Int) * ((lim q k : Nat) : Int) ≤ 18446744065119617025 := by have := prod_le b1 b2; rw [← Int.natCast_mul]; omega
          have b5 : (0 : Int) ≤ ((lim p i : Nat) : Int) * ((lim q k : Nat) : Int) := Int.mul_nonneg (by omega) (by omega)
          have hnext : Hid ((k + 1 ≤ n1 ∧ MulIn p q i (k + 1) ((cr + (lim p i * lim q k + lim ds (i + k))) / 4294967296) (ds.set (i + k) ((cr + (lim p i * lim q k + lim ds (i + k))) % 4294967296))) ∨
              (k + 1 = n1 + 1 ∧ (cr + (lim p i * lim q k + lim ds (i + k))) / 4294967296 = 0 ∧ MulOut p q (i + 1) (ds.set (i + k) ((cr + (lim p i * lim q k + lim ds (i + k))) % 4294967296)))) := hid (by
            rcases Nat.lt_or_ge k n1 with hk2 | hk2
            · exact .inl ⟨by omega, hin.step hp.ok hq.ok (by rw [hpl.out]; omega) (by rw [hql.out]; omega) _ rfl⟩
            · obtain rfl : k = n1 := by omega
              have e1 : lim q k = 0 := lim_behind (by rw [hql.out]; omega)
              have e2 : lim ds (i + k) = 0 := hin.zero _ (by rw [hql.out]; omega)
              rw [e1, e2, Nat.mul_zero, show cr + (0 + 0) = cr from rfl, Nat.mod_eq_of_lt hcr, Nat.div_eq_of_lt hcr]
              refine .inr ⟨rfl, rfl, ?_⟩
              have e := hql.out
              subst e
              exact hin.done (by rw [hpl.out]; omega))
          have hlast : Hid (n1 < k + 1 → (cr + (lim p i * lim q k + lim ds (i + k))) / 4294967296 ≤ 0) := hid (by
            intro hk3
            rcases hnext.out with h | h
            · omega
            · omega)
          have hbd : Hid ((cr + (lim p i * lim q k + lim ds (i + k))) / 4294967296 < 4294967296) := hid (by
            have := prod_le b1 b2
            omega)
          have s1 : IntKind.i64.wrap ((i : Int) + (k : Int)) = (i : Int) + (k : Int) := IntWalk.i64_in _ (by omega)
          have s2 : (0 : Int) ≤ (i : Int) + (k : Int) := by omega
          have s3 : ((i : Int) + (k : Int)).toNat = i + k := by omega
          have s4 : (i : Int) + (k : Int) < ((n0 + n1 : Nat) : Int) := by omega
          have S1 := hid s1
          have S3 := hid s3
          clear s1 s3 hor
          have hd3 : decide (((n0 : Int) + (n1 : Int)) ≤ (i : Int) + (k : Int)) = false := by simp; omega
          by_cases hk2 : k < n1
          · have d1 : decide ((k : Int) < (n1 : Int)) = true := by simp; omega
            go_wp2_with fail
            have s1 := S1.out
            have s3 := S3.out
            go_quiet ((go_at_call 61; exact Calls.quiet_of_same (at_q _ _ _ _ _ _ (hq2'.drewN _) (by omega))))
            clear s1 s3
            go_wp2_with fail
            go_roundw
            case rel =>
              exact ⟨k + 1, _, _, by go_num, congrArg _ (cast3_div _ _ _ _), by omega, hbd.out, hlast.out, hnext, (hblk2.drewN nq).set (i + k) _ _ (cast3_mod _ _ _ _), Below.setCell (Pg.Below.drewN_ hbel2 nq) (Nat.le_refl _) _⟩
            case measure => simp [intOf]; omega
          · have d1 : decide ((k : Int) < (n1 : Int)) = false := by simp; omega
            have d2 : decide ((0 : Int) < (cr : Int)) = true := by simp; omega
            go_wp2_with fail
            have s1 := S1.out
            have s3 := S3.out
            go_quiet ((go_at_call 61; exact Calls.quiet_of_same (at_q _ _ _ _ _ _ (hq2'.drewN _) (by omega))))
            clear s1 s3
            go_wp2_with fail
            go_roundw
            case rel =>
              exact ⟨k + 1, _, _, by go_num, congrArg _ (cast3_div _ _ _ _), by omega, hbd.out, hlast.out, hnext, (hblk2.drewN nq).set (i + k) _ _ (cast3_mod _ _ _ _), Below.setCell (Pg.Below.drewN_ hbel2 nq) (Nat.le_refl _) _⟩
            case measure => simp [intOf]; omega
        · have d1 : decide ((k : Int) < (n1 : Int)) = false := by simp; omega
          have d2 : decide ((0 : Int) < (cr : Int)) = false := by simp; omega
          have hf : Hid (MulOut p q (i + 1) ds) := hid (by
            rcases hor.out with ⟨h1, h2⟩ | ⟨_, _, h2⟩
            · obtain rfl : k = n1 := by omega
              obtain rfl : cr = 0 := by omega
              have e := hql.out
              subst e
              exact h2.rest
            · exact h2)
          go_wp2_with fail
          go_roundw
          case rel => exact ⟨i + 1, _, by omega, by go_num, hf.out, hblk2, hbel2⟩
          case measure => simp [intOf]; omega
    · obtain rfl : i = n0 := by omega
      have hdone : Hid (val cs = val p * val q) := hid (by
        have e := hpl.out
        subst e
        exact hout.done)
      have hr2 := hblk.row hout.ok (by rw [hout.len, hpl.out, hql.out]; omega)
      rw [hout.len, hpl.out, hql.out] at hr2
      go_wp2_with (go_at_call 60; refine (rTrim_any _ _ _ _ _ hr2 (by omega)).mono ?_; rintro e w' ⟨A', c', rfl, hr, hb⟩)
      go_ret
      exact Ret.of_row hr (by rw [hdone.out]) (hbel.trans (hb.mono hbel.size))
end Go.Proofs.Ytgehoflkbckgkaa
