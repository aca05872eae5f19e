/- Walk: nat.takes. Conditions: rows of at most 2^31 limbs. -/
import Derived.Test.YtgehoflkbckgkaaWq
import Derived.Test.YtgehoflkbckgkaaTakeP
namespace Go.Proofs.Ytgehoflkbckgkaa
open Go.RowKit Pg

theorem blk_grown {w w' : World} {g r t : Nat} {cs : List Nat} (h : Blk w g t cs) (hg : w.grownBy w' (some r)) (hne : g ≠ r) : Blk w' g t cs :=
  (hg.block g h.lt (fun e => hne (by injection e))).trans h
theorem grown_set (w : World) (a : Addr) (u : Value) : w.grownBy (w.setCell a u) (some a.block) :=
  ⟨rfl, rfl, rfl, by simp, fun k _ hk => heap_setCell_other w a k u (fun e => hk (by rw [e]))⟩

set_option maxHeartbeats 2000000 in
/-- nat.takes. -/
theorem takes_any (g gd o n cu q : Nat) (us ds : List Nat) (w : World) (hu : Blk w g 50 us) (hus : Ok us) (hon : o + n < us.length) (hd : Blk w gd 50 ds) (hds : Ok ds) (hdl : ds.length = n) (hne : gd ≠ g)
    (hn : n ≤ 2147483648) (hq : q < 4294967296) (hX : val us < 4294967296 ^ (o + n + 1)) (hcu : n + 1 ≤ cu) (hcm : cu ≤ 9223372036854775807) :
    Calls Try.prog 77 #[.slice (some ⟨g, o, none⟩) (n + 1) cu, .slice (some ⟨gd, 0, none⟩) n n, .int .u64 (q : Int)] w fun e w' =>
      ∃ b cs, e = .returned (.bool b) ∧ Took us o n q (val ds) b cs ∧ Blk w' g 50 cs ∧ w.grownBy w' (some g) := by
  have HX := hid hX
  have HDL := hid hdl
  have HON := hid hon
  have hul : o + n < 9223372036854775807 ∨ True := .inr trivial
  clear hX hdl hon hul
  go_enter Try.func77, Try.ntmps77
  go_wp2_with fail
  go_loopw [7, 8, 16] (fun s7 s8 s16 wr => ∃ k cr br cs, k ≤ n ∧ s16 = .int .i64 ((k : Nat) : Int) ∧ s7 = .int .u64 ((cr : Nat) : Int) ∧ s8 = .int .u32 ((br : Nat) : Int) ∧ TakeInv us ds o n q k cr br cs ∧ Blk wr g 50 cs ∧ w.grownBy wr (some g)) (fun _ _ i _ => n - (intOf i).toNat)
  case atStart => exact ⟨0, 0, 0, us, by omega, rfl, rfl, rfl, TakeInv.start us ds o n q hus, hu, World.grownBy.refl _ _⟩
  case round =>
    obtain ⟨k, cr, br, cs, hk, rfl, rfl, rfl, hinv, hblk, hgr⟩ := hrel
    have hdb := blk_grown hd hgr hne
    have hcl := hid hinv.len
    have hlu := lim_lt hinv.ok (o + k)
    have hld := lim_lt hds k
    have hcr := hinv.crl
    have hbr := hinv.brl
    have g3 := hblk.cell (i := o + k) (by rw [hcl.out]; have := HON.out; omega)
    have hfz := hblk.frozen (o + k)
    by_cases hlt : k < n
    · have g1 := hdb.cell (i := k) (by rw [HDL.out]; omega)
      have b4 : (q : Int) * ((lim ds k : Nat) : Int) ≤ 18446744065119617025 := by have := prod_le hq hld; rw [← Int.natCast_mul]; omega
      have b5 : (0 : Int) ≤ (q : Int) * ((lim ds k : Nat) : Int) := Int.mul_nonneg (by omega) (by omega)
      obtain ⟨t, ht⟩ : ∃ t, t = cr + q * lim ds k := ⟨_, rfl⟩
      have HT1 : Hid (((cr : Int) + (q : Int) * ((lim ds k : Nat) : Int)) % 4294967296 = ((t % 4294967296 : Nat) : Int)) := hid (by rw [ht, ← Int.natCast_mul]; omega)
      have HT2 : Hid (((cr : Int) + (q : Int) * ((lim ds k : Nat) : Int)) / 4294967296 = ((t / 4294967296 : Nat) : Int)) := hid (by rw [ht, ← Int.natCast_mul]; omega)
      have hnext := hid (hinv.step hds hk HON.out hq t ht)
      have hy : t % 4294967296 < 4294967296 := Nat.mod_lt _ (by omega)
      clear ht
      go_wp2_with (go_at_call 82; refine (sub32_any (lim cs (o + k)) (t % 4294967296) br _ _ _ _ (by rfl) (by exact HT1.out) (by rfl) hlu hy hbr).mono ?_; rintro e w' ⟨rfl, rfl⟩)
      go_roundw
      case rel => exact ⟨k + 1, t / 4294967296, _, _, by omega, by go_num, by rw [HT2.out], rfl, hnext.out, hblk.set (o + k) _ _ rfl, hgr.trans (grown_set _ _ _)⟩
      case measure => simp [intOf]; omega
    · obtain rfl : k = n := by omega
      have hnext := hid (hinv.last hds HDL.out HON.out hq)
      go_upto_region 10 with (go_at_call 82; refine (sub32_any (lim cs (o + k)) cr br _ _ _ _ (by rfl) (by first | rfl | omega) (by rfl) hlu hcr hbr).mono ?_; rintro e w' ⟨rfl, rfl⟩)
      have hb1 := borr_le (lim cs (o + k)) cr br
      have hdl := dif_lt (lim cs (o + k)) cr br
      have hblk1 := hblk.set (o + k) (dif (lim cs (o + k)) cr br) _ rfl
      have hgr1 : w.grownBy (wr.setCell ⟨g, o + k, none⟩ (.int .u32 ((dif (lim cs (o + k)) cr br : Nat) : Int))) (some g) := hgr.trans (grown_set _ _ _)
      clear hinv hblk hgr hdb hcl hlu hld g3 hfz
      generalize borr (lim cs (o + k)) cr br = bw at *
      generalize cs.set (o + k) (dif (lim cs (o + k)) cr br) = cs1 at *
      generalize wr.setCell ⟨g, o + k, none⟩ (.int .u32 ((dif (lim cs (o + k)) cr br : Nat) : Int)) = w1 at *
      by_cases hz : bw = 0
      · subst hz
        go_wp2_with fail
        go_ret
        exact ⟨false, cs1, rfl, took_kept hnext.out HDL.out rfl, hblk1, hgr1⟩
      · have ht : ((bw : Int) == 0) = false := by simp; omega
        go_wp2_with fail
        go_loopw [11, 64] (fun s11 s64 wr => ∃ i mr cs, i ≤ k ∧ s64 = .int .i64 ((i : Nat) : Int) ∧ s11 = .int .u32 ((mr : Nat) : Int) ∧ BackInv cs1 ds o k i mr cs ∧ Blk wr g 50 cs ∧ w.grownBy wr (some g)) (fun _ i _ => k - (intOf i).toNat)
        case atStart => exact ⟨0, 0, cs1, by omega, rfl, rfl, BackInv.start cs1 ds o k hnext.out.ok, hblk1, hgr1⟩
        case round =>
          obtain ⟨i, mr, cs2, hi, rfl, rfl, hinv, hblk, hgr⟩ := hrel
          have hdb := blk_grown hd hgr hne
          have hcl := hid (hinv.len.trans hnext.out.len)
          have HON2 : Hid (o + k < cs1.length) := hid (by rw [hnext.out.len]; exact HON.out)
          have hlu := lim_lt hinv.ok (o + i)
          have hld := lim_lt hds i
          have hmr := hinv.mrl
          have g3 := hblk.cell (i := o + i) (by rw [hcl.out]; have := HON.out; omega)
          have hfz := hblk.frozen (o + i)
          by_cases hlt : i < k
          · have g1 := hdb.cell (i := i) (by rw [HDL.out]; omega)
            have hnext2 := hid (hinv.step hds hi HON2.out _ rfl)
            go_wp2_with (go_at_call 83; refine (add32_any (lim cs2 (o + i)) (lim ds i) mr _ _ _ _ (by rfl) (by rfl) (by rfl) hlu hld hmr).mono ?_; rintro e w' ⟨rfl, rfl⟩)
            go_roundw
            case rel => exact ⟨i + 1, _, _, by omega, by go_num, by go_num, hnext2.out, hblk.set (o + i) _ _ (by go_num), hgr.trans (grown_set _ _ _)⟩
            case measure => simp [intOf]; omega
          · obtain rfl : i = k := by omega
            have hnext2 := hid (hinv.last hds HDL.out HON2.out)
            go_wp2_with fail
            go_ret
            exact ⟨true, _, rfl, took_back hnext.out HDL.out rfl hz HX.out hus hnext2.out, hblk.set (o + i) _ _ (by go_num), hgr.trans (grown_set _ _ _)⟩
end Go.Proofs.Ytgehoflkbckgkaa
