/- Walk · Walk · Walk. Conditions: those that each theorem names. -/
import Derived.Test.YtahdlpkncemmaaaW14
import Derived.Test.YtahdlpkncemmaaaW15
import Derived.Test.YtahdlpkncemmaaaW12
import Derived.Test.YtahdlpkncemmaaaW1
import Derived.Test.YtahdlpkncemmaaaW0
set_option maxRecDepth 100000
set_option maxHeartbeats 8000000
set_option linter.unusedSimpArgs false
set_option linter.unusedVariables false
namespace Go.Proofs.Ytahdlpkncemmaaa
open Go.RowKit Pg
theorem guess_any (hi mid low b1 b2 : Nat) (w : World) (hI mI lI bI cI : Int) (e1 : hI = (hi : Int)) (e2 : mI = (mid : Int)) (e3 : lI = (low : Int)) (e4 : bI = (b1 : Int)) (e5 : cI = (b2 : Int))
  (h1 : hi < 4294967296) (h2 : mid < 4294967296) (h3 : low < 4294967296) (h4 : b1 < 4294967296) (h5 : b2 < 4294967296) (hb : 0 < b1) (hu : hi * 4294967296 + mid ≤ b1 * 4294967296 + b2) :
  Calls Try.prog 63 #[.int .u32 hI, .int .u32 mI, .int .u32 lI, .int .u32 bI, .int .u32 cI] w fun e w' =>
   e = .returned (.int .u64 ((gq ((hi * 4294967296 + mid) * 4294967296 + low) (b1 * 4294967296 + b2) : Nat) : Int)) ∧ ∃ m, w' = w.drewN m := by
 subst e1 e2 e3 e4 e5
 have hub : hi * 4294967296 + mid < 18446744073709551616 := by omega
 have hj := join_or h2 h1
 obtain ⟨u, hue⟩ : ∃ u, u = hi * 4294967296 + mid := ⟨_, rfl⟩
 rw [← hue] at hu hj hub ⊢
 clear hue
 have hne : ((b1 : Int) != 0) = true := by simp; omega
 have HS := hid (guess_start (u := u) (low := low) (b1 := b1) (b2 := b2) hb h3)
 have HD := hid (Nat.div_add_mod' u b1)
 have hr0 : u % b1 < b1 := Nat.mod_lt _ hb
 have HQ : Hid ((u : Int) / (b1 : Int) = ((u / b1 : Nat) : Int)) := hid (Int.natCast_ediv _ _).symm
 have HR : Hid ((u : Int) % (b1 : Int) = ((u % b1 : Nat) : Int)) := hid (Int.natCast_emod _ _).symm
 go_enter Try.func63, Try.ntmps63
 go_wp2_with fail
 go_quiet (fail)
 go_wp2_with fail
 go_loopw [12, 13] (fun s12 s13 wr => ∃ q r : Nat, s12 = .int .u64 (q : Int) ∧ s13 = .int .u64 (r : Int) ∧ Hid (q * b1 + r = u) ∧ q < 18446744073709551616 ∧ r < 4294967296 ∧ Hid (gq (u * 4294967296 + low) (b1 * 4294967296 + b2) ≤ q) ∧ wr = w.drewN nq) (fun s12 _ _ => (intOf s12).toNat)
 case atStart =>
  have hd : u / b1 ≤ u := Nat.div_le_self _ _
  exact ⟨u / b1, u % b1, by rw [HQ.out, IntWalk.u64_in _ (by generalize u / b1 = x at *; omega)], by rw [HR.out], HD, by omega, by omega, HS, rfl⟩
 case round =>
  obtain ⟨q, r, rfl, rfl, hq, hql, hr, hle, rfl⟩ := hrel
  have hj2 := join_or h3 hr
  rcases Nat.lt_or_ge q 4294967296 with hlt | hge
  ·have b4 : (q : Int) * (b2 : Int) ≤ 18446744065119617025 := by have := prod_le (a := q) (b := b2) (by omega) (by omega); rw [← Int.natCast_mul]; omega
   have b5 : (0 : Int) ≤ (q : Int) * (b2 : Int) := Int.mul_nonneg (by omega) (by omega)
   have t1 : ((q : Int) / 4294967296 != 0) = false := by simp; omega
   by_cases hc : q * b2 ≤ r * 4294967296 + low
   ·have t2 : (q : Int) * (b2 : Int) ≤ (r : Int) * 4294967296 + (low : Int) := by rw [← Int.natCast_mul]; omega
    go_wp2_with fail
    go_ret
    exact ⟨congrArg (fun z : Nat => Ending.returned (Value.int .u64 (z : Int))) (guess_stop hq.out hb hlt hc hle.out), nq, rfl⟩
   ·have t2 : (r : Int) * 4294967296 + (low : Int) < (q : Int) * (b2 : Int) := by rw [← Int.natCast_mul]; omega
    have hdn := guess_down hq.out hb (Or.inr (by omega)) hle.out
    have hq1 : Hid ((q - 1) * b1 + (r + b1) = u) := hid (by rw [← hq.out]; obtain ⟨x, rfl⟩ : ∃ x, q = x + 1 := ⟨q - 1, by omega⟩; rw [Nat.add_sub_cancel, Nat.add_mul, Nat.one_mul]; omega)
    have hd2 := hdn.1
    have HL := hid hdn.2
    clear hdn
    rcases Nat.lt_or_ge (r + b1) 4294967296 with hs | hs
    ·have t3 : (((r : Int) + (b1 : Int)) / 4294967296 != 0) = false := by simp; omega
     go_wp2_with fail
     go_roundw
     case rel => exact ⟨q - 1, r + b1, by go_num, by go_num, hq1, by omega, hs, HL, trivial⟩
     case measure => simp [intOf]; omega
    ·have t3 : (((r : Int) + (b1 : Int)) / 4294967296 != 0) = true := by simp; omega
     go_wp2_with fail
     go_ret
     exact ⟨by rw [← guess_break hq1.out hb h5 hs hu HL.out]; go_num, nq, rfl⟩
  ·have t1 : ((q : Int) / 4294967296 != 0) = true := by simp; omega
   have hdn := guess_down hq.out hb (Or.inl hge) hle.out
   have hq1 : Hid ((q - 1) * b1 + (r + b1) = u) := hid (by rw [← hq.out]; obtain ⟨x, rfl⟩ : ∃ x, q = x + 1 := ⟨q - 1, by omega⟩; rw [Nat.add_sub_cancel, Nat.add_mul, Nat.one_mul]; omega)
   have hd2 := hdn.1
   have HL := hid hdn.2
   clear hdn
   rcases Nat.lt_or_ge (r + b1) 4294967296 with hs | hs
   ·have t3 : (((r : Int) + (b1 : Int)) / 4294967296 != 0) = false := by simp; omega
    go_wp2_with fail
    go_roundw
    case rel => exact ⟨q - 1, r + b1, by go_num, by go_num, hq1, by omega, hs, HL, trivial⟩
    case measure => simp [intOf]; omega
   ·have t3 : (((r : Int) + (b1 : Int)) / 4294967296 != 0) = true := by simp; omega
    go_wp2_with fail
    go_ret
    exact ⟨by rw [← guess_break hq1.out hb h5 hs hu HL.out]; go_num, nq, rfl⟩
end Go.Proofs.Ytahdlpkncemmaaa
namespace Go.Proofs.Ytahdlpkncemmaaa
open Go.RowKit Pg
theorem blk_grown {w w' : World} {g r t : Nat} {cs : List Nat} (h : Blk w g t cs) (hg : w.grownBy w' (some r)) (hne : g ≠ r) : Blk w' g t cs :=
 (hg.block g h.lt (fun e => hne (by injection e))).trans h
theorem grown_set (w : World) (a : Addr) (u : Value) : w.grownBy (w.setCell a u) (some a.block) :=
 ⟨rfl, rfl, rfl, by simp, fun k _ hk => heap_setCell_other w a k u (fun e => hk (by rw [e]))⟩
theorem takes_any (g gd o n cu q : Nat) (us ds : List Nat) (w : World) (hu : Blk w g 44 us) (hus : Ok us) (hon : o + n < us.length) (hd : Blk w gd 44 ds) (hds : Ok ds) (hdl : ds.length = n) (hne : gd ≠ g)
  (hn : n ≤ 2147483648) (hq : q < 4294967296) (hX : val us < 4294967296 ^ (o + n + 1)) (hcu : n + 1 ≤ cu) (hcm : cu ≤ 9223372036854775807) :
  Calls Try.prog 64 #[.slice (some ⟨g, o, none⟩) (n + 1) cu, .slice (some ⟨gd, 0, none⟩) n n, .int .u64 (q : Int)] w fun e w' =>
   ∃ b cs, e = .returned (.bool b) ∧ Took us o n q (val ds) b cs ∧ Blk w' g 44 cs ∧ w.grownBy w' (some g) := by
 have HX := hid hX
 have HDL := hid hdl
 have HON := hid hon
 have hul : o + n < 9223372036854775807 ∨ True := .inr trivial
 clear hX hdl hon hul
 go_enter Try.func64, Try.ntmps64
 go_wp2_with fail
 go_loopw [7, 8, 16] (fun s7 s8 s16 wr => ∃ k cr br cs, k ≤ n ∧ s16 = .int .i64 ((k : Nat) : Int) ∧ s7 = .int .u64 ((cr : Nat) : Int) ∧ s8 = .int .u32 ((br : Nat) : Int) ∧ TakeInv us ds o n q k cr br cs ∧ Blk wr g 44 cs ∧ w.grownBy wr (some g)) (fun _ _ i _ => n - (intOf i).toNat)
 case atStart => exact ⟨0, 0, 0, us, by omega, rfl, rfl, rfl, TakeInv.start us ds o n q hus, hu, World.grownBy.refl _ _⟩
 case round =>
  obtain ⟨k, cr, br, cs, hk, rfl, rfl, rfl, hinv, hblk, hgr⟩ := hrel
  have hdb := blk_grown hd hgr hne
  have hcl := hid hinv.len
  have hlu := lim_lt hinv.ok (o + k)
  have hld := lim_lt hds k
  have hcr := hinv.crl
  have hbr := hinv.brl
  have g3 := hblk.cell (i := o + k) (by rw [hcl.out]; have := HON.out; omega)
  have hfz := hblk.frozen (o + k)
  by_cases hlt : k < n
  ·have g1 := hdb.cell (i := k) (by rw [HDL.out]; omega)
   have b4 : (q : Int) * ((lim ds k : Nat) : Int) ≤ 18446744065119617025 := by have := prod_le hq hld; rw [← Int.natCast_mul]; omega
   have b5 : (0 : Int) ≤ (q : Int) * ((lim ds k : Nat) : Int) := Int.mul_nonneg (by omega) (by omega)
   obtain ⟨t, ht⟩ : ∃ t, t = cr + q * lim ds k := ⟨_, rfl⟩
   have HT1 : Hid (((cr : Int) + (q : Int) * ((lim ds k : Nat) : Int)) % 4294967296 = ((t % 4294967296 : Nat) : Int)) := hid (by rw [ht, ← Int.natCast_mul]; omega)
   have HT2 : Hid (((cr : Int) + (q : Int) * ((lim ds k : Nat) : Int)) / 4294967296 = ((t / 4294967296 : Nat) : Int)) := hid (by rw [ht, ← Int.natCast_mul]; omega)
   have hnext := hid (hinv.step hds hk HON.out hq t ht)
   have hy : t % 4294967296 < 4294967296 := Nat.mod_lt _ (by omega)
   clear ht
   go_wp2_with (go_at_call 38; refine (sub32_any (lim cs (o + k)) (t % 4294967296) br _ _ _ _ (by rfl) (by exact HT1.out) (by rfl) hlu hy hbr).mono ?_; rintro e w' ⟨rfl, rfl⟩)
   go_roundw
   case rel => exact ⟨k + 1, t / 4294967296, _, _, by omega, by go_num, by rw [HT2.out], rfl, hnext.out, hblk.set (o + k) _ _ rfl, hgr.trans (grown_set _ _ _)⟩
   case measure => simp [intOf]; omega
  ·obtain rfl : k = n := by omega
   have hnext := hid (hinv.last hds HDL.out HON.out hq)
   go_upto_region 10 with (go_at_call 38; refine (sub32_any (lim cs (o + k)) cr br _ _ _ _ (by rfl) (by first | rfl | omega) (by rfl) hlu hcr hbr).mono ?_; rintro e w' ⟨rfl, rfl⟩)
   have hb1 := borr_le (lim cs (o + k)) cr br
   have hdl := dif_lt (lim cs (o + k)) cr br
   have hblk1 := hblk.set (o + k) (dif (lim cs (o + k)) cr br) _ rfl
   have hgr1 : w.grownBy (wr.setCell ⟨g, o + k, none⟩ (.int .u32 ((dif (lim cs (o + k)) cr br : Nat) : Int))) (some g) := hgr.trans (grown_set _ _ _)
   clear hinv hblk hgr hdb hcl hlu hld g3 hfz
   generalize borr (lim cs (o + k)) cr br = bw at *
   generalize cs.set (o + k) (dif (lim cs (o + k)) cr br) = cs1 at *
   generalize wr.setCell ⟨g, o + k, none⟩ (.int .u32 ((dif (lim cs (o + k)) cr br : Nat) : Int)) = w1 at *
   by_cases hz : bw = 0
   ·subst hz
    go_wp2_with fail
    go_ret
    exact ⟨false, cs1, rfl, took_kept hnext.out HDL.out rfl, hblk1, hgr1⟩
   ·have ht : ((bw : Int) == 0) = false := by simp; omega
    go_wp2_with fail
    go_loopw [11, 64] (fun s11 s64 wr => ∃ i mr cs, i ≤ k ∧ s64 = .int .i64 ((i : Nat) : Int) ∧ s11 = .int .u32 ((mr : Nat) : Int) ∧ BackInv cs1 ds o k i mr cs ∧ Blk wr g 44 cs ∧ w.grownBy wr (some g)) (fun _ i _ => k - (intOf i).toNat)
    case atStart => exact ⟨0, 0, cs1, by omega, rfl, rfl, BackInv.start cs1 ds o k hnext.out.ok, hblk1, hgr1⟩
    case round =>
     obtain ⟨i, mr, cs2, hi, rfl, rfl, hinv, hblk, hgr⟩ := hrel
     have hdb := blk_grown hd hgr hne
     have hcl := hid (hinv.len.trans hnext.out.len)
     have HON2 : Hid (o + k < cs1.length) := hid (by rw [hnext.out.len]; exact HON.out)
     have hlu := lim_lt hinv.ok (o + i)
     have hld := lim_lt hds i
     have hmr := hinv.mrl
     have g3 := hblk.cell (i := o + i) (by rw [hcl.out]; have := HON.out; omega)
     have hfz := hblk.frozen (o + i)
     by_cases hlt : i < k
     ·have g1 := hdb.cell (i := i) (by rw [HDL.out]; omega)
      have hnext2 := hid (hinv.step hds hi HON2.out _ rfl)
      go_wp2_with (go_at_call 72; refine (add32_any (lim cs2 (o + i)) (lim ds i) mr _ _ _ _ (by rfl) (by rfl) (by rfl) hlu hld hmr).mono ?_; rintro e w' ⟨rfl, rfl⟩)
      go_roundw
      case rel => exact ⟨i + 1, _, _, by omega, by go_num, by go_num, hnext2.out, hblk.set (o + i) _ _ (by go_num), hgr.trans (grown_set _ _ _)⟩
      case measure => simp [intOf]; omega
     ·obtain rfl : i = k := by omega
      have hnext2 := hid (hinv.last hds HDL.out HON2.out)
      go_wp2_with fail
      go_ret
      exact ⟨true, _, rfl, took_back hnext.out HDL.out rfl hz HX.out hus hnext2.out, hblk.set (o + i) _ _ (by go_num), hgr.trans (grown_set _ _ _)⟩
end Go.Proofs.Ytahdlpkncemmaaa
namespace Go.Proofs.Ytahdlpkncemmaaa
open Go.RowKit Pg
theorem _root_.Pg.Blk.setOther {w : World} {g t : Nat} {cs : List Nat} (h : Blk w g t cs) (a : Addr) (u : Value) (hne : g ≠ a.block) : Blk (w.setCell a u) g t cs :=
 blk_grown h (grown_set w a u) hne
theorem lead32_any (x : Nat) (w : World) (xI : Int) (ex : xI = (x : Int)) (hx : x < 4294967296) :
  Calls Try.prog 61 #[.int .u32 xI] w fun e w' => e = .returned (.int .i64 ((32 - blen x : Nat) : Int)) ∧ w = w' := by
 subst ex
 have hb := blen_le hx
 refine (Try.bits_LeadingZeros32 (x : Int) w (by omega) (by omega)).mono fun e w' ⟨he, hw⟩ => ⟨?_, hw.symm⟩
 rw [he, Int.toNat_natCast, bitLen_eq hx]
 exact congrArg (fun z => Ending.returned (Value.int .i64 z)) (by omega)
abbrev gq_of (a b c d e : Nat) : Nat := gq ((a * 4294967296 + b) * 4294967296 + c) (d * 4294967296 + e)
theorem long_any (A A' : Option Addr) (m c N c' : Nat) (xs ys : List Nat) (w : World) (h : Row w A m c xs) (h' : Row w A' N c' ys) (hm : m ≤ 1073741824) (hN : 2 ≤ N) (hNm : N ≤ m) (ht : 0 < lim ys (N - 1)) :
  Calls Try.prog 52 #[.slice A m c, .slice A' N c'] w fun e w' => ∃ A1 c1 A2 c2,
   e = .returned (.tuple #[.slice A1 (limbs (val xs / val ys)).length c1, .slice A2 (limbs (val xs % val ys)).length c2]) ∧
   Row w' A1 (limbs (val xs / val ys)).length c1 (limbs (val xs / val ys)) ∧ Row w' A2 (limbs (val xs % val ys)).length c2 (limbs (val xs % val ys)) ∧ Below w.heap.size w w' := by
 obtain ⟨y, hy⟩ : ∃ y, y = 32 - blen (lim ys (N - 1)) := ⟨_, rfl⟩
 obtain ⟨hy31, s1, s2, s3, s4, s5⟩ := long_setup h.ok h.len h'.ok (N := N - 1) (by rw [h'.len]; omega) ht (by omega) y hy
 rw [show N - 1 + 1 = N by omega] at s2
 rw [show m - (N - 1) = m - N + 1 by omega] at s4
 obtain ⟨l, hl⟩ : ∃ l, l = m - N + 1 := ⟨_, rfl⟩
 rw [← hl] at s4
 have hmk := run_make_row (P := Try.prog) 23 44 Try.underlying23 info32 ((m : Int) - (N : Int) + 1) l (by omega) (by omega)
 have hl0 : 0 < l := by omega
 have hl1 : l ≤ m := by omega
 have HL := hid hl
 clear hl
 have S1 := hid s1
 have S2 := hid s2
 have S3 := hid s3
 have S4 := hid s4
 have S5 := hid s5
 clear s1 s2 s3 s4 s5
 have HY := hid hy
 clear hy
 obtain ⟨M, hM⟩ : ∃ M, M = m + 1 := ⟨_, rfl⟩
 rw [← hM] at S1
 have hMN : N < M := by omega
 have HM := hid hM
 clear hM
 have hx1 := h.nc
 have hx2 := h.cm
 have hy1 := h'.nc
 have hy2 := h'.cm
 have hlt := lim_lt h'.ok (N - 1)
 obtain ⟨b, o, rfl, hc⟩ := h'.at_ (by omega)
 have g1 := hc (N - 1) (by omega)
 clear hc
 go_enter Try.func52, Try.ntmps52
 go_upto_region 2 with (go_at_call 61; refine (lead32_any (lim ys (N - 1)) _ _ rfl hlt).mono ?_; rw [← HY.out]; rintro e w' ⟨rfl, rfl⟩)
 clear hlt g1
 go_wp2_with (first
  | (go_at_call 62; (with_reducible refine (left_I A m c y M xs w (y : Int) ((m : Int) + 1) rfl (by have := HM.out; omega) h (by omega) (by have := HM.out; omega) (by have := HM.out; omega)).mono ?_); rintro e w1 ⟨gu, us, rfl, hul, ⟨huok, hv⟩, hblk, hge, hb1⟩)
  | (go_at_call 62; (with_reducible refine (left_I (some ⟨b, o, none⟩) N c' y N ys w1 (y : Int) (N : Int) rfl rfl (h'.below hb1) (by omega) (by omega) (by omega)).mono ?_); rintro e w2 ⟨gd, ds, rfl, hdl, ⟨hdok, hvd⟩, hblkd, hged, hb2⟩))
 have HD : Hid (val ds = val ys * 2 ^ y) := hid (hvd.out.trans S2.out)
 have HU : Hid (val us = val xs * 2 ^ y) := hid (hv.out.trans S1.out)
 have hpos : 0 < lim ds (N - 1) := top_pos hdok (N := N - 1) (by rw [hdl.out]; omega) (by rw [HD.out]; exact S3.out)
 have H0 : Hid (0 < val ds) := hid (by rw [HD.out]; exact Nat.mul_pos S5.out (Nat.two_pow_pos y))
 have hug := hblk.lt
 have hdg := hblkd.lt
 have hs1 := hb1.size
 have hs2 := hb2.size
 have hbel : Below w.heap.size w w2 := Below.then_ hb1 hb2
 have hblku := hblk.below hb2
 have hne : gd ≠ gu := by omega
 obtain ⟨gq, hgq⟩ : ∃ gq, gq = w2.heap.size := ⟨_, rfl⟩
 have hbq := Blk.new w2 44 (List.replicate l 0)
 rw [← hgq] at hbq ⊢
 have hbu := hblku.alloc (.cells (u32s (List.replicate l 0)).toArray 44)
 have hbd := hblkd.alloc (.cells (u32s (List.replicate l 0)).toArray 44)
 have hbl := Below.alloc hbel hbel.size (.cells (u32s (List.replicate l 0)).toArray 44)
 generalize w2.alloc (.cells (u32s (List.replicate l 0)).toArray 44) = w3 at *
 have hq1 : gq ≠ gu := by omega
 have hq2 : gq ≠ gd := by omega
 have hq3 : w.heap.size ≤ gq := by omega
 clear hgq
 have hstart : LongInv us (val ds) M l l us (List.replicate l 0) := by
  have e := hul.out
  rw [← e]
  exact LongInv.start huok (by rw [HU.out, HD.out]; exact S4.out)
 clear hb1 hb2 hblk hblkd hblku h h' hs1 hs2 hv hvd
 clear hbel
 go_loopw [10, 11] (fun s10 _ wr => ∃ j us' qs, ∃ iI : Int, j ≤ l ∧ s10 = .int .i64 iI ∧ iI + 1 = (j : Int) ∧ LongInv us (val ds) M l j us' qs ∧ Blk wr gu 44 us' ∧ Blk wr gd 44 ds ∧ Blk wr gq 44 qs ∧ Below w.heap.size w wr) (fun s10 _ _ => (intOf s10 + 1).toNat)
 case atStart => exact ⟨l, us, _, _, Nat.le_refl _, rfl, by omega, hstart, hbu, hbd, hbq, hbl⟩
 case round =>
  clear hbu hbd hbq hbl hstart
  obtain ⟨j, us', qs, iI, hj, rfl, hji, hinv, hbu, hbd, hbq, hbl⟩ := hrel
  rcases j with _ | i
  ·obtain rfl : iI = -1 := by omega
   obtain ⟨d1, d2, d3⟩ := LongInv.done (a := val xs) (b := val ys) (y := y) (us0 := us) (m := M) (l := l) (us := us') (qs := qs) (by rw [← HD.out]; exact hinv) HU.out S5.out
   have hlq := hinv.qlen
   have hlu := hinv.ulen
   have hrq := hbq.row hinv.qok (by rw [hlq]; omega)
   have hru := hbu.row hinv.uok (by rw [hlu]; have := HM.out; omega)
   rw [hlq] at hrq
   rw [hlu] at hru
   have hru2 := hru.take (m := N) (by omega)
   have hvt : val (us'.take N) = val us' := take_all (by
    have h1 := val_lt hdok
    rw [hdl.out, HD.out] at h1
    omega)
   have HTrim : Hid (∀ W, Below wr.heap.size wr W → Calls Try.prog 32 #[.slice (some ⟨gq, 0, none⟩) l l] W fun e w' => e = .returned (.slice (some ⟨gq, 0, none⟩) (limbs (val xs / val ys)).length l) ∧ W = w') := hid (fun W hW => by
    rw [← d1]
    exact trim_any _ _ _ _ _ (hrq.below hW))
   have HRow : Hid (∀ W, Below wr.heap.size wr W → Row W (some ⟨gq, 0, none⟩) (limbs (val xs / val ys)).length l (limbs (val xs / val ys))) := hid (fun W hW => by
    rw [← d1]
    exact (hrq.below hW).trim)
   have HShift : Hid (∀ W (d : Int), Below wr.heap.size wr W → d = -(y : Int) → Calls Try.prog 65 #[.slice (some ⟨gu, 0, none⟩) N M, .int .i64 d] W (Ret W (val xs % val ys))) := hid (fun W d hW hd => by
    subst hd
    rw [← d2]
    have := Shift_any (some ⟨gu, 0, none⟩) N M (-(y : Int)) (us'.take N) W (hru2.below hW) (by omega)
    rw [hvt, show clampD (-(y : Int)) = -(y : Int) by unfold clampD; split <;> split <;> omega, shv_back _ _ hy31] at this
    exact this)
   clear d1 d2 d3 hlq hlu hrq hru hru2 hvt hinv hbu hbd hbq
   go_wp2_with fail
   have v1 : IntKind.i64.wrap (y : Int) = (y : Int) := IntWalk.i64_in _ (by omega)
   have v2 : IntKind.i64.wrap (-(y : Int)) = -(y : Int) := IntWalk.i64_in _ (by omega)
   have v3 : (0 : Int) ≤ (N : Int) := by omega
   have v4 : (N : Int) ≤ (M : Int) := by omega
   go_region_law (first
    | (go_simp; go_at_call 32; refine (HTrim.out _ (by first | exact Below.refl _ _ | exact (Below.refl _ _).drew | exact hb5)).mono ?_; rintro e w' ⟨rfl, rfl⟩)
    | (go_simp; go_at_call 65; refine (HShift.out _ _ (by first | exact Below.refl _ _ | exact (Below.refl _ _).drew) (by first | rfl | exact v2)).mono ?_; rintro e w5 ⟨A5, c5, rfl, hr5, hb5'⟩; have hb5 := (Below.refl wr.heap.size wr).drew.trans hb5'))
   all_goals
    go_wp2_with fail
    go_ret2
    exact ⟨_, _, _, _, rfl, HRow.out _ hb5, hr5, hbl.trans (hb5.mono hbl.size)⟩
  ·obtain rfl : iI = (i : Int) := by omega
   obtain ⟨k1, k2, k3, k4⟩ := hinv.guess' hdok hN hdl.out hpos
   have hiN : i + N < M := by have := HM.out; have := HL.out; omega
   have a0 := lim_lt hinv.uok (i + N)
   have a1 := lim_lt hinv.uok (i + N - 1)
   have a2 := lim_lt hinv.uok (i + N - 2)
   have a3 := lim_lt hdok (N - 1)
   have a4 := lim_lt hdok (N - 2)
   have c0 := hbu.cell (i := i + N) (by rw [hinv.ulen]; omega)
   have c1 := hbu.cell (i := i + N - 1) (by rw [hinv.ulen]; omega)
   have c2 := hbu.cell (i := i + N - 2) (by rw [hinv.ulen]; omega)
   have c3 := hbd.cell (i := N - 1) (by rw [hdl.out]; omega)
   have c4 := hbd.cell (i := N - 2) (by rw [hdl.out]; omega)
   have K1 := hid k1
   have K34 := hid (And.intro k3 k4)
   clear k1 k3 k4
   obtain ⟨x, hx⟩ : ∃ x, x = gq_of (lim us' (i + N)) (lim us' (i + N - 1)) (lim us' (i + N - 2)) (lim ds (N - 1)) (lim ds (N - 2)) := ⟨_, rfl⟩
   have hcall : ∀ W : World, Calls Try.prog 63 #[.int .u32 ((lim us' (i + N) : Nat) : Int), .int .u32 ((lim us' (i + N - 1) : Nat) : Int), .int .u32 ((lim us' (i + N - 2) : Nat) : Int), .int .u32 ((lim ds (N - 1) : Nat) : Int), .int .u32 ((lim ds (N - 2) : Nat) : Int)] W fun e w' =>
     e = .returned (.int .u64 (x : Int)) ∧ ∃ m, w' = W.drewN m := fun W => by
    rw [hx]
    exact guess_any _ _ _ _ _ W _ _ _ _ _ rfl rfl rfl rfl rfl a0 a1 a2 a3 a4 hpos k2
   have hxl : x < 4294967296 := by rw [hx]; exact gq_lt _ _
   have HX : Hid (val us' / 4294967296 ^ i / val ds ≤ x ∧ x ≤ val us' / 4294967296 ^ i / val ds + 1) := hid (by rw [hx]; exact K34.out)
   clear hx K34 a0 a1 a2 a3 a4 k2
   have v0 : IntKind.i64.wrap ((i : Int) + (N : Int)) = (i : Int) + (N : Int) := IntWalk.i64_in _ (by omega)
   have v1 : IntKind.i64.wrap ((i : Int) + (N : Int) - 1) = (i : Int) + (N : Int) - 1 := IntWalk.i64_in _ (by omega)
   have v2 : IntKind.i64.wrap ((i : Int) + (N : Int) - 2) = (i : Int) + (N : Int) - 2 := IntWalk.i64_in _ (by omega)
   have v3 : IntKind.i64.wrap ((N : Int) - 1) = (N : Int) - 1 := IntWalk.i64_in _ (by omega)
   have v4 : IntKind.i64.wrap ((N : Int) - 2) = (N : Int) - 2 := IntWalk.i64_in _ (by omega)
   have n0 : ((i : Int) + (N : Int)).toNat = i + N := by omega
   have n1 : ((i : Int) + (N : Int) - 1).toNat = i + N - 1 := by omega
   have n2 : ((i : Int) + (N : Int) - 2).toNat = i + N - 2 := by omega
   have n3 : ((N : Int) - 1).toNat = N - 1 := by omega
   have n4 : ((N : Int) - 2).toNat = N - 2 := by omega
   have p0 : (0 : Int) ≤ (i : Int) + (N : Int) := by omega
   have p1 : (0 : Int) ≤ (i : Int) + (N : Int) - 1 := by omega
   have p2 : (0 : Int) ≤ (i : Int) + (N : Int) - 2 := by omega
   have p3 : (0 : Int) ≤ (N : Int) - 1 := by omega
   have p4 : (0 : Int) ≤ (N : Int) - 2 := by omega
   have q0 : (i : Int) + (N : Int) < (M : Int) := by omega
   have q1 : (i : Int) + (N : Int) - 1 < (M : Int) := by omega
   have q2 : (i : Int) + (N : Int) - 2 < (M : Int) := by omega
   have q3 : (N : Int) - 1 < (N : Int) := by omega
   have q4 : (N : Int) - 2 < (N : Int) := by omega
   go_wp2_with fail
   go_quiet ((go_at_call 63; exact Calls.quiet_of (hcall _)))
   clear v0 v1 v2 v3 v4 n0 n1 n2 n3 n4 p0 p1 p2 p3 p4 q0 q1 q2 q3 q4 c0 c1 c2 c3 c4 hcall
   have hcn : ¬ M = i := by omega
   have hbu2 := hbu.drewN nq
   have hbd2 := hbd.drewN nq
   have hbq2 := hbq.drewN nq
   have hbl2 := Pg.Below.drewN_ hbl nq
   generalize wr.drewN nq = wr2 at *
   clear hbu hbd hbq hbl
   have hMm : M ≤ m + 1 := by have := HM.out; omega
   have hcall2 : Calls Try.prog 64 #[.slice (some ⟨gu, i, none⟩) (i + N + 1 - i) (M - i), .slice (some ⟨gd, 0, none⟩) N N, .int .u64 (x : Int)] wr2 fun e w' =>
     ∃ cs, e = .returned (.bool (decide (val us' < 4294967296 ^ i * (x * val ds)))) ∧ Took us' i N x (val ds) (decide (val us' < 4294967296 ^ i * (x * val ds))) cs ∧ Blk w' gu 44 cs ∧ wr2.grownBy w' (some gu) := by
    rw [show i + N + 1 - i = N + 1 by omega]
    refine (takes_any gu gd i N (M - i) x us' ds wr2 hbu2 hinv.uok (by rw [hinv.ulen]; exact hiN) hbd2 hdok hdl.out hne (by omega) hxl K1.out (by omega) (by omega)).mono ?_
    rintro e w' ⟨b, cs, he, ht, h1, h2⟩
    rw [← ht.says]
    exact ⟨cs, he, ht, h1, h2⟩
   have hx0 : decide (val us' < 4294967296 ^ i * (x * val ds)) = true → 0 < x := by
    intro hd
    have hd2 := of_decide_eq_true hd
    rcases Nat.eq_zero_or_pos x with h0 | h0
    ·rw [h0, Nat.zero_mul, Nat.mul_zero] at hd2; omega
    ·exact h0
   generalize decide (val us' < 4294967296 ^ i * (x * val ds)) = tb at *
   have HC2 := hid hcall2
   clear hcall2
   rcases tb with _ | _
   ·go_wp2_with (go_at_call 64; refine (HC2.out).mono ?_; rintro e w4 ⟨cs, rfl, htook, hbu4, hgr⟩; have hbd4 := blk_grown hbd2 hgr hne; have hbq4 := blk_grown hbq2 hgr hq1; have g0 := hbq4.cell (i := i) (by rw [hinv.qlen]; omega); have hfz := hbq4.frozen i)
    obtain ⟨t1, _, t3, t4⟩ := htook.digit hinv.uok H0.out K1.out HX.out
    have t1' : x = val us' / 4294967296 ^ i / val ds := t1
    rw [← t1'] at t3 t4
    have hnext := hinv.step (by omega) htook.len htook.ok x hxl t3 t4
    clear t1 t1' t3 t4
    go_roundw
    case rel => exact ⟨i, cs, _, _, by omega, rfl, by omega, hnext, Pg.Blk.setOther hbu4 _ _ hq1.symm, Pg.Blk.setOther hbd4 _ _ hq2.symm, hbq4.set i _ _ (by go_num), (hbl2.grown hgr hbl2.size (by intro k hk; injection hk with hk; omega)).setCell hq3 _⟩
    case measure => simp [intOf]
   ·have hxp : 0 < x := hx0 rfl
    have e1 : ((x : Int) - 1) % 18446744073709551616 = ((x - 1 : Nat) : Int) := by omega
    go_wp2_with (go_at_call 64; refine (HC2.out).mono ?_; rintro e w4 ⟨cs, rfl, htook, hbu4, hgr⟩; have hbd4 := blk_grown hbd2 hgr hne; have hbq4 := blk_grown hbq2 hgr hq1; have g0 := hbq4.cell (i := i) (by rw [hinv.qlen]; omega); have hfz := hbq4.frozen i)
    obtain ⟨t1, _, t3, t4⟩ := htook.digit hinv.uok H0.out K1.out HX.out
    have t1' : x - 1 = val us' / 4294967296 ^ i / val ds := t1
    rw [← t1'] at t3 t4
    have hnext := hinv.step (by omega) htook.len htook.ok (x - 1) (by omega) t3 t4
    clear t1 t1' t3 t4
    go_roundw
    case rel => exact ⟨i, cs, _, _, by omega, rfl, by omega, hnext, Pg.Blk.setOther hbu4 _ _ hq1.symm, Pg.Blk.setOther hbd4 _ _ hq2.symm, hbq4.set i _ _ (by go_num), (hbl2.grown hgr hbl2.size (by intro k hk; injection hk with hk; omega)).setCell hq3 _⟩
    case measure => simp [intOf]
end Go.Proofs.Ytahdlpkncemmaaa
namespace Go.Proofs.Ytahdlpkncemmaaa
open Go.RowKit Pg
def dmr (a b : Nat) : Nat := if b = 0 then 0 else a % b
def dmb (b : Nat) : Bool := decide (b ≠ 0)
def Ret3 (w : World) (N M : Nat) (b : Bool) (e : Ending) (w' : World) : Prop :=
 ∃ A1 c1 A2 c2, e = .returned (.tuple #[.slice A1 (limbs N).length c1, .slice A2 (limbs M).length c2, .bool b]) ∧ Row w' A1 (limbs N).length c1 (limbs N) ∧ Row w' A2 (limbs M).length c2 (limbs M) ∧ Below w.heap.size w w'
theorem Ret3.of_rows {w w' : World} {A A' : Option Addr} {n c n' c' N M : Nat} {b : Bool} {xs ys : List Nat} (h : Row w' A n c xs) (h' : Row w' A' n' c' ys) (e : xs = limbs N) (e' : ys = limbs M) (hb : Below w.heap.size w w') :
  Ret3 w N M b (.returned (.tuple #[.slice A n c, .slice A' n' c', .bool b])) w' := by
 subst e e'
 have := h.len
 have := h'.len
 subst_vars
 exact ⟨A, c, A', c', rfl, h, h', hb⟩
theorem DivMod_any (A A' : Option Addr) (n c n' c' : Nat) (xs ys : List Nat) (w : World) (h : Row w A n c xs) (h' : Row w A' n' c' ys) (hb : n ≤ 1073741824) (hb' : n' ≤ 1073741824) :
  Calls Try.prog 36 #[.slice A n c, .slice A' n' c'] w (Ret3 w (val xs / val ys) (dmr (val xs) (val ys)) (dmb (val ys))) := by
 have hT := hid (trim_any A n c xs w h)
 have hT' := hid (trim_any A' n' c' ys w h')
 have hp := h.trim
 have hq := h'.trim
 have hn0 : tl xs ≤ 1073741824 := by have := tl_le h.ok; rw [h.len] at this; omega
 have hn1 : tl ys ≤ 1073741824 := by have := tl_le h'.ok; rw [h'.len] at this; omega
 by_cases hz : val ys = 0
 ·have e0 : tl ys = 0 := by unfold tl; rw [hz]; rfl
  have eN : Hid (val xs / val ys = 0 ∧ dmr (val xs) (val ys) = 0 ∧ dmb (val ys) = false) := hid (by rw [hz]; simp [dmr, dmb])
  rw [e0] at hT'
  clear hp hq hn0 hn1 hz e0
  go_enter Try.func36, Try.ntmps36
  go_wp2_with (first | (go_at_call 32; ((with_reducible refine (hT.out).mono ?_); rintro e w' ⟨rfl, rfl⟩)) | (go_at_call 32; ((with_reducible refine (hT'.out).mono ?_); rintro e w' ⟨rfl, rfl⟩)))
  go_ret3
  rw [eN.out.1, eN.out.2.1, eN.out.2.2]
  exact Ret3.of_rows (Row.nil _) (Row.nil _) rfl rfl (Below.refl _ _)
 have eB : dmb (val ys) = true := by simp [dmb, hz]
 have eM : dmr (val xs) (val ys) = val xs % val ys := by simp [dmr, hz]
 rw [eB, eM]
 clear eB eM
 have hC := Cmp_any A A' (tl xs) c (tl ys) c' _ _ w hp hq
 rw [val_limbs, val_limbs] at hC
 have ht := tl_top hz
 have h1 : 0 < tl ys := ht.1
 have hd1 : ((tl ys : Int) == 0) = false := by simp; omega
 by_cases hlt : val xs < val ys
 ·rw [cmpv_lt hlt] at hC
  have HC := hid hC
  have HE : Hid (val xs / val ys = 0 ∧ val xs % val ys = val xs) := hid ⟨Nat.div_eq_of_lt hlt, Nat.mod_eq_of_lt hlt⟩
  clear hC hlt ht hq hz
  go_enter Try.func36, Try.ntmps36
  go_wp2_with (first
   | (go_at_call 32; ((with_reducible refine (hT.out).mono ?_); rintro e w' ⟨rfl, rfl⟩))
   | (go_at_call 32; ((with_reducible refine (hT'.out).mono ?_); rintro e w' ⟨rfl, rfl⟩))
   | (go_at_call 37; refine (HC.out).mono ?_; rintro e w1 ⟨rfl, hb1⟩)
   | (go_at_call 33; refine (Trim_any _ _ _ _ _ (hp.below hb1) (by omega)).mono ?_; rintro e w2 ⟨A2, c2, rfl, hr, hb2⟩))
  go_ret3
  rw [HE.out.1, HE.out.2]
  exact Ret3.of_rows (Row.nil _) hr rfl (by rw [val_limbs]) Pg.bel
 ·have hge : val ys ≤ val xs := by omega
  have hC2 : Calls Try.prog 37 #[.slice A (tl xs) c, .slice A' (tl ys) c'] w fun e w' => ∃ z : Int, 0 ≤ z ∧ e = .returned (.int .i64 z) ∧ Below w.heap.size w w' := by
   refine hC.mono fun e w' ⟨he, hb⟩ => ⟨_, ?_, he, hb⟩
   unfold cmpv; split <;> first | omega | (split <;> omega)
  have HC := hid hC2
  clear hC hC2
  have hll : tl ys ≤ tl xs := by
   rcases Nat.lt_or_ge (tl xs) (tl ys) with h3 | h3
   ·have := cmp_len (a := val xs) (b := val ys) h3
    omega
   ·exact h3
  by_cases hone : tl ys = 1
  ·have hv : Hid (val ys = lim (limbs (val ys)) 0) := hid (by
    have e := val_limbs (val ys)
    have hl : (limbs (val ys)).length = 1 := hone
    match hm : limbs (val ys) with
    | [] => rw [hm] at hl; cases hl
    | [y] => rw [hm] at e; rw [← e]; rfl
    | _ :: _ :: _ => rw [hm] at hl; simp at hl)
   have hx0 : 0 < lim (limbs (val ys)) 0 := by rw [← hv.out]; omega
   have hxl := lim_lt (ok_limbs (val ys)) 0
   obtain ⟨b, o, rfl, hc⟩ := hq.at_ h1
   have hbw := hq.lt h1 rfl
   have hc0 := hc 0 h1
   rw [Nat.add_zero] at hc0
   generalize lim (limbs (val ys)) 0 = x at *
   have hd2 : ((tl ys : Int) == 1) = true := by rw [hone]; rfl
   have hrl : val xs % x < 4294967296 := by have := Nat.mod_lt (val xs) hx0; omega
   have hq1 := hq.nc
   have hq2 := hq.cm
   clear hc hq ht hge hz hlt hone
   generalize tl ys = n1 at *
   obtain ⟨r, hr⟩ : ∃ r, r = val xs % x := ⟨_, rfl⟩
   rw [← hr] at hrl
   have HS : Hid (∀ W, Below w.heap.size w W → Calls Try.prog 51 #[.slice A (tl xs) c, .int .u32 (x : Int)] W fun e w' => ∃ A' c', e = .returned (.tuple #[.slice A' (limbs (val xs / x)).length c', .int .u32 (r : Int)]) ∧ Row w' A' (limbs (val xs / x)).length c' (limbs (val xs / x)) ∧ Below W.heap.size W w') := hid (fun W hW => by
    have := small_any A (tl xs) c x _ W (hp.below hW) (by omega) hx0 hxl
    rw [val_limbs, ← hr] at this
    exact this)
   have HR := hid hr
   clear hr hp
   generalize tl xs = n0 at *
   go_enter Try.func36, Try.ntmps36
   go_wp2_with (first
    | (go_at_call 32; ((with_reducible refine (hT.out).mono ?_); rintro e w' ⟨rfl, rfl⟩))
    | (go_at_call 32; ((with_reducible refine (hT'.out).mono ?_); rintro e w' ⟨rfl, rfl⟩))
    | (go_at_call 37; refine (HC.out).mono ?_; rintro e w1 ⟨z, hz, rfl, hb1⟩; have hc1 := (hb1.cell (p := ⟨b, o, none⟩) hbw).trans hc0; (have hd : decide (z < 0) = false := by simp; omega))
    | (go_at_call 51; refine (HS.out _ hb1).mono ?_; rintro e w2 ⟨A2, c2, rfl, hr2, hb2⟩)
    | (go_at_call 34; refine (Of_any r _ (by omega)).mono ?_; rintro e w3 ⟨A3, c3, rfl, hr3, hb3⟩))
   go_ret3
   rw [hv.out]
   exact Ret3.of_rows (hr2.below hb3) hr3 rfl (by rw [HR.out]) Pg.bel
  ·have hd2 : ((tl ys : Int) == 1) = false := by simp; omega
   have htop := ht.2
   clear hge hz hlt ht
   go_enter Try.func36, Try.ntmps36
   go_wp2_with (first
    | (go_at_call 32; ((with_reducible refine (hT.out).mono ?_); rintro e w' ⟨rfl, rfl⟩))
    | (go_at_call 32; ((with_reducible refine (hT'.out).mono ?_); rintro e w' ⟨rfl, rfl⟩))
    | (go_at_call 37; refine (HC.out).mono ?_; rintro e w1 ⟨z, hz, rfl, hb1⟩; (have hd : decide (z < 0) = false := by simp; omega))
    | (go_at_call 52; refine (long_any _ _ _ _ _ _ _ _ _ (hp.below hb1) (hq.below hb1) (by omega) (by omega) hll htop).mono ?_; rintro e w2 ⟨A2, c2, A3, c3, rfl, hr2, hr3, hb2⟩))
   go_ret3
   exact Ret3.of_rows hr2 hr3 (by rw [val_limbs, val_limbs]) (by rw [val_limbs, val_limbs]) Pg.bel
end Go.Proofs.Ytahdlpkncemmaaa
namespace Go.Proofs.Ytahdlpkncemmaaa
open Go.RowKit Pg
theorem Gcd_any (A A' : Option Addr) (n c n' c' : Nat) (xs ys : List Nat) (w : World) (h : Row w A n c xs) (h' : Row w A' n' c' ys) (hb : n ≤ 1073741824) (hb' : n' ≤ 1073741824) :
  Calls Try.prog 35 #[.slice A n c, .slice A' n' c'] w (Ret w (Nat.gcd (val xs) (val ys))) := by
 have l1 : (limbs (val xs)).length ≤ 1073741824 := by have := tl_le h.ok; rw [h.len] at this; unfold tl at this; omega
 have l2 : (limbs (val ys)).length ≤ 1073741824 := by have := tl_le h'.ok; rw [h'.len] at this; unfold tl at this; omega
 have hT := hid (Trim_any A n c xs w h (by omega))
 have hT' : Hid (∀ W, Below w.heap.size w W → Calls Try.prog 33 #[.slice A' n' c'] W (Ret W (val ys))) := hid fun W hW => Trim_any A' n' c' ys W (h'.below hW) (by omega)
 clear h h'
 generalize val xs = a at *
 generalize val ys = b at *
 obtain ⟨G, hG⟩ : ∃ G, G = Nat.gcd a b := ⟨_, rfl⟩
 rw [← hG]
 have HG := hid hG
 clear hG
 go_enter Try.func35, Try.ntmps35
 go_wp2_with (first
  | (go_at_call 33; ((with_reducible refine (hT.out).mono ?_); rintro e w1 ⟨A1, c1, rfl, hr1, hb1⟩))
  | (go_at_call 33; ((with_reducible refine (hT'.out _ hb1).mono ?_); rintro e w2 ⟨A2, c2, rfl, hr2, hb2⟩)))
 go_loopw [0, 1] (fun s0 s1 wr => ∃ N M A c A' c', s0 = .slice A (limbs N).length c ∧ s1 = .slice A' (limbs M).length c' ∧ Row wr A (limbs N).length c (limbs N) ∧ Row wr A' (limbs M).length c' (limbs M) ∧ Hid (G = Nat.gcd N M) ∧ (limbs N).length ≤ 1073741824 ∧ (limbs M).length ≤ 1073741824 ∧ Below w.heap.size w wr) (fun _ s1 wr => rowval wr s1)
 case atStart => exact ⟨a, b, A1, c1, A2, c2, rfl, rfl, hr1.below hb2, hr2, HG, l1, l2, Pg.bel⟩
 case round =>
  obtain ⟨N, M, A3, c3, A4, c4, rfl, rfl, hN, hM, HG2, k1, k2, hbel⟩ := hrel
  have hv := hM.rowval
  rw [val_limbs] at hv
  rcases Nat.eq_zero_or_pos M with h0 | h0
  ·subst h0
   have e1 : (limbs 0).length = 0 := rfl
   have hGN : Hid (G = N) := hid (by rw [HG2.out, Nat.gcd_zero_right])
   have HE := hid e1
   rw [e1]
   clear e1 hv
   go_wp2_with fail
   go_ret
   exact Ret.of_row hN (by rw [hGN.out]) hbel
  ·have hpos := (tl_top (N := M) (by omega)).1
   have hd1 : decide ((0 : Int) < ((limbs M).length : Int)) = true := by simp; omega
   have HD := hid (DivMod_any _ _ _ _ _ _ _ _ wr hN hM k1 k2)
   rw [val_limbs, val_limbs, show dmr N M = N % M by simp [dmr]; omega] at HD
   have HV := hid hv
   have HL : Hid (N % M < M) := hid (Nat.mod_lt _ h0)
   have HG3 : Hid (G = Nat.gcd M (N % M)) := hid (by rw [HG2.out, Nat.gcd_comm N M, Nat.gcd_rec M N, Nat.gcd_comm])
   clear hv
   have k3 := Nat.le_trans (limbs_mono (Nat.le_of_lt HL.out)) k2
   generalize N % M = R at *
   go_wp2_with (go_at_call 36; refine (HD.out).mono ?_; rintro e w3 ⟨A5, c5, A6, c6, rfl, hr5, hr6, hb3⟩)
   go_roundw
   case rel => exact ⟨M, R, _, _, _, _, rfl, rfl, hM.below hb3, hr6, HG3, k2, k3, Below.trans hbel (hb3.mono hbel.size)⟩
   case measure =>
    have e2 := hr6.rowval
    rw [val_limbs] at e2
    rw [e2, HV.out]
    exact HL.out
end Go.Proofs.Ytahdlpkncemmaaa
namespace Go.Proofs.Ytahdlpkncemmaaa
open Go.RowKit Pg
theorem DivMod_E (A A' : Option Addr) (n c n' c' : Nat) (xs ys : List Nat) (w : World) (a b N M : Nat) (B : Bool) (h : Row w A n c xs) (h' : Row w A' n' c' ys) (ea : val xs = a) (eb : val ys = b) (hb : n ≤ 1073741824) (hb' : n' ≤ 1073741824)
  (eN : a / b = N) (eM : dmr a b = M) (eB : dmb b = B) : Calls Try.prog 36 #[.slice A n c, .slice A' n' c'] w (Ret3 w N M B) := by
 subst ea eb eN eM eB; exact DivMod_any A A' n c n' c' xs ys w h h' hb hb'
theorem Gcd_E (A A' : Option Addr) (n c n' c' : Nat) (xs ys : List Nat) (w : World) (a b G : Nat) (h : Row w A n c xs) (h' : Row w A' n' c' ys) (ea : val xs = a) (eb : val ys = b) (hb : n ≤ 1073741824) (hb' : n' ≤ 1073741824)
  (eG : Nat.gcd a b = G) : Calls Try.prog 35 #[.slice A n c, .slice A' n' c'] w (Ret w G) := by
 subst ea eb eG; exact Gcd_any A A' n c n' c' xs ys w h h' hb hb'
end Go.Proofs.Ytahdlpkncemmaaa
namespace Go.Proofs.Ytahdlpkncemmaaa
open Go.RowKit Pg
def RetF (w : World) (N : Nat) (e : Ending) (w' : World) : Prop :=
 ∃ A c, e = .returned (.slice A (limbs N).length c) ∧ Row w' A (limbs N).length c (limbs N) ∧ Below w.heap.size w w' ∧ ∀ b o, A = some ⟨b, o, none⟩ → w.heap.size ≤ b
theorem RetF.of_row {w w' : World} {A : Option Addr} {n c N : Nat} {xs : List Nat} (h : Row w' A n c xs) (e : xs = limbs N) (hb : Below w.heap.size w w') (hf : ∀ b o, A = some ⟨b, o, none⟩ → w.heap.size ≤ b) : RetF w N (.returned (.slice A n c)) w' := by
 subst e
 have := h.len
 subst this
 exact ⟨A, c, rfl, h, hb, hf⟩
theorem own_where {w : World} {base t : Nat} {v : Value} {n : Nat} {xs : List Nat} (h : w.ownsRow base t 1 v n (u32s xs)) (hok : Ok xs) :
  ∃ A c, v = .slice A n c ∧ Row w A n c xs ∧ (∀ b o, A = some ⟨b, o, none⟩ → base ≤ b) ∧ (0 < n → ∃ g cur, A = some ⟨g, 0, none⟩ ∧ w.heap[g]? = some (.cells cur t (0, 0)) ∧ n ≤ cur.size ∧ base ≤ g) := by
 obtain ⟨A, c, rfl, hr⟩ := Row.of_own h hok
 refine ⟨A, c, rfl, hr, fun b o e => ?_, fun hn => ?_⟩
 ·subst e
  exact (h.lt b rfl).1
 ·rcases h.2 with ⟨e, h0⟩ | ⟨g, cap, cur, e, hb, hh, hnc, _, hcs, _⟩
  ·omega
  ·injection e with e1 e2 e3
   exact ⟨g, cur, e1, hh, by omega, hb⟩
end Go.Proofs.Ytahdlpkncemmaaa
namespace Go.Proofs.Ytahdlpkncemmaaa
open Go.RowKit Pg
def Ret2F (w : World) (N : Nat) (b : Bool) (e : Ending) (w' : World) : Prop :=
 ∃ A c, e = .returned (.tuple #[.slice A (limbs N).length c, .bool b]) ∧ Row w' A (limbs N).length c (limbs N) ∧ Below w.heap.size w w' ∧ ∀ g o, A = some ⟨g, o, none⟩ → w.heap.size ≤ g
theorem Ret2F.of_row {w w' : World} {A : Option Addr} {n c N : Nat} {b : Bool} {xs : List Nat} (h : Row w' A n c xs) (e : xs = limbs N) (hb : Below w.heap.size w w') (hf : ∀ g o, A = some ⟨g, o, none⟩ → w.heap.size ≤ g) :
  Ret2F w N b (.returned (.tuple #[.slice A n c, .bool b])) w' := by
 subst e
 have := h.len
 subst this
 exact ⟨A, c, rfl, h, hb, hf⟩
theorem row_set_other {w : World} {A : Option Addr} {n c : Nat} {xs : List Nat} (h : Row w A n c xs) (a : Addr) (v : Value) (hne : 0 < n → ∀ b o, A = some ⟨b, o, none⟩ → b ≠ a.block) : Row (w.setCell a v) A n c xs := by
 refine ⟨h.len, h.nc, h.cm, h.ok, h.nil_, fun hn => ?_⟩
 obtain ⟨b, o, e, hc⟩ := h.at_ hn
 refine ⟨b, o, e, fun j hj => ?_⟩
 have hcj := hc j hj
 rw [(World.cell?_of_block (heap_setCell_other w a b v (hne hn b o e)) : (w.setCell a v).cell? ⟨b, o + j, none⟩ = w.cell? ⟨b, o + j, none⟩)]
 exact hcj
theorem rTrim_new (A : Option Addr) (n c : Nat) (xs : List Nat) (w : World) (h : Row w A n c xs) (hb : n ≤ 35184372088832) :
  Calls Try.prog 27 #[.slice A n c] w (RetF w (val xs)) := by
 have hcm := h.cm
 have hnc := h.nc
 have hl := hid h.len
 go_enter Try.func27, Try.ntmps27
 go_wp2_with fail
 go_loop [3] (fun i => ∃ m : Nat, m ≤ n ∧ i = .int .i64 (m : Int) ∧ Hid (val (xs.take m) = val xs)) (fun i => (intOf i).toNat)
 case atStart => exact ⟨n, Nat.le_refl _, rfl, by rw [List.take_of_length_le (by rw [hl.out]; omega)]; rfl⟩
 case round =>
  obtain ⟨m, hm, rfl, HT⟩ := hrel
  rcases Nat.eq_zero_or_pos m with h0 | h0
  ·subst h0
   have HE : Hid (val xs = 0) := hid (by rw [← HT.out]; rfl)
   have hd : decide ((0 : Int) < ((0 : Nat) : Int)) = false := by decide
   have hr0 : Row w A 0 c [] := h.take (Nat.zero_le _)
   have hrz : Hid (Row w A 0 c []) := hid hr0
   clear HT h
   rcases A with _ | ⟨b, o, s⟩
   ·have hc := hr0.nil_ rfl
    subst hc
    clear hr0
    go_wp2_with (at_builtin; refine wpList_append_row _ rfl _ _ 23 rfl w.heap.size 44 Try.underlying23 info32 _ 0 [] rfl (own_nil w _) _ 0 _ [] rfl (hrz.out.alloc _) (by omega) (by simp) ?_)
    intro v' w' hown hgr
    obtain ⟨A', c', rfl, hr, hf, _⟩ := own_where hown ok_nil
    go_wp2_with fail
    go_ret
    exact RetF.of_row hr (by rw [HE.out]; rfl) (Below.grown (Below.alloc (Below.refl _ _) (Nat.le_refl _) _) hgr (by simp) (by intro k hk; simp [Value.ownBlock] at hk; omega)) hf
   ·clear hr0
    go_wp2_with (at_builtin; refine wpList_append_row _ rfl _ _ 23 rfl w.heap.size 44 Try.underlying23 info32 _ 0 [] rfl (own_nil w _) _ 0 _ [] rfl (hrz.out.alloc _) (by omega) (by simp) ?_)
    intro v' w' hown hgr
    obtain ⟨A', c', rfl, hr, hf, _⟩ := own_where hown ok_nil
    go_wp2_with fail
    go_ret
    exact RetF.of_row hr (by rw [HE.out]; rfl) (Below.grown (Below.alloc (Below.refl _ _) (Nat.le_refl _) _) hgr (by simp) (by intro k hk; simp [Value.ownBlock] at hk; omega)) hf
  ·have hr := h.take hm
   obtain ⟨b, o, rfl, hc⟩ := h.at_ (by omega)
   have g1 := hc (m - 1) (by omega)
   have hlt := lim_lt h.ok (m - 1)
   have hle : tl (xs.take m) ≤ m := by have := tl_le hr.ok; rwa [hr.len] at this
   have hd : decide ((0 : Int) < (m : Int)) = true := by simp; omega
   have hkc := hid (tl_cases hr.ok)
   rw [hr.len, lim_take (show m - 1 < m from by omega)] at hkc
   have hrl := hid hr
   clear hc h hr
   rcases Nat.eq_zero_or_pos (lim xs (m - 1)) with hz | hz
   ·have hb0 : (((lim xs (m - 1) : Nat) : Int) == 0) = true := by simp [hz]
    have HV : Hid (val (xs.take (m - 1)) = val xs) := hid (by
     rcases hkc.out with ⟨h1, h2⟩ | ⟨h1, h2, h3⟩ | ⟨h1, h2, h3, h4, h5⟩
     ·have := congrArg List.length h1; rw [hrl.out.len] at this; simp at this; omega
     ·omega
     ·rw [List.take_take, Nat.min_eq_left (by omega)] at h4
      rw [← HT.out, h4])
    clear hz hkc HT
    go_wp2_with fail
    go_round
    case rel => exact ⟨m - 1, by omega, by go_num, HV⟩
    case measure => simp [intOf]; omega
   ·have hb0 : (((lim xs (m - 1) : Nat) : Int) == 0) = false := by simp; omega
    have HV : Hid (tl (xs.take m) = m) := hid (by
     rcases hkc.out with ⟨h1, h2⟩ | ⟨h1, h2, h3⟩ | ⟨h1, h2, h3, h4, h5⟩
     ·have := congrArg List.length h1; rw [hrl.out.len] at this; simp at this; omega
     ·exact h3
     ·omega)
    clear hkc
    go_wp2_with (at_builtin; refine wpList_append_row _ rfl _ _ 23 rfl w.heap.size 44 Try.underlying23 info32 _ 0 [] rfl (own_nil w _) _ m _ (xs.take m) rfl (hrl.out.alloc _) (by omega) (by simp) ?_)
    intro v' w' hown hgr
    obtain ⟨A', c', rfl, hr, hf, _⟩ := own_where hown hrl.out.ok
    go_wp2_with fail
    go_ret
    refine RetF.of_row hr ?_ (Below.grown (Below.alloc (Below.refl _ _) (Nat.le_refl _) _) hgr (by simp) (by intro k hk; simp [Value.ownBlock] at hk; omega)) hf
    have e := limbs_val_take hrl.out.ok
    have e2 := HV.out
    unfold tl at e2
    rw [e2, List.take_take, Nat.min_self, HT.out] at e
    exact e.symm
theorem rSub_new (A A' : Option Addr) (n c n' c' : Nat) (p q : List Nat) (w : World) (h : Row w A n c p) (h' : Row w A' n' c' q) (hb : n ≤ 35184372088000) (hb' : n' ≤ 35184372088000) :
  Calls Try.prog 44 #[.slice A n c, .slice A' n' c'] w (Ret2F w (val p - val q) (geB (val p) (val q))) := by
 have hC := rCmp_any A A' n c n' c' p q w h h' hb hb'
 rcases Nat.lt_or_ge (val p) (val q) with hlt | hge
 ·rw [cmpv_lt hlt] at hC
  have hg : geB (val p) (val q) = false := by simp [geB]; omega
  have hz : val p - val q = 0 := by omega
  rw [hg, hz]
  have HC := hid hC
  clear hC hg hz
  go_enter Try.func44, Try.ntmps44
  go_wp2_with (go_at_call 43; refine (HC.out).mono ?_; rintro e w1 ⟨rfl, hb1⟩)
  go_ret2
  exact Ret2F.of_row (Row.nil _) rfl hb1 (fun b o e => by cases e)
 ·have hC2 : Calls Try.prog 43 #[.slice A n c, .slice A' n' c'] w fun e w' => ∃ z : Int, 0 ≤ z ∧ e = .returned (.int .i64 z) ∧ Below w.heap.size w w' := by
   refine hC.mono fun e w' ⟨he, hb⟩ => ⟨_, ?_, he, hb⟩
   unfold cmpv; split <;> first | omega | (split <;> omega)
  have hg : geB (val p) (val q) = true := by simp [geB]; omega
  rw [hg]
  have HC := hid hC2
  clear hC hC2 hg
  have HGE := hid hge
  clear hge
  have hp1 := h.nc
  have hp2 := h.cm
  have hq1 := h'.nc
  have hq2 := h'.cm
  have hpl := hid h.len
  have hql := hid h'.len
  go_enter Try.func44, Try.ntmps44
  go_wp2_with (go_at_call 43; refine (HC.out).mono ?_; rintro e w1 ⟨z, hz, rfl, hb1⟩; (have hd : decide (z < 0) = false := by simp; omega))
  go_loopw [6, 7, 8] (fun v s7 i wr => ∃ k br cs, k ≤ n ∧ i = .int .i64 ((k : Nat) : Int) ∧ s7 = .int .u64 ((br : Nat) : Int) ∧ SubInv p q k br cs ∧ Hid (cs.length = k) ∧ wr.ownsRow w1.heap.size 44 1 v k (u32s cs) ∧ Below w1.heap.size w1 wr) (fun _ _ i _ => n - (intOf i).toNat)
  case atStart => exact ⟨0, 0, [], by omega, rfl, rfl, SubInv.start p q _ ok_nil, rfl, World.ownsRow_nil _ _ _ _, Below.refl _ _⟩
  case round =>
   obtain ⟨k, br, cs, hk, rfl, rfl, hinv, hcl, hown, hbel⟩ := hrel
   have hlp := lim_lt h.ok k
   have hlq := lim_lt h'.ok k
   have hbr := hinv.le
   by_cases hlt : k < n
   ·have hpr := h.below (Below.then_ hb1 hbel)
    have hqr := h'.below (Below.then_ hb1 hbel)
    have hsz := hbel.size
    have hnext := hinv.app h.ok h'.ok hcl.out
    have hlen : Hid ((cs ++ [dif (lim p k) (lim q k) br]).length = k + 1) := hid (by simp; exact hcl.out)
    have hdl := dif_lt (lim p k) (lim q k) br
    rcases Nat.lt_or_ge (lim p k) (lim q k + br) with hlt3 | hge3
    ·have hd1 : decide (((lim p k : Nat) : Int) < ((lim q k : Nat) : Int) + ((br : Nat) : Int)) = true := by simp; omega
     have eb : Hid (borr (lim p k) (lim q k) br = 1) := hid (by unfold borr; rw [if_pos hlt3])
     go_wp2_with (first
      | (go_at_call 53; refine (at_any _ _ _ _ _ _ (by assumption) (by omega)).mono ?_; rintro e w' ⟨rfl, rfl⟩)
      | (at_builtin; refine wpList_append_row _ rfl _ _ 23 rfl w1.heap.size 44 Try.underlying23 info32 _ _ _ rfl (hown.alloc _) _ _ _ [dif (lim p k) (lim q k) br] rfl (Row.one _ _ _ _ _ rfl (by unfold dif; omega) hdl) (by omega) (by simp; omega) ?_))
     intro v' w' hown' hgr
     go_wp2_with fail
     go_roundw
     case rel => exact ⟨k + 1, 1, _, by omega, by go_num, rfl, eb.out ▸ hnext, hlen, hown', Below.grown (Below.alloc hbel hbel.size _) hgr (by simp; omega) (fun g hg => (hown.lt g hg).1)⟩
     case measure => simp [intOf]; omega
    ·have hd1 : decide (((lim p k : Nat) : Int) < ((lim q k : Nat) : Int) + ((br : Nat) : Int)) = false := by simp; omega
     have eb : Hid (borr (lim p k) (lim q k) br = 0) := hid (by unfold borr; rw [if_neg (by omega)])
     go_wp2_with (first
      | (go_at_call 53; refine (at_any _ _ _ _ _ _ (by assumption) (by omega)).mono ?_; rintro e w' ⟨rfl, rfl⟩)
      | (at_builtin; refine wpList_append_row _ rfl _ _ 23 rfl w1.heap.size 44 Try.underlying23 info32 _ _ _ rfl (hown.alloc _) _ _ _ [dif (lim p k) (lim q k) br] rfl (Row.one _ _ _ _ _ rfl (by unfold dif; omega) hdl) (by omega) (by simp; omega) ?_))
     intro v' w' hown' hgr
     go_wp2_with fail
     go_roundw
     case rel => exact ⟨k + 1, 0, _, by omega, by go_num, rfl, eb.out ▸ hnext, hlen, hown', Below.grown (Below.alloc hbel hbel.size _) hgr (by simp; omega) (fun g hg => (hown.lt g hg).1)⟩
     case measure => simp [intOf]; omega
   ·obtain rfl : k = n := by omega
    have hdone : Hid (val cs = val p - val q) := hid (by
     have e := hpl.out
     have e2 := HGE.out
     have e4 := hcl.out
     subst e
     exact hinv.fin h.ok e4 e2)
    obtain ⟨A3, c3, rfl, hr⟩ := Row.of_own hown hinv.ok
    go_wp2_with (go_at_call 27; refine (rTrim_new _ _ _ _ _ hr (by omega)).mono ?_; rintro e w2 ⟨A4, c4, rfl, hr4, hb4, hf4⟩)
    go_ret2
    exact Ret2F.of_row hr4 (by rw [hdone.out]) Pg.bel (fun b o e => by have h1 := hf4 b o e; have h2 := hbel.size; have h3 := hb1.size; omega)
end Go.Proofs.Ytahdlpkncemmaaa
namespace Go.Proofs.Ytahdlpkncemmaaa
open Go.RowKit Pg
def RatRet (w : World) (q : Rat) (e : Ending) (w' : World) : Prop :=
 ∃ A c A' c', e = .returned (.agg #[.bool (rneg q), .slice A (limbs (rnum q)).length c, .slice A' (limbs q.den).length c']) ∧ Row w' A (limbs (rnum q)).length c (limbs (rnum q)) ∧ Row w' A' (limbs q.den).length c' (limbs q.den) ∧ Below w.heap.size w w'
theorem RatRet.of_rows {w w' : World} {q : Rat} {b : Bool} {N D : Nat} {A A' : Option Addr} {n c n' c' : Nat} {xs ys : List Nat} (hb : b = rneg q) (hN : N = rnum q) (hD : D = q.den) (h : Row w' A n c xs) (h' : Row w' A' n' c' ys) (e : xs = limbs N) (e' : ys = limbs D) (hbel : Below w.heap.size w w') :
  RatRet w q (.returned (.agg #[.bool b, .slice A n c, .slice A' n' c'])) w' := by
 subst hb hN hD e e'
 have := h.len
 have := h'.len
 subst_vars
 exact ⟨A, c, A', c', rfl, h, h', hbel⟩
def B3 (w : World) (g : Nat) (t : TypeId) (v0 v1 v2 : Value) : Prop := w.heap[g]? = some (.cells #[v0, v1, v2] t (0, 0))
theorem B3.new (w : World) (t : TypeId) (v0 v1 v2 : Value) : B3 (w.alloc (.cells #[v0, v1, v2] t)) w.heap.size t v0 v1 v2 := heap_alloc_new w _
theorem B3.lt {w : World} {g : Nat} {t : TypeId} {v0 v1 v2 : Value} (h : B3 w g t v0 v1 v2) : g < w.heap.size := by
 rcases Nat.lt_or_ge g w.heap.size with hlt | hge
 ·exact hlt
 ·unfold B3 at h; rw [Array.getElem?_eq_none hge] at h; cases h
theorem B3.below {w w' : World} {g : Nat} {t : TypeId} {v0 v1 v2 : Value} (h : B3 w g t v0 v1 v2) (hb : Below w.heap.size w w') : B3 w' g t v0 v1 v2 := (hb.block g h.lt).trans h
theorem B3.alloc {w : World} {g : Nat} {t : TypeId} {v0 v1 v2 : Value} (h : B3 w g t v0 v1 v2) (o : Obj) : B3 (w.alloc o) g t v0 v1 v2 := (Below.heap_alloc w o g h.lt).trans h
theorem B3.cells {w : World} {g : Nat} {t : TypeId} {v0 v1 v2 : Value} (h : B3 w g t v0 v1 v2) : w.cell? ⟨g, 0, none⟩ = some v0 ∧ w.cell? ⟨g, 1, none⟩ = some v1 ∧ w.cell? ⟨g, 2, none⟩ = some v2 ∧ w.frozen? ⟨g, 0, none⟩ = false ∧ w.frozen? ⟨g, 1, none⟩ = false ∧ w.frozen? ⟨g, 2, none⟩ = false := by
 refine ⟨?_, ?_, ?_, frozen_of_row w g 0 _ t h, frozen_of_row w g 1 _ t h, frozen_of_row w g 2 _ t h⟩ <;> (rw [cell_of_row w g _ _ t (0, 0) h]; rfl)
theorem B3.set {w : World} {g : Nat} {t : TypeId} {v0 v1 v2 : Value} (h : B3 w g t v0 v1 v2) (u0 u1 u2 : Value) : B3 (((w.setCell ⟨g, 0, none⟩ u0).setCell ⟨g, 1, none⟩ u1).setCell ⟨g, 2, none⟩ u2) g t u0 u1 u2 := by
 have h1 := heap_setCell_same w g 0 _ t u0 h
 have h2 := heap_setCell_same _ g 1 _ t u1 h1
 have h3 := heap_setCell_same _ g 2 _ t u2 h2
 unfold B3
 rw [h3]; rfl
theorem B3.apart {w : World} {g : Nat} {t : TypeId} {b0 : Bool} {A0 A1 : Option Addr} {n0 c0 n1 c1 : Nat} (h : B3 w g t (.bool b0) (.slice A0 n0 c0) (.slice A1 n1 c1)) {A : Option Addr} {n c : Nat} {xs : List Nat} (hr : Row w A n c xs) :
  0 < n → ∀ b o, A = some ⟨b, o, none⟩ → b ≠ g := by
 intro hn b o e hbg
 subst hbg
 obtain ⟨b', o', e', hc⟩ := hr.at_ hn
 rw [e] at e'
 injection e' with e'
 injection e' with e1 e2
 subst e1 e2
 have hc0 := hc 0 hn
 rw [cell_of_row w b (o + 0) _ t (0, 0) h] at hc0
 have hlt : o + 0 < 3 := by
  have := (Array.getElem?_eq_some_iff.1 hc0).1; simpa using this
 rcases o with _ | _ | _ | o
 ·cases hc0
 ·cases hc0
 ·cases hc0
 ·omega
theorem B3.row {w : World} {g : Nat} {t : TypeId} {b0 : Bool} {A0 A1 : Option Addr} {n0 c0 n1 c1 : Nat} (h : B3 w g t (.bool b0) (.slice A0 n0 c0) (.slice A1 n1 c1)) {A : Option Addr} {n c : Nat} {xs : List Nat} (hr : Row w A n c xs) (u0 u1 u2 : Value) :
  Row (((w.setCell ⟨g, 0, none⟩ u0).setCell ⟨g, 1, none⟩ u1).setCell ⟨g, 2, none⟩ u2) A n c xs := by
 have hne := h.apart hr
 exact row_set_other (row_set_other (row_set_other hr _ _ hne) _ _ hne) _ _ hne
theorem B3.belowSet {w w3 : World} {g B : Nat} (hb : Below B w w3) (hg : B ≤ g) (u0 u1 u2 : Value) : Below B w (((w3.setCell ⟨g, 0, none⟩ u0).setCell ⟨g, 1, none⟩ u1).setCell ⟨g, 2, none⟩ u2) :=
 ((hb.setCell hg _).setCell hg _).setCell hg _
theorem RatRet.put {w w3 : World} {q : Rat} {g N D : Nat} {t : TypeId} {b b0 : Bool} {A0 A1 A A' : Option Addr} {n0 c0 n1 c1 n c n' c' : Nat} {xs ys : List Nat} (hB : B3 w3 g t (.bool b0) (.slice A0 n0 c0) (.slice A1 n1 c1)) (hg : w.heap.size ≤ g) (hbel : Below w.heap.size w w3)
  (hb : b = rneg q) (hN : N = rnum q) (hD : D = q.den) (h : Row w3 A n c xs) (h' : Row w3 A' n' c' ys) (e : xs = limbs N) (e' : ys = limbs D) :
  RatRet w q (.returned (.agg #[.bool b, .slice A n c, .slice A' n' c'])) (((w3.setCell ⟨g, 0, none⟩ (.bool b)).setCell ⟨g, 1, none⟩ (.slice A n c)).setCell ⟨g, 2, none⟩ (.slice A' n' c')) :=
 RatRet.of_rows hb hN hD (hB.row h _ _ _) (hB.row h' _ _ _) e e' (B3.belowSet hbel hg _ _ _)
theorem Rof_any (neg : Bool) (A A' : Option Addr) (n c n' c' : Nat) (xs ys : List Nat) (w : World) (h : Row w A n c xs) (h' : Row w A' n' c' ys) (hb : n ≤ 1048576) (hb' : n' ≤ 1048576) :
  Calls Try.prog 24 #[.bool neg, .slice A n c, .slice A' n' c'] w (RatRet w (rv neg (val xs) (val ys))) := by
 have l1 : (limbs (val xs)).length ≤ 1048576 := by have := tl_le h.ok; rw [h.len] at this; unfold tl at this; omega
 have l2 : (limbs (val ys)).length ≤ 1048576 := by have := tl_le h'.ok; rw [h'.len] at this; unfold tl at this; omega
 have hT : Hid (∀ W, Below w.heap.size w W → Calls Try.prog 33 #[.slice A n c] W (Ret W (val xs))) := hid fun W hW => Trim_any A n c xs W (h.below hW) (by omega)
 have hT' : Hid (∀ W, Below w.heap.size w W → Calls Try.prog 33 #[.slice A' n' c'] W (Ret W (val ys))) := hid fun W hW => Trim_any A' n' c' ys W (h'.below hW) (by omega)
 clear h h'
 generalize val xs = N at *
 generalize val ys = D at *
 have hB0 := B3.new w 25 (.bool false) (.slice none 0 0) (.slice none 0 0)
 have HB := hid hB0
 clear hB0
 by_cases hz : N = 0 ∨ D = 0
 ·have hz2 : N = 0 ∨ (N ≠ 0 ∧ D = 0) := by omega
  rw [rv_zero hz]
  clear hz
  rcases hz2 with rfl | ⟨hn, rfl⟩
  ·have e0 : (limbs 0).length = 0 := rfl
   go_enter Try.func24, Try.ntmps24
   go_wp2_with (first
    | (go_at_call 33; ((with_reducible refine (hT.out _ (Below.new_ (Below.refl _ _) _)).mono ?_); rintro e w1 ⟨A1, c1, rfl, hr1, hb1⟩))
    | (go_at_call 33; ((with_reducible refine (hT'.out _ Pg.bel).mono ?_); rintro e w2 ⟨A2, c2, rfl, hr2, hb2⟩))
    | (go_at_call 34; refine (Of_any 1 _ (by omega)).mono ?_; rintro e w3 ⟨A3, c3, rfl, hr3, hb3⟩; have hBr := ((HB.out.below hb1).below hb2).below hb3; obtain ⟨k0, k1, k2, f0, f1, f2⟩ := hBr.cells))
   refine bodyPost_ret (by have q0 := fun u0 u1 u2 => (hBr.set u0 u1 u2).cells.1; have q1 := fun u0 u1 u2 => (hBr.set u0 u1 u2).cells.2.1; have q2 := fun u0 u1 u2 => (hBr.set u0 u1 u2).cells.2.2.1; simp [results, Try.results24, go_sem, q0, q1, q2]) rfl (RatRet.put hBr (Nat.le_refl _) Pg.bel rfl rfl rfl (Row.nil _) hr3 rfl rfl)
  ·have e0 : (limbs 0).length = 0 := rfl
   have l0 : (((limbs N).length : Int) == 0) = false := by have := (tl_top hn).1; exact beq_eq_false_iff_ne.2 (by omega)
   clear hn
   go_enter Try.func24, Try.ntmps24
   go_wp2_with (first
    | (go_at_call 33; ((with_reducible refine (hT.out _ (Below.new_ (Below.refl _ _) _)).mono ?_); rintro e w1 ⟨A1, c1, rfl, hr1, hb1⟩))
    | (go_at_call 33; ((with_reducible refine (hT'.out _ Pg.bel).mono ?_); rintro e w2 ⟨A2, c2, rfl, hr2, hb2⟩))
    | (go_at_call 34; refine (Of_any 1 _ (by omega)).mono ?_; rintro e w3 ⟨A3, c3, rfl, hr3, hb3⟩; have hBr := ((HB.out.below hb1).below hb2).below hb3; obtain ⟨k0, k1, k2, f0, f1, f2⟩ := hBr.cells))
   refine bodyPost_ret (by have q0 := fun u0 u1 u2 => (hBr.set u0 u1 u2).cells.1; have q1 := fun u0 u1 u2 => (hBr.set u0 u1 u2).cells.2.1; have q2 := fun u0 u1 u2 => (hBr.set u0 u1 u2).cells.2.2.1; simp [results, Try.results24, go_sem, q0, q1, q2]) rfl (RatRet.put hBr (Nat.le_refl _) Pg.bel rfl rfl rfl (Row.nil _) hr3 rfl rfl)
 ·have hn : N ≠ 0 := by omega
  have hd : D ≠ 0 := by omega
  have l0 : (((limbs N).length : Int) == 0) = false := by have := (tl_top hn).1; exact beq_eq_false_iff_ne.2 (by omega)
  have l0' : (((limbs D).length : Int) == 0) = false := by have := (tl_top hd).1; exact beq_eq_false_iff_ne.2 (by omega)
  obtain ⟨q, hq⟩ : ∃ q, q = rv neg N D := ⟨_, rfl⟩
  have hq1 : neg = rneg q := by rw [hq, rv_neg hn hd]
  have hq2 : N / Nat.gcd N D = rnum q := by rw [hq, rv_num neg N hd]
  have hq3 : D / Nat.gcd N D = q.den := by rw [hq, rv_den neg N hd]
  have hgp : 0 < Nat.gcd N D := Nat.gcd_pos_of_pos_left _ (by omega)
  have hgl := Nat.le_trans (limbs_mono (Nat.gcd_le_left D (by omega : 0 < N))) l1
  rw [← hq]
  obtain ⟨G, hG⟩ : ∃ G, Nat.gcd N D = G := ⟨_, rfl⟩
  rw [hG] at hq2 hq3 hgp hgl
  have HQ := hid (And.intro hq1 (And.intro hq2 hq3))
  have HG := hid hG
  have E3 : Hid (dmb G = true) := hid (by simp [dmb]; omega)
  clear hq hq1 hq2 hq3 hG hz hn hd hgp
  go_enter Try.func24, Try.ntmps24
  go_wp2_with (first
   | (go_at_call 33; ((with_reducible refine (hT.out _ (Below.new_ (Below.refl _ _) _)).mono ?_); rintro e w1 ⟨A1, c1, rfl, hr1, hb1⟩))
   | (go_at_call 33; ((with_reducible refine (hT'.out _ Pg.bel).mono ?_); rintro e w2 ⟨A2, c2, rfl, hr2, hb2⟩))
   | (go_at_call 35; ((with_reducible refine (Gcd_E A1 A2 _ c1 _ c2 _ _ _ N D G (hr1.below hb2) hr2 (val_limbs _) (val_limbs _) (by first | omega | assumption) (by first | omega | assumption) HG.out).mono ?_)); rintro e w3 ⟨A3, c3, rfl, hr3, hb3⟩)
   | (go_at_call 36; ((with_reducible refine (DivMod_E A1 A3 _ c1 _ c3 _ _ _ N G (rnum q) _ true ((hr1.below hb2).below hb3) hr3 (val_limbs _) (val_limbs _) (by first | omega | assumption) (by first | omega | assumption) HQ.out.2.1 rfl E3.out).mono ?_)); rintro e w4 ⟨A4, c4, A5, c5, rfl, hr4, hr5, hb4⟩)
   | (go_at_call 36; ((with_reducible refine (DivMod_E A2 A3 _ c2 _ c3 _ _ _ D G q.den _ true ((hr2.below hb3).below hb4) (hr3.below hb4) (val_limbs _) (val_limbs _) (by first | omega | assumption) (by first | omega | assumption) HQ.out.2.2 rfl E3.out).mono ?_)); rintro e w5 ⟨A6, c6, A7, c7, rfl, hr6, hr7, hb5⟩; have hBr := ((((HB.out.below hb1).below hb2).below hb3).below hb4).below hb5; obtain ⟨k0, k1, k2, f0, f1, f2⟩ := hBr.cells))
  refine bodyPost_ret (by have q0 := fun u0 u1 u2 => (hBr.set u0 u1 u2).cells.1; have q1 := fun u0 u1 u2 => (hBr.set u0 u1 u2).cells.2.1; have q2 := fun u0 u1 u2 => (hBr.set u0 u1 u2).cells.2.2.1; simp [results, Try.results24, go_sem, q0, q1, q2]) rfl (RatRet.put hBr (Nat.le_refl _) Pg.bel HQ.out.1 rfl rfl (hr4.below hb5) hr6 rfl rfl)
theorem B3.new2 (w : World) (o : Obj) (t : TypeId) (v0 v1 v2 : Value) (g : Nat) (hg : g = w.heap.size + 1) : B3 ((w.alloc o).alloc (.cells #[v0, v1, v2] t)) g t v0 v1 v2 := by
 subst hg
 have := B3.new (w.alloc o) t v0 v1 v2
 rwa [show (w.alloc o).heap.size = w.heap.size + 1 by simp] at this
theorem Rnorm_any (neg : Bool) (A A' : Option Addr) (n c n' c' : Nat) (xs ys : List Nat) (w : World) (h : Row w A n c xs) (h' : Row w A' n' c' ys) (hb : n ≤ 1048576) (hb' : n' ≤ 1048576) :
  Calls Try.prog 14 #[.agg #[.bool neg, .slice A n c, .slice A' n' c']] w (RatRet w (rv neg (val xs) (val ys))) := by
 have HB := hid (B3.new2 w (.cells #[.bool neg, .slice A n c, .slice A' n' c'] 25) 25 (.bool false) (.slice none 0 0) (.slice none 0 0) _ rfl)
 have hO := fun W (hW : Below w.heap.size w W) => Rof_any neg A A' n c n' c' xs ys W (h.below hW) (h'.below hW) hb hb'
 generalize rv neg (val xs) (val ys) = q at *
 have HO := hid hO
 clear hO
 go_enter Try.func14, Try.ntmps14
 go_wp2_with (go_at_call 24; refine (HO.out _ Pg.bel).mono ?_; rintro e w1 ⟨A1, c1, A2, c2, rfl, hr1, hr2, hb1⟩; have hBr := HB.out.below hb1; obtain ⟨k0, k1, k2, f0, f1, f2⟩ := hBr.cells)
 refine bodyPost_ret (by have q0 := fun u0 u1 u2 => (hBr.set u0 u1 u2).cells.1; have q1 := fun u0 u1 u2 => (hBr.set u0 u1 u2).cells.2.1; have q2 := fun u0 u1 u2 => (hBr.set u0 u1 u2).cells.2.2.1; simp [results, Try.results14, go_sem, q0, q1, q2]) rfl (RatRet.put hBr (by omega) Pg.bel rfl rfl rfl hr1 hr2 rfl rfl)
end Go.Proofs.Ytahdlpkncemmaaa
namespace Go.Proofs.Ytahdlpkncemmaaa
open Go.RowKit Pg
theorem is64_true {a : Nat} (h : is64 a = true) : a < 18446744073709551616 ∧ to64 a = a := by
 have h1 : a < 18446744073709551616 := by simpa [is64] using h
 exact ⟨h1, by unfold to64; rw [if_pos h1]⟩
theorem rDivMod_one (A A' : Option Addr) (n c n' c' a b : Nat) (xs ys : List Nat) (w : World) (h : Row w A n c xs) (_h' : Row w A' n' c' ys) (hb : n ≤ 35184372087808) (_hb' : n' ≤ 35184372087808) (HA : Hid (a = val xs)) (_HB : Hid (b = val ys)) (hbp : 0 < b)
  (lb : (((limbs b).length : Int) == 0) = false) (hTb : Hid (Calls Try.prog 27 #[.slice A' n' c'] w (Ret w b)))
  (hTo : Hid (∀ W, Below w.heap.size w W → Calls Try.prog 39 #[.slice A n c] W fun e w' => e = .returned (.tuple #[.int .u64 ((to64 a : Nat) : Int), .bool (is64 a)]) ∧ Below W.heap.size W w'))
  (hTo' : Hid (∀ W, Below w.heap.size w W → Calls Try.prog 39 #[.slice A' n' c'] W fun e w' => e = .returned (.tuple #[.int .u64 ((to64 b : Nat) : Int), .bool (is64 b)]) ∧ Below W.heap.size W w'))
  (hs : is64 a = false) (hl : b < 4294967296) :
  Calls Try.prog 29 #[.slice A n c, .slice A' n' c'] w (Ret3 w (a / b) (a % b) true) := by
 have e1 : is64 b = true := by simp [is64]; omega
 have e2 := (is64_true e1).2
 rw [hs] at hTo
 rw [e1, e2] at hTo'
 have hrlt : a % b < 18446744073709551616 := by have := Nat.mod_lt a hbp; omega
 obtain ⟨r, hr⟩ : ∃ r, r = a % b := ⟨_, rfl⟩
 have HS : Hid (∀ W, Below w.heap.size w W → Calls Try.prog 40 #[.slice A n c, .int .u64 (b : Int)] W fun e w' => ∃ A' c', e = .returned (.tuple #[.slice A' (limbs (a / b)).length c', .int .u64 (r : Int)]) ∧ Row w' A' (limbs (a / b)).length c' (limbs (a / b)) ∧ Below W.heap.size W w') := hid fun W hW => by
  have := rsmall_any A n c b xs W (h.below hW) (by omega) hbp hl
  rw [← HA.out, ← hr] at this
  exact this
 rw [← hr] at hrlt ⊢
 have HR := hid hr
 have HRL := hid hrlt
 clear hr hrlt hs e1 e2
 have hl2 : decide ((b : Int) < 4294967296) = true := by simp; omega
 go_enter Try.func29, Try.ntmps29
 go_wp2_with (first
  | (go_at_call 27; refine (hTb.out).mono ?_; rintro e w1 ⟨A1, c1, rfl, hr1, hb1⟩)
  | (go_at_call 39; ((with_reducible refine (hTo.out _ hb1).mono ?_); rintro e w2 ⟨rfl, hb2⟩))
  | (go_at_call 39; ((with_reducible refine (hTo'.out _ (Pg.Below.then_ hb1 hb2)).mono ?_); rintro e w3 ⟨rfl, hb3⟩))
  | (go_at_call 40; refine (HS.out _ (Pg.Below.then_ (Pg.Below.then_ hb1 hb2) hb3)).mono ?_; rintro e w4 ⟨A4, c4, rfl, hr4, hb4⟩)
  | (go_at_call 18; refine (rOf_any r _ HRL.out).mono ?_; rintro e w5 ⟨A5, c5, rfl, hr5, hb5⟩))
 go_ret3
 exact Ret3.of_rows (hr4.below hb5) hr5 rfl rfl Pg.bel
end Go.Proofs.Ytahdlpkncemmaaa
namespace Go.Proofs.Ytahdlpkncemmaaa
open Go.RowKit Pg
theorem walk_orb {l s : Nat} (hl : l < 4294967296) (hs : s < 32) : bits .or .u32 (l : Int) ((2 : Int) ^ s % 4294967296) = ((l ||| 2 ^ s : Nat) : Int) := by
 have h : 2 ^ s < 2 ^ 32 := Nat.pow_lt_pow_right (by omega) hs
 have e : ((2 : Int) ^ s % 4294967296) = ((2 ^ s : Nat) : Int) := by
  rw [show ((2 : Int) ^ s) = ((2 ^ s : Nat) : Int) by rw [Int.natCast_pow]; rfl]
  generalize 2 ^ s = x at *
  omega
 rw [e, u32_or_nat _ _ hl h]
theorem rDivMod_bits (A A' : Option Addr) (n c n' c' a b : Nat) (xs ys : List Nat) (w : World) (h : Row w A n c xs) (h' : Row w A' n' c' ys) (hb : n ≤ 35184372087808) (hb' : n' ≤ 35184372087808) (HA : Hid (a = val xs)) (HB : Hid (b = val ys)) (hbp : 0 < b)
  (lb : (((limbs b).length : Int) == 0) = false) (hTb : Hid (Calls Try.prog 27 #[.slice A' n' c'] w (Ret w b)))
  (hTo : Hid (∀ W, Below w.heap.size w W → Calls Try.prog 39 #[.slice A n c] W fun e w' => e = .returned (.tuple #[.int .u64 ((to64 a : Nat) : Int), .bool (is64 a)]) ∧ Below W.heap.size W w'))
  (hTo' : Hid (∀ W, Below w.heap.size w W → Calls Try.prog 39 #[.slice A' n' c'] W fun e w' => e = .returned (.tuple #[.int .u64 ((to64 b : Nat) : Int), .bool (is64 b)]) ∧ Below W.heap.size W w'))
  (hs : ¬ (is64 a = true ∧ is64 b = true)) (hl : 4294967296 ≤ b) :
  Calls Try.prog 29 #[.slice A n c, .slice A' n' c'] w (Ret3 w (a / b) (a % b) true) := by
 have h1 := h.nc
 have h2 := h.cm
 have h1' := h'.nc
 have h2' := h'.cm
 have hn32 : (32 : Int) * (n : Int) ≤ 1125899906809856 := by omega
 have HL := hid hl
 have HS := hid hs
 clear hl hs
 generalize is64 a = ta at *
 have h64 : is64 b = true → to64 b = b := fun e => (is64_true e).2
 have H64 := hid h64
 clear h64
 generalize is64 b = tb at *
 generalize to64 b = xb at *
 generalize to64 a = xa at *
 have hmk := run_make_row (P := Try.prog) 23 44 Try.underlying23 info32 (n : Int) n rfl (by omega)
 go_enter Try.func29, Try.ntmps29
 go_upto_region 5 with (first
  | (go_at_call 27; refine (hTb.out).mono ?_; rintro e w1 ⟨A1, c1, rfl, hr1, hb1⟩)
  | (go_at_call 39; ((with_reducible refine (hTo.out _ hb1).mono ?_); rintro e w2 ⟨rfl, hb2⟩))
  | (go_at_call 39; ((with_reducible refine (hTo'.out _ (Pg.Below.then_ hb1 hb2)).mono ?_); rintro e w3 ⟨rfl, hb3⟩)))
 have hbel := Pg.Below.then_ (Pg.Below.then_ hb1 hb2) hb3
 clear hb1 hb2 hb3 hr1
 go_cut [33] (fun s33 wc => s33 = .bool false ∧ wc = w3)
 case first =>
  rcases ta with _ | _
  ·go_wp2_with fail
   go_meet
   exact ⟨rfl, rfl⟩
  ·rcases tb with _ | _
   ·go_wp2_with fail
    go_meet
    exact ⟨rfl, rfl⟩
   ·exact absurd ⟨rfl, rfl⟩ HS.out
 case rest =>
  obtain ⟨rfl, rfl⟩ := hcut
  go_upto_region 7 with fail
  go_cut [46] (fun s46 wd => s46 = .bool false ∧ wd = wc)
  case first =>
   rcases tb with _ | _
   ·go_wp2_with fail
    go_meet
    exact ⟨rfl, rfl⟩
   ·have t1 : decide ((xb : Int) < 4294967296) = false := by have := HL.out; have e := H64.out rfl; simp; omega
    go_wp2_with fail
    go_meet
    exact ⟨rfl, rfl⟩
  case rest =>
   obtain ⟨rfl, rfl⟩ := hcut
   clear hTb hTo hTo' lb HS H64
   go_wp2_with fail
   obtain ⟨gq, hgq⟩ : ∃ gq, gq = wc.heap.size := ⟨_, rfl⟩
   have hbq := Blk.new wc 44 (List.replicate n 0)
   rw [← hgq] at hbq ⊢
   have hb3 := Below.alloc hbel hbel.size (.cells (u32s (List.replicate n 0)).toArray 44)
   have hq3 : w.heap.size ≤ gq := by have := hbel.size; omega
   clear hgq
   generalize wc.alloc (.cells (u32s (List.replicate n 0)).toArray 44) = w4 at *
   have hlb : (limbs b).length ≤ 35184372087808 := by rw [HB.out]; have := tl_le h'.ok; rw [h'.len] at this; unfold tl at this; omega
   have hla : a < 2 ^ (32 * n) := by
    have := val_lt h.ok
    rw [h.len, ← HA.out, base_pow] at this
    exact this
   have HLA := hid hla
   have hxl := hid h.len
   clear hla hbel
   go_loopw [14, 15] (fun s14 s15 wr => ∃ k R cs A1 c1, ∃ iI : Int, k ≤ 32 * n ∧ s15 = .int .i64 iI ∧ iI + 1 = (k : Int) ∧ s14 = .slice A1 (limbs R).length c1 ∧ Row wr A1 (limbs R).length c1 (limbs R) ∧ R < b ∧ Hid (R = a / 2 ^ k % b) ∧ Blk wr gq 44 cs ∧ Ok cs ∧ Hid (cs.length = n) ∧ Hid (val cs = a / 2 ^ k / b * 2 ^ k) ∧ Below w.heap.size w wr) (fun _ s15 _ => (intOf s15 + 1).toNat)
   case atStart =>
    have e0 : a / 2 ^ (32 * n) = 0 := Nat.div_eq_of_lt HLA.out
    exact ⟨32 * n, 0, _, none, 0, _, Nat.le_refl _, rfl, by omega, rfl, Row.nil _, hbp, hid (by rw [e0]; simp), hbq, ok_replicate _, by simp [Hid], hid (by rw [e0, val_replicate]; simp), hb3⟩
   case round =>
    obtain ⟨k, R, cs, A1, c1, iI, hk, rfl, hi, rfl, hR, hRb, HR, hblk, hok, hcl, HV, hbel⟩ := hrel
    have hlr := Nat.le_trans (limbs_mono (Nat.le_of_lt hRb)) hlb
    rcases k with _ | i
    ·obtain rfl : iI = -1 := by omega
     have hrq := hblk.row hok (by rw [hcl.out]; omega)
     rw [hcl.out] at hrq
     have e1 : val cs = a / b := by rw [HV.out]; simp
     have e2 : R = a % b := by rw [HR.out]; simp
     have E1 := hid e1
     have E2 := hid e2
     clear e1 e2
     go_wp2_with (first
      | (go_at_call 27; ((with_reducible refine (rTrim_any _ _ _ cs _ hrq (by omega)).mono ?_); rintro e w5 ⟨A5, c5, rfl, hr5, hb5⟩))
      | (go_at_call 27; ((with_reducible refine (rTrim_any _ _ _ _ _ (hR.below hb5) (by omega)).mono ?_); rintro e w6 ⟨A6, c6, rfl, hr6, hb6⟩)))
     go_ret3
     exact Ret3.of_rows (hr5.below hb6) hr6 (by rw [E1.out]) (by rw [val_limbs, E2.out]) Pg.bel
    ·obtain rfl : iI = (i : Int) := by omega
     have hi32 : i / 32 < n := by omega
     obtain ⟨bb, o, rfl, hc⟩ := h.at_ (by omega)
     have hbw := h.lt (by omega) rfl
     have hc0 := hc (i / 32) hi32
     have hxi := lim_lt h.ok (i / 32)
     clear hc
     have HSh : Hid (∀ W, Below wr.heap.size wr W → Calls Try.prog 41 #[.slice A1 (limbs R).length c1, .int .i64 1] W (Ret W (2 * R))) := hid fun W hW => by
      have := rShift_any A1 _ c1 1 _ W (hR.below hW) (by omega)
      rw [val_limbs, show shv R (clampD 1) = 2 * R by rw [show clampD 1 = ((1 : Nat) : Int) by decide, shv_pos]; omega] at this
      exact this
     have hbit : (bits .and .u32 (((lim xs (i / 32) : Nat) : Int) / 2 ^ (i % 32)) 1 == 1) = decide (a / 2 ^ i % 2 = 1) := by
      have e1 : ((lim xs (i / 32) : Nat) : Int) / 2 ^ (i % 32) = ((lim xs (i / 32) / 2 ^ (i % 32) : Nat) : Int) := by
       rw [Int.natCast_ediv, Int.natCast_pow]; rfl
      have e2 : lim xs (i / 32) / 2 ^ (i % 32) < 4294967296 := Nat.lt_of_le_of_lt (Nat.div_le_self _ _) hxi
      have e3 : bits .and .u32 (((lim xs (i / 32) / 2 ^ (i % 32) : Nat)) : Int) ((1 : Nat) : Int) = ((lim xs (i / 32) / 2 ^ (i % 32) % 2 : Nat) : Int) := by
       rw [u32_and_nat _ _ e2 (by omega), Nat.and_one_is_mod]
      rw [e1]
      rw [show (1 : Int) = ((1 : Nat) : Int) from rfl, e3, HA.out, ← bit_limb h.ok i]
      generalize lim xs (i / 32) / 2 ^ (i % 32) % 2 = t
      by_cases ht : t = 1
      ·subst ht; rfl
      ·rw [decide_eq_false ht]; exact beq_eq_false_iff_ne.2 (by omega)
     have hlT : ∀ t, t ≤ 2 * R + 1 → (limbs t).length ≤ 35184372087809 := fun t ht => by have := limbs_double hRb ht; omega
     have hlT2 := hid hlT
     clear hlT
     by_cases hone : a / 2 ^ i % 2 = 1
     ·rw [decide_eq_true hone] at hbit
      obtain ⟨T, hT⟩ : ∃ T, T = 2 * R + 1 := ⟨_, rfl⟩
      have hTT := hid hT
      have l2R := hlT2.out (2 * R) (by omega)
      have lT := hlT2.out T (by omega)
      have HONE := hid hone
      clear hone hT
      go_upto_region 16 with (go_at_call 41; refine (HSh.out _ (Below.refl _ _)).mono ?_; rintro e w5 ⟨A5, c5, rfl, hr5, hb5⟩)
      have g1 : w5.cell? ⟨bb, o + i / 32, none⟩ = some (.int .u32 ((lim xs (i / 32) : Nat) : Int)) := ((Below.trans hbel (hb5.mono hbel.size)).cell (by exact hbw)).trans hc0
      go_upto_region 18 with (go_at_call 42; refine (rAdd_N _ _ _ _ _ _ (limbs (2 * R)) [1] _ _ _ (hr5.alloc _) (Row.one _ _ _ _ _ rfl (by rfl) (by omega)) (val_limbs _) (val_one _) (by omega) (by omega)).mono ?_; rintro e w6 ⟨A6, c6, rfl, hr6, hb6⟩)
      rw [← hTT.out] at hr6 ⊢
      have hb56 : Below wr.heap.size wr w6 := Pg.bel
      have hb06 : Below w.heap.size w w6 := Below.trans hbel (hb56.mono hbel.size)
      clear hb5 hb6 hr5 g1
      have hbs := bit_step (x := a) (b := b) (k := i) hbp T (by rw [hTT.out, HR.out, HONE.out])
      have HBS := hid hbs
      clear hbs
      have HC := hid (rCmp_any A6 A' _ c6 n' c' _ ys w6 hr6 (h'.below hb06) (by omega) (by omega))
      rw [val_limbs, ← HB.out] at HC
      have hblk6 := hblk.below hb56
      rcases Nat.lt_or_ge T b with hlt | hge
      ·rw [cmpv_lt hlt] at HC
       obtain ⟨m1, m2⟩ := HBS.out.2.1 hlt
       have HN1 : Hid (T = a / 2 ^ i % b) := hid m1.symm
       have HN2 : Hid (val cs = a / 2 ^ i / b * 2 ^ i) := hid (by rw [HV.out, m2, Nat.pow_succ]; ac_rfl)
       clear m1 m2
       go_wp2_with (go_at_call 43; refine (HC.out).mono ?_; rintro e w7 ⟨rfl, hb7⟩)
       go_roundw
       case rel => exact ⟨i, T, cs, A6, c6, _, by omega, rfl, by omega, rfl, hr6.below hb7, hlt, HN1, hblk6.below hb7, hok, hcl, HN2, Below.trans hb06 (hb7.mono hb06.size)⟩
       case measure => simp [intOf]
      ·have HC2 : Hid (Calls Try.prog 43 #[.slice A6 (limbs T).length c6, .slice A' n' c'] w6 fun e w' => ∃ z : Int, 0 ≤ z ∧ e = .returned (.int .i64 z) ∧ Below w6.heap.size w6 w') := hid (by
        refine HC.out.mono fun e w' ⟨he, hb⟩ => ⟨_, ?_, he, hb⟩
        unfold cmpv; split <;> first | omega | (split <;> omega))
       obtain ⟨m1, m2⟩ := HBS.out.2.2 hge
       have htb := HBS.out.1
       have HN1 : Hid (T - b = a / 2 ^ i % b) := hid m1.symm
       obtain ⟨o1, o2, o3⟩ := or_bit hok HV.out (by rw [hcl.out]; exact hi32)
       have HN2 : Hid (val (cs.set (i / 32) (lim cs (i / 32) + 2 ^ (i % 32))) = a / 2 ^ i / b * 2 ^ i) := hid (by rw [o3, m2])
       have hlq := lim_lt hok (i / 32)
       have HO1 := hid o1
       have HO2 := hid o2
       clear m1 m2 o1 o2 o3 HC
       go_wp2_with (first
        | (go_at_call 43; refine (HC2.out).mono ?_; rintro e w7 ⟨z, hz, rfl, hb7⟩; (have hd : decide (0 ≤ z) = true := by simp; omega))
        | (go_at_call 44; refine (rSub_new _ _ _ _ _ _ _ ys _ (hr6.below hb7) ((h'.below hb06).below hb7) (by omega) (by omega)).mono ?_; rintro e w8 ⟨A8, c8, rfl, hr8, hb8, hf8⟩; have hblk8 := (hblk6.below hb7).below hb8; have g2 := hblk8.cell (i := i / 32) (by rw [hcl.out]; exact hi32); have hfz := hblk8.frozen (i / 32)))
       go_roundw
       case rel =>
        have hb8' := Pg.Below.then_ (Pg.Below.then_ hb06 hb7) hb8
        rw [val_limbs, ← HB.out] at hr8
        refine ⟨i, T - b, _, A8, c8, _, by omega, rfl, by omega, by rw [val_limbs, ← HB.out], row_set_other hr8 _ _ (fun _ g o e => by have q1 := hf8 g o e; have q2 := hblk6.lt; have q3 := hb7.size; show g ≠ gq; omega), by omega, HN1, hblk8.set (i / 32) (lim cs (i / 32) + 2 ^ (i % 32)) _ ?_, hok.set _ HO2.out, hid (by rw [List.length_set]; exact hcl.out), HN2, hb8'.setCell hq3 _⟩
        rw [walk_orb hlq (Nat.mod_lt _ (by omega)), HO1.out]
       case measure => simp [intOf]
     ·rw [decide_eq_false hone] at hbit
      obtain ⟨T, hT⟩ : ∃ T, T = 2 * R := ⟨_, rfl⟩
      rw [← hT] at HSh
      have hTT := hid hT
      have lT := hlT2.out T (by omega)
      have HZ : Hid (a / 2 ^ i % 2 = 0) := hid (by omega)
      clear hone hT
      go_upto_region 16 with (go_at_call 41; refine (HSh.out _ (Below.refl _ _)).mono ?_; rintro e w6 ⟨A6, c6, rfl, hr6, hb56⟩)
      have hb06 : Below w.heap.size w w6 := Below.trans hbel (hb56.mono hbel.size)
      have g1 : w6.cell? ⟨bb, o + i / 32, none⟩ = some (.int .u32 ((lim xs (i / 32) : Nat) : Int)) := (hb06.cell (by exact hbw)).trans hc0
      go_upto_region 18 with fail
      clear g1
      have hbs := bit_step (x := a) (b := b) (k := i) hbp T (by rw [hTT.out, HR.out, HZ.out]; exact (Nat.add_zero _).symm)
      have HBS := hid hbs
      clear hbs
      have HC := hid (rCmp_any A6 A' _ c6 n' c' _ ys w6 hr6 (h'.below hb06) (by omega) (by omega))
      rw [val_limbs, ← HB.out] at HC
      have hblk6 := hblk.below hb56
      rcases Nat.lt_or_ge T b with hlt | hge
      ·rw [cmpv_lt hlt] at HC
       obtain ⟨m1, m2⟩ := HBS.out.2.1 hlt
       have HN1 : Hid (T = a / 2 ^ i % b) := hid m1.symm
       have HN2 : Hid (val cs = a / 2 ^ i / b * 2 ^ i) := hid (by rw [HV.out, m2, Nat.pow_succ]; ac_rfl)
       clear m1 m2
       go_wp2_with (go_at_call 43; refine (HC.out).mono ?_; rintro e w7 ⟨rfl, hb7⟩)
       go_roundw
       case rel => exact ⟨i, T, cs, A6, c6, _, by omega, rfl, by omega, rfl, hr6.below hb7, hlt, HN1, hblk6.below hb7, hok, hcl, HN2, Below.trans hb06 (hb7.mono hb06.size)⟩
       case measure => simp [intOf]
      ·have HC2 : Hid (Calls Try.prog 43 #[.slice A6 (limbs T).length c6, .slice A' n' c'] w6 fun e w' => ∃ z : Int, 0 ≤ z ∧ e = .returned (.int .i64 z) ∧ Below w6.heap.size w6 w') := hid (by
        refine HC.out.mono fun e w' ⟨he, hb⟩ => ⟨_, ?_, he, hb⟩
        unfold cmpv; split <;> first | omega | (split <;> omega))
       obtain ⟨m1, m2⟩ := HBS.out.2.2 hge
       have htb := HBS.out.1
       have HN1 : Hid (T - b = a / 2 ^ i % b) := hid m1.symm
       obtain ⟨o1, o2, o3⟩ := or_bit hok HV.out (by rw [hcl.out]; exact hi32)
       have HN2 : Hid (val (cs.set (i / 32) (lim cs (i / 32) + 2 ^ (i % 32))) = a / 2 ^ i / b * 2 ^ i) := hid (by rw [o3, m2])
       have hlq := lim_lt hok (i / 32)
       have HO1 := hid o1
       have HO2 := hid o2
       clear m1 m2 o1 o2 o3 HC
       go_wp2_with (first
        | (go_at_call 43; refine (HC2.out).mono ?_; rintro e w7 ⟨z, hz, rfl, hb7⟩; (have hd : decide (0 ≤ z) = true := by simp; omega))
        | (go_at_call 44; refine (rSub_new _ _ _ _ _ _ _ ys _ (hr6.below hb7) ((h'.below hb06).below hb7) (by omega) (by omega)).mono ?_; rintro e w8 ⟨A8, c8, rfl, hr8, hb8, hf8⟩; have hblk8 := (hblk6.below hb7).below hb8; have g2 := hblk8.cell (i := i / 32) (by rw [hcl.out]; exact hi32); have hfz := hblk8.frozen (i / 32)))
       go_roundw
       case rel =>
        have hb8' := Pg.Below.then_ (Pg.Below.then_ hb06 hb7) hb8
        rw [val_limbs, ← HB.out] at hr8
        refine ⟨i, T - b, _, A8, c8, _, by omega, rfl, by omega, by rw [val_limbs, ← HB.out], row_set_other hr8 _ _ (fun _ g o e => by have q1 := hf8 g o e; have q2 := hblk6.lt; have q3 := hb7.size; show g ≠ gq; omega), by omega, HN1, hblk8.set (i / 32) (lim cs (i / 32) + 2 ^ (i % 32)) _ ?_, hok.set _ HO2.out, hid (by rw [List.length_set]; exact hcl.out), HN2, hb8'.setCell hq3 _⟩
        rw [walk_orb hlq (Nat.mod_lt _ (by omega)), HO1.out]
       case measure => simp [intOf]
end Go.Proofs.Ytahdlpkncemmaaa
namespace Go.Proofs.Ytahdlpkncemmaaa
open Go.RowKit Pg
theorem rDivMod_any (A A' : Option Addr) (n c n' c' : Nat) (xs ys : List Nat) (w : World) (h : Row w A n c xs) (h' : Row w A' n' c' ys) (hb : n ≤ 35184372087808) (hb' : n' ≤ 35184372087808) :
  Calls Try.prog 29 #[.slice A n c, .slice A' n' c'] w (Ret3 w (val xs / val ys) (dmr (val xs) (val ys)) (dmb (val ys))) := by
 have h1 := h.nc
 have h2 := h.cm
 have h1' := h'.nc
 have h2' := h'.cm
 have hTb := hid (rTrim_any A' n' c' ys w h' (by omega))
 obtain ⟨a, ha⟩ : ∃ a, a = val xs := ⟨_, rfl⟩
 obtain ⟨b, hbv⟩ : ∃ b, b = val ys := ⟨_, rfl⟩
 rw [← ha, ← hbv]
 rw [← hbv] at hTb
 have HA := hid ha
 have HB := hid hbv
 clear ha hbv
 by_cases hz : b = 0
 ·subst hz
  have e0 : (limbs 0).length = 0 := rfl
  rw [show a / 0 = 0 by simp, show dmr a 0 = 0 by rfl, show dmb 0 = false by rfl]
  go_enter Try.func29, Try.ntmps29
  go_wp2_with (go_at_call 27; refine (hTb.out).mono ?_; rintro e w1 ⟨A1, c1, rfl, hr1, hb1⟩)
  go_ret3
  exact Ret3.of_rows (Row.nil _) (Row.nil _) rfl rfl hb1
 have lb : (((limbs b).length : Int) == 0) = false := by have := (tl_top hz).1; exact beq_eq_false_iff_ne.2 (by omega)
 rw [show dmr a b = a % b by simp [dmr, hz], show dmb b = true by simp [dmb, hz]]
 have hbp : 0 < b := by omega
 have hTo : Hid (∀ W, Below w.heap.size w W → Calls Try.prog 39 #[.slice A n c] W fun e w' => e = .returned (.tuple #[.int .u64 ((to64 a : Nat) : Int), .bool (is64 a)]) ∧ Below W.heap.size W w') := hid fun W hW => by
  rw [HA.out]; exact rTo_any A n c xs W (h.below hW) (by omega)
 have hTo' : Hid (∀ W, Below w.heap.size w W → Calls Try.prog 39 #[.slice A' n' c'] W fun e w' => e = .returned (.tuple #[.int .u64 ((to64 b : Nat) : Int), .bool (is64 b)]) ∧ Below W.heap.size W w') := hid fun W hW => by
  rw [HB.out]; exact rTo_any A' n' c' ys W (h'.below hW) (by omega)
 clear hz
 by_cases hs : is64 a = true ∧ is64 b = true
 ·obtain ⟨a1, a2⟩ := is64_true hs.1
  obtain ⟨a3, a4⟩ := is64_true hs.2
  rw [a2, hs.1] at hTo
  rw [a4, hs.2] at hTo'
  have hne : ((b : Int) != 0) = true := by simp; omega
  have hqle : a / b ≤ a := Nat.div_le_self _ _
  have hrlt : a % b < b := Nat.mod_lt _ hbp
  have HQ1 : Hid (IntKind.u64.wrap ((a : Int) / (b : Int)) = ((a / b : Nat) : Int)) := hid (by
   rw [← Int.natCast_ediv]; generalize a / b = v at *; exact IntWalk.u64_in _ (by omega))
  have HR1 : Hid ((a : Int) % (b : Int) = ((a % b : Nat) : Int)) := hid (Int.natCast_emod _ _).symm
  have HOq : Hid (∀ W (d : Int), d = ((a / b : Nat) : Int) → Calls Try.prog 18 #[.int .u64 d] W (Ret W (a / b))) := hid fun W d hd => by
   subst hd; exact rOf_any (a / b) W (by omega)
  have HOr : Hid (∀ W (d : Int), d = ((a % b : Nat) : Int) → Calls Try.prog 18 #[.int .u64 d] W (Ret W (a % b))) := hid fun W d hd => by
   subst hd; exact rOf_any (a % b) W (by omega)
  clear hs a2 a4 hqle hrlt
  go_enter Try.func29, Try.ntmps29
  go_wp2_with (first
   | (go_at_call 27; refine (hTb.out).mono ?_; rintro e w1 ⟨A1, c1, rfl, hr1, hb1⟩)
   | (go_at_call 39; ((with_reducible refine (hTo.out _ hb1).mono ?_); rintro e w2 ⟨rfl, hb2⟩))
   | (go_at_call 39; ((with_reducible refine (hTo'.out _ (Pg.Below.then_ hb1 hb2)).mono ?_); rintro e w3 ⟨rfl, hb3⟩)))
  have hb0 : ¬ b = 0 := by omega
  have hw3 := Pg.Below.then_ (Pg.Below.then_ hb1 hb2) hb3
  go_region_law (first
   | (go_simp; go_at_call 18; refine (HOq.out _ _ HQ1.out).mono ?_; rintro e w4 ⟨A4, c4, rfl, hr4, hb4⟩)
   | (go_simp; go_at_call 18; refine (HOr.out _ _ HR1.out).mono ?_; rintro e w5 ⟨A5, c5, rfl, hr5, hb5⟩))
  all_goals
   go_wp2_with fail
   go_ret3
   exact Ret3.of_rows (hr4.below hb5) hr5 rfl rfl (Pg.Below.then_ (Pg.Below.then_ hw3.drew hb4) hb5)
 ·rcases Nat.lt_or_ge b 4294967296 with hl | hl
  ·have hb64 : is64 b = true := by simp [is64]; omega
   have ha64 : is64 a = false := by
    cases hh : is64 a
    ·rfl
    ·exact absurd ⟨hh, hb64⟩ hs
   exact rDivMod_one A A' n c n' c' a b xs ys w h h' hb hb' HA HB hbp lb hTb hTo hTo' ha64 hl
  ·exact rDivMod_bits A A' n c n' c' a b xs ys w h h' hb hb' HA HB hbp lb hTb hTo hTo' hs hl
end Go.Proofs.Ytahdlpkncemmaaa
namespace Go.Proofs.Ytahdlpkncemmaaa
open Go.RowKit Pg
theorem rGcd_any (A A' : Option Addr) (n c n' c' : Nat) (xs ys : List Nat) (w : World) (h : Row w A n c xs) (h' : Row w A' n' c' ys) (hb : n ≤ 35184372087808) (hb' : n' ≤ 35184372087808) :
  Calls Try.prog 28 #[.slice A n c, .slice A' n' c'] w (Ret w (Nat.gcd (val xs) (val ys))) := by
 have l1 : (limbs (val xs)).length ≤ 35184372087808 := by have := tl_le h.ok; rw [h.len] at this; unfold tl at this; omega
 have l2 : (limbs (val ys)).length ≤ 35184372087808 := by have := tl_le h'.ok; rw [h'.len] at this; unfold tl at this; omega
 have hT := hid (rTrim_any A n c xs w h (by omega))
 have hT' : Hid (∀ W, Below w.heap.size w W → Calls Try.prog 27 #[.slice A' n' c'] W (Ret W (val ys))) := hid fun W hW => rTrim_any A' n' c' ys W (h'.below hW) (by omega)
 clear h h'
 generalize val xs = a at *
 generalize val ys = b at *
 obtain ⟨G, hG⟩ : ∃ G, G = Nat.gcd a b := ⟨_, rfl⟩
 rw [← hG]
 have HG := hid hG
 clear hG
 go_enter Try.func28, Try.ntmps28
 go_wp2_with (first
  | (go_at_call 27; ((with_reducible refine (hT.out).mono ?_); rintro e w1 ⟨A1, c1, rfl, hr1, hb1⟩))
  | (go_at_call 27; ((with_reducible refine (hT'.out _ hb1).mono ?_); rintro e w2 ⟨A2, c2, rfl, hr2, hb2⟩)))
 go_loopw [5, 6] (fun s0 s1 wr => ∃ N M A c A' c', s0 = .slice A (limbs N).length c ∧ s1 = .slice A' (limbs M).length c' ∧ Row wr A (limbs N).length c (limbs N) ∧ Row wr A' (limbs M).length c' (limbs M) ∧ Hid (G = Nat.gcd N M) ∧ (limbs N).length ≤ 35184372087808 ∧ (limbs M).length ≤ 35184372087808 ∧ Below w.heap.size w wr) (fun _ s1 wr => rowval wr s1)
 case atStart => exact ⟨a, b, A1, c1, A2, c2, rfl, rfl, hr1.below hb2, hr2, HG, l1, l2, Pg.bel⟩
 case round =>
  obtain ⟨N, M, A3, c3, A4, c4, rfl, rfl, hN, hM, HG2, k1, k2, hbel⟩ := hrel
  have hv := hM.rowval
  rw [val_limbs] at hv
  rcases Nat.eq_zero_or_pos M with h0 | h0
  ·subst h0
   have e1 : (limbs 0).length = 0 := rfl
   have hGN : Hid (G = N) := hid (by rw [HG2.out, Nat.gcd_zero_right])
   have HE := hid e1
   rw [e1]
   clear e1 hv
   go_wp2_with fail
   go_ret
   exact Ret.of_row hN (by rw [hGN.out]) hbel
  ·have hpos := (tl_top (N := M) (by omega)).1
   have hd1 : decide ((0 : Int) < ((limbs M).length : Int)) = true := by simp; omega
   have HD := hid (rDivMod_any _ _ _ _ _ _ _ _ wr hN hM k1 k2)
   rw [val_limbs, val_limbs, show dmr N M = N % M by simp [dmr]; omega] at HD
   have HV := hid hv
   have HL : Hid (N % M < M) := hid (Nat.mod_lt _ h0)
   have HG3 : Hid (G = Nat.gcd M (N % M)) := hid (by rw [HG2.out, Nat.gcd_comm N M, Nat.gcd_rec M N, Nat.gcd_comm])
   clear hv
   have k3 := Nat.le_trans (limbs_mono (Nat.le_of_lt HL.out)) k2
   generalize N % M = R at *
   go_wp2_with (go_at_call 29; refine (HD.out).mono ?_; rintro e w3 ⟨A5, c5, A6, c6, rfl, hr5, hr6, hb3⟩)
   go_roundw
   case rel => exact ⟨M, R, _, _, _, _, rfl, rfl, hM.below hb3, hr6, HG3, k2, k3, Below.trans hbel (hb3.mono hbel.size)⟩
   case measure =>
    have e2 := hr6.rowval
    rw [val_limbs] at e2
    rw [e2, HV.out]
    exact HL.out
end Go.Proofs.Ytahdlpkncemmaaa
namespace Go.Proofs.Ytahdlpkncemmaaa
open Go.RowKit Pg
theorem rDivMod_E (A A' : Option Addr) (n c n' c' : Nat) (xs ys : List Nat) (w : World) (a b N M : Nat) (B : Bool) (h : Row w A n c xs) (h' : Row w A' n' c' ys) (ea : val xs = a) (eb : val ys = b) (hb : n ≤ 35184372087808) (hb' : n' ≤ 35184372087808)
  (eN : a / b = N) (eM : dmr a b = M) (eB : dmb b = B) : Calls Try.prog 29 #[.slice A n c, .slice A' n' c'] w (Ret3 w N M B) := by
 subst ea eb eN eM eB; exact rDivMod_any A A' n c n' c' xs ys w h h' hb hb'
theorem rGcd_E (A A' : Option Addr) (n c n' c' : Nat) (xs ys : List Nat) (w : World) (a b G : Nat) (h : Row w A n c xs) (h' : Row w A' n' c' ys) (ea : val xs = a) (eb : val ys = b) (hb : n ≤ 35184372087808) (hb' : n' ≤ 35184372087808)
  (eG : Nat.gcd a b = G) : Calls Try.prog 28 #[.slice A n c, .slice A' n' c'] w (Ret w G) := by
 subst ea eb eG; exact rGcd_any A A' n c n' c' xs ys w h h' hb hb'
theorem B3.drew {w : World} {g : Nat} {t : TypeId} {v0 v1 v2 : Value} (h : B3 w g t v0 v1 v2) : B3 w.drew g t v0 v1 v2 := h
theorem r2Norm_big (neg : Bool) (A A' : Option Addr) (n c n' c' : Nat) (xs ys : List Nat) (w : World) (h : Row w A n c xs) (h' : Row w A' n' c' ys) (hb : n ≤ 35184372087808) (hb' : n' ≤ 35184372087808) :
  Calls Try.prog 20 #[.agg #[.bool neg, .slice A n c, .slice A' n' c']] w (RatRet w (rv neg (val xs) (val ys))) := by
 have l1 : (limbs (val xs)).length ≤ 35184372087808 := by have := tl_le h.ok; rw [h.len] at this; unfold tl at this; omega
 have l2 : (limbs (val ys)).length ≤ 35184372087808 := by have := tl_le h'.ok; rw [h'.len] at this; unfold tl at this; omega
 have hT : Hid (∀ W, Below w.heap.size w W → Calls Try.prog 27 #[.slice A n c] W (Ret W (val xs))) := hid fun W hW => rTrim_any A n c xs W (h.below hW) (by omega)
 have hT' : Hid (∀ W, Below w.heap.size w W → Calls Try.prog 27 #[.slice A' n' c'] W (Ret W (val ys))) := hid fun W hW => rTrim_any A' n' c' ys W (h'.below hW) (by omega)
 clear h h'
 generalize val xs = N at *
 generalize val ys = D at *
 obtain ⟨q, hq⟩ : ∃ q, q = rv neg N D := ⟨_, rfl⟩
 rw [← hq]
 have HQ := hid hq
 clear hq
 have HB := hid (B3.new2 w (.cells #[.bool neg, .slice A n c, .slice A' n' c'] 25) 25 (.bool false) (.slice none 0 0) (.slice none 0 0) _ rfl)
 have HX := hid ((B3.new w 25 (.bool neg) (.slice A n c) (.slice A' n' c')).alloc (.cells #[.bool false, .slice none 0 0, .slice none 0 0] 25))
 obtain ⟨w0, hw0⟩ : ∃ w0, w0 = (w.alloc (.cells #[.bool neg, .slice A n c, .slice A' n' c'] 25)).alloc (.cells #[.bool false, .slice none 0 0, .slice none 0 0] 25) := ⟨_, rfl⟩
 go_enter Try.func20, Try.ntmps20
 go_upto_region 1 with fail
 have hb0 : Below w.heap.size w w0 := by rw [hw0]; exact Below.new_ (Below.new_ (Below.refl _ _) _) _
 rw [← hw0] at HB HX ⊢
 clear hw0
 go_cut [3, 4] (fun s3 s4 wc => ∃ A1 c1 A2 c2, s3 = .slice A1 (limbs N).length c1 ∧ s4 = .slice A2 (limbs D).length c2 ∧ Row wc A1 (limbs N).length c1 (limbs N) ∧ Row wc A2 (limbs D).length c2 (limbs D) ∧ Below w0.heap.size w0 wc)
 case first =>
  obtain ⟨k0, k1, k2, f0, f1, f2⟩ := HX.out.drew.cells
  go_region_law (first
   | (go_simp; go_at_call 27; ((with_reducible refine (hT.out _ (by repeat first | exact Below.refl _ _ | assumption | refine Pg.Below.then_ ?_ (by assumption) | refine Pg.Below.new_ ?_ _ | refine Go.RowKit.Below.drew ?_ | refine Pg.Below.drewN_ ?_ _)).mono ?_); rintro e w1 ⟨A1, c1, rfl, hr1, hb1⟩; obtain ⟨j0, j1, j2, _, _, _⟩ := (HX.out.drew.below hb1).cells))
   | (go_simp; go_at_call 27; ((with_reducible refine (hT'.out _ (by repeat first | exact Below.refl _ _ | assumption | refine Pg.Below.then_ ?_ (by assumption) | refine Pg.Below.new_ ?_ _ | refine Go.RowKit.Below.drew ?_ | refine Pg.Below.drewN_ ?_ _)).mono ?_); rintro e w2 ⟨A2, c2, rfl, hr2, hb2⟩)))
  all_goals
   go_wp2_with fail
   go_meet
   exact ⟨A1, c1, A2, c2, rfl, rfl, hr1.below hb2, hr2, Below.trans (Below.refl _ _).drew (Below.then_ hb1 hb2)⟩
 case rest =>
  obtain ⟨A1, c1, A2, c2, rfl, rfl, hr1, hr2, hbc⟩ := hcut
  have HBc := hid (HB.out.below hbc)
  have HXc := hid (HX.out.below hbc)
  have hbw := Below.then_ hb0 hbc
  clear HB HX hbc hb0 hT hT'
  by_cases hz : N = 0 ∨ D = 0
  ·have HQ0 : Hid (q = 0) := hid (by rw [HQ.out, rv_zero hz])
   have hz2 : D = 0 ∨ (D ≠ 0 ∧ N = 0) := by omega
   obtain ⟨k0, k1, k2, f0, f1, f2⟩ := (HBc.out.alloc (.cells #[.int .u32 1] 44)).cells
   have hBr := HBc.out.alloc (.cells #[.int .u32 1] 44)
   have hBR := hid hBr
   clear hz hBr
   have e0 : (limbs 0).length = 0 := rfl
   rcases hz2 with rfl | ⟨hn, rfl⟩
   ·go_wp2_with fail
    have hBr := hBR.out
    refine bodyPost_ret (by have q0 := fun u0 u1 u2 => (hBr.set u0 u1 u2).cells.1; have q1 := fun u0 u1 u2 => (hBr.set u0 u1 u2).cells.2.1; have q2 := fun u0 u1 u2 => (hBr.set u0 u1 u2).cells.2.2.1; simp [results, Try.results20, go_sem, q0, q1, q2]) rfl (RatRet.put hBr (by omega) (by repeat first | exact Below.refl _ _ | assumption | refine Pg.Below.then_ ?_ (by assumption) | refine Pg.Below.new_ ?_ _ | refine Go.RowKit.Below.drew ?_ | refine Pg.Below.drewN_ ?_ _) (by rw [HQ0.out]; first | done | rfl) (by rw [HQ0.out]; first | done | rfl) (by rw [HQ0.out]; first | done | rfl) (Row.nil _) (Row.one _ _ _ 1 _ rfl rfl (by omega)) rfl limbs_one.symm)
   ·have l0 : (((limbs D).length : Int) == 0) = false := by have := (tl_top hn).1; exact beq_eq_false_iff_ne.2 (by omega)
    clear hn
    go_wp2_with fail
    have hBr := hBR.out
    refine bodyPost_ret (by have q0 := fun u0 u1 u2 => (hBr.set u0 u1 u2).cells.1; have q1 := fun u0 u1 u2 => (hBr.set u0 u1 u2).cells.2.1; have q2 := fun u0 u1 u2 => (hBr.set u0 u1 u2).cells.2.2.1; simp [results, Try.results20, go_sem, q0, q1, q2]) rfl (RatRet.put hBr (by omega) (by repeat first | exact Below.refl _ _ | assumption | refine Pg.Below.then_ ?_ (by assumption) | refine Pg.Below.new_ ?_ _ | refine Go.RowKit.Below.drew ?_ | refine Pg.Below.drewN_ ?_ _) (by rw [HQ0.out]; first | done | rfl) (by rw [HQ0.out]; first | done | rfl) (by rw [HQ0.out]; first | done | rfl) (Row.nil _) (Row.one _ _ _ 1 _ rfl rfl (by omega)) rfl limbs_one.symm)
  ·have hn : N ≠ 0 := by omega
   have hd : D ≠ 0 := by omega
   have l0 : (((limbs N).length : Int) == 0) = false := by have := (tl_top hn).1; exact beq_eq_false_iff_ne.2 (by omega)
   have l0' : (((limbs D).length : Int) == 0) = false := by have := (tl_top hd).1; exact beq_eq_false_iff_ne.2 (by omega)
   have hq1 : neg = rneg q := by rw [HQ.out, rv_neg hn hd]
   have hq2 : N / Nat.gcd N D = rnum q := by rw [HQ.out, rv_num neg N hd]
   have hq3 : D / Nat.gcd N D = q.den := by rw [HQ.out, rv_den neg N hd]
   have hgp : 0 < Nat.gcd N D := Nat.gcd_pos_of_pos_left _ (by omega)
   have hgl := Nat.le_trans (limbs_mono (Nat.gcd_le_left D (by omega : 0 < N))) l1
   obtain ⟨G, hG⟩ : ∃ G, Nat.gcd N D = G := ⟨_, rfl⟩
   rw [hG] at hq2 hq3 hgp hgl
   have HQ2 := hid (And.intro hq1 (And.intro hq2 hq3))
   have HG := hid hG
   have E3 : Hid (dmb G = true) := hid (by simp [dmb]; omega)
   clear hq1 hq2 hq3 hG hz hn hd hgp
   go_wp2_with (first
    | (go_at_call 28; ((with_reducible refine (rGcd_E A1 A2 _ c1 _ c2 _ _ _ N D G hr1 hr2 (val_limbs _) (val_limbs _) (by first | omega | assumption) (by first | omega | assumption) HG.out).mono ?_)); rintro e w3 ⟨A3, c3, rfl, hr3, hb3⟩)
    | (go_at_call 29; ((with_reducible refine (rDivMod_E A1 A3 _ c1 _ c3 _ _ _ N G (rnum q) _ true (hr1.below hb3) hr3 (val_limbs _) (val_limbs _) (by first | omega | assumption) (by first | omega | assumption) HQ2.out.2.1 rfl E3.out).mono ?_)); rintro e w4 ⟨A4, c4, A5, c5, rfl, hr4, hr5, hb4⟩)
    | (go_at_call 29; ((with_reducible refine (rDivMod_E A2 A3 _ c2 _ c3 _ _ _ D G q.den _ true ((hr2.below hb3).below hb4) (hr3.below hb4) (val_limbs _) (val_limbs _) (by first | omega | assumption) (by first | omega | assumption) HQ2.out.2.2 rfl E3.out).mono ?_)); rintro e w5 ⟨A6, c6, A7, c7, rfl, hr6, hr7, hb5⟩; have hBr := ((HBc.out.below hb3).below hb4).below hb5; obtain ⟨k0, k1, k2, f0, f1, f2⟩ := hBr.cells; obtain ⟨j0, j1, j2, i0, i1, i2⟩ := (((HXc.out.below hb3).below hb4).below hb5).cells))
   refine bodyPost_ret (by have q0 := fun u0 u1 u2 => (hBr.set u0 u1 u2).cells.1; have q1 := fun u0 u1 u2 => (hBr.set u0 u1 u2).cells.2.1; have q2 := fun u0 u1 u2 => (hBr.set u0 u1 u2).cells.2.2.1; simp [results, Try.results20, go_sem, q0, q1, q2]) rfl (RatRet.put hBr (by omega) (by repeat first | exact Below.refl _ _ | assumption | refine Pg.Below.then_ ?_ (by assumption) | refine Pg.Below.new_ ?_ _ | refine Go.RowKit.Below.drew ?_ | refine Pg.Below.drewN_ ?_ _) HQ2.out.1 rfl rfl (hr4.below hb5) hr6 rfl rfl)
theorem r2Norm_any (neg : Bool) (A A' : Option Addr) (n c n' c' : Nat) (xs ys : List Nat) (w : World) (h : Row w A n c xs) (h' : Row w A' n' c' ys) (hb : n ≤ 1048576) (hb' : n' ≤ 1048576) :
  Calls Try.prog 20 #[.agg #[.bool neg, .slice A n c, .slice A' n' c']] w (RatRet w (rv neg (val xs) (val ys))) :=
 r2Norm_big neg A A' n c n' c' xs ys w h h' (by omega) (by omega)
end Go.Proofs.Ytahdlpkncemmaaa
