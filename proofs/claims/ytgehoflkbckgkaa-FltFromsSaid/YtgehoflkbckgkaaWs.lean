/- Walk: nat.long. Conditions: rows of at most 2^30 limbs, the divisor's top limb above 0. -/
import Derived.Test.YtgehoflkbckgkaaWr
import Derived.Test.YtgehoflkbckgkaaLongP
namespace Go.Proofs.Ytgehoflkbckgkaa
open Go.RowKit Pg

theorem _root_.Pg.Blk.setOther {w : World} {g t : Nat} {cs : List Nat} (h : Blk w g t cs) (a : Addr) (u : Value) (hne : g ≠ a.block) : Blk (w.setCell a u) g t cs :=
  blk_grown h (grown_set w a u) hne

theorem lead32_any (x : Nat) (w : World) (xI : Int) (ex : xI = (x : Int)) (hx : x < 4294967296) :
    Calls Try.prog 75 #[.int .u32 xI] w fun e w' => e = .returned (.int .i64 ((32 - blen x : Nat) : Int)) ∧ w = w' := by
  subst ex
  have hb := blen_le hx
  refine (Try.bits_LeadingZeros32 (x : Int) w (by omega) (by omega)).mono fun e w' ⟨he, hw⟩ => ⟨?_, hw.symm⟩
  rw [he, Int.toNat_natCast, bitLen_eq hx]
  exact congrArg (fun z => Ending.returned (Value.int .i64 z)) (by omega)

/-- The guess of three limbs by two. -/
abbrev gq_of (a b c d e : Nat) : Nat := gq ((a * 4294967296 + b) * 4294967296 + c) (d * 4294967296 + e)

set_option maxRecDepth 100000 in
set_option maxHeartbeats 3000000 in
/-- nat.long. -/
theorem long_any (A A' : Option Addr) (m c N c' : Nat) (xs ys : List Nat) (w : World) (h : Row w A m c xs) (h' : Row w A' N c' ys) (hm : m ≤ 1073741824) (hN : 2 ≤ N) (hNm : N ≤ m) (ht : 0 < lim ys (N - 1)) :
    Calls Try.prog 66 #[.slice A m c, .slice A' N c'] w fun e w' => ∃ A1 c1 A2 c2,
      e = .returned (.tuple #[.slice A1 (limbs (val xs / val ys)).length c1, .slice A2 (limbs (val xs % val ys)).length c2]) ∧
      Row w' A1 (limbs (val xs / val ys)).length c1 (limbs (val xs / val ys)) ∧ Row w' A2 (limbs (val xs % val ys)).length c2 (limbs (val xs % val ys)) ∧ Below w.heap.size w w' := by
  obtain ⟨y, hy⟩ : ∃ y, y = 32 - blen (lim ys (N - 1)) := ⟨_, rfl⟩
  obtain ⟨hy31, s1, s2, s3, s4, s5⟩ := long_setup h.ok h.len h'.ok (N := N - 1) (by rw [h'.len]; omega) ht (by omega) y hy
  rw [show N - 1 + 1 = N by omega] at s2
  rw [show m - (N - 1) = m - N + 1 by omega] at s4
  obtain ⟨l, hl⟩ : ∃ l, l = m - N + 1 := ⟨_, rfl⟩
  rw [← hl] at s4
  have hmk := run_make_row (P := Try.prog) 26 50 Try.underlying26 info32 ((m : Int) - (N : Int) + 1) l (by omega) (by omega)
  have hl0 : 0 < l := by omega
  have hl1 : l ≤ m := by omega
  have HL := hid hl
  clear hl
  have S1 := hid s1
  have S2 := hid s2
  have S3 := hid s3
  have S4 := hid s4
  have S5 := hid s5
  clear s1 s2 s3 s4 s5
  have HY := hid hy
  clear hy
  obtain ⟨M, hM⟩ : ∃ M, M = m + 1 := ⟨_, rfl⟩
  rw [← hM] at S1
  have hMN : N < M := by omega
  have HM := hid hM
  clear hM
  have hx1 := h.nc
  have hx2 := h.cm
  have hy1 := h'.nc
  have hy2 := h'.cm
  have hlt := lim_lt h'.ok (N - 1)
  obtain ⟨b, o, rfl, hc⟩ := h'.at_ (by omega)
  have g1 := hc (N - 1) (by omega)
  clear hc
  go_enter Try.func66, Try.ntmps66
  go_upto_region 2 with (go_at_call 75; refine (lead32_any (lim ys (N - 1)) _ _ rfl hlt).mono ?_; rw [← HY.out]; rintro e w' ⟨rfl, rfl⟩)
  clear hlt g1
  go_wp2_with (first
    | (go_at_call 59; (with_reducible refine (left_I A m c y M xs w (y : Int) ((m : Int) + 1) rfl (by have := HM.out; omega) h (by omega) (by have := HM.out; omega) (by have := HM.out; omega)).mono ?_); rintro e w1 ⟨gu, us, rfl, hul, ⟨huok, hv⟩, hblk, hge, hb1⟩)
    | (go_at_call 59; (with_reducible refine (left_I (some ⟨b, o, none⟩) N c' y N ys w1 (y : Int) (N : Int) rfl rfl (h'.below hb1) (by omega) (by omega) (by omega)).mono ?_); rintro e w2 ⟨gd, ds, rfl, hdl, ⟨hdok, hvd⟩, hblkd, hged, hb2⟩))
  have HD : Hid (val ds = val ys * 2 ^ y) := hid (hvd.out.trans S2.out)
  have HU : Hid (val us = val xs * 2 ^ y) := hid (hv.out.trans S1.out)
  have hpos : 0 < lim ds (N - 1) := top_pos hdok (N := N - 1) (by rw [hdl.out]; omega) (by rw [HD.out]; exact S3.out)
  have H0 : Hid (0 < val ds) := hid (by rw [HD.out]; exact Nat.mul_pos S5.out (Nat.two_pow_pos y))
  have hug := hblk.lt
  have hdg := hblkd.lt
  have hs1 := hb1.size
  have hs2 := hb2.size
  have hbel : Below w.heap.size w w2 := Below.then_ hb1 hb2
  have hblku := hblk.below hb2
  have hne : gd ≠ gu := by omega
  obtain ⟨gq, hgq⟩ : ∃ gq, gq = w2.heap.size := ⟨_, rfl⟩
  have hbq := Blk.new w2 50 (List.replicate l 0)
  rw [← hgq] at hbq ⊢
  have hbu := hblku.alloc (.cells (u32s (List.replicate l 0)).toArray 50)
  have hbd := hblkd.alloc (.cells (u32s (List.replicate l 0)).toArray 50)
  have hbl := Below.alloc hbel hbel.size (.cells (u32s (List.replicate l 0)).toArray 50)
  generalize w2.alloc (.cells (u32s (List.replicate l 0)).toArray 50) = w3 at *
  have hq1 : gq ≠ gu := by omega
  have hq2 : gq ≠ gd := by omega
  have hq3 : w.heap.size ≤ gq := by omega
  clear hgq
  have hstart : LongInv us (val ds) M l l us (List.replicate l 0) := by
    have e := hul.out
    rw [← e]
    exact LongInv.start huok (by rw [HU.out, HD.out]; exact S4.out)
  clear hb1 hb2 hblk hblkd hblku h h' hs1 hs2 hv hvd
  clear hbel
  go_loopw [10, 11] (fun s10 _ wr => ∃ j us' qs, ∃ iI : Int, j ≤ l ∧ s10 = .int .i64 iI ∧ iI + 1 = (j : Int) ∧ LongInv us (val ds) M l j us' qs ∧ Blk wr gu 50 us' ∧ Blk wr gd 50 ds ∧ Blk wr gq 50 qs ∧ Below w.heap.size w wr) (fun s10 _ _ => (intOf s10 + 1).toNat)
  case atStart => exact ⟨l, us, _, _, Nat.le_refl _, rfl, by omega, hstart, hbu, hbd, hbq, hbl⟩
  case round =>
    clear hbu hbd hbq hbl hstart
    obtain ⟨j, us', qs, iI, hj, rfl, hji, hinv, hbu, hbd, hbq, hbl⟩ := hrel
    rcases j with _ | i
    · obtain rfl : iI = -1 := by omega
      obtain ⟨d1, d2, d3⟩ := LongInv.done (a := val xs) (b := val ys) (y := y) (us0 := us) (m := M) (l := l) (us := us') (qs := qs) (by rw [← HD.out]; exact hinv) HU.out S5.out
      have hlq := hinv.qlen
      have hlu := hinv.ulen
      have hrq := hbq.row hinv.qok (by rw [hlq]; omega)
      have hru := hbu.row hinv.uok (by rw [hlu]; have := HM.out; omega)
      rw [hlq] at hrq
      rw [hlu] at hru
      have hru2 := hru.take (m := N) (by omega)
      have hvt : val (us'.take N) = val us' := take_all (by
        have h1 := val_lt hdok
        rw [hdl.out, HD.out] at h1
        omega)
      have HTrim : Hid (∀ W, Below wr.heap.size wr W → Calls Try.prog 56 #[.slice (some ⟨gq, 0, none⟩) l l] W fun e w' => e = .returned (.slice (some ⟨gq, 0, none⟩) (limbs (val xs / val ys)).length l) ∧ W = w') := hid (fun W hW => by
        rw [← d1]
        exact trim_any _ _ _ _ _ (hrq.below hW))
      have HRow : Hid (∀ W, Below wr.heap.size wr W → Row W (some ⟨gq, 0, none⟩) (limbs (val xs / val ys)).length l (limbs (val xs / val ys))) := hid (fun W hW => by
        rw [← d1]
        exact (hrq.below hW).trim)
      have HShift : Hid (∀ W (d : Int), Below wr.heap.size wr W → d = -(y : Int) → Calls Try.prog 35 #[.slice (some ⟨gu, 0, none⟩) N M, .int .i64 d] W (Ret W (val xs % val ys))) := hid (fun W d hW hd => by
        subst hd
        rw [← d2]
        have := Shift_any (some ⟨gu, 0, none⟩) N M (-(y : Int)) (us'.take N) W (hru2.below hW) (by omega)
        rw [hvt, show clampD (-(y : Int)) = -(y : Int) by unfold clampD; split <;> split <;> omega, shv_back _ _ hy31] at this
        exact this)
      clear d1 d2 d3 hlq hlu hrq hru hru2 hvt hinv hbu hbd hbq
      go_wp2_with fail
      have v1 : IntKind.i64.wrap (y : Int) = (y : Int) := IntWalk.i64_in _ (by omega)
      have v2 : IntKind.i64.wrap (-(y : Int)) = -(y : Int) := IntWalk.i64_in _ (by omega)
      have v3 : (0 : Int) ≤ (N : Int) := by omega
      have v4 : (N : Int) ≤ (M : Int) := by omega
      go_region_law (first
        | (go_simp; go_at_call 56; refine (HTrim.out _ (by first | exact Below.refl _ _ | exact (Below.refl _ _).drew | exact hb5)).mono ?_; rintro e w' ⟨rfl, rfl⟩)
        | (go_simp; go_at_call 35; refine (HShift.out _ _ (by first | exact Below.refl _ _ | exact (Below.refl _ _).drew) (by first | rfl | exact v2)).mono ?_; rintro e w5 ⟨A5, c5, rfl, hr5, hb5'⟩; have hb5 := (Below.refl wr.heap.size wr).drew.trans hb5'))
      all_goals
        go_wp2_with fail
        go_ret2
        exact ⟨_, _, _, _, rfl, HRow.out _ hb5, hr5, hbl.trans (hb5.mono hbl.size)⟩
    · obtain rfl : iI = (i : Int) := by omega
      obtain ⟨k1, k2, k3, k4⟩ := hinv.guess' hdok hN hdl.out hpos
      have hiN : i + N < M := by have := HM.out; have := HL.out; omega
      have a0 := lim_lt hinv.uok (i + N)
      have a1 := lim_lt hinv.uok (i + N - 1)
      have a2 := lim_lt hinv.uok (i + N - 2)
      have a3 := lim_lt hdok (N - 1)
      have a4 := lim_lt hdok (N - 2)
      have c0 := hbu.cell (i := i + N) (by rw [hinv.ulen]; omega)
      have c1 := hbu.cell (i := i + N - 1) (by rw [hinv.ulen]; omega)
      have c2 := hbu.cell (i := i + N - 2) (by rw [hinv.ulen]; omega)
      have c3 := hbd.cell (i := N - 1) (by rw [hdl.out]; omega)
      have c4 := hbd.cell (i := N - 2) (by rw [hdl.out]; omega)
      have K1 := hid k1
      have K34 := hid (And.intro k3 k4)
      clear k1 k3 k4
      obtain ⟨x, hx⟩ : ∃ x, x = gq_of (lim us' (i + N)) (lim us' (i + N - 1)) (lim us' (i + N - 2)) (lim ds (N - 1)) (lim ds (N - 2)) := ⟨_, rfl⟩
      have hcall : ∀ W : World, Calls Try.prog 76 #[.int .u32 ((lim us' (i + N) : Nat) : Int), .int .u32 ((lim us' (i + N - 1) : Nat) : Int), .int .u32 ((lim us' (i + N - 2) : Nat) : Int), .int .u32 ((lim ds (N - 1) : Nat) : Int), .int .u32 ((lim ds (N - 2) : Nat) : Int)] W fun e w' =>
          e = .returned (.int .u64 (x : Int)) ∧ ∃ m, w' = W.drewN m := fun W => by
        rw [hx]
        exact guess_any _ _ _ _ _ W _ _ _ _ _ rfl rfl rfl rfl rfl a0 a1 a2 a3 a4 hpos k2
      have hxl : x < 4294967296 := by rw [hx]; exact gq_lt _ _
      have HX : Hid (val us' / 4294967296 ^ i / val ds ≤ x ∧ x ≤ val us' / 4294967296 ^ i / val ds + 1) := hid (by rw [hx]; exact K34.out)
      clear hx K34 a0 a1 a2 a3 a4 k2
      have v0 : IntKind.i64.wrap ((i : Int) + (N : Int)) = (i : Int) + (N : Int) := IntWalk.i64_in _ (by omega)
      have v1 : IntKind.i64.wrap ((i : Int) + (N : Int) - 1) = (i : Int) + (N : Int) - 1 := IntWalk.i64_in _ (by omega)
      have v2 : IntKind.i64.wrap ((i : Int) + (N : Int) - 2) = (i : Int) + (N : Int) - 2 := IntWalk.i64_in _ (by omega)
      have v3 : IntKind.i64.wrap ((N : Int) - 1) = (N : Int) - 1 := IntWalk.i64_in _ (by omega)
      have v4 : IntKind.i64.wrap ((N : Int) - 2) = (N : Int) - 2 := IntWalk.i64_in _ (by omega)
      have n0 : ((i : Int) + (N : Int)).toNat = i + N := by omega
      have n1 : ((i : Int) + (N : Int) - 1).toNat = i + N - 1 := by omega
      have n2 : ((i : Int) + (N : Int) - 2).toNat = i + N - 2 := by omega
      have n3 : ((N : Int) - 1).toNat = N - 1 := by omega
      have n4 : ((N : Int) - 2).toNat = N - 2 := by omega
      have p0 : (0 : Int) ≤ (i : Int) + (N : Int) := by omega
      have p1 : (0 : Int) ≤ (i : Int) + (N : Int) - 1 := by omega
      have p2 : (0 : Int) ≤ (i : Int) + (N : Int) - 2 := by omega
      have p3 : (0 : Int) ≤ (N : Int) - 1 := by omega
      have p4 : (0 : Int) ≤ (N : Int) - 2 := by omega
      have q0 : (i : Int) + (N : Int) < (M : Int) := by omega
      have q1 : (i : Int) + (N : Int) - 1 < (M : Int) := by omega
      have q2 : (i : Int) + (N : Int) - 2 < (M : Int) := by omega
      have q3 : (N : Int) - 1 < (N : Int) := by omega
      have q4 : (N : Int) - 2 < (N : Int) := by omega
      go_wp2_with fail
      go_quiet ((go_at_call 76; exact Calls.quiet_of (hcall _)))
      clear v0 v1 v2 v3 v4 n0 n1 n2 n3 n4 p0 p1 p2 p3 p4 q0 q1 q2 q3 q4 c0 c1 c2 c3 c4 hcall
      have hcn : ¬ M = i := by omega
      have hbu2 := hbu.drewN nq
      have hbd2 := hbd.drewN nq
      have hbq2 := hbq.drewN nq
      have hbl2 := Pg.Below.drewN_ hbl nq
      generalize wr.drewN nq = wr2 at *
      clear hbu hbd hbq hbl
      have hMm : M ≤ m + 1 := by have := HM.out; omega
      have hcall2 : Calls Try.prog 77 #[.slice (some ⟨gu, i, none⟩) (i + N + 1 - i) (M - i), .slice (some ⟨gd, 0, none⟩) N N, .int .u64 (x : Int)] wr2 fun e w' =>
          ∃ cs, e = .returned (.bool (decide (val us' < 4294967296 ^ i * (x * val ds)))) ∧ Took us' i N x (val ds) (decide (val us' < 4294967296 ^ i * (x * val ds))) cs ∧ Blk w' gu 50 cs ∧ wr2.grownBy w' (some gu) := by
        rw [show i + N + 1 - i = N + 1 by omega]
        refine (takes_any gu gd i N (M - i) x us' ds wr2 hbu2 hinv.uok (by rw [hinv.ulen]; exact hiN) hbd2 hdok hdl.out hne (by omega) hxl K1.out (by omega) (by omega)).mono ?_
        rintro e w' ⟨b, cs, he, ht, h1, h2⟩
        rw [← ht.says]
        exact ⟨cs, he, ht, h1, h2⟩
      have hx0 : decide (val us' < 4294967296 ^ i * (x * val ds)) = true → 0 < x := by
        intro hd
        have hd2 := of_decide_eq_true hd
        rcases Nat.eq_zero_or_pos x with h0 | h0
        · rw [h0, Nat.zero_mul, Nat.mul_zero] at hd2; omega
        · exact h0
      generalize decide (val us' < 4294967296 ^ i * (x * val ds)) = tb at *
      have HC2 := hid hcall2
      clear hcall2
      rcases tb with _ | _
      · go_wp2_with (go_at_call 77; refine (HC2.out).mono ?_; rintro e w4 ⟨cs, rfl, htook, hbu4, hgr⟩; have hbd4 := blk_grown hbd2 hgr hne; have hbq4 := blk_grown hbq2 hgr hq1; have g0 := hbq4.cell (i := i) (by rw [hinv.qlen]; omega); have hfz := hbq4.frozen i)
        obtain ⟨t1, _, t3, t4⟩ := htook.digit hinv.uok H0.out K1.out HX.out
        have t1' : x = val us' / 4294967296 ^ i / val ds := t1
        rw [← t1'] at t3 t4
        have hnext := hinv.step (by omega) htook.len htook.ok x hxl t3 t4
        clear t1 t1' t3 t4
        go_roundw
        case rel => exact ⟨i, cs, _, _, by omega, rfl, by omega, hnext, Pg.Blk.setOther hbu4 _ _ hq1.symm, Pg.Blk.setOther hbd4 _ _ hq2.symm, hbq4.set i _ _ (by go_num), (hbl2.grown hgr hbl2.size (by intro k hk; injection hk with hk; omega)).setCell hq3 _⟩
        case measure => simp [intOf]
      · have hxp : 0 < x := hx0 rfl
        have e1 : ((x : Int) - 1) % 18446744073709551616 = ((x - 1 : Nat) : Int) := by omega
        go_wp2_with (go_at_call 77; refine (HC2.out).mono ?_; rintro e w4 ⟨cs, rfl, htook, hbu4, hgr⟩; have hbd4 := blk_grown hbd2 hgr hne; have hbq4 := blk_grown hbq2 hgr hq1; have g0 := hbq4.cell (i := i) (by rw [hinv.qlen]; omega); have hfz := hbq4.frozen i)
        obtain ⟨t1, _, t3, t4⟩ := htook.digit hinv.uok H0.out K1.out HX.out
        have t1' : x - 1 = val us' / 4294967296 ^ i / val ds := t1
        rw [← t1'] at t3 t4
        have hnext := hinv.step (by omega) htook.len htook.ok (x - 1) (by omega) t3 t4
        clear t1 t1' t3 t4
        go_roundw
        case rel => exact ⟨i, cs, _, _, by omega, rfl, by omega, hnext, Pg.Blk.setOther hbu4 _ _ hq1.symm, Pg.Blk.setOther hbd4 _ _ hq2.symm, hbq4.set i _ _ (by go_num), (hbl2.grown hgr hbl2.size (by intro k hk; injection hk with hk; omega)).setCell hq3 _⟩
        case measure => simp [intOf]
end Go.Proofs.Ytgehoflkbckgkaa
