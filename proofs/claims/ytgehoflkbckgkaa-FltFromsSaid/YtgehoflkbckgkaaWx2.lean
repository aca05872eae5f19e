/- Walk: pantographref1.DivMod, bit by bit. Conditions: rows of at most 2^20 limbs. -/
import Derived.Test.YtgehoflkbckgkaaWx1
namespace Go.Proofs.Ytgehoflkbckgkaa
open Go.RowKit Pg

theorem walk_orb {l s : Nat} (hl : l < 4294967296) (hs : s < 32) : bits .or .u32 (l : Int) ((2 : Int) ^ s % 4294967296) = ((l ||| 2 ^ s : Nat) : Int) := by
  have h : 2 ^ s < 2 ^ 32 := Nat.pow_lt_pow_right (by omega) hs
  have e : ((2 : Int) ^ s % 4294967296) = ((2 ^ s : Nat) : Int) := by
    rw [show ((2 : Int) ^ s) = ((2 ^ s : Nat) : Int) by rw [Int.natCast_pow]; rfl]
    generalize 2 ^ s = x at *
    omega
  rw [e, u32_or_nat _ _ hl h]

set_option maxRecDepth 100000 in
set_option maxHeartbeats 3000000 in
theorem rDivMod_bits (A A' : Option Addr) (n c n' c' a b : Nat) (xs ys : List Nat) (w : World) (h : Row w A n c xs) (h' : Row w A' n' c' ys) (hb : n ≤ 1048576) (hb' : n' ≤ 1048576) (HA : Hid (a = val xs)) (HB : Hid (b = val ys)) (hbp : 0 < b)
    (lb : (((limbs b).length : Int) == 0) = false) (hTb : Hid (Calls Try.prog 60 #[.slice A' n' c'] w (Ret w b)))
    (hTo : Hid (∀ W, Below w.heap.size w W → Calls Try.prog 53 #[.slice A n c] W fun e w' => e = .returned (.tuple #[.int .u64 ((to64 a : Nat) : Int), .bool (is64 a)]) ∧ Below W.heap.size W w'))
    (hTo' : Hid (∀ W, Below w.heap.size w W → Calls Try.prog 53 #[.slice A' n' c'] W fun e w' => e = .returned (.tuple #[.int .u64 ((to64 b : Nat) : Int), .bool (is64 b)]) ∧ Below W.heap.size W w'))
    (hs : ¬ (is64 a = true ∧ is64 b = true)) (hl : 4294967296 ≤ b) :
    Calls Try.prog 63 #[.slice A n c, .slice A' n' c'] w (Ret3 w (a / b) (a % b) true) := by
  have h1 := h.nc
  have h2 := h.cm
  have h1' := h'.nc
  have h2' := h'.cm
  have hn32 : (32 : Int) * (n : Int) ≤ 33554432 := by omega
  have HL := hid hl
  have HS := hid hs
  clear hl hs
  generalize is64 a = ta at *
  have h64 : is64 b = true → to64 b = b := fun e => (is64_true e).2
  have H64 := hid h64
  clear h64
  generalize is64 b = tb at *
  generalize to64 b = xb at *
  generalize to64 a = xa at *
  have hmk := run_make_row (P := Try.prog) 26 50 Try.underlying26 info32 (n : Int) n rfl (by omega)
  go_enter Try.func63, Try.ntmps63
  go_upto_region 5 with (first
    | (go_at_call 60; refine (hTb.out).mono ?_; rintro e w1 ⟨A1, c1, rfl, hr1, hb1⟩)
    | (go_at_call 53; ((with_reducible refine (hTo.out _ hb1).mono ?_); rintro e w2 ⟨rfl, hb2⟩))
    | (go_at_call 53; ((with_reducible refine (hTo'.out _ (Pg.Below.then_ hb1 hb2)).mono ?_); rintro e w3 ⟨rfl, hb3⟩)))
  have hbel := Pg.Below.then_ (Pg.Below.then_ hb1 hb2) hb3
  clear hb1 hb2 hb3 hr1
  go_cut [33] (fun s33 wc => s33 = .bool false ∧ wc = w3)
  case first =>
    rcases ta with _ | _
    · go_wp2_with fail
      go_meet
      exact ⟨rfl, rfl⟩
    · rcases tb with _ | _
      · go_wp2_with fail
        go_meet
        exact ⟨rfl, rfl⟩
      · exact absurd ⟨rfl, rfl⟩ HS.out
  case rest =>
    obtain ⟨rfl, rfl⟩ := hcut
    go_upto_region 7 with fail
    go_cut [46] (fun s46 wd => s46 = .bool false ∧ wd = wc)
    case first =>
      rcases tb with _ | _
      · go_wp2_with fail
        go_meet
        exact ⟨rfl, rfl⟩
      · have t1 : decide ((xb : Int) < 4294967296) = false := by have := HL.out; have e := H64.out rfl; simp; omega
        go_wp2_with fail
        go_meet
        exact ⟨rfl, rfl⟩
    case rest =>
      obtain ⟨rfl, rfl⟩ := hcut
      clear hTb hTo hTo' lb HS H64
      go_wp2_with fail
      obtain ⟨gq, hgq⟩ : ∃ gq, gq = wc.heap.size := ⟨_, rfl⟩
      have hbq := Blk.new wc 50 (List.replicate n 0)
      rw [← hgq] at hbq ⊢
      have hb3 := Below.alloc hbel hbel.size (.cells (u32s (List.replicate n 0)).toArray 50)
      have hq3 : w.heap.size ≤ gq := by have := hbel.size; omega
      clear hgq
      generalize wc.alloc (.cells (u32s (List.replicate n 0)).toArray 50) = w4 at *
      have hlb : (limbs b).length ≤ 1048576 := by rw [HB.out]; have := tl_le h'.ok; rw [h'.len] at this; unfold tl at this; omega
      have hla : a < 2 ^ (32 * n) := by
        have := val_lt h.ok
        rw [h.len, ← HA.out, base_pow] at this
        exact this
      have HLA := hid hla
      have hxl := hid h.len
      clear hla hbel
      go_loopw [14, 15] (fun s14 s15 wr => ∃ k R cs A1 c1, ∃ iI : Int, k ≤ 32 * n ∧ s15 = .int .i64 iI ∧ iI + 1 = (k : Int) ∧ s14 = .slice A1 (limbs R).length c1 ∧ Row wr A1 (limbs R).length c1 (limbs R) ∧ R < b ∧ Hid (R = a / 2 ^ k % b) ∧ Blk wr gq 50 cs ∧ Ok cs ∧ Hid (cs.length = n) ∧ Hid (val cs = a / 2 ^ k / b * 2 ^ k) ∧ Below w.heap.size w wr) (fun _ s15 _ => (intOf s15 + 1).toNat)
      case atStart =>
        have e0 : a / 2 ^ (32 * n) = 0 := Nat.div_eq_of_lt HLA.out
        exact ⟨32 * n, 0, _, none, 0, _, Nat.le_refl _, rfl, by omega, rfl, Row.nil _, hbp, hid (by rw [e0]; simp), hbq, ok_replicate _, by simp [Hid], hid (by rw [e0, val_replicate]; simp), hb3⟩
      case round =>
        obtain ⟨k, R, cs, A1, c1, iI, hk, rfl, hi, rfl, hR, hRb, HR, hblk, hok, hcl, HV, hbel⟩ := hrel
        have hlr := Nat.le_trans (limbs_mono (Nat.le_of_lt hRb)) hlb
        rcases k with _ | i
        · obtain rfl : iI = -1 := by omega
          have hrq := hblk.row hok (by rw [hcl.out]; omega)
          rw [hcl.out] at hrq
          have e1 : val cs = a / b := by rw [HV.out]; simp
          have e2 : R = a % b := by rw [HR.out]; simp
          have E1 := hid e1
          have E2 := hid e2
          clear e1 e2
          go_wp2_with (first
            | (go_at_call 60; ((with_reducible refine (rTrim_any _ _ _ cs _ hrq (by omega)).mono ?_); rintro e w5 ⟨A5, c5, rfl, hr5, hb5⟩))
            | (go_at_call 60; ((with_reducible refine (rTrim_any _ _ _ _ _ (hR.below hb5) (by omega)).mono ?_); rintro e w6 ⟨A6, c6, rfl, hr6, hb6⟩)))
          go_ret3
          exact Ret3.of_rows (hr5.below hb6) hr6 (by rw [E1.out]) (by rw [val_limbs, E2.out]) (by repeat first | exact Below.refl _ _ | assumption | refine Pg.Below.then_ ?_ (by assumption) | refine Pg.Below.new_ ?_ _ | refine Pg.Below.drewN_ ?_ _)
        · obtain rfl : iI = (i : Int) := by omega
          have hi32 : i / 32 < n := by omega
          obtain ⟨bb, o, rfl, hc⟩ := h.at_ (by omega)
          have hbw := h.lt (by omega) rfl
          have hc0 := hc (i / 32) hi32
          have hxi := lim_lt h.ok (i / 32)
          clear hc
          have HSh : Hid (∀ W, Below wr.heap.size wr W → Calls Try.prog 37 #[.slice A1 (limbs R).length c1, .int .i64 1] W (Ret W (2 * R))) := hid fun W hW => by
            have := rShift_any A1 _ c1 1 _ W (hR.below hW) (by omega)
            rw [val_limbs, show shv R (clampD 1) = 2 * R by rw [show clampD 1 = ((1 : Nat) : Int) by decide, shv_pos]; omega] at this
            exact this
          have hbit : (bits .and .u32 (((lim xs (i / 32) : Nat) : Int) / 2 ^ (i % 32)) 1 == 1) = decide (a / 2 ^ i % 2 = 1) := by
            have e1 : ((lim xs (i / 32) : Nat) : Int) / 2 ^ (i % 32) = ((lim xs (i / 32) / 2 ^ (i % 32) : Nat) : Int) := by
              rw [Int.natCast_ediv, Int.natCast_pow]; rfl
            have e2 : lim xs (i / 32) / 2 ^ (i % 32) < 4294967296 := Nat.lt_of_le_of_lt (Nat.div_le_self _ _) hxi
            have e3 : bits .and .u32 (((lim xs (i / 32) / 2 ^ (i % 32) : Nat)) : Int) ((1 : Nat) : Int) = ((lim xs (i / 32) / 2 ^ (i % 32) % 2 : Nat) : Int) := by
              rw [u32_and_nat _ _ e2 (by omega), Nat.and_one_is_mod]
            rw [e1]
            rw [show (1 : Int) = ((1 : Nat) : Int) from rfl, e3, HA.out, ← bit_limb h.ok i]
            generalize lim xs (i / 32) / 2 ^ (i % 32) % 2 = t
            by_cases ht : t = 1
            · subst ht; rfl
            · rw [decide_eq_false ht]; exact beq_eq_false_iff_ne.2 (by omega)
          have hlT : ∀ t, t ≤ 2 * R + 1 → (limbs t).length ≤ 1048577 := fun t ht => by have := limbs_double hRb ht; omega
          have hlT2 := hid hlT
          clear hlT
          by_cases hone : a / 2 ^ i % 2 = 1
          · rw [decide_eq_true hone] at hbit
            obtain ⟨T, hT⟩ : ∃ T, T = 2 * R + 1 := ⟨_, rfl⟩
            have hTT := hid hT
            have l2R := hlT2.out (2 * R) (by omega)
            have lT := hlT2.out T (by omega)
            have HONE := hid hone
            clear hone hT
            go_upto_region 16 with (go_at_call 37; refine (HSh.out _ (Below.refl _ _)).mono ?_; rintro e w5 ⟨A5, c5, rfl, hr5, hb5⟩)
            have g1 : w5.cell? ⟨bb, o + i / 32, none⟩ = some (.int .u32 ((lim xs (i / 32) : Nat) : Int)) := ((Below.trans hbel (hb5.mono hbel.size)).cell (by exact hbw)).trans hc0
            go_upto_region 18 with (go_at_call 69; refine (rAdd_N _ _ _ _ _ _ (limbs (2 * R)) [1] _ _ _ (hr5.alloc _) (Row.one _ _ _ _ _ rfl (by rfl) (by omega)) (val_limbs _) (val_one _) (by omega) (by omega)).mono ?_; rintro e w6 ⟨A6, c6, rfl, hr6, hb6⟩)
            rw [← hTT.out] at hr6 ⊢
            have hb56 : Below wr.heap.size wr w6 := (by repeat first | exact Below.refl _ _ | assumption | refine Pg.Below.then_ ?_ (by assumption) | refine Pg.Below.new_ ?_ _ | refine Pg.Below.drewN_ ?_ _)
            have hb06 : Below w.heap.size w w6 := Below.trans hbel (hb56.mono hbel.size)
            clear hb5 hb6 hr5 g1
            have hbs := bit_step (x := a) (b := b) (k := i) hbp T (by rw [hTT.out, HR.out, HONE.out])
            have HBS := hid hbs
            clear hbs
            have HC := hid (rCmp_any A6 A' _ c6 n' c' _ ys w6 hr6 (h'.below hb06) (by omega) (by omega))
            rw [val_limbs, ← HB.out] at HC
            have hblk6 := hblk.below hb56
            rcases Nat.lt_or_ge T b with hlt | hge
            · rw [cmpv_lt hlt] at HC
              obtain ⟨m1, m2⟩ := HBS.out.2.1 hlt
              have HN1 : Hid (T = a / 2 ^ i % b) := hid m1.symm
              have HN2 : Hid (val cs = a / 2 ^ i / b * 2 ^ i) := hid (by rw [HV.out, m2, Nat.pow_succ]; ac_rfl)
              clear m1 m2
              go_wp2_with (go_at_call 50; refine (HC.out).mono ?_; rintro e w7 ⟨rfl, hb7⟩)
              go_roundw
              case rel => exact ⟨i, T, cs, A6, c6, _, by omega, rfl, by omega, rfl, hr6.below hb7, hlt, HN1, hblk6.below hb7, hok, hcl, HN2, Below.trans hb06 (hb7.mono hb06.size)⟩
              case measure => simp [intOf]
            · have HC2 : Hid (Calls Try.prog 50 #[.slice A6 (limbs T).length c6, .slice A' n' c'] w6 fun e w' => ∃ z : Int, 0 ≤ z ∧ e = .returned (.int .i64 z) ∧ Below w6.heap.size w6 w') := hid (by
                refine HC.out.mono fun e w' ⟨he, hb⟩ => ⟨_, ?_, he, hb⟩
                unfold cmpv; split <;> first | omega | (split <;> omega))
              obtain ⟨m1, m2⟩ := HBS.out.2.2 hge
              have htb := HBS.out.1
              have HN1 : Hid (T - b = a / 2 ^ i % b) := hid m1.symm
              obtain ⟨o1, o2, o3⟩ := or_bit hok HV.out (by rw [hcl.out]; exact hi32)
              have HN2 : Hid (val (cs.set (i / 32) (lim cs (i / 32) + 2 ^ (i % 32))) = a / 2 ^ i / b * 2 ^ i) := hid (by rw [o3, m2])
              have hlq := lim_lt hok (i / 32)
              have HO1 := hid o1
              have HO2 := hid o2
              clear m1 m2 o1 o2 o3 HC
              go_wp2_with (first
                | (go_at_call 50; refine (HC2.out).mono ?_; rintro e w7 ⟨z, hz, rfl, hb7⟩; (have hd : decide (0 ≤ z) = true := by simp; omega))
                | (go_at_call 70; refine (rSub_new _ _ _ _ _ _ _ ys _ (hr6.below hb7) ((h'.below hb06).below hb7) (by omega) (by omega)).mono ?_; rintro e w8 ⟨A8, c8, rfl, hr8, hb8, hf8⟩; have hblk8 := (hblk6.below hb7).below hb8; have g2 := hblk8.cell (i := i / 32) (by rw [hcl.out]; exact hi32); have hfz := hblk8.frozen (i / 32)))
              go_roundw
              case rel =>
                have hb8' := Pg.Below.then_ (Pg.Below.then_ hb06 hb7) hb8
                rw [val_limbs, ← HB.out] at hr8
                refine ⟨i, T - b, _, A8, c8, _, by omega, rfl, by omega, by rw [val_limbs, ← HB.out], row_set_other hr8 _ _ (fun _ g o e => by have q1 := hf8 g o e; have q2 := hblk6.lt; have q3 := hb7.size; show g ≠ gq; omega), by omega, HN1, hblk8.set (i / 32) (lim cs (i / 32) + 2 ^ (i % 32)) _ ?_, hok.set _ HO2.out, hid (by rw [List.length_set]; exact hcl.out), HN2, hb8'.setCell hq3 _⟩
                rw [walk_orb hlq (Nat.mod_lt _ (by omega)), HO1.out]
              case measure => simp [intOf]
          · rw [decide_eq_false hone] at hbit
            obtain ⟨T, hT⟩ : ∃ T, T = 2 * R := ⟨_, rfl⟩
            rw [← hT] at HSh
            have hTT := hid hT
            have lT := hlT2.out T (by omega)
            have HZ : Hid (a / 2 ^ i % 2 = 0) := hid (by omega)
            clear hone hT
            go_upto_region 16 with (go_at_call 37; refine (HSh.out _ (Below.refl _ _)).mono ?_; rintro e w6 ⟨A6, c6, rfl, hr6, hb56⟩)
            have hb06 : Below w.heap.size w w6 := Below.trans hbel (hb56.mono hbel.size)
            have g1 : w6.cell? ⟨bb, o + i / 32, none⟩ = some (.int .u32 ((lim xs (i / 32) : Nat) : Int)) := (hb06.cell (by exact hbw)).trans hc0
            go_upto_region 18 with fail
            clear g1
            have hbs := bit_step (x := a) (b := b) (k := i) hbp T (by rw [hTT.out, HR.out, HZ.out]; exact (Nat.add_zero _).symm)
            have HBS := hid hbs
            clear hbs
            have HC := hid (rCmp_any A6 A' _ c6 n' c' _ ys w6 hr6 (h'.below hb06) (by omega) (by omega))
            rw [val_limbs, ← HB.out] at HC
            have hblk6 := hblk.below hb56
            rcases Nat.lt_or_ge T b with hlt | hge
            · rw [cmpv_lt hlt] at HC
              obtain ⟨m1, m2⟩ := HBS.out.2.1 hlt
              have HN1 : Hid (T = a / 2 ^ i % b) := hid m1.symm
              have HN2 : Hid (val cs = a / 2 ^ i / b * 2 ^ i) := hid (by rw [HV.out, m2, Nat.pow_succ]; ac_rfl)
              clear m1 m2
              go_wp2_with (go_at_call 50; refine (HC.out).mono ?_; rintro e w7 ⟨rfl, hb7⟩)
              go_roundw
              case rel => exact ⟨i, T, cs, A6, c6, _, by omega, rfl, by omega, rfl, hr6.below hb7, hlt, HN1, hblk6.below hb7, hok, hcl, HN2, Below.trans hb06 (hb7.mono hb06.size)⟩
              case measure => simp [intOf]
            · have HC2 : Hid (Calls Try.prog 50 #[.slice A6 (limbs T).length c6, .slice A' n' c'] w6 fun e w' => ∃ z : Int, 0 ≤ z ∧ e = .returned (.int .i64 z) ∧ Below w6.heap.size w6 w') := hid (by
                refine HC.out.mono fun e w' ⟨he, hb⟩ => ⟨_, ?_, he, hb⟩
                unfold cmpv; split <;> first | omega | (split <;> omega))
              obtain ⟨m1, m2⟩ := HBS.out.2.2 hge
              have htb := HBS.out.1
              have HN1 : Hid (T - b = a / 2 ^ i % b) := hid m1.symm
              obtain ⟨o1, o2, o3⟩ := or_bit hok HV.out (by rw [hcl.out]; exact hi32)
              have HN2 : Hid (val (cs.set (i / 32) (lim cs (i / 32) + 2 ^ (i % 32))) = a / 2 ^ i / b * 2 ^ i) := hid (by rw [o3, m2])
              have hlq := lim_lt hok (i / 32)
              have HO1 := hid o1
              have HO2 := hid o2
              clear m1 m2 o1 o2 o3 HC
              go_wp2_with (first
                | (go_at_call 50; refine (HC2.out).mono ?_; rintro e w7 ⟨z, hz, rfl, hb7⟩; (have hd : decide (0 ≤ z) = true := by simp; omega))
                | (go_at_call 70; refine (rSub_new _ _ _ _ _ _ _ ys _ (hr6.below hb7) ((h'.below hb06).below hb7) (by omega) (by omega)).mono ?_; rintro e w8 ⟨A8, c8, rfl, hr8, hb8, hf8⟩; have hblk8 := (hblk6.below hb7).below hb8; have g2 := hblk8.cell (i := i / 32) (by rw [hcl.out]; exact hi32); have hfz := hblk8.frozen (i / 32)))
              go_roundw
              case rel =>
                have hb8' := Pg.Below.then_ (Pg.Below.then_ hb06 hb7) hb8
                rw [val_limbs, ← HB.out] at hr8
                refine ⟨i, T - b, _, A8, c8, _, by omega, rfl, by omega, by rw [val_limbs, ← HB.out], row_set_other hr8 _ _ (fun _ g o e => by have q1 := hf8 g o e; have q2 := hblk6.lt; have q3 := hb7.size; show g ≠ gq; omega), by omega, HN1, hblk8.set (i / 32) (lim cs (i / 32) + 2 ^ (i % 32)) _ ?_, hok.set _ HO2.out, hid (by rw [List.length_set]; exact hcl.out), HN2, hb8'.setCell hq3 _⟩
                rw [walk_orb hlq (Nat.mod_lt _ (by omega)), HO1.out]
              case measure => simp [intOf]
end Go.Proofs.Ytgehoflkbckgkaa
