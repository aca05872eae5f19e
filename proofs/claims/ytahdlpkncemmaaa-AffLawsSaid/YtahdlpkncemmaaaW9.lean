/- Walk · Walk · The contracts of shifts, products and tr. Conditions: those that each theorem names. -/
import Derived.Test.YtahdlpkncemmaaaW8
import Derived.Deep.RegionWith
import Derived.Laws.CopyOwn
import Derived.Test.YtahdlpkncemmaaaW7
set_option maxRecDepth 100000
set_option maxHeartbeats 8000000
set_option linter.unusedSimpArgs false
set_option linter.unusedVariables false
namespace Go.Proofs.Ytahdlpkncemmaaa
open Go.RowKit Pg
def clampD (d : Int) : Int := if 4096 < (if d < -4096 then -4096 else d) then 4096 else (if d < -4096 then -4096 else d)
theorem clampD_bd (d : Int) : -4096 ≤ clampD d ∧ clampD d ≤ 4096 := by unfold clampD; split <;> split at * <;> omega
theorem size32 : (Try.prog.info? 44).map (·.size) = some 1 := by kernel_rfl
theorem Shift_any (A : Option Addr) (n c : Nat) (d : Int) (xs : List Nat) (w : World) (h : Row w A n c xs) (hn : n ≤ 1073741824) :
  Calls Try.prog 65 #[.slice A n c, .int .i64 d] w (Ret w (shv (val xs) (clampD d))) := by
 have hcd := clampD_bd d
 go_enter Try.func65, Try.ntmps65
 go_upto_region 2 with fail
 generalize hE1 : (if d < -4096 then -4096 else d) = e1
 generalize hE2 : (if (4096 : Int) < e1 then 4096 else e1) = e2
 have HE2 : Hid (e2 = clampD d) := hid (by rw [← hE2, ← hE1]; rfl)
 have hbe2 : -4096 ≤ e2 ∧ e2 ≤ 4096 := by rw [HE2.out]; exact hcd
 clear hE1 hE2
 go_cut [0, 1] (fun s0 s1 wc => ∃ (e : Int) (n0 : Nat) (p : List Nat), s0 = .slice A n0 c ∧ s1 = .int .i64 e ∧ Hid (e = clampD d) ∧ -4096 ≤ e ∧ e ≤ 4096 ∧ Row wc A n0 c p ∧ Hid (p = limbs (val xs)) ∧ n0 ≤ 1073741824 ∧ Hid (wc = w))
 case first =>
  go_wp2_with (go_at_call 32; refine (trim_any _ _ _ _ _ h).mono ?_; rintro e w' ⟨rfl, rfl⟩)
  go_meet
  exact ⟨e2, _, _, rfl, rfl, HE2, hbe2.1, hbe2.2, h.trim, hid rfl, by have := tl_le h.ok; rw [h.len] at this; omega, hid rfl⟩
 case rest =>
  obtain ⟨e, n0, p, rfl, rfl, HE, he1, he2, hp, HP, hn0, HW⟩ := hcut
  clear h hcd
  have hp1 := hp.nc
  have hp2 := hp.cm
  have hpl := hid hp.len
  clear HE2 hbe2
  by_cases hneg : e < 0
  ·obtain ⟨t, ht⟩ : ∃ t : Nat, e = -(t : Int) := ⟨(-e).toNat, by omega⟩
   subst ht
   have ht0 : 0 < t := by omega
   have HV : Hid (shv (val xs) (clampD d) = val p / 2 ^ t) := hid (by rw [← HE.out, shv_neg _ _ ht0, HP.out, val_limbs])
   by_cases hlim : n0 ≤ t / 32
   ·have HN : Hid (shv (val xs) (clampD d) = 0) := hid (by rw [HV.out]; exact right_none hp.ok t (by rw [hpl.out]; exact hlim))
    have hd1 : decide ((n0 : Int) ≤ (t : Int) / 32) = true := by simp; omega
    go_wp2_with fail
    go_ret
    refine Ret.of_row (Row.nil _) (by rw [HN.out]; rfl) ?_
    rw [← HW.out]; exact Below.refl _ _
   ·obtain ⟨b, o, rfl, hc⟩ := hp.at_ (by omega)
    have hmk := run_make_row (P := Try.prog) 23 44 Try.underlying23 info32 ((n0 : Int) - (t : Int) / 32) (n0 - t / 32) (by omega) (by omega)
    have hcn : ¬ c = t / 32 := by omega
    have hd1 : decide ((n0 : Int) ≤ (t : Int) / 32) = false := by simp; omega
    have hbw := hp.lt (by omega) rfl
    obtain ⟨al, hal⟩ : ∃ al, al = p.drop (t / 32) := ⟨_, rfl⟩
    have hall : Hid (al.length = n0 - t / 32) := hid (by rw [hal, List.length_drop, hpl.out])
    have haok : Ok al := by rw [hal]; exact hp.ok.drop _
    have HA := hid hal
    clear hal
    go_wp2_with fail
    go_loopw [40] (fun i wr => ∃ k cs, k ≤ n0 - t / 32 ∧ i = .int .i64 ((k : Nat) : Int) ∧ RightInv al (t % 32) k cs ∧ Blk wr wc.heap.size 44 cs ∧ Below wc.heap.size wc wr) (fun i _ => (n0 - t / 32) - (intOf i).toNat)
    case atStart => exact ⟨0, _, by omega, rfl, hall.out ▸ RightInv.start al (t % 32), Blk.new _ _ _, Below.alloc (Below.refl _ _) (Nat.le_refl _) _⟩
    case round =>
     obtain ⟨k, cs, hk, rfl, hinv, hblk, hbel⟩ := hrel
     have hla := lim_lt haok k
     have hlc := lim_lt hinv.ok (k - 1)
     have hcl := hid hinv.len
     by_cases hlt : k < n0 - t / 32
     ·have g1 : wr.cell? ⟨b, o + t / 32 + k, none⟩ = some (.int .u32 ((lim al k : Nat) : Int)) := by
       have g0 := (hbel.cell (p := ⟨b, o + (t / 32 + k), none⟩) (by exact hbw)).trans (hc (t / 32 + k) (by omega))
       rw [HA.out, lim_drop, Nat.add_assoc]; exact g0
      have g3 := hblk.cell (i := k) (by rw [hcl.out, hall.out]; omega)
      have hz : Hid (lim cs k = 0) := hid (hinv.zero k (Nat.le_refl _))
      have hfz := hblk.frozen k
      have hfz2 := hblk.frozen (k - 1)
      clear hc
      by_cases hk0 : 0 < k
      ·have g4 := hblk.cell (i := k - 1) (by rw [hcl.out, hall.out]; omega)
       have hd2 : decide ((0 : Int) < (k : Int)) = true := by simp; omega
       go_wp2_with fail
       go_roundw
       case rel =>
        exact ⟨k + 1, _, by omega, by go_num, hinv.step haok (by omega) (by rw [hall.out]; exact hlt) hk0, (hblk.set k _ _ (walk_shr hz.out hla)).set (k - 1) _ _ (walk_orr hlc (by omega)), (hbel.setCell (Nat.le_refl _) _).setCell (Nat.le_refl _) _⟩
       case measure => simp [intOf]; omega
      ·have hk1 : k ≤ 0 := by omega
       have HK : Hid (k = 0) := hid (by omega)
       have hd2 : decide ((0 : Int) < (k : Int)) = false := by simp; omega
       go_wp2_with fail
       go_roundw
       case rel =>
        have hstep : RightInv al (t % 32) (k + 1) (cs.set k (lim al k / 2 ^ (t % 32))) := by
         have e := HK.out
         subst e
         exact hinv.first haok (by omega) (by rw [hall.out]; exact hlt)
        exact ⟨k + 1, _, by omega, by go_num, hstep, hblk.set k _ _ (walk_shr hz.out hla), hbel.setCell (Nat.le_refl _) _⟩
       case measure => simp [intOf]; omega
     ·have HK : Hid (k = n0 - t / 32) := hid (by omega)
      have hkk : n0 - t / 32 ≤ k := by omega
      have hdn : Hid (val cs = val p / 2 ^ t) := hid (by
       have e1 := hinv
       rw [HK.out, ← hall.out] at e1
       rw [e1.done, HA.out, right_number hp.ok t (by rw [hpl.out]; omega)])
      have hr2 := hblk.row hinv.ok (by rw [hcl.out, hall.out]; omega)
      rw [hcl.out, hall.out] at hr2
      go_wp2_with (go_at_call 32; refine (trim_any _ _ _ _ _ hr2).mono ?_; rintro e w' ⟨rfl, rfl⟩)
      go_ret
      refine Ret.of_row hr2.trim (by rw [hdn.out, HV.out]) ?_
      rw [← HW.out]; exact hbel
  ·obtain ⟨t, ht⟩ : ∃ t : Nat, e = (t : Int) := ⟨e.toNat, by omega⟩
   subst ht
   have hmk := run_make_row (P := Try.prog) 23 44 Try.underlying23 info32 ((t : Int) / 32 + (n0 : Int) + 1) (t / 32 + n0 + 1) (by omega) (by omega)
   have HV : Hid (shv (val xs) (clampD d) = val p * 2 ^ t) := hid (by rw [← HE.out, shv_pos, HP.out, val_limbs])
   have hcn : ¬ t / 32 + n0 + 1 = t / 32 := by omega
   go_wp2_with fail
   have hz := Blk.new wc 44 (List.replicate (t / 32 + n0 + 1) 0)
   have hb0 := Below.alloc (Below.refl wc.heap.size wc) (Nat.le_refl _) (.cells (u32s (List.replicate (t / 32 + n0 + 1) 0)).toArray 44)
   have hs1 : (0 : Int) ≤ (t : Int) / 32 := by omega
   have hs2 : (t : Int) / 32 ≤ ((t / 32 + n0 + 1 : Nat) : Int) := by omega
   have hs3 : (t : Int) / 32 ≤ (t : Int) / 32 + (n0 : Int) + 1 := by omega
   have hs4 : ((t : Int) / 32).toNat = t / 32 := by omega
   have E1 : Hid (IntKind.u64.wrap ((t : Int).tmod 32) = ((t % 32 : Nat) : Int)) := hid (by rw [Int.tmod_eq_emod_of_nonneg (by omega)]; exact (IntWalk.u64_in _ (by omega)).trans (by omega))
   have E2 : Hid (IntKind.i64.wrap ((n0 : Int) + 1) = ((n0 + 1 : Nat) : Int)) := hid ((IntWalk.i64_in _ (by omega)).trans (by omega))
   have HZ := hid hz
   have HB0 := hid hb0
   clear hz hb0
   go_region_law (first
    | (refine step_copy_splice rfl (.tmp 83) (.tmp 91) 23 23 rfl 44 Try.underlying23 size32 (some ⟨wc.heap.size, t / 32, none⟩) (some ⟨g, 0, none⟩) (n0 + 1) (n0 + 1) (n0 + 1) (n0 + 1) (by simp [Act.eval] <;> omega) (by simp [Act.eval] <;> omega) wc.heap.size (t / 32) (u32s (List.replicate (t / 32 + n0 + 1) 0)) 44 HZ1.out (u32s ds) (by rw [length_u32s, HL.out]; exact (Nat.min_self _).symm) (fun _ => ⟨rfl, _, rfl, hblk.addcell⟩) (by rw [length_u32s, length_u32s, HL.out, List.length_replicate]; omega) (u32s_one _) wc.heap.size wc HB1.out (Nat.le_refl _) ?_; intro w4 HG4 hB4)
    | (go_simp; go_at_call 62; refine (left_I _ _ _ (t % 32) (n0 + 1) p _ _ _ E1.out E2.out (by first | exact (hp.alloc _).drew | exact hp.alloc _) (by omega) (by omega) (by omega)).mono ?_; rintro e w1 ⟨g, ds, rfl, HL, ⟨hok, HD⟩, hblk, hge, hbel⟩; have HZ1 := hid (HZ.out.drew.below hbel); have HB1 := hid (HB0.out.drew.trans (hbel.mono (by simp)))))
   all_goals
    have hsp : splice (u32s (List.replicate (t / 32 + n0 + 1) 0)) (t / 32) (u32s ds) = u32s (List.replicate (t / 32) 0 ++ ds) := by
     have hl1 : (u32s ds).length = n0 + 1 := by rw [length_u32s, HL.out]
     unfold splice
     rw [hl1, List.drop_eq_nil_of_le (by rw [length_u32s, List.length_replicate]; omega), List.append_nil, u32s_append]
     congr 1
     simp only [u32s, List.map_replicate, List.take_replicate]
     congr 1
     omega
    have hb4 : Blk w4 wc.heap.size 44 (List.replicate (t / 32) 0 ++ ds) := by
     have := HG4.out
     rw [hsp] at this
     exact this
    have hlen : (List.replicate (t / 32) 0 ++ ds).length = t / 32 + n0 + 1 := by rw [List.length_append, List.length_replicate, HL.out]; omega
    have hok2 : Ok (List.replicate (t / 32) 0 ++ ds) := ok_append.2 ⟨ok_replicate _, hok⟩
    have hr2 := hb4.row hok2 (by rw [hlen]; omega)
    rw [hlen] at hr2
    have hfin : Hid (val (List.replicate (t / 32) 0 ++ ds) = val p * 2 ^ t) := hid (by
     rw [val_append, val_replicate, List.length_replicate, Nat.zero_add, HD.out, Nat.mul_comm, left_number hp.ok t n0 hpl.out])
    clear hsp hlen
    go_wp2_with (go_at_call 32; refine (trim_any _ _ _ _ _ hr2).mono ?_; rintro e w' ⟨rfl, rfl⟩)
    go_ret
    refine Ret.of_row hr2.trim (by rw [hfin.out, HV.out]) ?_
    rw [← HW.out]; exact hB4
end Go.Proofs.Ytahdlpkncemmaaa
namespace Go.Proofs.Ytahdlpkncemmaaa
open Go.RowKit Pg
end Go.Proofs.Ytahdlpkncemmaaa
namespace Go.Proofs.Ytahdlpkncemmaaa
open Go.RowKit Pg
end Go.Proofs.Ytahdlpkncemmaaa
namespace Go.Proofs.Ytahdlpkncemmaaa
open Go.RowKit Pg
theorem Cmp_any (A A' : Option Addr) (n c n' c' : Nat) (xs ys : List Nat) (w : World) (h : Row w A n c xs) (h' : Row w A' n' c' ys) :
  Calls Try.prog 37 #[.slice A n c, .slice A' n' c'] w fun e w' => e = .returned (.int .i64 (cmpv (val xs) (val ys))) ∧ Below w.heap.size w w' := by
 go_enter Try.func37, Try.ntmps37
 go_upto_region 2 with (go_at_call 32; refine (trim_any _ _ _ _ _ (by assumption)).mono ?_; rintro e w' ⟨rfl, rfl⟩)
 have hp := h.trim
 have hq := h'.trim
 obtain ⟨p, hpe⟩ : ∃ p, p = limbs (val xs) := ⟨_, rfl⟩
 obtain ⟨q, hqe⟩ : ∃ q, q = limbs (val ys) := ⟨_, rfl⟩
 rw [← hpe] at hp
 rw [← hqe] at hq
 have hp1 := hp.nc
 have hp2 := hp.cm
 have hq1 := hq.nc
 have hq2 := hq.cm
 have hpl := hid hp.len
 have hql := hid hq.len
 have hvp : Hid (val p = val xs) := hid (by rw [hpe, val_limbs])
 have hvq : Hid (val q = val ys) := hid (by rw [hqe, val_limbs])
 have HP := hid hpe
 have HQ := hid hqe
 clear hpe hqe h h'
 generalize tl xs = n0 at *
 generalize tl ys = n1 at *
 by_cases hne : n0 = n1
 ·subst hne
  have hb : ((n0 : Int) != (n0 : Int)) = false := by simp
  go_wp2_with fail
  go_loopw [5] (fun i wr => ∃ k : Nat, k ≤ n0 ∧ i = .int .i64 ((k : Int) - 1) ∧ Hid (∀ j, k ≤ j → lim p j = lim q j) ∧ Below w.heap.size w wr) (fun i _ => (intOf i + 1).toNat)
  case atStart => exact ⟨n0, Nat.le_refl _, rfl, fun j hj => by rw [lim_behind (by rw [hpl.out]; exact hj), lim_behind (by rw [hql.out]; exact hj)], Below.refl _ _⟩
  case round =>
   obtain ⟨k, hk, rfl, hall, hbel⟩ := hrel
   rcases Nat.eq_zero_or_pos k with h0 | h0
   ·have hd0 : decide ((0 : Int) ≤ (k : Int) - 1) = false := by simp; omega
    have hd1 : decide ((1 : Int) ≤ (k : Int)) = false := by simp; omega
    have HK := hid h0
    clear h0
    go_wp2_with fail
    go_ret
    refine ⟨?_, hbel⟩
    have he : val xs = val ys := by
     rw [← hvp.out, ← hvq.out]
     exact cmp_all (by rw [hpl.out, hql.out]) (fun j => hall.out j (by rw [HK.out]; omega))
    rw [cmpv_eq he]; rfl
   ·have hd0 : decide ((0 : Int) ≤ (k : Int) - 1) = true := by simp; omega
    have hd1 : decide ((1 : Int) ≤ (k : Int)) = true := by simp; omega
    obtain ⟨b, o, rfl, hc⟩ := (hp.below hbel).at_ (by omega)
    obtain ⟨b', o', rfl, hc'⟩ := (hq.below hbel).at_ (by omega)
    have g1 := hc (k - 1) (by omega)
    have g2 := hc' (k - 1) (by omega)
    clear hc hc'
    have s2 : (0 : Int) ≤ (k : Int) - 1 := by omega
    have s4 : (k : Int) - 1 < (n0 : Int) := by omega
    have S3 : Hid (((k : Int) - 1).toNat = k - 1) := hid (by omega)
    rcases Nat.lt_trichotomy (lim p (k - 1)) (lim q (k - 1)) with he | he | he
    ·have he1 : (((lim p (k - 1) : Nat) : Int) != ((lim q (k - 1) : Nat) : Int)) = true := by simp; omega
     have he2 : decide (((lim p (k - 1) : Nat) : Int) < ((lim q (k - 1) : Nat) : Int)) = true := by simp; omega
     have he3 : decide (lim p (k - 1) < lim q (k - 1)) = true := by simp; omega
     have hf : Hid (val xs < val ys) := hid (by
      rw [← hvp.out, ← hvq.out]
      exact cmp_at hp.ok (by rw [hpl.out, hql.out]) (k := k - 1) (by rw [hpl.out]; omega) (fun j hj => hall.out j (by omega)) he)
     clear he
     go_wp2_with fail
     have s3 := S3.out
     go_quiet (fail)
     go_wp2_with fail
     go_quiet (fail)
     go_wp2_with fail
     go_ret
     exact ⟨by rw [cmpv_lt hf.out]; rfl, Pg.bel⟩
    ·have he1 : (((lim p (k - 1) : Nat) : Int) != ((lim q (k - 1) : Nat) : Int)) = false := by simp [he]
     have HE := hid he
     clear he
     go_wp2_with fail
     have s3 := S3.out
     go_quiet (fail)
     clear s3
     go_wp2_with fail
     go_roundw
     case rel =>
      refine ⟨k - 1, by omega, by go_num, fun j hj => ?_, Pg.bel⟩
      rcases Nat.lt_or_ge j k with h1 | h1
      ·have : j = k - 1 := by omega
       subst this; exact HE.out
      ·exact hall.out j h1
     case measure => simp [intOf]; omega
    ·have he1 : (((lim p (k - 1) : Nat) : Int) != ((lim q (k - 1) : Nat) : Int)) = true := by simp; omega
     have he2 : decide (((lim p (k - 1) : Nat) : Int) < ((lim q (k - 1) : Nat) : Int)) = false := by simp; omega
     have he3 : decide (lim p (k - 1) < lim q (k - 1)) = false := by simp; omega
     have hf : Hid (val ys < val xs) := hid (by
      rw [← hvp.out, ← hvq.out]
      exact cmp_at hq.ok (by rw [hpl.out, hql.out]) (k := k - 1) (by rw [hql.out]; omega) (fun j hj => (hall.out j (by omega)).symm) he)
     clear he
     go_wp2_with fail
     have s3 := S3.out
     go_quiet (fail)
     go_wp2_with fail
     go_quiet (fail)
     go_wp2_with fail
     go_ret
     exact ⟨by rw [cmpv_gt hf.out]; rfl, Pg.bel⟩
 ·have hb : ((n0 : Int) != (n1 : Int)) = true := by simp; omega
  rcases Nat.lt_or_ge n0 n1 with hlt | hlt
  ·have hf : Hid (val xs < val ys) := hid (cmp_len (by rw [← HP.out, ← HQ.out, hpl.out, hql.out]; exact hlt))
   have hd : decide ((n0 : Int) < (n1 : Int)) = true := by simp; omega
   have hd' : decide (n0 < n1) = true := by simp; omega
   go_wp2_with fail
   go_ret
   exact ⟨by rw [cmpv_lt hf.out]; rfl, Below.refl _ _⟩
  ·have hf : Hid (val ys < val xs) := hid (cmp_len (by rw [← HP.out, ← HQ.out, hpl.out, hql.out]; omega))
   have hd : decide ((n0 : Int) < (n1 : Int)) = false := by simp; omega
   have hd' : decide (n0 < n1) = false := by simp; omega
   go_wp2_with fail
   go_ret
   exact ⟨by rw [cmpv_gt hf.out]; rfl, Below.refl _ _⟩
end Go.Proofs.Ytahdlpkncemmaaa
