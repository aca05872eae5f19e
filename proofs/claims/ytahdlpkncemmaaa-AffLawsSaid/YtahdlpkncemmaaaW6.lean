/- Walks · Walk. Conditions: those that each theorem names. -/
import Derived.Test.YtahdlpkncemmaaaW5
import Derived.Test.YtahdlpkncemmaaaW1
import Derived.Deep.DeepCutAuto
set_option maxRecDepth 100000
set_option maxHeartbeats 8000000
set_option linter.unusedSimpArgs false
set_option linter.unusedVariables false
namespace Go.Proofs.Ytahdlpkncemmaaa
open Go.RowKit Pg
theorem Add_any (A A' : Option Addr) (n c n' c' : Nat) (xs ys : List Nat) (w : World) (h : Row w A n c xs) (h' : Row w A' n' c' ys) (hb : n ≤ 1073741824) (hb' : n' ≤ 1073741824) :
  Calls Try.prog 25 #[.slice A n c, .slice A' n' c'] w (Ret w (val xs + val ys)) := by
 have hr := h.trim
 have hr' := h'.trim
 have hn1 : tl xs ≤ 1073741824 := by have := tl_le h.ok; rw [h.len] at this; omega
 have hn2 : tl ys ≤ 1073741824 := by have := tl_le h'.ok; rw [h'.len] at this; omega
 go_enter Try.func25, Try.ntmps25
 go_upto_if 17 with (go_at_call 32; refine (trim_any _ _ _ _ _ (by assumption)).mono ?_; rintro e w' ⟨rfl, rfl⟩)
 go_cut [0, 1] (fun s0 s1 wc => ∃ A0 n0 c0 p A1 n1 c1 q, s0 = .slice A0 n0 c0 ∧ s1 = .slice A1 n1 c1 ∧ Row wc A0 n0 c0 p ∧ Row wc A1 n1 c1 q ∧ n1 ≤ n0 ∧ n0 ≤ 1073741824 ∧ Hid (val p + val q = val xs + val ys) ∧ Hid (wc = w))
 case first =>
  go_wp2_with fail
  ·have hlt : tl xs < tl ys := by assumption
   go_meet
   exact ⟨_, _, _, _, _, _, _, _, rfl, rfl, hr', hr, by omega, hn2, hid (by rw [val_limbs, val_limbs, Nat.add_comm]), hid rfl⟩
  ·go_meet
   exact ⟨_, _, _, _, _, _, _, _, rfl, rfl, hr, hr', by omega, hn1, hid (by rw [val_limbs, val_limbs]), hid rfl⟩
 case rest =>
  obtain ⟨A0, n0, c0, p, A1, n1, c1, q, rfl, rfl, hp, hq, hnn, hn0, HV, HW⟩ := hcut
  clear hr hr' hn1 hn2 h h'
  have hmk := run_make_row (P := Try.prog) 23 44 Try.underlying23 info32 ((n0 : Int) + 1) (n0 + 1) (by omega) (by omega)
  have hpl := hid hp.len
  have hql := hid hq.len
  have hp1 := hp.nc
  have hp2 := hp.cm
  have hq1 := hq.nc
  have hq2 := hq.cm
  go_wp2_with fail
  go_loopw [6, 26] (fun s6 i wr => ∃ k cr cs, k ≤ n0 ∧ i = .int .i64 ((k : Nat) : Int) ∧ s6 = .int .u64 ((cr : Nat) : Int) ∧ cr ≤ 1 ∧ AddInv p q k cr cs ∧ Blk wr wc.heap.size 44 cs ∧ Below wc.heap.size wc wr) (fun _ i _ => n0 - (intOf i).toNat)
  case atStart => exact ⟨0, 0, _, by omega, rfl, rfl, by omega, hpl.out ▸ AddInv.start p q, Blk.new _ _ _, Below.alloc (Below.refl _ _) (Nat.le_refl _) _⟩
  case round =>
   obtain ⟨k, cr, cs, hk, rfl, rfl, hcr, hinv, hblk, hbel⟩ := hrel
   have hlp := lim_lt hp.ok k
   have hlq := lim_lt hq.ok k
   have hcl := hid hinv.len
   have hfz := hblk.frozen k
   by_cases hlt : k < n0
   ·obtain ⟨b, o, rfl, hc⟩ := hp.at_ (by omega)
    have hbw := hp.lt (by omega) rfl
    have g1 : wr.cell? ⟨b, o + k, none⟩ = some (.int .u32 ((lim p k : Nat) : Int)) := (hbel.cell (by exact hbw)).trans (hc k hlt)
    have g3 := hblk.cell (i := k) (by rw [hcl.out, hpl.out]; omega)
    clear hc
    by_cases hlt2 : k < n1
    ·obtain ⟨b', o', rfl, hc'⟩ := hq.at_ (by omega)
     have hbw' := hq.lt (by omega) rfl
     have g2 : wr.cell? ⟨b', o' + k, none⟩ = some (.int .u32 ((lim q k : Nat) : Int)) := (hbel.cell (by exact hbw')).trans (hc' k hlt2)
     clear hc'
     go_wp2_with fail
     go_roundw
     case rel =>
      exact ⟨k + 1, (cr + lim p k + lim q k) / 4294967296, _, by omega, by go_num, by go_num, by omega, hinv.step hp.ok hq.ok (by rw [hpl.out]; omega) _ rfl, hblk.set k _ _ (by omega), hbel.setCell (Nat.le_refl _) _⟩
     case measure => simp [intOf]; omega
    ·have hz : Hid (lim q k = 0) := hid (lim_behind (by rw [hql.out]; omega))
     have hlt2' : n1 ≤ k := by omega
     go_wp2_with fail
     go_roundw
     case rel =>
      exact ⟨k + 1, (cr + lim p k + lim q k) / 4294967296, _, by omega, by go_num, by rw [hz.out]; go_num, by omega, hinv.step hp.ok hq.ok (by rw [hpl.out]; omega) _ rfl, hblk.set k _ _ (by rw [hz.out]; omega), hbel.setCell (Nat.le_refl _) _⟩
     case measure => simp [intOf]; omega
   ·obtain rfl : k = n0 := by omega
    have g3 := hblk.cell (i := k) (by rw [hcl.out, hpl.out]; omega)
    have hdone : Hid (val (cs.set k cr) = val p + val q) := hid (by
     have e := hpl.out
     have e2 := hql.out
     subst e
     exact hinv.done (by omega))
    have hok : Ok (cs.set k cr) := hinv.ok.set k (by omega)
    have hb2 : Blk (wr.setCell ⟨wc.heap.size, k, none⟩ (.int .u32 (cr : Int))) wc.heap.size 44 (cs.set k cr) := hblk.set k _ _ rfl
    have hr2 := hb2.row hok (by rw [List.length_set, hcl.out, hpl.out]; omega)
    rw [List.length_set, hcl.out, hpl.out] at hr2
    go_wp2_with (go_at_call 32; refine (trim_any _ _ _ _ _ hr2).mono ?_; rintro e w' ⟨rfl, rfl⟩)
    go_ret
    refine Ret.of_row hr2.trim (by rw [hdone.out, HV.out]) ?_
    rw [← HW.out]
    exact hbel.setCell (Nat.le_refl _) _
theorem Mul_any (A A' : Option Addr) (n c n' c' : Nat) (xs ys : List Nat) (w : World) (h : Row w A n c xs) (h' : Row w A' n' c' ys) (hb : n ≤ 1073741824) (hb' : n' ≤ 1073741824) :
  Calls Try.prog 23 #[.slice A n c, .slice A' n' c'] w (Ret w (val xs * val ys)) := by
 have hp := h.trim
 have hq := h'.trim
 have hn1 : tl xs ≤ 1073741824 := by have := tl_le h.ok; rw [h.len] at this; omega
 have hn2 : tl ys ≤ 1073741824 := by have := tl_le h'.ok; rw [h'.len] at this; omega
 obtain ⟨p, hpe⟩ : ∃ p, p = limbs (val xs) := ⟨_, rfl⟩
 obtain ⟨q, hqe⟩ : ∃ q, q = limbs (val ys) := ⟨_, rfl⟩
 rw [← hpe] at hp
 rw [← hqe] at hq
 obtain ⟨n0, hne⟩ : ∃ n0, n0 = tl xs := ⟨_, rfl⟩
 obtain ⟨n1, hne'⟩ : ∃ n1, n1 = tl ys := ⟨_, rfl⟩
 have hT := trim_any _ _ _ _ w h
 have hT' := trim_any _ _ _ _ w h'
 rw [← hne] at hp hn1 hT
 rw [← hne'] at hq hn2 hT'
 have HP := hid hpe
 have HQ := hid hqe
 have HT := hid hT
 have HT' := hid hT'
 clear hpe hqe hne hne' h h'
 have hmk := run_make_row (P := Try.prog) 23 44 Try.underlying23 info32 ((n0 : Int) + (n1 : Int)) (n0 + n1) (by omega) (by omega)
 have hpl := hid hp.len
 have hql := hid hq.len
 have hp1 := hp.nc
 have hp2 := hp.cm
 have hq1 := hq.nc
 have hq2 := hq.cm
 go_enter Try.func23, Try.ntmps23
 go_wp2_with (go_at_call 32; first | ((with_reducible refine (HT.out).mono ?_); rintro e w' ⟨rfl, rfl⟩) | ((with_reducible refine (HT'.out).mono ?_); rintro e w' ⟨rfl, rfl⟩))
 clear hT hT'
 go_loopw [23] (fun i wr => ∃ k cs, k ≤ n0 ∧ i = .int .i64 ((k : Nat) : Int) ∧ MulOut p q k cs ∧ Blk wr w.heap.size 44 cs ∧ Below w.heap.size w wr) (fun i _ => n0 - (intOf i).toNat)
 case atStart => exact ⟨0, _, by omega, rfl, hpl.out ▸ hql.out ▸ MulOut.start p q, Blk.new _ _ _, Below.alloc (Below.refl _ _) (Nat.le_refl _) _⟩
 case round =>
  obtain ⟨i, cs, hi, rfl, hout, hblk, hbel⟩ := hrel
  by_cases hlt : i < n0
  ·obtain ⟨b, o, rfl, hc⟩ := hp.at_ (by omega)
   have hbw := hp.lt (by omega) rfl
   have g1 : wr.cell? ⟨b, o + i, none⟩ = some (.int .u32 ((lim p i : Nat) : Int)) := (hbel.cell (by exact hbw)).trans (hc i hlt)
   clear hc
   go_wp2_with fail
   have hin0 := hout.inner
   clear g1 hout
   obtain ⟨wo, rfl⟩ : ∃ wo : World, wo = wr := ⟨_, rfl⟩
   go_loopw [8, 30] (fun s8 j wr => ∃ k cr ds, k ≤ n1 ∧ j = .int .i64 ((k : Nat) : Int) ∧ s8 = .int .u64 ((cr : Nat) : Int) ∧ MulIn p q i k cr ds ∧ Blk wr w.heap.size 44 ds ∧ Below w.heap.size w wr) (fun _ j _ => n1 - (intOf j).toNat)
   case atStart => exact ⟨0, 0, _, by omega, rfl, rfl, hin0, hblk, hbel⟩
   case round =>
    obtain ⟨k, cr, ds, hk, rfl, rfl, hin, hblk2, hbel2⟩ := hrel
    clear hin0 hblk hbel
    have hcl := hid hin.len
    have hcr := hin.le
    by_cases hlt2 : k < n1
    ·obtain ⟨b', o', rfl, hc'⟩ := hq.at_ (by omega)
     have hbw' := hq.lt (by omega) rfl
     have g2 : wr.cell? ⟨b', o' + k, none⟩ = some (.int .u32 ((lim q k : Nat) : Int)) := (hbel2.cell (by exact hbw')).trans (hc' k hlt2)
     clear hc'
     have g3 := hblk2.cell (i := i + k) (by rw [hcl.out, hpl.out, hql.out]; omega)
     have hfz := hblk2.frozen (i + k)
     have b1 := lim_lt hp.ok i
     have b2 := lim_lt hq.ok k
     have b3 := lim_lt hin.ok (i + k)
     have b4 : ((lim p i : Nat) : Int) * ((lim q k : Nat) : Int) ≤ 18446744065119617025 := by have := prod_le b1 b2; rw [← Int.natCast_mul]; omega
     have b5 : (0 : Int) ≤ ((lim p i : Nat) : Int) * ((lim q k : Nat) : Int) := Int.mul_nonneg (by omega) (by omega)
     go_wp2_with fail
     go_roundw
     case rel =>
      refine ⟨k + 1, (cr + (lim p i * lim q k + lim ds (i + k))) / 4294967296, _, by omega, by go_num, ?_, hin.step hp.ok hq.ok (by rw [hpl.out]; omega) (by rw [hql.out]; omega) _ rfl, hblk2.set (i + k) _ _ ?_, hbel2.setCell (Nat.le_refl _) _⟩
      ·exact congrArg _ (by rw [Int.natCast_ediv]; congr 1)
      ·rw [Int.natCast_emod]; congr 1
     case measure => simp [intOf]; omega
    ·obtain rfl : k = n1 := by omega
     have g3 := hblk2.cell (i := i + k) (by rw [hcl.out, hpl.out, hql.out]; omega)
     have hfz := hblk2.frozen (i + k)
     have hd : Hid (MulOut p q (i + 1) (ds.set (i + k) cr)) := hid (by
      have e := hql.out
      subst e
      exact hin.done (by rw [hpl.out]; omega))
     go_wp2_with fail
     go_roundw
     case rel =>
      exact ⟨i + 1, _, by omega, by go_num, hd.out, hblk2.set (i + k) _ _ (by omega), hbel2.setCell (Nat.le_refl _) _⟩
     case measure => simp [intOf]; omega
  ·obtain rfl : i = n0 := by omega
   have hdone : Hid (val cs = val p * val q) := hid (by
    have e := hpl.out
    subst e
    exact hout.done)
   have hr2 := hblk.row hout.ok (by rw [hout.len, hpl.out, hql.out]; omega)
   rw [hout.len, hpl.out, hql.out] at hr2
   go_wp2_with (go_at_call 32; refine (trim_any _ _ _ _ _ hr2).mono ?_; rintro e w' ⟨rfl, rfl⟩)
   go_ret
   exact Ret.of_row hr2.trim (by rw [hdone.out, HP.out, HQ.out, val_limbs, val_limbs]) hbel
end Go.Proofs.Ytahdlpkncemmaaa
namespace Go.Proofs.Ytahdlpkncemmaaa
open Go.RowKit Pg
/-! The contracts with their numbers by name: for rows of calls. -/
theorem Add_N (A A' : Option Addr) (n c n' c' : Nat) (xs ys : List Nat) (w : World) (a b : Nat) (h : Row w A n c xs) (h' : Row w A' n' c' ys) (ea : val xs = a) (eb : val ys = b) (hb : n ≤ 1073741824) (hb' : n' ≤ 1073741824) :
  Calls Try.prog 25 #[.slice A n c, .slice A' n' c'] w (Ret w (a + b)) := by
 subst ea eb; exact Add_any A A' n c n' c' xs ys w h h' hb hb'
theorem Mul_N (A A' : Option Addr) (n c n' c' : Nat) (xs ys : List Nat) (w : World) (a b : Nat) (h : Row w A n c xs) (h' : Row w A' n' c' ys) (ea : val xs = a) (eb : val ys = b) (hb : n ≤ 1073741824) (hb' : n' ≤ 1073741824) :
  Calls Try.prog 23 #[.slice A n c, .slice A' n' c'] w (Ret w (a * b)) := by
 subst ea eb; exact Mul_any A A' n c n' c' xs ys w h h' hb hb'
end Go.Proofs.Ytahdlpkncemmaaa
