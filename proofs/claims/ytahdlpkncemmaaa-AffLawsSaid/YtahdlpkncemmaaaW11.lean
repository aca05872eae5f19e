/- Walks · Walks · Walks. Conditions: those that each theorem names. -/
import Derived.Test.YtahdlpkncemmaaaW9
import Derived.Test.YtahdlpkncemmaaaW7
import Derived.Test.YtahdlpkncemmaaaW10
set_option maxRecDepth 100000
set_option maxHeartbeats 8000000
set_option linter.unusedSimpArgs false
set_option linter.unusedVariables false
namespace Go.Proofs.Ytahdlpkncemmaaa
open Go.RowKit Pg
theorem sub32_any (x y br : Nat) (w : World) (xI yI bI : Int) (ex : xI = (x : Int)) (ey : yI = (y : Int)) (eb : bI = (br : Int)) (hx : x < 4294967296) (hy : y < 4294967296) (hb : br ≤ 1) :
  Calls Try.prog 38 #[.int .u32 xI, .int .u32 yI, .int .u32 bI] w fun e w' =>
   e = .returned (.tuple #[.int .u32 ((dif x y br : Nat) : Int), .int .u32 ((borr x y br : Nat) : Int)]) ∧ w = w' := by
 subst ex ey eb
 have hs : IntKind.u32.signed = false := rfl
 go_enter Try.func38, Try.ntmps38
 go_wp2_with fail
 go_ret2
 refine ⟨?_, rfl⟩
 have e1 : (((x : Int) - (y : Int)) % 4294967296 - (br : Int)) % 4294967296 = ((dif x y br : Nat) : Int) := by rw [← walk_dif hx hy hb]; omega
 have e2 := walk_borr hx hy hb
 rw [← e1, ← e2]
 rfl
theorem add32_any (x y br : Nat) (w : World) (xI yI bI : Int) (ex : xI = (x : Int)) (ey : yI = (y : Int)) (eb : bI = (br : Int)) (hx : x < 4294967296) (hy : y < 4294967296) (hb : br ≤ 1) :
  Calls Try.prog 72 #[.int .u32 xI, .int .u32 yI, .int .u32 bI] w fun e w' =>
   e = .returned (.tuple #[.int .u32 (((x + y + br) % 4294967296 : Nat) : Int), .int .u32 (((x + y + br) / 4294967296 : Nat) : Int)]) ∧ w = w' := by
 subst ex ey eb
 go_enter Try.func72, Try.ntmps72
 go_wp2_with fail
 go_ret2
 refine ⟨?_, rfl⟩
 have e1 : ((x : Int) + (y : Int) + (br : Int)) % 4294967296 = (((x + y + br) % 4294967296 : Nat) : Int) := by omega
 have e2 : ((x : Int) + (y : Int) + (br : Int)) / 4294967296 = (((x + y + br) / 4294967296 : Nat) : Int) := by omega
 rw [← e1, ← e2]
 rfl
end Go.Proofs.Ytahdlpkncemmaaa
namespace Go.Proofs.Ytahdlpkncemmaaa
open Go.RowKit Pg
theorem rCmp_any (A A' : Option Addr) (n c n' c' : Nat) (xs ys : List Nat) (w : World) (h : Row w A n c xs) (h' : Row w A' n' c' ys) (hn : n ≤ 35184372088000) (hn' : n' ≤ 35184372088000) :
  Calls Try.prog 43 #[.slice A n c, .slice A' n' c'] w fun e w' => e = .returned (.int .i64 (cmpv (val xs) (val ys))) ∧ Below w.heap.size w w' := by
 go_enter Try.func43, Try.ntmps43
 go_wp2_with fail
 refine (rTrim_any _ _ _ _ _ h (by omega)).mono ?_
 rintro e w1 ⟨A1, c1, rfl, hr1, hb1⟩
 go_wp2_with fail
 refine (rTrim_any _ _ _ _ _ (h'.below hb1) (by omega)).mono ?_
 rintro e w2 ⟨A2, c2, rfl, hq, hb2⟩
 have hp := hr1.below hb2
 obtain ⟨p, hpe⟩ : ∃ p, p = limbs (val xs) := ⟨_, rfl⟩
 obtain ⟨q, hqe⟩ : ∃ q, q = limbs (val ys) := ⟨_, rfl⟩
 obtain ⟨n0, hn0⟩ : ∃ n0, n0 = p.length := ⟨_, rfl⟩
 obtain ⟨n1, hn1⟩ : ∃ n1, n1 = q.length := ⟨_, rfl⟩
 rw [← hpe, ← hn0] at hp
 rw [← hqe, ← hn1] at hq
 have hp1 := hp.nc
 have hp2 := hp.cm
 have hq1 := hq.nc
 have hq2 := hq.cm
 have hpl := hid hn0.symm
 have hql := hid hn1.symm
 have hvp : Hid (val p = val xs) := hid (by rw [hpe, val_limbs])
 have hvq : Hid (val q = val ys) := hid (by rw [hqe, val_limbs])
 have HP := hid hpe
 have HQ := hid hqe
 rw [← hpe, ← hqe, ← hn0, ← hn1]
 clear hpe hqe h h' hr1 hn0 hn1
 by_cases hne : n0 = n1
 ·subst hne
  have hb : ((n0 : Int) != (n0 : Int)) = false := by simp
  go_wp2_with fail
  go_loopw [7] (fun i wr => ∃ k : Nat, k ≤ n0 ∧ i = .int .i64 ((k : Int) - 1) ∧ Hid (∀ j, k ≤ j → lim p j = lim q j) ∧ Below w2.heap.size w2 wr) (fun i _ => (intOf i + 1).toNat)
  case atStart => exact ⟨n0, Nat.le_refl _, rfl, fun j hj => by rw [lim_behind (by rw [hpl.out]; exact hj), lim_behind (by rw [hql.out]; exact hj)], Below.refl _ _⟩
  case round =>
   obtain ⟨k, hk, rfl, hall, hbel⟩ := hrel
   rcases Nat.eq_zero_or_pos k with h0 | h0
   ·have hd0 : decide ((0 : Int) ≤ (k : Int) - 1) = false := by simp; omega
    have hd1 : decide ((1 : Int) ≤ (k : Int)) = false := by simp; omega
    have HK := hid h0
    clear h0
    go_wp2_with fail
    go_ret
    refine ⟨?_, Pg.bel⟩
    have he : val xs = val ys := by
     rw [← hvp.out, ← hvq.out]
     exact cmp_all (by rw [hpl.out, hql.out]) (fun j => hall.out j (by rw [HK.out]; omega))
    rw [cmpv_eq he]; rfl
   ·have hd0 : decide ((0 : Int) ≤ (k : Int) - 1) = true := by simp; omega
    have hd1 : decide ((1 : Int) ≤ (k : Int)) = true := by simp; omega
    obtain ⟨b, o, rfl, hc⟩ := (hp.below hbel).at_ (by omega)
    obtain ⟨b', o', rfl, hc'⟩ := (hq.below hbel).at_ (by omega)
    have g1 := hc (k - 1) (by omega)
    have g2 := hc' (k - 1) (by omega)
    clear hc hc'
    have s2 : (0 : Int) ≤ (k : Int) - 1 := by omega
    have s4 : (k : Int) - 1 < (n0 : Int) := by omega
    have S3 : Hid (((k : Int) - 1).toNat = k - 1) := hid (by omega)
    rcases Nat.lt_trichotomy (lim p (k - 1)) (lim q (k - 1)) with he | he | he
    ·have he2 : decide (((lim p (k - 1) : Nat) : Int) < ((lim q (k - 1) : Nat) : Int)) = true := by simp; omega
     have he3 : decide (lim p (k - 1) < lim q (k - 1)) = true := by simp; omega
     have hf : Hid (val xs < val ys) := hid (by
      rw [← hvp.out, ← hvq.out]
      exact cmp_at hp.ok (by rw [hpl.out, hql.out]) (k := k - 1) (by rw [hpl.out]; omega) (fun j hj => hall.out j (by omega)) he)
     clear he
     go_wp2_with fail
     have s3 := S3.out
     go_quiet (fail)
     go_wp2_with fail
     go_ret
     exact ⟨by rw [cmpv_lt hf.out]; rfl, Pg.bel⟩
    ·have he2 : decide (((lim p (k - 1) : Nat) : Int) < ((lim q (k - 1) : Nat) : Int)) = false := by simp; omega
     have he3 : decide (lim p (k - 1) < lim q (k - 1)) = false := by simp; omega
     have he4 : decide (((lim q (k - 1) : Nat) : Int) < ((lim p (k - 1) : Nat) : Int)) = false := by simp; omega
     have he5 : decide (lim q (k - 1) < lim p (k - 1)) = false := by simp; omega
     have HE := hid he
     clear he
     go_wp2_with fail
     have s3 := S3.out
     go_quiet (fail)
     go_wp2_with fail
     go_quiet (fail)
     clear s3
     go_wp2_with fail
     go_roundw
     case rel =>
      refine ⟨k - 1, by omega, by go_num, fun j hj => ?_, Pg.bel⟩
      rcases Nat.lt_or_ge j k with h1 | h1
      ·have : j = k - 1 := by omega
       subst this; exact HE.out
      ·exact hall.out j h1
     case measure => simp [intOf]; omega
    ·have he2 : decide (((lim p (k - 1) : Nat) : Int) < ((lim q (k - 1) : Nat) : Int)) = false := by simp; omega
     have he3 : decide (lim p (k - 1) < lim q (k - 1)) = false := by simp; omega
     have he4 : decide (((lim q (k - 1) : Nat) : Int) < ((lim p (k - 1) : Nat) : Int)) = true := by simp; omega
     have he5 : decide (lim q (k - 1) < lim p (k - 1)) = true := by simp; omega
     have hf : Hid (val ys < val xs) := hid (by
      rw [← hvp.out, ← hvq.out]
      exact cmp_at hq.ok (by rw [hpl.out, hql.out]) (k := k - 1) (by rw [hql.out]; omega) (fun j hj => (hall.out j (by omega)).symm) he)
     clear he
     go_wp2_with fail
     have s3 := S3.out
     go_quiet (fail)
     go_wp2_with fail
     go_quiet (fail)
     go_wp2_with fail
     go_ret
     exact ⟨by rw [cmpv_gt hf.out]; rfl, Pg.bel⟩
 ·have hb : ((n0 : Int) != (n1 : Int)) = true := by simp; omega
  rcases Nat.lt_or_ge n0 n1 with hlt | hlt
  ·have hf : Hid (val xs < val ys) := hid (cmp_len (by rw [← HP.out, ← HQ.out, hpl.out, hql.out]; exact hlt))
   have hd : decide ((n0 : Int) < (n1 : Int)) = true := by simp; omega
   have hd' : decide (n0 < n1) = true := by simp; omega
   go_wp2_with fail
   go_ret
   exact ⟨by rw [cmpv_lt hf.out]; rfl, Pg.bel⟩
  ·have hf : Hid (val ys < val xs) := hid (cmp_len (by rw [← HP.out, ← HQ.out, hpl.out, hql.out]; omega))
   have hd : decide ((n0 : Int) < (n1 : Int)) = false := by simp; omega
   have hd' : decide (n0 < n1) = false := by simp; omega
   go_wp2_with fail
   go_ret
   exact ⟨by rw [cmpv_gt hf.out]; rfl, Pg.bel⟩
end Go.Proofs.Ytahdlpkncemmaaa
namespace Go.Proofs.Ytahdlpkncemmaaa
open Go.RowKit Pg
def Ret2 (w : World) (N : Nat) (b : Bool) (e : Ending) (w' : World) : Prop :=
 ∃ A c, e = .returned (.tuple #[.slice A (limbs N).length c, .bool b]) ∧ Row w' A (limbs N).length c (limbs N) ∧ Below w.heap.size w w'
theorem Ret2.of_row {w w' : World} {A : Option Addr} {n c N : Nat} {b : Bool} {xs : List Nat} (h : Row w' A n c xs) (e : xs = limbs N) (hb : Below w.heap.size w w') : Ret2 w N b (.returned (.tuple #[.slice A n c, .bool b])) w' := by
 subst e
 have := h.len
 subst this
 exact ⟨A, c, rfl, h, hb⟩
def geB (a b : Nat) : Bool := decide (b ≤ a)
theorem Sub_any (A A' : Option Addr) (n c n' c' : Nat) (xs ys : List Nat) (w : World) (h : Row w A n c xs) (h' : Row w A' n' c' ys) (hb : n ≤ 1073741824) (_hb' : n' ≤ 1073741824) :
  Calls Try.prog 26 #[.slice A n c, .slice A' n' c'] w (Ret2 w (val xs - val ys) (geB (val xs) (val ys))) := by
 have hC := Cmp_any A A' n c n' c' xs ys w h h'
 rcases Nat.lt_or_ge (val xs) (val ys) with hlt | hge
 ·rw [cmpv_lt hlt] at hC
  have hg : geB (val xs) (val ys) = false := by simp [geB]; omega
  have hz : val xs - val ys = 0 := by omega
  rw [hg, hz]
  have HC := hid hC
  clear hC hg hz
  go_enter Try.func26, Try.ntmps26
  go_wp2_with (go_at_call 37; refine (HC.out).mono ?_; rintro e w1 ⟨rfl, hb1⟩)
  go_ret2
  exact Ret2.of_row (Row.nil _) rfl hb1
 ·have hC2 : Calls Try.prog 37 #[.slice A n c, .slice A' n' c'] w fun e w' => ∃ z : Int, 0 ≤ z ∧ e = .returned (.int .i64 z) ∧ Below w.heap.size w w' := by
   refine hC.mono fun e w' ⟨he, hb⟩ => ⟨_, ?_, he, hb⟩
   unfold cmpv; split <;> first | omega | (split <;> omega)
  have hg : geB (val xs) (val ys) = true := by simp [geB]; omega
  rw [hg]
  have HC := hid hC2
  clear hC hC2 hg
  have HGE := hid hge
  clear hge
  go_enter Try.func26, Try.ntmps26
  go_upto_region 3 with (go_at_call 37; refine (HC.out).mono ?_; rintro e w1 ⟨z, hz, rfl, hb1⟩; (have hd : decide (z < 0) = false := by simp; omega))
  have hrx := (h.below hb1).trim
  have hry := (h'.below hb1).trim
  have hx1 := h.below hb1
  have hy1 := h'.below hb1
  go_cut [0, 1] (fun s0 s1 wc => ∃ n0 n1 p q, s0 = .slice A n0 c ∧ s1 = .slice A' n1 c' ∧ Row wc A n0 c p ∧ Row wc A' n1 c' q ∧ n0 ≤ 1073741824 ∧ Hid (val p = val xs ∧ val q = val ys ∧ n1 ≤ n0) ∧ Below w.heap.size w wc)
  case first =>
   go_wp2_with (go_at_call 32; refine (trim_any _ _ _ _ _ (by assumption)).mono ?_; rintro e w' ⟨rfl, rfl⟩)
   go_meet
   refine ⟨_, _, _, _, rfl, rfl, hrx, hry, by have := tl_le h.ok; rw [h.len] at this; omega, ⟨val_limbs _, val_limbs _, ?_⟩, hb1⟩
   have h2 := HGE.out
   rcases Nat.lt_or_ge (tl xs) (tl ys) with h3 | h3
   ·have := cmp_len (a := val xs) (b := val ys) h3
    omega
   ·exact h3
  case rest =>
   obtain ⟨n0, n1, p, q, rfl, rfl, hp, hq, hn0, HV, hbw⟩ := hcut
   clear h h' hrx hry hx1 hy1 hb1
   have hp1 := hp.nc
   have hp2 := hp.cm
   have hq1 := hq.nc
   have hq2 := hq.cm
   have hpl := hid hp.len
   have hql := hid hq.len
   have hmk := run_make_row (P := Try.prog) 23 44 Try.underlying23 info32 (n0 : Int) n0 rfl (by omega)
   go_wp2_with fail
   go_loopw [7, 24] (fun s7 i wr => ∃ k br cs, k ≤ n0 ∧ i = .int .i64 ((k : Nat) : Int) ∧ s7 = .int .u32 ((br : Nat) : Int) ∧ SubInv p q k br cs ∧ Hid (cs.length = n0) ∧ Blk wr wc.heap.size 44 cs ∧ Below wc.heap.size wc wr) (fun _ i _ => n0 - (intOf i).toNat)
   case atStart => exact ⟨0, 0, _, by omega, rfl, rfl, SubInv.start p q _ (ok_replicate n0), by simp [Hid], Blk.new _ _ _, Below.alloc (Below.refl _ _) (Nat.le_refl _) _⟩
   case round =>
    obtain ⟨k, br, cs, hk, rfl, rfl, hinv, hcl, hblk, hbel⟩ := hrel
    have hlp := lim_lt hp.ok k
    have hlq := lim_lt hq.ok k
    have hbr := hinv.le
    have hfz := hblk.frozen k
    by_cases hlt : k < n0
    ·obtain ⟨b, o, rfl, hc⟩ := hp.at_ (by omega)
     have hbw1 := hp.lt (by omega) rfl
     have g1 : wr.cell? ⟨b, o + k, none⟩ = some (.int .u32 ((lim p k : Nat) : Int)) := (hbel.cell (by exact hbw1)).trans (hc k hlt)
     have g3 := hblk.cell (i := k) (by rw [hcl.out]; omega)
     clear hc
     by_cases hlt2 : k < n1
     ·obtain ⟨b', o', rfl, hc'⟩ := hq.at_ (by omega)
      have hbw' := hq.lt (by omega) rfl
      have g2 : wr.cell? ⟨b', o' + k, none⟩ = some (.int .u32 ((lim q k : Nat) : Int)) := (hbel.cell (by exact hbw')).trans (hc' k hlt2)
      clear hc'
      go_wp2_with (go_at_call 38; refine (sub32_any (lim p k) (lim q k) br _ _ _ _ (by rfl) (by rfl) (by rfl) hlp hlq hbr).mono ?_; rintro e w' ⟨rfl, rfl⟩)
      go_roundw
      case rel => exact ⟨k + 1, _, _, by omega, by go_num, rfl, hinv.set hp.ok hq.ok (by rw [hcl.out]; exact hlt), by rw [List.length_set]; exact hcl, hblk.set k _ _ rfl, hbel.setCell (Nat.le_refl _) _⟩
      case measure => simp [intOf]; omega
     ·have hz : Hid (lim q k = 0) := hid (lim_behind (by rw [hql.out]; omega))
      have hlt2' : n1 ≤ k := by omega
      go_wp2_with (go_at_call 38; refine (sub32_any (lim p k) (lim q k) br _ _ _ _ (by rfl) (by rw [hz.out]; rfl) (by rfl) hlp hlq hbr).mono ?_; rintro e w' ⟨rfl, rfl⟩)
      go_roundw
      case rel => exact ⟨k + 1, _, _, by omega, by go_num, rfl, hinv.set hp.ok hq.ok (by rw [hcl.out]; exact hlt), by rw [List.length_set]; exact hcl, hblk.set k _ _ rfl, hbel.setCell (Nat.le_refl _) _⟩
      case measure => simp [intOf]; omega
    ·obtain rfl : k = n0 := by omega
     have hdone : Hid (val cs = val xs - val ys) := hid (by
      have e := hpl.out
      have e2 := HGE.out
      have e3 := HV.out
      have e4 := hcl.out
      subst e
      rw [hinv.fin hp.ok e4 (by omega), e3.1, e3.2.1])
     have hr2 := hblk.row hinv.ok (by rw [hcl.out]; omega)
     rw [hcl.out] at hr2
     go_wp2_with (go_at_call 32; refine (trim_any _ _ _ _ _ hr2).mono ?_; rintro e w' ⟨rfl, rfl⟩)
     go_ret2
     exact Ret2.of_row hr2.trim (by rw [hdone.out]) Pg.bel
end Go.Proofs.Ytahdlpkncemmaaa
namespace Go.Proofs.Ytahdlpkncemmaaa
open Go.RowKit Pg
theorem rAdd_any (A A' : Option Addr) (n c n' c' : Nat) (p q : List Nat) (w : World) (h : Row w A n c p) (h' : Row w A' n' c' q) (hb : n ≤ 35184372088000) (hb' : n' ≤ 35184372088000) :
  Calls Try.prog 42 #[.slice A n c, .slice A' n' c'] w (Ret w (val p + val q)) := by
 have hp1 := h.nc
 have hp2 := h.cm
 have hq1 := h'.nc
 have hq2 := h'.cm
 have hpl := hid h.len
 have hql := hid h'.len
 obtain ⟨m, hm1, hm2, hm3, hmx, hmy⟩ : ∃ m : Nat, n ≤ m ∧ n' ≤ m ∧ m ≤ 35184372088000 ∧ (if (n : Int) < (n' : Int) then (n' : Int) else (n : Int)) = (m : Int) ∧ (if n < n' then (n' : Int) else (n : Int)) = (m : Int) := by
  by_cases hlt : n < n'
  ·exact ⟨n', by omega, by omega, by omega, by rw [if_pos (by omega)], by rw [if_pos hlt]⟩
  ·exact ⟨n, by omega, by omega, by omega, by rw [if_neg (by omega)], by rw [if_neg hlt]⟩
 go_enter Try.func42, Try.ntmps42
 go_wp2_with fail
 go_loopw [5, 6, 7] (fun v s6 i wr => ∃ k cr cs, k ≤ m + 1 ∧ i = .int .i64 ((k : Nat) : Int) ∧ s6 = .int .u64 ((cr : Nat) : Int) ∧ AppInv p q k cr cs ∧ wr.ownsRow w.heap.size 44 1 v k (u32s cs) ∧ Below w.heap.size w wr) (fun _ _ i _ => m + 1 - (intOf i).toNat)
 case atStart => exact ⟨0, 0, [], by omega, rfl, rfl, AppInv.start p q, World.ownsRow_nil _ _ _ _, Below.refl _ _⟩
 case round =>
  obtain ⟨k, cr, cs, hk, rfl, rfl, hinv, hown, hbel⟩ := hrel
  have hlp := lim_lt h.ok k
  have hlq := lim_lt h'.ok k
  have hcr := hinv.le
  by_cases hlt : k < m + 1
  ·have hpr := h.below hbel
   have hqr := h'.below hbel
   have hsz := hbel.size
   have hnext := hinv.step h.ok h'.ok _ rfl
   have hd1 : decide ((k : Int) < (m : Int) + 1) = true := by simp; omega
   go_wp2_with (first
    | (go_at_call 53; refine (at_any _ _ _ _ _ _ (by assumption) (by omega)).mono ?_; rintro e w' ⟨rfl, rfl⟩)
    | (at_builtin; refine wpList_append_row _ rfl _ _ 23 rfl w.heap.size 44 Try.underlying23 info32 _ _ _ rfl (hown.alloc _) _ _ _ [(cr + lim p k + lim q k) % 4294967296] rfl (Row.one _ _ _ _ _ rfl (by omega) (by omega)) (by omega) (by simp; omega) ?_))
   intro v' w' hown' hgr
   go_wp2_with fail
   go_roundw
   case rel => exact ⟨k + 1, (cr + lim p k + lim q k) / 4294967296, _, by omega, by go_num, by go_num, hnext, hown', Below.grown (Below.alloc hbel hbel.size _) hgr (by simp; omega) (fun g hg => (hown.lt g hg).1)⟩
   case measure => simp [intOf]; omega
  ·obtain rfl : k = m + 1 := by omega
   have hd1 : decide (((m + 1 : Nat) : Int) < (m : Int) + 1) = false := by simp
   have hdone : Hid (val cs = val p + val q) := hid (hinv.fin h.ok h'.ok (by rw [hpl.out]; exact hm1) (by rw [hql.out]; exact hm2))
   obtain ⟨A3, c3, rfl, hr⟩ := Row.of_own hown hinv.ok
   go_wp2_with (go_at_call 27; refine (rTrim_any _ _ _ _ _ hr (by omega)).mono ?_; rintro e w2 ⟨A4, c4, rfl, hr4, hb4⟩)
   go_ret
   exact Ret.of_row hr4 (by rw [hdone.out]) Pg.bel
end Go.Proofs.Ytahdlpkncemmaaa
namespace Go.Proofs.Ytahdlpkncemmaaa
open Go.RowKit Pg
theorem Sub_N (A A' : Option Addr) (n c n' c' : Nat) (xs ys : List Nat) (w : World) (a b : Nat) (h : Row w A n c xs) (h' : Row w A' n' c' ys) (ea : val xs = a) (eb : val ys = b) (hb : n ≤ 1073741824) (hb' : n' ≤ 1073741824) :
  Calls Try.prog 26 #[.slice A n c, .slice A' n' c'] w (Ret2 w (a - b) (geB a b)) := by
 subst ea eb; exact Sub_any A A' n c n' c' xs ys w h h' hb hb'
theorem rAdd_N (A A' : Option Addr) (n c n' c' : Nat) (xs ys : List Nat) (w : World) (a b : Nat) (h : Row w A n c xs) (h' : Row w A' n' c' ys) (ea : val xs = a) (eb : val ys = b) (hb : n ≤ 35184372088000) (hb' : n' ≤ 35184372088000) :
  Calls Try.prog 42 #[.slice A n c, .slice A' n' c'] w (Ret w (a + b)) := by
 subst ea eb; exact rAdd_any A A' n c n' c' xs ys w h h' hb hb'
end Go.Proofs.Ytahdlpkncemmaaa
