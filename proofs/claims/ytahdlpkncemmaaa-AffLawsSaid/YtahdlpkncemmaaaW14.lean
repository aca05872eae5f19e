/- Walks · Walk. Conditions: those that each theorem names. -/
import Derived.Test.YtahdlpkncemmaaaW11
import Derived.Test.YtahdlpkncemmaaaW12
import Derived.Test.YtahdlpkncemmaaaW13
set_option maxRecDepth 100000
set_option maxHeartbeats 8000000
set_option linter.unusedSimpArgs false
set_option linter.unusedVariables false
namespace Go.Proofs.Ytahdlpkncemmaaa
open Go.RowKit Pg
theorem rTo_any (A : Option Addr) (n c : Nat) (xs : List Nat) (w : World) (h : Row w A n c xs) (hn : n ≤ 35184372088000) :
  Calls Try.prog 39 #[.slice A n c] w fun e w' => e = .returned (.tuple #[.int .u64 ((to64 (val xs) : Nat) : Int), .bool (is64 (val xs))]) ∧ Below w.heap.size w w' := by
 have hT := hid (rTrim_any A n c xs w h (by omega))
 have htl : tl xs ≤ 35184372088000 := by have := tl_le h.ok; rw [h.len] at this; omega
 have hlm : Hid ((limbs (val xs)).length = tl xs) := hid rfl
 rcases Nat.lt_or_ge 2 (tl xs) with h2 | h2
 ·obtain ⟨e1, e2⟩ := to64_len (N := val xs) h2
  rw [e1, e2]
  have hd : decide ((2 : Int) < ((limbs (val xs)).length : Int)) = true := by rw [hlm.out]; simp; omega
  clear e1 e2 h2
  go_enter Try.func39, Try.ntmps39
  go_wp2_with (go_at_call 27; refine (hT.out).mono ?_; rintro e w1 ⟨A1, c1, rfl, hr, hb⟩)
  go_ret2
  exact ⟨rfl, hb⟩
 ·obtain ⟨e0, e1, e2⟩ := to64_in (N := val xs) h2
  rw [e1, e2]
  have hT2 : Calls Try.prog 27 #[.slice A n c] w fun e w' => ∃ A1 c1 m p, e = .returned (.slice A1 m c1) ∧ m ≤ 2 ∧ Row w' A1 m c1 p ∧ Hid (val p = val xs) ∧ Below w.heap.size w w' := by
   refine hT.out.mono fun e w' ⟨A1, c1, he, hr, hb⟩ => ?_
   exact ⟨A1, c1, _, _, he, h2, hr, val_limbs _, hb⟩
  have HT := hid hT2
  clear hT2 hT e0 e1 e2
  go_enter Try.func39, Try.ntmps39
  go_wp2_with (go_at_call 27; refine (HT.out).mono ?_; rintro e w1 ⟨A1, c1, m, p, rfl, hm, hp, HP, hb⟩; (have hd : decide ((2 : Int) < (m : Int)) = false := by simp; omega); (have hp1 := hp.nc); (have hp2 := hp.cm))
  have hpl := hid hp.len
  go_loop [5, 6] (fun s5 i => ∃ k : Nat, k ≤ m ∧ i = .int .i64 ((k : Int) - 1) ∧ s5 = .int .u64 ((val (p.drop k) : Nat) : Int)) (fun _ i => (intOf i + 1).toNat)
  case atStart => exact ⟨m, by omega, rfl, by rw [List.drop_eq_nil_of_le (by rw [hpl.out]; omega)]; rfl⟩
  case round =>
   obtain ⟨k, hk, rfl, rfl⟩ := hrel
   rcases Nat.eq_zero_or_pos k with h0 | h0
   ·have hd0 : decide ((0 : Int) ≤ (k : Int) - 1) = false := by simp; omega
    have hd1 : decide ((1 : Int) ≤ (k : Int)) = false := by simp; omega
    have hf : Hid (val (p.drop k) = val xs) := hid (by rw [h0, List.drop_zero, HP.out])
    clear h0
    go_wp2_with fail
    go_ret2
    exact ⟨by rw [← hf.out]; rfl, hb⟩
   ·have hd0 : decide ((0 : Int) ≤ (k : Int) - 1) = true := by simp; omega
    have hd1 : decide ((1 : Int) ≤ (k : Int)) = true := by simp; omega
    obtain ⟨b, o, rfl, hc⟩ := hp.at_ (by omega)
    have g1 := hc (k - 1) (by omega)
    have hx := lim_lt hp.ok (k - 1)
    have hV := val_lt (hp.ok.drop k)
    rw [List.length_drop, hpl.out] at hV
    have hV2 : val (p.drop k) < 4294967296 := by
     have : 4294967296 ^ (m - k) ≤ 4294967296 ^ 1 := Nat.pow_le_pow_right (by omega) (by omega)
     omega
    have hcons : Hid (val (p.drop k) * 4294967296 + lim p (k - 1) = val (p.drop (k - 1))) := hid (by
     rw [List.drop_eq_getElem_cons (i := k - 1) (by rw [hpl.out]; omega), show k - 1 + 1 = k from by omega, lim_get (by rw [hpl.out]; omega)]
     simp only [val]; omega)
    clear hc hV
    go_wp2_with fail
    go_round
    case rel => exact ⟨k - 1, by omega, by go_num, by rw [walk_rto hV2 hx, hcons.out]⟩
    case measure => simp [intOf]; omega
end Go.Proofs.Ytahdlpkncemmaaa
namespace Go.Proofs.Ytahdlpkncemmaaa
open Go.RowKit Pg
theorem at_I (A : Option Addr) (n c : Nat) (xs : List Nat) (i : Nat) (w : World) (iI : Int) (ei : iI = (i : Int)) (h : Row w A n c xs) (hi : i ≤ 9223372036854775807) :
  Calls Try.prog 53 #[.slice A n c, .int .i64 iI] w fun e w' => e = .returned (.int .u64 ((lim xs i : Nat) : Int)) ∧ w = w' := by
 subst ei; exact at_any A n c xs i w h hi
theorem row_drop {w : World} {b o n c k : Nat} {xs : List Nat} (h : Row w (some ⟨b, o, none⟩) n c xs) (hk : k < n) : Row w (some ⟨b, o + k, none⟩) (n - k) (c - k) (xs.drop k) := by
 have h1 := h.nc
 have h2 := h.cm
 refine ⟨by rw [List.length_drop, h.len], by omega, by omega, h.ok.drop k, (fun e => by cases e), fun _ => ⟨b, o + k, rfl, fun j hj => ?_⟩⟩
 obtain ⟨b', o', e, hc⟩ := h.at_ (by omega)
 injection e with e
 injection e with e1 e2
 subst e1 e2
 rw [lim_drop, Nat.add_assoc]
 exact hc (k + j) (by omega)
theorem rShift_any (A : Option Addr) (n c : Nat) (d : Int) (xs : List Nat) (w : World) (h : Row w A n c xs) (hn : n ≤ 35184372088000) :
  Calls Try.prog 41 #[.slice A n c, .int .i64 d] w (Ret w (shv (val xs) (clampD d))) := by
 have hcd := clampD_bd d
 go_enter Try.func41, Try.ntmps41
 go_upto_region 2 with fail
 generalize hE1 : max d (-4096) = e1
 generalize hE2 : min e1 4096 = e
 have HE : Hid (e = clampD d) := hid (by unfold clampD; split <;> split at * <;> omega)
 have he1 : -4096 ≤ e := by rw [HE.out]; exact hcd.1
 have he2 : e ≤ 4096 := by rw [HE.out]; exact hcd.2
 clear hE1 hE2 hcd
 go_wp2_with fail
 refine (rTrim_any _ _ _ _ _ h (by omega)).mono ?_
 rintro ee w1 ⟨A1, c1, rfl, hr, hb⟩
 have hn0 : tl xs ≤ 35184372088000 := by have := tl_le h.ok; rw [h.len] at this; omega
 obtain ⟨p, hpe⟩ : ∃ p, p = limbs (val xs) := ⟨_, rfl⟩
 obtain ⟨n0, hne⟩ : ∃ n0, n0 = p.length := ⟨_, rfl⟩
 have hn0' : n0 ≤ 35184372088000 := by rw [hne, hpe]; exact hn0
 rw [← hpe, ← hne] at hr ⊢
 have hp1 := hr.nc
 have hp2 := hr.cm
 have hpl := hid hne.symm
 have HP := hid hpe
 clear hn0 hne hpe h
 by_cases hneg : e < 0
 ·obtain ⟨t, ht⟩ : ∃ t : Nat, e = -(t : Int) := ⟨(-e).toNat, by omega⟩
  subst ht
  have ht0 : 0 < t := by omega
  have HV : Hid (shv (val xs) (clampD d) = val p / 2 ^ t) := hid (by rw [← HE.out, shv_neg _ _ ht0, HP.out, val_limbs])
  by_cases hlim : n0 ≤ t / 32
  ·have HN : Hid (shv (val xs) (clampD d) = 0) := hid (by rw [HV.out]; exact right_none hr.ok t (by rw [hpl.out]; exact hlim))
   have hd1 : decide ((n0 : Int) ≤ (t : Int) / 32) = true := by simp; omega
   go_wp2_with fail
   go_ret
   exact Ret.of_row (Row.nil _) (by rw [HN.out]; rfl) hb
  ·obtain ⟨b, o, rfl, _⟩ := hr.at_ (by omega)
   have hcn : ¬ c1 = t / 32 := by omega
   have hd1 : decide ((n0 : Int) ≤ (t : Int) / 32) = false := by simp; omega
   have hal := row_drop hr (k := t / 32) (by omega)
   have HA : Hid (val (p.drop (t / 32)) / 2 ^ (t % 32) = val p / 2 ^ t) := hid (right_number hr.ok t (by rw [hpl.out]; omega))
   have hall : Hid ((p.drop (t / 32)).length = n0 - t / 32) := hid (by rw [List.length_drop, hpl.out])
   generalize p.drop (t / 32) = al at *
   have haok := hal.ok
   go_wp2_with fail
   go_loopw [8, 9] (fun v i wr => ∃ k cs, k ≤ n0 - t / 32 ∧ i = .int .i64 ((k : Nat) : Int) ∧ Hid (cs.length = k) ∧ Ok cs ∧ Hid (val cs = val al / 2 ^ (t % 32) % 4294967296 ^ k) ∧ wr.ownsRow w1.heap.size 44 1 v k (u32s cs) ∧ Below w1.heap.size w1 wr) (fun _ i _ => (n0 - t / 32) - (intOf i).toNat)
   case atStart => exact ⟨0, [], by omega, rfl, rfl, ok_nil, by simp [val, Nat.mod_one, Hid], World.ownsRow_nil _ _ _ _, Below.refl _ _⟩
   case round =>
    obtain ⟨k, cs, hk, rfl, hcl, hok, HM, hown, hbel⟩ := hrel
    by_cases hlt : k < n0 - t / 32
    ·have hx := lim_lt haok k
     have hx2 := lim_lt haok (k + 1)
     have har := hal.below hbel
     have hsz := hbel.size
     have hnext := hid (app_limb hcl.out HM.out _ (shr_limb (i := k) haok (y := t % 32) (by omega)))
     have hlen : Hid ((cs ++ [(lim al k + lim al (k + 1) * 4294967296) / 2 ^ (t % 32) % 4294967296]).length = k + 1) := hid (by simp; exact hcl.out)
     go_wp2_with (first
      | (go_at_call 53; refine (at_I _ _ _ _ k _ _ (by omega) har (by omega)).mono ?_; rintro e w' ⟨rfl, rfl⟩)
      | (go_at_call 53; refine (at_I _ _ _ _ (k + 1) _ _ (by omega) har (by omega)).mono ?_; rintro e w' ⟨rfl, rfl⟩)
      | (at_builtin; refine wpList_append_row _ rfl _ _ 23 rfl w1.heap.size 44 Try.underlying23 info32 _ _ _ rfl (hown.alloc _) _ _ _ [(lim al k + lim al (k + 1) * 4294967296) / 2 ^ (t % 32) % 4294967296] rfl (Row.one _ _ _ _ _ rfl (walk_pair hx hx2) (Nat.mod_lt _ (by omega))) (by omega) (by simp; omega) ?_))
     intro v' w' hown' hgr
     go_wp2_with fail
     go_roundw
     case rel => exact ⟨k + 1, _, by omega, by go_num, hlen, ok_append.2 ⟨hok, ok_cons.2 ⟨Nat.mod_lt _ (by omega), ok_nil⟩⟩, hnext, hown', Below.grown (Below.alloc hbel hbel.size _) hgr (by simp; omega) (fun g hg => (hown.lt g hg).1)⟩
     case measure => simp [intOf]; omega
    ·obtain rfl : k = n0 - t / 32 := by omega
     have hdone : Hid (val cs = val p / 2 ^ t) := hid (by
      have h1 := val_lt haok
      rw [hall.out] at h1
      have h2 : val al / 2 ^ (t % 32) ≤ val al := Nat.div_le_self _ _
      rw [HM.out, Nat.mod_eq_of_lt (Nat.lt_of_le_of_lt h2 h1), HA.out])
     obtain ⟨A3, c3, rfl, hr3⟩ := Row.of_own hown hok
     go_wp2_with (go_at_call 27; refine (rTrim_any _ _ _ _ _ hr3 (by omega)).mono ?_; rintro e w2 ⟨A4, c4, rfl, hr4, hb4⟩)
     go_ret
     exact Ret.of_row hr4 (by rw [hdone.out, HV.out]) Pg.bel
 ·obtain ⟨t, ht⟩ : ∃ t : Nat, e = (t : Int) := ⟨e.toNat, by omega⟩
  subst ht
  have hmk := run_make_row (P := Try.prog) 23 44 Try.underlying23 info32 ((t : Int) / 32) (t / 32) (by omega) (by omega)
  have HV : Hid (shv (val xs) (clampD d) = val p * 2 ^ t) := hid (by rw [← HE.out, shv_pos, HP.out, val_limbs])
  go_wp2_with fail
  go_loopw [10, 12, 13] (fun v s12 i wr => ∃ k low ds, k ≤ n0 + 1 ∧ i = .int .i64 ((k : Nat) : Int) ∧ s12 = .int .u64 ((low : Nat) : Int) ∧ ShlInv p (t % 32) k low ds ∧ Hid (n0 + 1 ≤ k → low = 0) ∧ wr.ownsRow w1.heap.size 44 1 v (t / 32 + k) (u32s (List.replicate (t / 32) 0 ++ ds)) ∧ Below w1.heap.size w1 wr) (fun _ _ i _ => n0 + 1 - (intOf i).toNat)
  case atStart =>
   refine ⟨0, 0, [], by omega, rfl, rfl, ShlInv.start p _, fun _ => rfl, ?_, Below.alloc (Below.refl _ _) (Nat.le_refl _) _⟩
   have := World.ownsRow_lit (e := 44) (size := 1) (base := w1.heap.size) w1 (u32s (List.replicate (t / 32) 0)).toArray (t / 32) (Nat.le_refl _) (by simp only [maxLen]; omega) (by simp [length_u32s])
   simpa using this
  case round =>
   obtain ⟨k, low, ds, hk, rfl, rfl, hinv, HL, hown, hbel⟩ := hrel
   have hle := hinv.le
   have hlow : low < 2147483648 := Nat.lt_of_lt_of_le hle (two_pow_le (by omega))
   by_cases hlt : k < n0 + 1
   ·have hx := lim_lt hr.ok k
    have har := hr.below hbel
    have hsz := hbel.size
    have hd2 : decide ((k : Int) < (n0 : Int) + 1) = true := by simp; omega
    have hnext := hinv.step hr.ok (by omega)
    have hz : Hid (n0 + 1 ≤ k + 1 → lim p k * 2 ^ (t % 32) / 4294967296 = 0) := hid (fun hk2 => by
     rw [lim_behind (by rw [hpl.out]; omega), Nat.zero_mul, Nat.zero_div])
    have HLE := hid hle
    clear hle
    go_wp2_with (first
     | (go_at_call 53; refine (at_I _ _ _ _ k _ _ (by omega) har (by omega)).mono ?_; rintro e w' ⟨rfl, rfl⟩)
     | (at_builtin; refine wpList_append_row _ rfl _ _ 23 rfl w1.heap.size 44 Try.underlying23 info32 _ _ _ rfl (hown.alloc _) _ _ _ [(lim p k * 2 ^ (t % 32) + low) % 4294967296] rfl (Row.one _ _ _ _ _ rfl (walk_low hx (by omega) HLE.out) (Nat.mod_lt _ (by omega))) (by omega) (by simp; omega) ?_))
    intro v' w' hown' hgr
    go_wp2_with fail
    go_roundw
    case rel => exact ⟨k + 1, lim p k * 2 ^ (t % 32) / 4294967296, _, by omega, by go_num, by rw [walk_shl hx (by omega)]; go_num, hnext, hz, hown', Below.grown (Below.alloc hbel hbel.size _) hgr (by simp; omega) (fun g hg => (hown.lt g hg).1)⟩
    case measure => simp [intOf]; omega
   ·obtain rfl : k = n0 + 1 := by omega
    have hd2 : decide (((n0 + 1 : Nat) : Int) < (n0 : Int) + 1) = false := by simp
    have hdone : Hid (val (List.replicate (t / 32) 0 ++ ds) = val p * 2 ^ t) := hid (by
     have hi := hinv
     rw [← hpl.out] at hi
     have e1 := hi.done (HL.out (Nat.le_refl _))
     rw [val_append, val_replicate, List.length_replicate, Nat.zero_add, e1, base_pow, Nat.mul_comm, Nat.mul_assoc, ← Nat.pow_add, Nat.mod_add_div])
    obtain ⟨A3, c3, rfl, hr3⟩ := Row.of_own hown (ok_append.2 ⟨ok_replicate _, hinv.ok⟩)
    go_wp2_with (go_at_call 27; refine (rTrim_any _ _ _ _ _ hr3 (by omega)).mono ?_; rintro e w2 ⟨A4, c4, rfl, hr4, hb4⟩)
    go_ret
    exact Ret.of_row hr4 (by rw [hdone.out, HV.out]) Pg.bel
end Go.Proofs.Ytahdlpkncemmaaa
