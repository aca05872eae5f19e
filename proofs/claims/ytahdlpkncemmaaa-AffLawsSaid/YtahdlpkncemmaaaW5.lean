/- Walks · Walks. Conditions: those that each theorem names. -/
import Derived.Test.YtahdlpkncemmaaaW4
import Derived.Deep.QuietTactic
import Derived.BigQuiet
set_option maxRecDepth 100000
set_option maxHeartbeats 8000000
set_option linter.unusedSimpArgs false
set_option linter.unusedVariables false
namespace Go.Proofs.Ytahdlpkncemmaaa
open Go.RowKit Pg
def eqB (xs ys : List Nat) : Bool := decide (xs = ys)
theorem eqB_true {xs ys : List Nat} (h : xs = ys) : eqB xs ys = true := by simp [eqB, h]
theorem eqB_false {xs ys : List Nat} (h : xs ≠ ys) : eqB xs ys = false := by simp [eqB, h]
theorem eqB_lim {xs ys : List Nat} (k : Nat) (h : lim xs k ≠ lim ys k) : eqB xs ys = false := eqB_false (fun e => h (by rw [e]))
theorem eqB_all {xs ys : List Nat} (hl : xs.length = ys.length) (h : ∀ i, i < xs.length → lim xs i = lim ys i) : eqB xs ys = true := by
 refine eqB_true (List.ext_getElem hl fun i h1 h2 => ?_)
 rw [← lim_get h1, ← lim_get h2]
 exact h i h1
theorem at_any (A : Option Addr) (n c : Nat) (xs : List Nat) (i : Nat) (w : World) (h : Row w A n c xs) (hi : i ≤ 9223372036854775807) :
  Calls Try.prog 53 #[.slice A n c, .int .i64 (i : Int)] w fun e w' => e = .returned (.int .u64 ((lim xs i : Nat) : Int)) ∧ w = w' := by
 have hcm := h.cm
 have hnc := h.nc
 have hl := hid h.len
 have hlt := lim_lt h.ok i
 by_cases hin : i < n
 ·obtain ⟨b, o, rfl, hc⟩ := h.at_ (by omega)
  have g1 := hc i hin
  clear hc
  go_enter Try.func53, Try.ntmps53
  go_wp2_with fail
  go_ret
  exact ⟨rfl, rfl⟩
 ·have e : Hid (lim xs i = 0) := hid (lim_behind (by rw [hl.out]; omega))
  have hin' : n ≤ i := by omega
  go_enter Try.func53, Try.ntmps53
  go_wp2_with fail
  go_ret
  exact ⟨by rw [e.out]; rfl, rfl⟩
theorem info32 : (Try.prog.info? 44).map (fun i => (i.zero, i.size, i.bytes)) = some (some (.int .u32 0), 1, 4) := by kernel_rfl
theorem slice_eq_nil (w : World) (ad : Addr) (n c : Nat) : (binOp .eql 23 (.slice (some ad) n c) (.slice none 0 0)).run Try.prog w = .ok (.bool false) w :=
 Lib.run_eql_slice_nil w _ _ (some ad) n c 0 0 Try.underlying23
theorem clone_any (A : Option Addr) (n c : Nat) (xs : List Nat) (w : World) (h : Row w A n c xs) (hb : n ≤ 35184372088832) :
  Calls Try.prog 50 #[.slice A n c] w fun e w' => ∃ A' c', e = .returned (.slice A' n c') ∧ Row w' A' n c' xs ∧ Below w.heap.size w w' := by
 cases A with
 | none =>
  have hc := h.nil_ rfl
  have hnc := h.nc
  subst hc
  obtain rfl : n = 0 := by omega
  have q : ∀ W, (binOp .eql 23 (.slice none 0 0) (.slice none 0 0)).run Try.prog W = .ok (.bool true) W := fun W => Lib.run_eql_slice_nil W _ _ none 0 0 0 0 Try.underlying23
  go_enter Try.func50, Try.ntmps50
  go_wp2_with fail
  go_ret
  exact ⟨_, _, rfl, h, Below.refl _ _⟩
 | some ad =>
  have q := fun W => slice_eq_nil W ad n c
  go_enter Try.func50, Try.ntmps50
  go_wp2_with (at_builtin; refine wpList_append_row _ rfl _ _ 23 rfl w.heap.size 44 Try.underlying23 info32 _ 0 [] rfl (own_nil w _) _ n _ xs rfl (h.alloc _) (by omega) (by simp) ?_)
  intro v' w' hown hgr
  try simp only [Nat.zero_add, List.nil_append] at hown
  obtain ⟨A', c', rfl, hr⟩ := Row.of_own hown h.ok
  go_wp2_with fail
  go_ret
  exact ⟨_, _, rfl, hr, Below.grown (Below.alloc (Below.refl _ _) (Nat.le_refl _) _) hgr (by simp) (by intro k hk; simp [Value.ownBlock] at hk; omega)⟩
theorem Trim_any (A : Option Addr) (n c : Nat) (xs : List Nat) (w : World) (h : Row w A n c xs) (hb : n ≤ 35184372088832) :
  Calls Try.prog 33 #[.slice A n c] w (Ret w (val xs)) := by
 have hr := h.trim
 have ht : tl xs ≤ 35184372088832 := by have := tl_le h.ok; rw [h.len] at this; omega
 go_enter Try.func33, Try.ntmps33
 go_wp2_with (first | (go_at_call 32; refine (trim_any _ _ _ _ _ h).mono ?_; rintro e w' ⟨rfl, rfl⟩) | (go_at_call 50; refine (clone_any _ _ _ _ _ hr ht).mono ?_; rintro e w' ⟨A', c', rfl, hr', hb'⟩))
 go_ret
 exact Ret.of_row hr' rfl hb'
theorem rTrim_any (A : Option Addr) (n c : Nat) (xs : List Nat) (w : World) (h : Row w A n c xs) (hb : n ≤ 35184372088832) :
  Calls Try.prog 27 #[.slice A n c] w (Ret w (val xs)) := by
 have hcm := h.cm
 have hnc := h.nc
 have hl := hid h.len
 go_enter Try.func27, Try.ntmps27
 go_wp2_with fail
 go_loop [3] (fun i => ∃ m : Nat, m ≤ n ∧ i = .int .i64 (m : Int) ∧ Hid (val (xs.take m) = val xs)) (fun i => (intOf i).toNat)
 case atStart => exact ⟨n, Nat.le_refl _, rfl, by rw [List.take_of_length_le (by rw [hl.out]; omega)]; rfl⟩
 case round =>
  obtain ⟨m, hm, rfl, HT⟩ := hrel
  rcases Nat.eq_zero_or_pos m with h0 | h0
  ·subst h0
   have HE : Hid (val xs = 0) := hid (by rw [← HT.out]; rfl)
   have hd : decide ((0 : Int) < ((0 : Nat) : Int)) = false := by decide
   have hr0 : Row w A 0 c [] := h.take (Nat.zero_le _)
   have hrz : Hid (Row w A 0 c []) := hid hr0
   clear HT h
   rcases A with _ | ⟨b, o, s⟩
   ·have hc := hr0.nil_ rfl
    subst hc
    clear hr0
    go_wp2_with (at_builtin; refine wpList_append_row _ rfl _ _ 23 rfl w.heap.size 44 Try.underlying23 info32 _ 0 [] rfl (own_nil w _) _ 0 _ [] rfl (hrz.out.alloc _) (by omega) (by simp) ?_)
    intro v' w' hown hgr
    obtain ⟨A', c', rfl, hr⟩ := Row.of_own hown ok_nil
    go_wp2_with fail
    go_ret
    exact Ret.of_row hr (by rw [HE.out]; rfl) (Below.grown (Below.alloc (Below.refl _ _) (Nat.le_refl _) _) hgr (by simp) (by intro k hk; simp [Value.ownBlock] at hk; omega))
   ·clear hr0
    go_wp2_with (at_builtin; refine wpList_append_row _ rfl _ _ 23 rfl w.heap.size 44 Try.underlying23 info32 _ 0 [] rfl (own_nil w _) _ 0 _ [] rfl (hrz.out.alloc _) (by omega) (by simp) ?_)
    intro v' w' hown hgr
    obtain ⟨A', c', rfl, hr⟩ := Row.of_own hown ok_nil
    go_wp2_with fail
    go_ret
    exact Ret.of_row hr (by rw [HE.out]; rfl) (Below.grown (Below.alloc (Below.refl _ _) (Nat.le_refl _) _) hgr (by simp) (by intro k hk; simp [Value.ownBlock] at hk; omega))
  ·have hr := h.take hm
   obtain ⟨b, o, rfl, hc⟩ := h.at_ (by omega)
   have g1 := hc (m - 1) (by omega)
   have hlt := lim_lt h.ok (m - 1)
   have hle : tl (xs.take m) ≤ m := by have := tl_le hr.ok; rwa [hr.len] at this
   have hd : decide ((0 : Int) < (m : Int)) = true := by simp; omega
   have hkc := hid (tl_cases hr.ok)
   rw [hr.len, lim_take (show m - 1 < m from by omega)] at hkc
   have hrl := hid hr
   clear hc h hr
   rcases Nat.eq_zero_or_pos (lim xs (m - 1)) with hz | hz
   ·have hb0 : (((lim xs (m - 1) : Nat) : Int) == 0) = true := by simp [hz]
    have HV : Hid (val (xs.take (m - 1)) = val xs) := hid (by
     rcases hkc.out with ⟨h1, h2⟩ | ⟨h1, h2, h3⟩ | ⟨h1, h2, h3, h4, h5⟩
     ·have := congrArg List.length h1; rw [hrl.out.len] at this; simp at this; omega
     ·omega
     ·rw [List.take_take, Nat.min_eq_left (by omega)] at h4
      rw [← HT.out, h4])
    clear hz hkc HT
    go_wp2_with fail
    go_round
    case rel => exact ⟨m - 1, by omega, by go_num, HV⟩
    case measure => simp [intOf]; omega
   ·have hb0 : (((lim xs (m - 1) : Nat) : Int) == 0) = false := by simp; omega
    have HV : Hid (tl (xs.take m) = m) := hid (by
     rcases hkc.out with ⟨h1, h2⟩ | ⟨h1, h2, h3⟩ | ⟨h1, h2, h3, h4, h5⟩
     ·have := congrArg List.length h1; rw [hrl.out.len] at this; simp at this; omega
     ·exact h3
     ·omega)
    clear hkc
    go_wp2_with (at_builtin; refine wpList_append_row _ rfl _ _ 23 rfl w.heap.size 44 Try.underlying23 info32 _ 0 [] rfl (own_nil w _) _ m _ (xs.take m) rfl (hrl.out.alloc _) (by omega) (by simp) ?_)
    intro v' w' hown hgr
    obtain ⟨A', c', rfl, hr⟩ := Row.of_own hown hrl.out.ok
    go_wp2_with fail
    go_ret
    refine Ret.of_row hr ?_ (Below.grown (Below.alloc (Below.refl _ _) (Nat.le_refl _) _) hgr (by simp) (by intro k hk; simp [Value.ownBlock] at hk; omega))
    have e := limbs_val_take hrl.out.ok
    have e2 := HV.out
    unfold tl at e2
    rw [e2, List.take_take, Nat.min_self, HT.out] at e
    exact e.symm
theorem Of_any (n : Nat) (w : World) (hn : n < 18446744073709551616) :
  Calls Try.prog 34 #[.int .u64 (n : Int)] w (Ret w n) := by
 go_enter Try.func34, Try.ntmps34
 go_wp2_with (go_at_call 32; refine (trim_any _ _ _ [n % 4294967296, n / 4294967296 % 4294967296] _ (Row.two _ _ _ _ _ _ _ rfl (by omega) (by omega) (by omega) (by omega))).mono ?_; rintro e w' ⟨rfl, rfl⟩)
 go_ret
 have hr := fun y0 y1 h0 h1 => (Row.two w 44 y0 y1 (n % 4294967296) (n / 4294967296 % 4294967296) _ rfl h0 h1 (by omega) (by omega)).trim
 rw [val_two n hn] at hr
 exact Ret.of_row (hr _ _ (by omega) (by omega)) rfl (Below.alloc (Below.refl _ _) (Nat.le_refl _) _)
theorem rOf_any (n : Nat) (w : World) (hn : n < 18446744073709551616) :
  Calls Try.prog 18 #[.int .u64 (n : Int)] w (Ret w n) := by
 go_enter Try.func18, Try.ntmps18
 go_wp2_with (go_at_call 27; refine (rTrim_any _ _ _ [n % 4294967296, n / 4294967296 % 4294967296] _ (Row.two _ _ _ _ _ _ _ rfl (by omega) (by omega) (by omega) (by omega)) (by omega)).mono ?_; rintro e w' ⟨A', c', rfl, hr, hb⟩)
 go_ret
 rw [val_two n hn] at hr ⊢
 exact Ret.of_row hr rfl ((Below.alloc (Below.refl _ _) (Nat.le_refl _) _).trans (hb.mono (by simp)))
end Go.Proofs.Ytahdlpkncemmaaa
namespace Go.Proofs.Ytahdlpkncemmaaa
open Go.RowKit Pg
theorem limbs_ref2 (A A' : Option Addr) (n c n' c' : Nat) (xs ys : List Nat) (w : World) (h : Row w A n c xs) (h' : Row w A' n' c' ys) :
  Calls Try.prog 22 #[.slice A n c, .slice A' n' c'] w fun e w' => e = .returned (.bool (eqB xs ys)) ∧ Below w.heap.size w w' := by
 have hcm := h.cm
 have hnc := h.nc
 have hcm' := h'.cm
 have hnc' := h'.nc
 have hl := hid h.len
 have hl' := hid h'.len
 by_cases hne : n = n'
 ·subst hne
  have hb : ((n : Int) != (n : Int)) = false := by simp
  go_enter Try.func22, Try.ntmps22
  go_wp2_with fail
  go_loopw [5] (fun i wr => ∃ k : Nat, k ≤ n ∧ i = .int .i64 (k : Int) ∧ Hid (∀ j, j < k → lim xs j = lim ys j) ∧ Below w.heap.size w wr) (fun i _ => n - (intOf i).toNat)
  case atStart => exact ⟨0, Nat.zero_le _, rfl, fun j hj => absurd hj (by omega), Below.refl _ _⟩
  case round =>
   obtain ⟨k, hk, rfl, hall, hbel⟩ := hrel
   by_cases hlt : k < n
   ·obtain ⟨b, o, rfl, hc⟩ := (h.below hbel).at_ (by omega)
    obtain ⟨b', o', rfl, hc'⟩ := (h'.below hbel).at_ (by omega)
    have g1 := hc k hlt
    have g2 := hc' k hlt
    clear hc hc'
    by_cases he : lim xs k = lim ys k
    ·have he1 : (((lim xs k : Nat) : Int) != ((lim ys k : Nat) : Int)) = false := by simp [he]
     have HE := hid he
     clear he
     go_wp2_with fail
     go_quiet (fail)
     go_wp2_with fail
     go_roundw
     case rel =>
      refine ⟨k + 1, by omega, by go_num, fun j hj => ?_, Below.trans hbel ⟨rfl, rfl, rfl, Nat.le_refl _, fun _ _ => rfl⟩⟩
      rcases Nat.lt_or_ge j k with h1 | h1
      ·exact hall j h1
      ·have : j = k := by omega
       subst this; exact HE.out
     case measure => simp [intOf]; omega
    ·have he1 : (((lim xs k : Nat) : Int) != ((lim ys k : Nat) : Int)) = true := by simp; omega
     have HE := hid he
     clear he
     go_wp2_with fail
     go_quiet (fail)
     go_wp2_with fail
     go_ret
     exact ⟨by rw [eqB_lim k HE.out]; rfl, Below.trans hbel ⟨rfl, rfl, rfl, Nat.le_refl _, fun _ _ => rfl⟩⟩
   ·have hkn : n ≤ k := by omega
    go_wp2_with fail
    go_ret
    exact ⟨by rw [eqB_all (by rw [hl.out, hl'.out]) (fun i hi => hall i (by rw [hl.out] at hi; omega))]; rfl, hbel⟩
 ·have hb : ((n : Int) != (n' : Int)) = true := by simp; omega
  have HN := hid hne
  clear hne
  go_enter Try.func22, Try.ntmps22
  go_wp2_with fail
  go_ret
  exact ⟨by rw [eqB_false (fun e => HN.out (by rw [← hl.out, ← hl'.out, e]))]; rfl, Below.refl _ _⟩
end Go.Proofs.Ytahdlpkncemmaaa
