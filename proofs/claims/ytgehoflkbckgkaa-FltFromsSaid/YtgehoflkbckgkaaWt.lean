/- Walk: nat.DivMod. Conditions: rows of at most 2^30 limbs. -/
import Derived.Test.YtgehoflkbckgkaaWs
namespace Go.Proofs.Ytgehoflkbckgkaa
open Go.RowKit Pg

/-- What is left; nothing by 0. -/
def dmr (a b : Nat) : Nat := if b = 0 then 0 else a % b
/-- May it be divided by? -/
def dmb (b : Nat) : Bool := decide (b ≠ 0)
/-- A call hands back two numbers in rows, and whether it may. -/
def Ret3 (w : World) (N M : Nat) (b : Bool) (e : Ending) (w' : World) : Prop :=
  ∃ A1 c1 A2 c2, e = .returned (.tuple #[.slice A1 (limbs N).length c1, .slice A2 (limbs M).length c2, .bool b]) ∧ Row w' A1 (limbs N).length c1 (limbs N) ∧ Row w' A2 (limbs M).length c2 (limbs M) ∧ Below w.heap.size w w'
theorem Ret3.of_rows {w w' : World} {A A' : Option Addr} {n c n' c' N M : Nat} {b : Bool} {xs ys : List Nat} (h : Row w' A n c xs) (h' : Row w' A' n' c' ys) (e : xs = limbs N) (e' : ys = limbs M) (hb : Below w.heap.size w w') :
    Ret3 w N M b (.returned (.tuple #[.slice A n c, .slice A' n' c', .bool b])) w' := by
  subst e e'
  have := h.len
  have := h'.len
  subst_vars
  exact ⟨A, c, A', c', rfl, h, h', hb⟩

set_option maxHeartbeats 2000000 in
/-- nat.DivMod. -/
theorem DivMod_any (A A' : Option Addr) (n c n' c' : Nat) (xs ys : List Nat) (w : World) (h : Row w A n c xs) (h' : Row w A' n' c' ys) (hb : n ≤ 1073741824) (hb' : n' ≤ 1073741824) :
    Calls Try.prog 45 #[.slice A n c, .slice A' n' c'] w (Ret3 w (val xs / val ys) (dmr (val xs) (val ys)) (dmb (val ys))) := by
  have hT := hid (trim_any A n c xs w h)
  have hT' := hid (trim_any A' n' c' ys w h')
  have hp := h.trim
  have hq := h'.trim
  have hn0 : tl xs ≤ 1073741824 := by have := tl_le h.ok; rw [h.len] at this; omega
  have hn1 : tl ys ≤ 1073741824 := by have := tl_le h'.ok; rw [h'.len] at this; omega
  by_cases hz : val ys = 0
  · have e0 : tl ys = 0 := by unfold tl; rw [hz]; rfl
    have eN : Hid (val xs / val ys = 0 ∧ dmr (val xs) (val ys) = 0 ∧ dmb (val ys) = false) := hid (by rw [hz]; simp [dmr, dmb])
    rw [e0] at hT'
    clear hp hq hn0 hn1 hz e0
    go_enter Try.func45, Try.ntmps45
    go_wp2_with (first | (go_at_call 56; ((with_reducible refine (hT.out).mono ?_); rintro e w' ⟨rfl, rfl⟩)) | (go_at_call 56; ((with_reducible refine (hT'.out).mono ?_); rintro e w' ⟨rfl, rfl⟩)))
    go_ret3
    rw [eN.out.1, eN.out.2.1, eN.out.2.2]
    exact Ret3.of_rows (Row.nil _) (Row.nil _) rfl rfl (Below.refl _ _)
  have eB : dmb (val ys) = true := by simp [dmb, hz]
  have eM : dmr (val xs) (val ys) = val xs % val ys := by simp [dmr, hz]
  rw [eB, eM]
  clear eB eM
  have hC := Cmp_any A A' (tl xs) c (tl ys) c' _ _ w hp hq
  rw [val_limbs, val_limbs] at hC
  have ht := tl_top hz
  have h1 : 0 < tl ys := ht.1
  have hd1 : ((tl ys : Int) == 0) = false := by simp; omega
  by_cases hlt : val xs < val ys
  · rw [cmpv_lt hlt] at hC
    have HC := hid hC
    have HE : Hid (val xs / val ys = 0 ∧ val xs % val ys = val xs) := hid ⟨Nat.div_eq_of_lt hlt, Nat.mod_eq_of_lt hlt⟩
    clear hC hlt ht hq hz
    go_enter Try.func45, Try.ntmps45
    go_wp2_with (first
      | (go_at_call 56; ((with_reducible refine (hT.out).mono ?_); rintro e w' ⟨rfl, rfl⟩))
      | (go_at_call 56; ((with_reducible refine (hT'.out).mono ?_); rintro e w' ⟨rfl, rfl⟩))
      | (go_at_call 47; refine (HC.out).mono ?_; rintro e w1 ⟨rfl, hb1⟩)
      | (go_at_call 57; refine (Trim_any _ _ _ _ _ (hp.below hb1) (by omega)).mono ?_; rintro e w2 ⟨A2, c2, rfl, hr, hb2⟩))
    go_ret3
    rw [HE.out.1, HE.out.2]
    exact Ret3.of_rows (Row.nil _) hr rfl (by rw [val_limbs]) (by repeat first | exact Below.refl _ _ | assumption | refine Pg.Below.then_ ?_ (by assumption) | refine Pg.Below.new_ ?_ _ | refine Pg.Below.drewN_ ?_ _)
  · have hge : val ys ≤ val xs := by omega
    have hC2 : Calls Try.prog 47 #[.slice A (tl xs) c, .slice A' (tl ys) c'] w fun e w' => ∃ z : Int, 0 ≤ z ∧ e = .returned (.int .i64 z) ∧ Below w.heap.size w w' := by
      refine hC.mono fun e w' ⟨he, hb⟩ => ⟨_, ?_, he, hb⟩
      unfold cmpv; split <;> first | omega | (split <;> omega)
    have HC := hid hC2
    clear hC hC2
    have hll : tl ys ≤ tl xs := by
      rcases Nat.lt_or_ge (tl xs) (tl ys) with h3 | h3
      · have := cmp_len (a := val xs) (b := val ys) h3
        omega
      · exact h3
    by_cases hone : tl ys = 1
    · have hv : Hid (val ys = lim (limbs (val ys)) 0) := hid (by
        have e := val_limbs (val ys)
        have hl : (limbs (val ys)).length = 1 := hone
        match hm : limbs (val ys) with
        | [] => rw [hm] at hl; cases hl
        | [y] => rw [hm] at e; rw [← e]; rfl
        | _ :: _ :: _ => rw [hm] at hl; simp at hl)
      have hx0 : 0 < lim (limbs (val ys)) 0 := by rw [← hv.out]; omega
      have hxl := lim_lt (ok_limbs (val ys)) 0
      obtain ⟨b, o, rfl, hc⟩ := hq.at_ h1
      have hbw := hq.lt h1 rfl
      have hc0 := hc 0 h1
      rw [Nat.add_zero] at hc0
      generalize lim (limbs (val ys)) 0 = x at *
      have hd2 : ((tl ys : Int) == 1) = true := by rw [hone]; rfl
      have hrl : val xs % x < 4294967296 := by have := Nat.mod_lt (val xs) hx0; omega
      have hq1 := hq.nc
      have hq2 := hq.cm
      clear hc hq ht hge hz hlt hone
      generalize tl ys = n1 at *
      obtain ⟨r, hr⟩ : ∃ r, r = val xs % x := ⟨_, rfl⟩
      rw [← hr] at hrl
      have HS : Hid (∀ W, Below w.heap.size w W → Calls Try.prog 65 #[.slice A (tl xs) c, .int .u32 (x : Int)] W fun e w' => ∃ A' c', e = .returned (.tuple #[.slice A' (limbs (val xs / x)).length c', .int .u32 (r : Int)]) ∧ Row w' A' (limbs (val xs / x)).length c' (limbs (val xs / x)) ∧ Below W.heap.size W w') := hid (fun W hW => by
        have := small_any A (tl xs) c x _ W (hp.below hW) (by omega) hx0 hxl
        rw [val_limbs, ← hr] at this
        exact this)
      have HR := hid hr
      clear hr hp
      generalize tl xs = n0 at *
      go_enter Try.func45, Try.ntmps45
      go_wp2_with (first
        | (go_at_call 56; ((with_reducible refine (hT.out).mono ?_); rintro e w' ⟨rfl, rfl⟩))
        | (go_at_call 56; ((with_reducible refine (hT'.out).mono ?_); rintro e w' ⟨rfl, rfl⟩))
        | (go_at_call 47; refine (HC.out).mono ?_; rintro e w1 ⟨z, hz, rfl, hb1⟩; have hc1 := (hb1.cell (p := ⟨b, o, none⟩) hbw).trans hc0; (have hd : decide (z < 0) = false := by simp; omega))
        | (go_at_call 65; refine (HS.out _ hb1).mono ?_; rintro e w2 ⟨A2, c2, rfl, hr2, hb2⟩)
        | (go_at_call 33; refine (Of_any r _ (by omega)).mono ?_; rintro e w3 ⟨A3, c3, rfl, hr3, hb3⟩))
      go_ret3
      rw [hv.out]
      exact Ret3.of_rows (hr2.below hb3) hr3 rfl (by rw [HR.out]) (by repeat first | exact Below.refl _ _ | assumption | refine Pg.Below.then_ ?_ (by assumption) | refine Pg.Below.new_ ?_ _ | refine Pg.Below.drewN_ ?_ _)
    · have hd2 : ((tl ys : Int) == 1) = false := by simp; omega
      have htop := ht.2
      clear hge hz hlt ht
      go_enter Try.func45, Try.ntmps45
      go_wp2_with (first
        | (go_at_call 56; ((with_reducible refine (hT.out).mono ?_); rintro e w' ⟨rfl, rfl⟩))
        | (go_at_call 56; ((with_reducible refine (hT'.out).mono ?_); rintro e w' ⟨rfl, rfl⟩))
        | (go_at_call 47; refine (HC.out).mono ?_; rintro e w1 ⟨z, hz, rfl, hb1⟩; (have hd : decide (z < 0) = false := by simp; omega))
        | (go_at_call 66; refine (long_any _ _ _ _ _ _ _ _ _ (hp.below hb1) (hq.below hb1) (by omega) (by omega) hll htop).mono ?_; rintro e w2 ⟨A2, c2, A3, c3, rfl, hr2, hr3, hb2⟩))
      go_ret3
      exact Ret3.of_rows hr2 hr3 (by rw [val_limbs, val_limbs]) (by rw [val_limbs, val_limbs]) (by repeat first | exact Below.refl _ _ | assumption | refine Pg.Below.then_ ?_ (by assumption) | refine Pg.Below.new_ ?_ _ | refine Pg.Below.drewN_ ?_ _)
end Go.Proofs.Ytgehoflkbckgkaa
