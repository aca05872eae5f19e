/- Walks: pantographref4.near, sign. Conditions: those that each theorem names. -/
import Derived.Test.YtgehoflkbckgkaaZ17
import Derived.Test.YtgehoflkbckgkaaZ18
import Derived.Test.YtgehoflkbckgkaaZ4
namespace Pg
theorem rnd_casesR {n d q r u : Nat} (hq : n / d = q) (hr : n % d = r) (hu : u = rnd n d) :
    (cmpv (r + r) d = 1 ∧ u = q + 1) ∨ (cmpv (r + r) d = 0 ∧ q % 2 = 1 ∧ u = q + 1) ∨ (cmpv (r + r) d = 0 ∧ q % 2 = 0 ∧ u = q) ∨ (cmpv (r + r) d = -1 ∧ u = q) := by
  unfold rnd at hu
  rw [hq, hr] at hu
  rcases Nat.lt_trichotomy (r + r) d with h | h | h
  · refine .inr (.inr (.inr ⟨cmpv_lt h, ?_⟩))
    rw [if_neg (by omega)] at hu; omega
  · rcases Nat.mod_two_eq_zero_or_one q with hm | hm
    · refine .inr (.inr (.inl ⟨cmpv_eq h, hm, ?_⟩))
      rw [if_neg (by omega)] at hu; omega
    · refine .inr (.inl ⟨cmpv_eq h, hm, ?_⟩)
      rw [if_pos (by omega)] at hu; omega
  · refine .inl ⟨cmpv_gt h, ?_⟩
    rw [if_pos (by omega)] at hu; omega
theorem bits32_one (q : Nat) (h : q < 4294967296) : Go.bits .and .u32 (q : Int) 1 = ((q % 2 : Nat) : Int) := by
  have := Go.u32_and_nat q 1 h (by omega)
  rw [show q &&& 1 = q % 2 from Nat.and_one_is_mod q] at this
  exact this
end Pg
namespace Go.Proofs.Ytgehoflkbckgkaa
open Go.RowKit Pg
theorem rCmpE (A A' : Option Addr) (n c n' c' : Nat) (xs ys : List Nat) (w : World) (a b : Nat) (r : Int) (h : Row w A n c xs) (h' : Row w A' n' c' ys) (ea : val xs = a) (eb : val ys = b) (hb : n ≤ 1073741824) (hb' : n' ≤ 1073741824) (er : cmpv a b = r) :
    Calls Try.prog 50 #[.slice A n c, .slice A' n' c'] w (fun e w' => e = .returned (.int .i64 r) ∧ Below w.heap.size w w') := by
  subst ea eb er; exact rCmp_any A A' n c n' c' xs ys w h h' hb hb'
theorem rAddE (A A' : Option Addr) (n c n' c' : Nat) (xs ys : List Nat) (w : World) (a b s : Nat) (h : Row w A n c xs) (h' : Row w A' n' c' ys) (ea : val xs = a) (eb : val ys = b) (hb : n ≤ 1073741824) (hb' : n' ≤ 1073741824) (es : a + b = s) :
    Calls Try.prog 69 #[.slice A n c, .slice A' n' c'] w (Ret w s) := by
  subst ea eb es; exact rAdd_any A A' n c n' c' xs ys w h h' hb hb'

set_option maxRecDepth 100000 in
set_option maxHeartbeats 2000000 in
/-- pantographref4.near. -/
theorem near_any (A A' : Option Addr) (m c m' c' : Nat) (xs ys : List Nat) (w : World) (n d u : Nat) (h : Row w A m c xs) (h' : Row w A' m' c' ys) (ea : val xs = n) (eb : val ys = d) (hb : m ≤ 1048576) (hb' : m' ≤ 1048576) (hd : d ≠ 0) (hn : (limbs n).length ≤ 1048570) (_hdl : (limbs d).length ≤ 1048570) (hu : u = rnd n d) :
    Calls Try.prog 54 #[.slice A m c, .slice A' m' c'] w (Ret w u) := by
  obtain ⟨q, eq⟩ : ∃ x, n / d = x := ⟨_, rfl⟩
  obtain ⟨r, er'⟩ : ∃ x, n % d = x := ⟨_, rfl⟩
  have er : dmr n d = r := by unfold dmr; rw [if_neg hd]; exact er'
  have ebd : dmb d = true := by simp [dmb, hd]
  have lq := Nat.le_trans (limbs_mono (show q ≤ n by rw [← eq]; exact Nat.div_le_self _ _)) hn
  have lr := Nat.le_trans (limbs_mono (show r ≤ n by rw [← er']; exact Nat.mod_le _ _)) hn
  have lrr : (limbs (r + r)).length ≤ 1048576 := by
    have h1 := lt_pow_length r
    refine Nat.le_trans (length_limbs_le (k := (limbs r).length + 1) ?_) (by omega)
    rw [Nat.pow_succ]; omega
  have hcs := rnd_casesR eq er' hu
  obtain ⟨b, hub, hcs⟩ : ∃ b : Bool, Hid (u = if b then q + 1 else q) ∧ ((cmpv (r + r) d = 1 ∧ b = true) ∨ (cmpv (r + r) d = 0 ∧ q % 2 = 1 ∧ b = true) ∨ (cmpv (r + r) d = 0 ∧ q % 2 = 0 ∧ b = false) ∨ (cmpv (r + r) d = -1 ∧ b = false)) := by
    rcases hcs with ⟨h1, h2⟩ | ⟨h1, h2, h3⟩ | ⟨h1, h2, h3⟩ | ⟨h1, h2⟩
    · exact ⟨true, hid h2, .inl ⟨h1, rfl⟩⟩
    · exact ⟨true, hid h3, .inr (.inl ⟨h1, h2, rfl⟩)⟩
    · exact ⟨false, hid h3, .inr (.inr (.inl ⟨h1, h2, rfl⟩))⟩
    · exact ⟨false, hid h2, .inr (.inr (.inr ⟨h1, rfl⟩))⟩
  obtain ⟨cm, hcm⟩ : ∃ cm, Hid (cm = cmpv (r + r) d) := ⟨_, hid rfl⟩
  rw [← hcm.out] at hcs
  have HD := hid fun W (hW : Below w.heap.size w W) => rDivMod_E A A' m c m' c' xs ys W n d q r true (h.below hW) (h'.below hW) ea eb hb hb' eq er ebd
  have HR' := hid fun W (hW : Below w.heap.size w W) => h'.below hW
  clear hu eq er' er ebd hn h h' ea hd
  go_enter Try.func54, Try.ntmps54
  go_upto_region 3 with (first
    | (go_at_call 63; refine (HD.out _ (by repeat first | exact Below.refl _ _ | assumption | refine Pg.Below.then_ ?_ (by assumption) | refine Pg.Below.new_ ?_ _ | refine Pg.Below.drewN_ ?_ _)).mono ?_; rintro e w1 ⟨A1, c1, A2, c2, rfl, h1, h2, hb1⟩)
    | (go_at_call 50; refine (rCmpE _ _ _ _ _ _ _ ys _ (r + r) d _ (by repeat first | assumption | apply Pg.Row.below (hb := by assumption) | apply Pg.Row.alloc | apply Pg.Row.drewN) (HR'.out _ (by repeat first | exact Below.refl _ _ | assumption | refine Pg.Below.then_ ?_ (by assumption) | refine Pg.Below.new_ ?_ _ | refine Pg.Below.drewN_ ?_ _)) (val_limbs _) eb (by first | omega | assumption) (by first | omega | assumption) hcm.out.symm).mono ?_; rintro e w3 ⟨rfl, hb3⟩)
    | (go_at_call 69; (with_reducible refine (rAddE _ _ _ _ _ _ (limbs r) (limbs r) _ r r (r + r) (by repeat first | assumption | apply Pg.Row.below (hb := by assumption) | apply Pg.Row.alloc | apply Pg.Row.drewN) (by repeat first | assumption | apply Pg.Row.below (hb := by assumption) | apply Pg.Row.alloc | apply Pg.Row.drewN) (val_limbs _) (val_limbs _) (by first | omega | assumption) (by first | omega | assumption) (by omega)).mono ?_); rintro e w2 ⟨A3, c3, rfl, h3, hb2⟩))
  have hbf : Below w.heap.size w w3 := (by repeat first | exact Below.refl _ _ | assumption | refine Pg.Below.then_ ?_ (by assumption) | refine Pg.Below.new_ ?_ _ | refine Pg.Below.drewN_ ?_ _)
  have hq := (h1.below hb2).below hb3
  clear h1 h2 h3 hb1 hb2 hb3
  go_cut [38] (fun s38 wd => s38 = .bool b ∧ wd = w3)
  case first =>
    by_cases hq0 : q = 0
    · have hl0 : (((limbs q).length : Int)) = 0 := by rw [hq0]; rfl
      rcases hcs with ⟨rfl, rfl⟩ | ⟨rfl, hm, rfl⟩ | ⟨rfl, hm, rfl⟩ | ⟨rfl, rfl⟩
      all_goals
        first
        | (exfalso; omega)
        | (clear hq0
           go_wp2_with fail
           go_meet
           exact ⟨rfl, rfl⟩)
    · have hlp := (tl_top hq0).1
      obtain ⟨bq, oq, rfl, hcq⟩ := hq.at_ hlp
      have hc0 := hcq 0 hlp
      rw [Nat.add_zero, show lim (limbs q) 0 = q % 4294967296 by rw [limbs_pos hq0]; rfl] at hc0
      have hbo := bits32_one (q % 4294967296) (Nat.mod_lt _ (by decide))
      rw [show q % 4294967296 % 2 = q % 2 by omega] at hbo
      clear hcq hq0 hq
      generalize q % 4294967296 = q0 at *
      rcases hcs with ⟨rfl, rfl⟩ | ⟨rfl, hm, rfl⟩ | ⟨rfl, hm, rfl⟩ | ⟨rfl, rfl⟩
      all_goals
        try rw [hm] at hbo
        go_wp2_with fail
        go_meet
        exact ⟨rfl, rfl⟩
  case rest =>
    obtain ⟨rfl, rfl⟩ := hcut
    clear hcs hcm
    rcases b with _ | _
    · have hub' := hub.out
      simp only [Bool.false_eq_true, if_false] at hub'
      subst hub'
      go_wp2_with fail
      go_ret
      exact ⟨_, _, rfl, hq, hbf⟩
    · have hub' := hub.out
      simp only [if_true] at hub'
      subst hub'
      go_wp2_with (go_at_call 69; (with_reducible refine (rAddE _ _ _ _ _ _ (limbs q) [1] _ q 1 (q + 1) (by repeat first | assumption | exact Pg.Row.one _ _ _ _ _ (by simp) (by first | rfl | omega) (by omega) | apply Pg.Row.drew | apply Pg.Row.below (hb := by assumption) | apply Pg.Row.alloc) (by repeat first | assumption | exact Pg.Row.one _ _ _ _ _ (by simp) (by first | rfl | omega) (by omega) | apply Pg.Row.drew | apply Pg.Row.below (hb := by assumption) | apply Pg.Row.alloc) (val_limbs _) (val_one 1) (by first | omega | assumption) (by first | omega | assumption) (by omega)).mono ?_); rintro e w5 ⟨A5, c5, rfl, h5, hb5⟩)
      go_ret
      exact ⟨_, _, rfl, h5, (by repeat first | exact Below.refl _ _ | assumption | refine Pg.Below.then_ ?_ (by assumption) | refine Pg.Below.new_ ?_ _ | refine Pg.Below.drewN_ ?_ _)⟩
end Go.Proofs.Ytgehoflkbckgkaa
