/- Walks: the reference's Trim and Sub once more: what they hand back lies in new memory. Conditions: rows of at most 2^30 limbs. -/
import Derived.Test.YtgehoflkbckgkaaWy
namespace Go.Proofs.Ytgehoflkbckgkaa
open Go.RowKit Pg

/-- A call hands back the number N in a row of new memory, and whether it may. -/
def Ret2F (w : World) (N : Nat) (b : Bool) (e : Ending) (w' : World) : Prop :=
  ∃ A c, e = .returned (.tuple #[.slice A (limbs N).length c, .bool b]) ∧ Row w' A (limbs N).length c (limbs N) ∧ Below w.heap.size w w' ∧ ∀ g o, A = some ⟨g, o, none⟩ → w.heap.size ≤ g
theorem Ret2F.of_row {w w' : World} {A : Option Addr} {n c N : Nat} {b : Bool} {xs : List Nat} (h : Row w' A n c xs) (e : xs = limbs N) (hb : Below w.heap.size w w') (hf : ∀ g o, A = some ⟨g, o, none⟩ → w.heap.size ≤ g) :
    Ret2F w N b (.returned (.tuple #[.slice A n c, .bool b])) w' := by
  subst e
  have := h.len
  subst this
  exact ⟨A, c, rfl, h, hb, hf⟩
/-- A row in another block than the one that is written. -/
theorem row_set_other {w : World} {A : Option Addr} {n c : Nat} {xs : List Nat} (h : Row w A n c xs) (a : Addr) (v : Value) (hne : 0 < n → ∀ b o, A = some ⟨b, o, none⟩ → b ≠ a.block) : Row (w.setCell a v) A n c xs := by
  refine ⟨h.len, h.nc, h.cm, h.ok, h.nil_, fun hn => ?_⟩
  obtain ⟨b, o, e, hc⟩ := h.at_ hn
  refine ⟨b, o, e, fun j hj => ?_⟩
  have hcj := hc j hj
  rw [(World.cell?_of_block (heap_setCell_other w a b v (hne hn b o e)) : (w.setCell a v).cell? ⟨b, o + j, none⟩ = w.cell? ⟨b, o + j, none⟩)]
  exact hcj

set_option maxHeartbeats 800000 in
/-- pantographref1.Trim. -/
theorem rTrim_new (A : Option Addr) (n c : Nat) (xs : List Nat) (w : World) (h : Row w A n c xs) (hb : n ≤ 1099511627776) :
    Calls Try.prog 60 #[.slice A n c] w (RetF w (val xs)) := by
  have hcm := h.cm
  have hnc := h.nc
  have hl := hid h.len
  go_enter Try.func60, Try.ntmps60
  go_wp2_with fail
  go_loop [3] (fun i => ∃ m : Nat, m ≤ n ∧ i = .int .i64 (m : Int) ∧ Hid (val (xs.take m) = val xs)) (fun i => (intOf i).toNat)
  case atStart => exact ⟨n, Nat.le_refl _, rfl, by rw [List.take_of_length_le (by rw [hl.out]; omega)]; rfl⟩
  case round =>
    obtain ⟨m, hm, rfl, HT⟩ := hrel
    rcases Nat.eq_zero_or_pos m with h0 | h0
    · subst h0
      have HE : Hid (val xs = 0) := hid (by rw [← HT.out]; rfl)
      have hd : decide ((0 : Int) < ((0 : Nat) : Int)) = false := by decide
      have hr0 : Row w A 0 c [] := h.take (Nat.zero_le _)
      have hrz : Hid (Row w A 0 c []) := hid hr0
      clear HT h
      rcases A with _ | ⟨b, o, s⟩
      · have hc := hr0.nil_ rfl
        subst hc
        clear hr0
        go_wp2_with (at_builtin; refine wpList_append_row _ rfl _ _ 26 rfl w.heap.size 50 Try.underlying26 info32 _ 0 [] rfl (own_nil w _) _ 0 _ [] rfl (hrz.out.alloc _) (by omega) (by simp) ?_)
        intro v' w' hown hgr
        obtain ⟨A', c', rfl, hr, hf, _⟩ := own_where hown ok_nil
        go_wp2_with fail
        go_ret
        exact RetF.of_row hr (by rw [HE.out]; rfl) (Below.grown (Below.alloc (Below.refl _ _) (Nat.le_refl _) _) hgr (by simp) (by intro k hk; simp [Value.ownBlock] at hk; omega)) hf
      · clear hr0
        go_wp2_with (at_builtin; refine wpList_append_row _ rfl _ _ 26 rfl w.heap.size 50 Try.underlying26 info32 _ 0 [] rfl (own_nil w _) _ 0 _ [] rfl (hrz.out.alloc _) (by omega) (by simp) ?_)
        intro v' w' hown hgr
        obtain ⟨A', c', rfl, hr, hf, _⟩ := own_where hown ok_nil
        go_wp2_with fail
        go_ret
        exact RetF.of_row hr (by rw [HE.out]; rfl) (Below.grown (Below.alloc (Below.refl _ _) (Nat.le_refl _) _) hgr (by simp) (by intro k hk; simp [Value.ownBlock] at hk; omega)) hf
    · have hr := h.take hm
      obtain ⟨b, o, rfl, hc⟩ := h.at_ (by omega)
      have g1 := hc (m - 1) (by omega)
      have hlt := lim_lt h.ok (m - 1)
      have hle : tl (xs.take m) ≤ m := by have := tl_le hr.ok; rwa [hr.len] at this
      have hd : decide ((0 : Int) < (m : Int)) = true := by simp; omega
      have hkc := hid (tl_cases hr.ok)
      rw [hr.len, lim_take (show m - 1 < m from by omega)] at hkc
      have hrl := hid hr
      clear hc h hr
      rcases Nat.eq_zero_or_pos (lim xs (m - 1)) with hz | hz
      · have hb0 : (((lim xs (m - 1) : Nat) : Int) == 0) = true := by simp [hz]
        have HV : Hid (val (xs.take (m - 1)) = val xs) := hid (by
          rcases hkc.out with ⟨h1, h2⟩ | ⟨h1, h2, h3⟩ | ⟨h1, h2, h3, h4, h5⟩
          · have := congrArg List.length h1; rw [hrl.out.len] at this; simp at this; omega
          · omega
          · rw [List.take_take, Nat.min_eq_left (by omega)] at h4
            rw [← HT.out, h4])
        clear hz hkc HT
        go_wp2_with fail
        go_round
        case rel => exact ⟨m - 1, by omega, by go_num, HV⟩
        case measure => simp [intOf]; omega
      · have hb0 : (((lim xs (m - 1) : Nat) : Int) == 0) = false := by simp; omega
        have HV : Hid (tl (xs.take m) = m) := hid (by
          rcases hkc.out with ⟨h1, h2⟩ | ⟨h1, h2, h3⟩ | ⟨h1, h2, h3, h4, h5⟩
          · have := congrArg List.length h1; rw [hrl.out.len] at this; simp at this; omega
          · exact h3
          · omega)
        clear hkc
        go_wp2_with (at_builtin; refine wpList_append_row _ rfl _ _ 26 rfl w.heap.size 50 Try.underlying26 info32 _ 0 [] rfl (own_nil w _) _ m _ (xs.take m) rfl (hrl.out.alloc _) (by omega) (by simp) ?_)
        intro v' w' hown hgr
        obtain ⟨A', c', rfl, hr, hf, _⟩ := own_where hown hrl.out.ok
        go_wp2_with fail
        go_ret
        refine RetF.of_row hr ?_ (Below.grown (Below.alloc (Below.refl _ _) (Nat.le_refl _) _) hgr (by simp) (by intro k hk; simp [Value.ownBlock] at hk; omega)) hf
        have e := limbs_val_take hrl.out.ok
        have e2 := HV.out
        unfold tl at e2
        rw [e2, List.take_take, Nat.min_self, HT.out] at e
        exact e.symm

set_option maxHeartbeats 1000000 in
/-- pantographref1.Sub. -/
theorem rSub_new (A A' : Option Addr) (n c n' c' : Nat) (p q : List Nat) (w : World) (h : Row w A n c p) (h' : Row w A' n' c' q) (hb : n ≤ 1073741824) (hb' : n' ≤ 1073741824) :
    Calls Try.prog 70 #[.slice A n c, .slice A' n' c'] w (Ret2F w (val p - val q) (geB (val p) (val q))) := by
  have hC := rCmp_any A A' n c n' c' p q w h h' hb hb'
  rcases Nat.lt_or_ge (val p) (val q) with hlt | hge
  · rw [cmpv_lt hlt] at hC
    have hg : geB (val p) (val q) = false := by simp [geB]; omega
    have hz : val p - val q = 0 := by omega
    rw [hg, hz]
    have HC := hid hC
    clear hC hg hz
    go_enter Try.func70, Try.ntmps70
    go_wp2_with (go_at_call 50; refine (HC.out).mono ?_; rintro e w1 ⟨rfl, hb1⟩)
    go_ret2
    exact Ret2F.of_row (Row.nil _) rfl hb1 (fun b o e => by cases e)
  · have hC2 : Calls Try.prog 50 #[.slice A n c, .slice A' n' c'] w fun e w' => ∃ z : Int, 0 ≤ z ∧ e = .returned (.int .i64 z) ∧ Below w.heap.size w w' := by
      refine hC.mono fun e w' ⟨he, hb⟩ => ⟨_, ?_, he, hb⟩
      unfold cmpv; split <;> first | omega | (split <;> omega)
    have hg : geB (val p) (val q) = true := by simp [geB]; omega
    rw [hg]
    have HC := hid hC2
    clear hC hC2 hg
    have HGE := hid hge
    clear hge
    have hp1 := h.nc
    have hp2 := h.cm
    have hq1 := h'.nc
    have hq2 := h'.cm
    have hpl := hid h.len
    have hql := hid h'.len
    go_enter Try.func70, Try.ntmps70
    go_wp2_with (go_at_call 50; refine (HC.out).mono ?_; rintro e w1 ⟨z, hz, rfl, hb1⟩; (have hd : decide (z < 0) = false := by simp; omega))
    go_loopw [6, 7, 8] (fun v s7 i wr => ∃ k br cs, k ≤ n ∧ i = .int .i64 ((k : Nat) : Int) ∧ s7 = .int .u64 ((br : Nat) : Int) ∧ SubInv p q k br cs ∧ Hid (cs.length = k) ∧ wr.ownsRow w1.heap.size 50 1 v k (u32s cs) ∧ Below w1.heap.size w1 wr) (fun _ _ i _ => n - (intOf i).toNat)
    case atStart => exact ⟨0, 0, [], by omega, rfl, rfl, SubInv.start p q _ ok_nil, rfl, World.ownsRow_nil _ _ _ _, Below.refl _ _⟩
    case round =>
      obtain ⟨k, br, cs, hk, rfl, rfl, hinv, hcl, hown, hbel⟩ := hrel
      have hlp := lim_lt h.ok k
      have hlq := lim_lt h'.ok k
      have hbr := hinv.le
      by_cases hlt : k < n
      · have hpr := h.below (Below.then_ hb1 hbel)
        have hqr := h'.below (Below.then_ hb1 hbel)
        have hsz := hbel.size
        have hnext := hinv.app h.ok h'.ok hcl.out
        have hlen : Hid ((cs ++ [dif (lim p k) (lim q k) br]).length = k + 1) := hid (by simp; exact hcl.out)
        have hdl := dif_lt (lim p k) (lim q k) br
        rcases Nat.lt_or_ge (lim p k) (lim q k + br) with hlt3 | hge3
        · have hd1 : decide (((lim p k : Nat) : Int) < ((lim q k : Nat) : Int) + ((br : Nat) : Int)) = true := by simp; omega
          have eb : Hid (borr (lim p k) (lim q k) br = 1) := hid (by unfold borr; rw [if_pos hlt3])
          go_wp2_with (first
            | (go_at_call 61; refine (at_any _ _ _ _ _ _ (by assumption) (by omega)).mono ?_; rintro e w' ⟨rfl, rfl⟩)
            | (at_builtin; refine wpList_append_row _ rfl _ _ 26 rfl w1.heap.size 50 Try.underlying26 info32 _ _ _ rfl (hown.alloc _) _ _ _ [dif (lim p k) (lim q k) br] rfl (Row.one _ _ _ _ _ rfl (by unfold dif; omega) hdl) (by omega) (by simp; omega) ?_))
          intro v' w' hown' hgr
          go_wp2_with fail
          go_roundw
          case rel => exact ⟨k + 1, 1, _, by omega, by go_num, rfl, eb.out ▸ hnext, hlen, hown', Below.grown (Below.alloc hbel hbel.size _) hgr (by simp; omega) (fun g hg => (hown.lt g hg).1)⟩
          case measure => simp [intOf]; omega
        · have hd1 : decide (((lim p k : Nat) : Int) < ((lim q k : Nat) : Int) + ((br : Nat) : Int)) = false := by simp; omega
          have eb : Hid (borr (lim p k) (lim q k) br = 0) := hid (by unfold borr; rw [if_neg (by omega)])
          go_wp2_with (first
            | (go_at_call 61; refine (at_any _ _ _ _ _ _ (by assumption) (by omega)).mono ?_; rintro e w' ⟨rfl, rfl⟩)
            | (at_builtin; refine wpList_append_row _ rfl _ _ 26 rfl w1.heap.size 50 Try.underlying26 info32 _ _ _ rfl (hown.alloc _) _ _ _ [dif (lim p k) (lim q k) br] rfl (Row.one _ _ _ _ _ rfl (by unfold dif; omega) hdl) (by omega) (by simp; omega) ?_))
          intro v' w' hown' hgr
          go_wp2_with fail
          go_roundw
          case rel => exact ⟨k + 1, 0, _, by omega, by go_num, rfl, eb.out ▸ hnext, hlen, hown', Below.grown (Below.alloc hbel hbel.size _) hgr (by simp; omega) (fun g hg => (hown.lt g hg).1)⟩
          case measure => simp [intOf]; omega
      · obtain rfl : k = n := by omega
        have hdone : Hid (val cs = val p - val q) := hid (by
          have e := hpl.out
          have e2 := HGE.out
          have e4 := hcl.out
          subst e
          exact hinv.fin h.ok e4 e2)
        obtain ⟨A3, c3, rfl, hr⟩ := Row.of_own hown hinv.ok
        go_wp2_with (go_at_call 60; refine (rTrim_new _ _ _ _ _ hr (by omega)).mono ?_; rintro e w2 ⟨A4, c4, rfl, hr4, hb4, hf4⟩)
        go_ret2
        exact Ret2F.of_row hr4 (by rw [hdone.out]) (by repeat first | exact Below.refl _ _ | assumption | refine Pg.Below.then_ ?_ (by assumption) | refine Pg.Below.new_ ?_ _ | refine Pg.Below.drewN_ ?_ _) (fun b o e => by have h1 := hf4 b o e; have h2 := hbel.size; have h3 := hb1.size; omega)
end Go.Proofs.Ytgehoflkbckgkaa
