/- Walk: the law NatOwn. Conditions: none. -/
import Derived.Test.YtliflabkpeemdaaLgcds
import Derived.Test.YtliflabkpeemdaaWyr
namespace Go.Proofs.Ytliflabkpeemdaa
open Go.RowKit Pg

/-- A row of the call's own that may be written: it lies at the head of a block from B on. -/
def Mine (w : World) (A : Option Addr) (n t B : Nat) : Prop := 0 < n → ∃ g cur, A = some ⟨g, 0, none⟩ ∧ w.heap[g]? = some (.cells cur t (0, 0)) ∧ n ≤ cur.size ∧ B ≤ g
theorem Mine.below {w w' : World} {A : Option Addr} {n t B : Nat} (h : Mine w A n t B) (hb : Below w.heap.size w w') : Mine w' A n t B := fun hn => by
  obtain ⟨g, cur, e, hh, hc, hB⟩ := h hn
  refine ⟨g, cur, e, ?_, hc, hB⟩
  have hlt : g < w.heap.size := by
    rcases Nat.lt_or_ge g w.heap.size with hlt | hge
    · exact hlt
    · rw [Array.getElem?_eq_none hge] at hh; cases hh
  exact (hb.block g hlt).trans hh
theorem Mine.at_ {w : World} {A : Option Addr} {n t B i : Nat} (h : Mine w A n t B) (hi : i < n) : ∃ g v, A = some ⟨g, 0, none⟩ ∧ w.cell? ⟨g, i, none⟩ = some v ∧ w.frozen? ⟨g, i, none⟩ = false ∧ B ≤ g ∧ ∀ u, Mine (w.setCell ⟨g, i, none⟩ u) A n t B := by
  obtain ⟨g, cur, e, hh, hc, hB⟩ := h (by omega)
  refine ⟨g, cur[i]'(by omega), e, ?_, frozen_of_row w g i _ t hh, hB, fun u _ => ⟨g, _, e, heap_setCell_same w g i cur t u hh, by simpa using hc, hB⟩⟩
  rw [cell_of_row w g i cur t (0, 0) hh]
  simp [show i < cur.size by omega]

set_option maxHeartbeats 2000000 in
theorem law_NatOwn (A0 A1 : Option Addr) (n0 c0 n1 c1 : Nat) (x y : List Nat) (w : World) (h0 : Row w A0 n0 c0 x) (h1 : Row w A1 n1 c1 y) :
    Calls Try.prog 10 #[.slice A0 n0 c0, .slice A1 n1 c1] w fun e w' => e = .returned (.bool true) ∧ Below w.heap.size w w' := by
  have b0 := h0.nc
  have b0' := h0.cm
  have b1 := h1.nc
  have b1' := h1.cm
  by_cases g0 : 8 < n0
  · have d0 : decide ((8 : Int) < (n0 : Int)) = true := by simp; omega
    go_enter Try.func10, Try.ntmps10
    go_wp2_with fail
    go_ret
    exact ⟨rfl, Below.refl _ _⟩
  have d0 : decide ((8 : Int) < (n0 : Int)) = false := by simp; omega
  by_cases g1 : 8 < n1
  · have d1 : decide ((8 : Int) < (n1 : Int)) = true := by simp; omega
    go_enter Try.func10, Try.ntmps10
    go_wp2_with fail
    go_ret
    exact ⟨rfl, Below.refl _ _⟩
  have d1 : decide ((8 : Int) < (n1 : Int)) = false := by simp; omega
  go_enter Try.func10, Try.ntmps10
  go_wp2_with (at_builtin; refine wpList_append_row _ rfl _ _ 22 rfl w.heap.size 27 Try.underlying22 info32 _ 0 [] rfl (own_nil w _) _ n0 _ x rfl (h0.alloc _) (by omega) (by simp) ?_)
  intro v1 w1 hown1 hgr1
  try simp only [Nat.zero_add, List.nil_append] at hown1
  have hb1 : Below w.heap.size w w1 := Below.grown (Below.alloc (Below.refl _ _) (Nat.le_refl _) _) hgr1 (by simp) (by intro k hk; simp [Value.ownBlock] at hk; omega)
  obtain ⟨A2, c2, rfl, hr2, hf2, hg2⟩ := own_where hown1 h0.ok
  have hm2 : Mine w1 A2 n0 27 w.heap.size := fun hn => by
    obtain ⟨g, cur, q1, q2, q3, q4⟩ := hg2 hn
    exact ⟨g, cur, q1, q2, q3, q4⟩
  clear hown1 hgr1 hf2 hg2
  go_wp2_with (at_builtin; refine wpList_append_row _ rfl _ _ 22 rfl w1.heap.size 27 Try.underlying22 info32 _ 0 [] rfl (own_nil w1 _) _ n1 _ y rfl ((h1.below hb1).alloc _) (by omega) (by simp) ?_)
  intro v2 w2 hown2 hgr2
  try simp only [Nat.zero_add, List.nil_append] at hown2
  have hb2 : Below w1.heap.size w1 w2 := Below.grown (Below.alloc (Below.refl _ _) (Nat.le_refl _) _) hgr2 (by simp) (by intro k hk; simp [Value.ownBlock] at hk; omega)
  obtain ⟨A3, c3, rfl, hr3⟩ := Row.of_own hown2 h1.ok
  clear hown2 hgr2
  have hm2' := hm2.below hb2
  have hr2' := hr2.below hb2
  have b2 := hr2.nc
  have b2' := hr2.cm
  have b3 := hr3.nc
  have b3' := hr3.cm
  have hlt2 : ∀ g, 0 < n0 → A2 = some ⟨g, 0, none⟩ → g < w2.heap.size := fun g hn e => hr2'.lt hn e
  have HLT := hid hlt2
  have HM := hid hm2'
  clear hm2 hm2' hlt2
  go_wp2_with (first
    | (go_at_call 12; ((with_reducible refine (Add_new A2 A3 n0 c2 n1 c3 x y _ hr2' hr3 (by omega) (by omega)).mono ?_)); rintro e w3 ⟨A4, c4, rfl, hr4, hb3, hf4⟩)
    | (go_at_call 25; ((with_reducible refine (Trim_new A2 n0 c2 x _ (hr2'.below hb3) (by omega)).mono ?_)); rintro e w4 ⟨A5, c5, rfl, hr5, hb4, hf5⟩)
    | (go_at_call 11; refine (Mul_N _ _ _ _ _ _ _ _ _ _ _ (by repeat first | assumption | apply Pg.Row.below (hb := by assumption) | apply Pg.Row.alloc | apply Pg.Row.drewN) (by repeat first | assumption | apply Pg.Row.below (hb := by assumption) | apply Pg.Row.alloc | apply Pg.Row.drewN) (by first | exact val_limbs _ | rfl) (by first | exact val_limbs _ | rfl) (by first | omega | assumption) (by first | omega | assumption)).mono ?_; rintro e w1 ⟨A, c, rfl, hr, hb⟩) | (go_at_call 18; refine (Sub_N _ _ _ _ _ _ _ _ _ _ _ (by repeat first | assumption | apply Pg.Row.below (hb := by assumption) | apply Pg.Row.alloc | apply Pg.Row.drewN) (by repeat first | assumption | apply Pg.Row.below (hb := by assumption) | apply Pg.Row.alloc | apply Pg.Row.drewN) (by first | exact val_limbs _ | rfl) (by first | exact val_limbs _ | rfl) (by first | omega | assumption) (by first | omega | assumption)).mono ?_; rintro e w1 ⟨A, c, rfl, hr, hb⟩) | (go_at_call 13; refine (limbs_T _ _ _ _ _ _ _ _ _ (by repeat first | assumption | apply Pg.Row.below (hb := by assumption) | apply Pg.Row.alloc | apply Pg.Row.drewN) (by repeat first | assumption | apply Pg.Row.below (hb := by assumption) | apply Pg.Row.alloc | apply Pg.Row.drewN) rfl).mono ?_; rintro e w1 ⟨rfl, hb⟩)
    | (go_at_call 32; ((with_reducible refine (DivMod_E A2 A3 n0 c2 n1 c3 x y _ _ _ _ _ _ (by repeat first | assumption | apply Pg.Row.below (hb := by assumption) | apply Pg.Row.alloc | apply Pg.Row.drewN) (by repeat first | assumption | apply Pg.Row.below (hb := by assumption) | apply Pg.Row.alloc | apply Pg.Row.drewN) rfl rfl (by first | omega | assumption) (by first | omega | assumption) rfl rfl rfl).mono ?_)); rintro e w1 ⟨Ad, cd, Ae, ce, rfl, hrd, hre, hbd⟩)
    | (go_at_call 34; ((with_reducible refine (Gcd_E A2 A3 n0 c2 n1 c3 x y _ _ _ _ (by repeat first | assumption | apply Pg.Row.below (hb := by assumption) | apply Pg.Row.alloc | apply Pg.Row.drewN) (by repeat first | assumption | apply Pg.Row.below (hb := by assumption) | apply Pg.Row.alloc | apply Pg.Row.drewN) rfl rfl (by first | omega | assumption) (by first | omega | assumption) rfl).mono ?_)); rintro e w1 ⟨Ag, cg, rfl, hrg, hbg⟩))
  have hra : Row w1 A4 (limbs (val x + val y)).length c4 (limbs (val x + val y)) := (by repeat first | assumption | apply Pg.Row.below (hb := by assumption) | apply Pg.Row.alloc | apply Pg.Row.drewN)
  have hrb : Row w1 A5 (limbs (val x)).length c5 (limbs (val x)) := (by repeat first | assumption | apply Pg.Row.below (hb := by assumption) | apply Pg.Row.alloc | apply Pg.Row.drewN)
  have hb21 : Below w2.heap.size w2 w1 := (by repeat first | exact Below.refl _ _ | assumption | refine Pg.Below.then_ ?_ (by assumption) | refine Pg.Below.new_ ?_ _ | refine Pg.Below.drewN_ ?_ _)
  have hbel : Below w.heap.size w w1 := (hb1.trans (hb2.mono hb1.size)).trans (hb21.mono (by have := hb1.size; have := hb2.size; omega))
  have hm := HM.out.below hb21
  have HF4 := hid hf4
  have HF5 : Hid (∀ b o, A5 = some ⟨b, o, none⟩ → w2.heap.size ≤ b) := hid fun b o e => by have q1 := hf5 b o e; have q2 := hb3.size; omega
  clear hf4 hf5 HM
  go_loopw [10] (fun i wr => ∃ k : Nat, k ≤ n0 ∧ i = .int .i64 (k : Int) ∧ Mine wr A2 n0 27 w.heap.size ∧ Row wr A4 (limbs (val x + val y)).length c4 (limbs (val x + val y)) ∧ Row wr A5 (limbs (val x)).length c5 (limbs (val x)) ∧ Below w.heap.size w wr) (fun i _ => n0 - (intOf i).toNat)
  case atStart => exact ⟨0, Nat.zero_le _, rfl, hm, hra, hrb, hbel⟩
  case round =>
    obtain ⟨k, hk, rfl, hmk, hrx, hry, hbw⟩ := hrel
    clear hra hrb hm hbel
    by_cases hlt : k < n0
    · obtain ⟨g, v, rfl, hc, hfz, hg, hset⟩ := hmk.at_ hlt
      have hgs := HLT.out g (by omega) rfl
      have HS := hid hset
      clear hset
      go_wp2_with fail
      go_roundw
      case rel => exact ⟨k + 1, by omega, by go_num, HS.out _, row_set_other hrx _ _ (fun _ b o e => by have := HF4.out b o e; show b ≠ g; omega), row_set_other hry _ _ (fun _ b o e => by have := HF5.out b o e; show b ≠ g; omega), hbw.setCell hg _⟩
      case measure => simp [intOf]; omega
    · have hkn : n0 ≤ k := by omega
      go_wp2_with (first | (go_at_call 20; refine (rAdd_N _ _ _ _ _ _ _ _ _ _ _ (by repeat first | assumption | apply Pg.Row.below (hb := by assumption) | apply Pg.Row.alloc | apply Pg.Row.drewN) (by repeat first | assumption | apply Pg.Row.below (hb := by assumption) | apply Pg.Row.alloc | apply Pg.Row.drewN) (by first | exact val_limbs _ | rfl) (by first | exact val_limbs _ | rfl) (by first | omega | assumption) (by first | omega | assumption)).mono ?_; rintro e w1 ⟨A, c, rfl, hr, hb⟩) | (go_at_call 17; refine (rTrim_N _ _ _ _ _ _ (by repeat first | assumption | apply Pg.Row.below (hb := by assumption) | apply Pg.Row.alloc | apply Pg.Row.drewN) (by first | exact val_limbs _ | rfl) (by first | omega | assumption)).mono ?_; rintro e w1 ⟨A, c, rfl, hr, hb⟩) | (go_at_call 13; refine (limbs_T _ _ _ _ _ _ _ _ _ (by repeat first | assumption | apply Pg.Row.below (hb := by assumption) | apply Pg.Row.alloc | apply Pg.Row.drewN) (by repeat first | assumption | apply Pg.Row.below (hb := by assumption) | apply Pg.Row.alloc | apply Pg.Row.drewN) rfl).mono ?_; rintro e w1 ⟨rfl, hb⟩) | (go_at_call 14; refine (known_any _).mono ?_; rintro e w1 ⟨rfl, hb⟩))
      go_ret
      exact ⟨rfl, (by repeat first | exact Below.refl _ _ | assumption | refine Pg.Below.then_ ?_ (by assumption) | refine Pg.Below.new_ ?_ _ | refine Pg.Below.drewN_ ?_ _)⟩
end Go.Proofs.Ytliflabkpeemdaa
