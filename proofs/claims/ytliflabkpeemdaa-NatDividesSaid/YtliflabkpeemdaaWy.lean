/- Walks: Add and Trim once more: what they hand back lies in new memory. Conditions: rows of at most 2^30 limbs. -/
import Derived.Test.YtliflabkpeemdaaWv
namespace Go.Proofs.Ytliflabkpeemdaa
open Go.RowKit Pg

/-- A call hands back the number N in a row of new memory. -/
def RetF (w : World) (N : Nat) (e : Ending) (w' : World) : Prop :=
  ∃ A c, e = .returned (.slice A (limbs N).length c) ∧ Row w' A (limbs N).length c (limbs N) ∧ Below w.heap.size w w' ∧ ∀ b o, A = some ⟨b, o, none⟩ → w.heap.size ≤ b
theorem RetF.of_row {w w' : World} {A : Option Addr} {n c N : Nat} {xs : List Nat} (h : Row w' A n c xs) (e : xs = limbs N) (hb : Below w.heap.size w w') (hf : ∀ b o, A = some ⟨b, o, none⟩ → w.heap.size ≤ b) : RetF w N (.returned (.slice A n c)) w' := by
  subst e
  have := h.len
  subst this
  exact ⟨A, c, rfl, h, hb, hf⟩
/-- A row of the call's own, and where it lies. -/
theorem own_where {w : World} {base t : Nat} {v : Value} {n : Nat} {xs : List Nat} (h : w.ownsRow base t 1 v n (u32s xs)) (hok : Ok xs) :
    ∃ A c, v = .slice A n c ∧ Row w A n c xs ∧ (∀ b o, A = some ⟨b, o, none⟩ → base ≤ b) ∧ (0 < n → ∃ g cur, A = some ⟨g, 0, none⟩ ∧ w.heap[g]? = some (.cells cur t (0, 0)) ∧ n ≤ cur.size ∧ base ≤ g) := by
  obtain ⟨A, c, rfl, hr⟩ := Row.of_own h hok
  refine ⟨A, c, rfl, hr, fun b o e => ?_, fun hn => ?_⟩
  · subst e
    exact (h.lt b rfl).1
  · rcases h.2 with ⟨e, h0⟩ | ⟨g, cap, cur, e, hb, hh, hnc, _, hcs, _⟩
    · omega
    · injection e with e1 e2 e3
      exact ⟨g, cur, e1, hh, by omega, hb⟩

set_option maxHeartbeats 1000000 in
/-- nat.Add. -/
theorem Add_new (A A' : Option Addr) (n c n' c' : Nat) (xs ys : List Nat) (w : World) (h : Row w A n c xs) (h' : Row w A' n' c' ys) (hb : n ≤ 1073741824) (hb' : n' ≤ 1073741824) :
    Calls Try.prog 12 #[.slice A n c, .slice A' n' c'] w (RetF w (val xs + val ys)) := by
  have hr := h.trim
  have hr' := h'.trim
  have hn1 : tl xs ≤ 1073741824 := by have := tl_le h.ok; rw [h.len] at this; omega
  have hn2 : tl ys ≤ 1073741824 := by have := tl_le h'.ok; rw [h'.len] at this; omega
  go_enter Try.func12, Try.ntmps12
  go_upto_if 17 with (go_at_call 36; refine (trim_any _ _ _ _ _ (by assumption)).mono ?_; rintro e w' ⟨rfl, rfl⟩)
  go_cut [0, 1] (fun s0 s1 wc => ∃ A0 n0 c0 p A1 n1 c1 q, s0 = .slice A0 n0 c0 ∧ s1 = .slice A1 n1 c1 ∧ Row wc A0 n0 c0 p ∧ Row wc A1 n1 c1 q ∧ n1 ≤ n0 ∧ n0 ≤ 1073741824 ∧ Hid (val p + val q = val xs + val ys) ∧ Hid (wc = w))
  case first =>
    go_wp2_with fail
    · have hlt : tl xs < tl ys := by assumption
      go_meet
      exact ⟨_, _, _, _, _, _, _, _, rfl, rfl, hr', hr, by omega, hn2, hid (by rw [val_limbs, val_limbs, Nat.add_comm]), hid rfl⟩
    · go_meet
      exact ⟨_, _, _, _, _, _, _, _, rfl, rfl, hr, hr', by omega, hn1, hid (by rw [val_limbs, val_limbs]), hid rfl⟩
  case rest =>
    obtain ⟨A0, n0, c0, p, A1, n1, c1, q, rfl, rfl, hp, hq, hnn, hn0, HV, HW⟩ := hcut
    clear hr hr' hn1 hn2 h h'
    have hmk := run_make_row (P := Try.prog) 22 27 Try.underlying22 info32 ((n0 : Int) + 1) (n0 + 1) (by omega) (by omega)
    have hpl := hid hp.len
    have hql := hid hq.len
    have hp1 := hp.nc
    have hp2 := hp.cm
    have hq1 := hq.nc
    have hq2 := hq.cm
    go_wp2_with fail
    go_loopw [6, 26] (fun s6 i wr => ∃ k cr cs, k ≤ n0 ∧ i = .int .i64 ((k : Nat) : Int) ∧ s6 = .int .u64 ((cr : Nat) : Int) ∧ cr ≤ 1 ∧ AddInv p q k cr cs ∧ Blk wr wc.heap.size 27 cs ∧ Below wc.heap.size wc wr) (fun _ i _ => n0 - (intOf i).toNat)
    case atStart => exact ⟨0, 0, _, by omega, rfl, rfl, by omega, hpl.out ▸ AddInv.start p q, Blk.new _ _ _, Below.alloc (Below.refl _ _) (Nat.le_refl _) _⟩
    case round =>
      obtain ⟨k, cr, cs, hk, rfl, rfl, hcr, hinv, hblk, hbel⟩ := hrel
      have hlp := lim_lt hp.ok k
      have hlq := lim_lt hq.ok k
      have hcl := hid hinv.len
      have hfz := hblk.frozen k
      by_cases hlt : k < n0
      · obtain ⟨b, o, rfl, hc⟩ := hp.at_ (by omega)
        have hbw := hp.lt (by omega) rfl
        have g1 : wr.cell? ⟨b, o + k, none⟩ = some (.int .u32 ((lim p k : Nat) : Int)) := (hbel.cell (by exact hbw)).trans (hc k hlt)
        have g3 := hblk.cell (i := k) (by rw [hcl.out, hpl.out]; omega)
        clear hc
        by_cases hlt2 : k < n1
        · obtain ⟨b', o', rfl, hc'⟩ := hq.at_ (by omega)
          have hbw' := hq.lt (by omega) rfl
          have g2 : wr.cell? ⟨b', o' + k, none⟩ = some (.int .u32 ((lim q k : Nat) : Int)) := (hbel.cell (by exact hbw')).trans (hc' k hlt2)
          clear hc'
          go_wp2_with fail
          go_roundw
          case rel =>
            exact ⟨k + 1, (cr + lim p k + lim q k) / 4294967296, _, by omega, by go_num, by go_num, by omega, hinv.step hp.ok hq.ok (by rw [hpl.out]; omega) _ rfl, hblk.set k _ _ (by omega), hbel.setCell (Nat.le_refl _) _⟩
          case measure => simp [intOf]; omega
        · have hz : Hid (lim q k = 0) := hid (lim_behind (by rw [hql.out]; omega))
          have hlt2' : n1 ≤ k := by omega
          go_wp2_with fail
          go_roundw
          case rel =>
            exact ⟨k + 1, (cr + lim p k + lim q k) / 4294967296, _, by omega, by go_num, by rw [hz.out]; go_num, by omega, hinv.step hp.ok hq.ok (by rw [hpl.out]; omega) _ rfl, hblk.set k _ _ (by rw [hz.out]; omega), hbel.setCell (Nat.le_refl _) _⟩
          case measure => simp [intOf]; omega
      · obtain rfl : k = n0 := by omega
        have g3 := hblk.cell (i := k) (by rw [hcl.out, hpl.out]; omega)
        have hdone : Hid (val (cs.set k cr) = val p + val q) := hid (by
          have e := hpl.out
          have e2 := hql.out
          subst e
          exact hinv.done (by omega))
        have hok : Ok (cs.set k cr) := hinv.ok.set k (by omega)
        have hb2 : Blk (wr.setCell ⟨wc.heap.size, k, none⟩ (.int .u32 (cr : Int))) wc.heap.size 27 (cs.set k cr) := hblk.set k _ _ rfl
        have hr2 := hb2.row hok (by rw [List.length_set, hcl.out, hpl.out]; omega)
        rw [List.length_set, hcl.out, hpl.out] at hr2
        go_wp2_with (go_at_call 36; refine (trim_any _ _ _ _ _ hr2).mono ?_; rintro e w' ⟨rfl, rfl⟩)
        go_ret
        rw [← HW.out]
        exact RetF.of_row hr2.trim (by rw [hdone.out, HV.out]) (hbel.setCell (Nat.le_refl _) _) (fun b o e => by injection e with e; injection e with e; exact Nat.le_of_eq e)

set_option maxHeartbeats 400000 in
theorem clone_new (A : Option Addr) (n c : Nat) (xs : List Nat) (w : World) (h : Row w A n c xs) (hb : n ≤ 1099511627776) :
    Calls Try.prog 40 #[.slice A n c] w fun e w' => ∃ A' c', e = .returned (.slice A' n c') ∧ Row w' A' n c' xs ∧ Below w.heap.size w w' ∧ ∀ b o, A' = some ⟨b, o, none⟩ → w.heap.size ≤ b := by
  cases A with
  | none =>
    have hc := h.nil_ rfl
    have hnc := h.nc
    subst hc
    obtain rfl : n = 0 := by omega
    have q : ∀ W, (binOp .eql 22 (.slice none 0 0) (.slice none 0 0)).run Try.prog W = .ok (.bool true) W := fun W => Lib.run_eql_slice_nil W _ _ none 0 0 0 0 Try.underlying22
    go_enter Try.func40, Try.ntmps40
    go_wp2_with fail
    go_ret
    exact ⟨_, _, rfl, h, Below.refl _ _, fun b o e => by cases e⟩
  | some ad =>
    have q := fun W => slice_eq_nil W ad n c
    go_enter Try.func40, Try.ntmps40
    go_wp2_with (at_builtin; refine wpList_append_row _ rfl _ _ 22 rfl w.heap.size 27 Try.underlying22 info32 _ 0 [] rfl (own_nil w _) _ n _ xs rfl (h.alloc _) (by omega) (by simp) ?_)
    intro v' w' hown hgr
    try simp only [Nat.zero_add, List.nil_append] at hown
    obtain ⟨A', c', rfl, hr, hf, _⟩ := own_where hown h.ok
    go_wp2_with fail
    go_ret
    exact ⟨_, _, rfl, hr, Below.grown (Below.alloc (Below.refl _ _) (Nat.le_refl _) _) hgr (by simp) (by intro k hk; simp [Value.ownBlock] at hk; omega), hf⟩

set_option maxHeartbeats 400000 in
/-- nat.Trim. -/
theorem Trim_new (A : Option Addr) (n c : Nat) (xs : List Nat) (w : World) (h : Row w A n c xs) (hb : n ≤ 1099511627776) :
    Calls Try.prog 25 #[.slice A n c] w (RetF w (val xs)) := by
  have hr := h.trim
  have ht : tl xs ≤ 1099511627776 := by have := tl_le h.ok; rw [h.len] at this; omega
  go_enter Try.func25, Try.ntmps25
  go_wp2_with (first | (go_at_call 36; refine (trim_any _ _ _ _ _ h).mono ?_; rintro e w' ⟨rfl, rfl⟩) | (go_at_call 40; refine (clone_new _ _ _ _ _ hr ht).mono ?_; rintro e w' ⟨A', c', rfl, hr', hb', hf⟩))
  go_ret
  exact RetF.of_row hr' rfl hb' hf
end Go.Proofs.Ytliflabkpeemdaa
