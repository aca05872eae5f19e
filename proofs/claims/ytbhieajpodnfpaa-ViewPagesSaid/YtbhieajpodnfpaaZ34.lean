/- Walk: pantographref1.Parse. Conditions: those that each theorem names. -/
import Derived.Test.YtbhieajpodnfpaaZ32
import Derived.Test.YtbhieajpodnfpaaZ11
namespace Go.Proofs.Ytbhieajpodnfpaa
open Go.RowKit Pg

theorem not_all {l : List UInt8} {k : Nat} (hk : k < l.length) (h : isDg l[k] = false) : l.all isDg = false := by
  cases h2 : l.all isDg with
  | false => rfl
  | true => rw [List.all_eq_true.1 h2 l[k] (List.getElem_mem hk)] at h; cases h
theorem all_of {l : List UInt8} (h : ∀ j (hj : j < l.length), isDg l[j] = true) : l.all isDg = true := by
  rw [List.all_eq_true]
  intro c hc
  obtain ⟨j, hj, rfl⟩ := List.mem_iff_getElem.1 hc
  exact h j hj
theorem pval_lt' (l : List UInt8) (h : ∀ j (hj : j < l.length), isDg l[j] = true) : pval l < 10 ^ l.length := pval_lt l (all_of h)
theorem pval_limbs' {l : List UInt8} {k : Nat} (h : ∀ j (hj : j < l.length), j < k → isDg l[j] = true) (hk : k ≤ 400) (hl : k ≤ l.length) : (limbs (pval (l.take k))).length ≤ 400 := by
  have h1 := pval_lt' (l.take k) (fun j hj => by
    rw [List.length_take] at hj
    rw [List.getElem_take]
    exact h j (by omega) (by omega))
  rw [List.length_take, Nat.min_eq_left hl] at h1
  exact Nat.le_trans (length_limbs_le (Nat.lt_of_lt_of_le h1 (pow_ten k))) hk

set_option maxHeartbeats 1000000 in
/-- pantographref1.Parse. -/
theorem rParse_any (s : ByteArray) (w : World) (hs : s.size ≤ 9223372036854775807) :
    Calls Try.prog 27 #[.string s] w (RetT w (pnum s.data.toList) (pok s.data.toList)) := by
  have hl : s.data.toList.length = s.size := (Lib.size_eq s).symm
  rcases Nat.eq_zero_or_pos s.size with h0 | h0
  · obtain ⟨e1, e2⟩ := pok_no (l := s.data.toList) (.inl (by omega))
    rw [e1, e2]
    have d4 : decide ((s.size : Int) < 1) = true := by simp; omega
    clear hl e1 e2 h0
    go_enter Try.func27, Try.ntmps27
    go_wp2_with fail
    go_ret2
    exact RetT.of_row (Row.nil _) rfl (Below.refl _ _)
  have d1 : decide ((s.size : Int) < 1) = false := by simp; omega
  by_cases h4 : 400 < s.size
  · obtain ⟨e1, e2⟩ := pok_no (l := s.data.toList) (.inr (.inl (by omega)))
    rw [e1, e2]
    have d4 : decide ((400 : Int) < (s.size : Int)) = true := by simp; omega
    clear hl e1 e2
    go_enter Try.func27, Try.ntmps27
    go_wp2_with fail
    go_ret2
    exact RetT.of_row (Row.nil _) rfl (Below.refl _ _)
  have d4 : decide ((400 : Int) < (s.size : Int)) = false := by simp; omega
  have HL := hid hl
  clear hl
  obtain ⟨N, hN⟩ : ∃ N, N = pnum s.data.toList := ⟨_, rfl⟩
  obtain ⟨B, hB⟩ : ∃ B, B = pok s.data.toList := ⟨_, rfl⟩
  rw [← hN, ← hB]
  have HN := hid hN
  have HB := hid hB
  clear hN hB
  go_enter Try.func27, Try.ntmps27
  go_wp2_with fail
  go_loopw [4, 5] (fun s4 i wr => ∃ k A c, k ≤ s.size ∧ i = .int .i64 ((k : Nat) : Int) ∧ s4 = .slice A (limbs (pval (s.data.toList.take k))).length c ∧ Row wr A (limbs (pval (s.data.toList.take k))).length c (limbs (pval (s.data.toList.take k))) ∧ Hid (∀ j (hj : j < s.data.toList.length), j < k → isDg s.data.toList[j] = true) ∧ Below w.heap.size w wr) (fun _ i _ => s.size - (intOf i).toNat)
  case atStart => exact ⟨0, none, 0, Nat.zero_le _, rfl, rfl, Row.nil _, fun j _ h => absurd h (by omega), Below.refl _ _⟩
  case round =>
    obtain ⟨k, A, c, hk, rfl, rfl, hr, HD, hbel⟩ := hrel
    by_cases hlt : k < s.size
    · have hkl : k < s.data.toList.length := by rw [HL.out]; exact hlt
      have hck : s[k] = s.data.toList[k] := rfl
      have hln := pval_limbs' HD.out (show k ≤ 400 by omega) (by omega)
      rcases Nat.lt_or_ge s[k].toNat 48 with hc | hc
      · obtain ⟨e1, e2⟩ := pok_no (l := s.data.toList) (.inr (.inr (not_all hkl (by rw [← hck]; simp [isDg]; omega))))
        rw [← HB.out] at e1
        rw [← HN.out] at e2
        subst e1 e2
        have t1 : decide ((s[k].toNat : Int) < 48) = true := by simp; omega
        clear hck
        go_wp2_with fail
        go_ret2
        exact RetT.of_row (Row.nil _) rfl hbel
      have t1 : decide ((s[k].toNat : Int) < 48) = false := by simp; omega
      rcases Nat.lt_or_ge 57 s[k].toNat with hc2 | hc2
      · obtain ⟨e1, e2⟩ := pok_no (l := s.data.toList) (.inr (.inr (not_all hkl (by rw [← hck]; simp [isDg]; omega))))
        rw [← HB.out] at e1
        rw [← HN.out] at e2
        subst e1 e2
        have t2 : decide (57 < (s[k].toNat : Int)) = true := by simp; omega
        clear hck
        go_wp2_with fail
        go_ret2
        exact RetT.of_row (Row.nil _) rfl hbel
      have t2 : decide (57 < (s[k].toNat : Int)) = false := by simp; omega
      have HD2 : Hid (∀ j (hj : j < s.data.toList.length), j < k + 1 → isDg s.data.toList[j] = true) := hid fun j hj h => by
        rcases Nat.lt_or_ge j k with h1 | h1
        · exact HD.out j hj h1
        · obtain rfl : j = k := by omega
          rw [← hck]; simp [isDg]; omega
      have HV := hid (pval_take_succ s.data.toList k hkl)
      have hln2 := pval_limbs' HD2.out (show k + 1 ≤ 400 by omega) (by omega)
      rw [← hck] at HV
      obtain ⟨x, hx⟩ : ∃ x : Nat, x = s[k].toNat - 48 := ⟨_, rfl⟩
      have hx1 : (s[k].toNat : Int) - 48 = (x : Int) := by omega
      rw [← hx] at HV
      obtain ⟨P, hP⟩ : ∃ P, P = pval (s.data.toList.take k) := ⟨_, rfl⟩
      rw [HV.out, ← hP] at hln2
      rw [← hP] at hln HV hr ⊢
      have hx10 : x < 10 := by omega
      have hl1 := Nat.le_trans (limbs_mono (show P * 10 ≤ P * 10 + x by omega)) hln2
      have HX := hid hx
      clear hx hP hck HD
      have q1 : IntKind.u8.wrap (x : Int) = (x : Int) := IntWalk.u8_in _ (by omega)
      have q2 : IntKind.u32.wrap (x : Int) = (x : Int) := IntWalk.u32_in _ (by omega)
      go_wp2_with fail
      go_region_law (first
        | (go_simp; go_at_call 31; refine (rMul_N _ _ _ _ _ _ _ [10] _ P 10 (by repeat first | assumption | exact Pg.Row.one _ _ _ _ _ (by simp) (by first | rfl | omega) (by omega) | apply Pg.Row.drew | apply Pg.Row.below (hb := by assumption) | apply Pg.Row.alloc) (by repeat first | assumption | exact Pg.Row.one _ _ _ _ _ (by simp) (by first | rfl | omega) (by omega) | apply Pg.Row.drew | apply Pg.Row.below (hb := by assumption) | apply Pg.Row.alloc) (val_limbs _) (by rfl) (by omega) (by omega)).mono ?_; rintro e w2 ⟨A2, c2, rfl, hr2, hb2⟩)
        | (go_simp; go_at_call 30; refine (rAdd_N _ _ _ _ _ _ _ [x] _ (P * 10) x (by repeat first | assumption | exact Pg.Row.one _ _ _ _ _ (by simp) (by first | rfl | omega) (by omega) | apply Pg.Row.drew | apply Pg.Row.below (hb := by assumption) | apply Pg.Row.alloc) (by repeat first | assumption | exact Pg.Row.one _ _ _ _ _ (by simp) (by first | rfl | omega) (by omega) | apply Pg.Row.drew | apply Pg.Row.below (hb := by assumption) | apply Pg.Row.alloc) (val_limbs _) (val_one _) (by omega) (by omega)).mono ?_; rintro e w4 ⟨A4, c4, rfl, hr4, hb4⟩))
      all_goals
        go_wp2_with fail
        go_roundw
        case rel => exact ⟨k + 1, _, _, by omega, by go_num, by rw [HV.out], by rw [HV.out]; exact hr4, HD2, (by repeat first | exact Below.refl _ _ | assumption | refine Pg.Below.then_ ?_ (by assumption) | refine Pg.Below.new_ ?_ _ | refine Pg.Below.drewN_ ?_ _)⟩
        case measure => simp [intOf]; omega
    · obtain rfl : k = s.size := by omega
      have HE : Hid (s.data.toList.take s.size = s.data.toList) := hid (List.take_of_length_le (by rw [HL.out]; exact Nat.le_refl _))
      obtain ⟨e1, e2⟩ := pok_yes (l := s.data.toList) (by rw [HL.out]; omega) (by rw [HL.out]; omega) (all_of fun j hj => HD.out j hj (by rw [← HL.out]; exact hj))
      rw [HE.out] at hr ⊢
      rw [← e2, ← HN.out] at hr ⊢
      rw [← HB.out] at e1
      subst e1
      clear e2
      go_wp2_with fail
      go_ret2
      exact RetT.of_row hr rfl hbel
end Go.Proofs.Ytbhieajpodnfpaa
