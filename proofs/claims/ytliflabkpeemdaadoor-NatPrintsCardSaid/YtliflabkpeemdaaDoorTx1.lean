/- Walk: nat.Parse. Conditions: none. -/
import Derived.Test.YtliflabkpeemdaaDoorWknown
import Derived.Test.YtliflabkpeemdaaDoorDecP
import Derived.Test.YtliflabkpeemdaaDoorGcdP
import Derived.Test.YtliflabkpeemdaaDoorShelf
namespace Go.Proofs.YtliflabkpeemdaaDoor
open Go.RowKit Pg

/-- May letters be read as a number? -/
def pok (l : List UInt8) : Bool := decide (1 ≤ l.length) && decide (l.length ≤ 400) && l.all isDg
/-- The number that letters say; 0: they say none. -/
def pnum (l : List UInt8) : Nat := if pok l = true then pval l else 0
/-- A call hands back the number N in a row, and whether it may. -/
def RetT (w : World) (N : Nat) (b : Bool) (e : Ending) (w' : World) : Prop :=
  ∃ A c, e = .returned (.tuple #[.slice A (limbs N).length c, .bool b]) ∧ Row w' A (limbs N).length c (limbs N) ∧ Below w.heap.size w w'
theorem RetT.of_row {w w' : World} {A : Option Addr} {n c N : Nat} {b : Bool} {xs : List Nat} (h : Row w' A n c xs) (e : xs = limbs N) (hb : Below w.heap.size w w') :
    RetT w N b (.returned (.tuple #[.slice A n c, .bool b])) w' := by
  subst e
  have := h.len
  subst this
  exact ⟨A, c, rfl, h, hb⟩
theorem pok_no {l : List UInt8} (h : l.length = 0 ∨ 400 < l.length ∨ l.all isDg = false) : pok l = false ∧ pnum l = 0 := by
  have e : pok l = false := by
    unfold pok
    rcases h with h | h | h
    · rw [decide_eq_false (by omega : ¬ 1 ≤ l.length)]; rfl
    · rw [decide_eq_false (by omega : ¬ l.length ≤ 400), Bool.and_false]; rfl
    · rw [h, Bool.and_false]
  exact ⟨e, by unfold pnum; rw [e]; rfl⟩
theorem pok_yes {l : List UInt8} (h1 : 1 ≤ l.length) (h2 : l.length ≤ 400) (h : l.all isDg = true) : pok l = true ∧ pnum l = pval l := by
  have e : pok l = true := by unfold pok; rw [decide_eq_true h1, decide_eq_true h2, h]; rfl
  exact ⟨e, by unfold pnum; rw [if_pos e]⟩
theorem isEmpty_of (s : ByteArray) (h : 0 < s.size) : s.toList.isEmpty = false := by
  rw [Lib.toList_data]
  cases hh : s.data.toList with
  | nil => have := Lib.size_eq s; rw [hh, List.length_nil] at this; omega
  | cons _ _ => rfl

theorem trim_digits (s : ByteArray) (w : World) (hs : s.size ≤ 9223372036854775807) :
    Calls Tryd.prog 12 #[.string s, .string ⟨#[48, 49, 50, 51, 52, 53, 54, 55, 56, 57]⟩] w fun e w' => e = .returned (.string ⟨(Lib.trimS s.data.toList digitsC).toArray⟩) ∧ Below w.heap.size w w' :=
  Any.strings_Trim_laid Tryd.lay160 (by kernel_rfl) s ⟨#[48, 49, 50, 51, 52, 53, 54, 55, 56, 57]⟩ w hs (by decide) (ascii_of_all (by decide))
theorem trim_yes (s : ByteArray) (w : World) (hs : s.size ≤ 9223372036854775807) (h : s.data.toList.all isDg = true) :
    Calls Tryd.prog 12 #[.string s, .string ⟨#[48, 49, 50, 51, 52, 53, 54, 55, 56, 57]⟩] w fun e w' => e = .returned (.string ⟨#[]⟩) ∧ Below w.heap.size w w' := by
  have := trim_digits s w hs
  rwa [(trim_nil _).2 h] at this
theorem trim_no (s : ByteArray) (w : World) (hs : s.size ≤ 9223372036854775807) (h : s.data.toList.all isDg = false) :
    Calls Tryd.prog 12 #[.string s, .string ⟨#[48, 49, 50, 51, 52, 53, 54, 55, 56, 57]⟩] w fun e w' => ∃ r : ByteArray, r.toList.isEmpty = false ∧ e = .returned (.string r) ∧ Below w.heap.size w w' := by
  refine (trim_digits s w hs).mono fun e w' ⟨he, hb⟩ => ⟨_, isEmpty_of _ ?_, he, hb⟩
  have hne : Lib.trimS s.data.toList digitsC ≠ [] := fun e => by rw [(trim_nil _).1 e] at h; cases h
  have : 0 < (Lib.trimS s.data.toList digitsC).length := List.length_pos_iff.2 hne
  show 0 < (Lib.trimS s.data.toList digitsC).toArray.size
  simpa using this

theorem pow_ten (k : Nat) : 10 ^ k ≤ 4294967296 ^ k := Nat.pow_le_pow_left (by omega) k
theorem pval_limbs {l : List UInt8} {k : Nat} (h : l.all isDg = true) (hk : k ≤ 400) (hl : k ≤ l.length) : (limbs (pval (l.take k))).length ≤ 400 := by
  have h1 := pval_lt (l.take k) (by rw [List.all_eq_true] at h ⊢; exact fun c hc => h c (List.mem_of_mem_take hc))
  rw [List.length_take, Nat.min_eq_left hl] at h1
  exact Nat.le_trans (length_limbs_le (Nat.lt_of_lt_of_le h1 (pow_ten k))) hk

set_option maxHeartbeats 1000000 in
/-- nat.Parse. -/
theorem Parse_any (s : ByteArray) (w : World) (hs : s.size ≤ 9223372036854775807) :
    Calls Tryd.prog 5 #[.string s] w (RetT w (pnum s.data.toList) (pok s.data.toList)) := by
  have hl : s.data.toList.length = s.size := (Lib.size_eq s).symm
  rcases Nat.eq_zero_or_pos s.size with h0 | h0
  · obtain ⟨e1, e2⟩ := pok_no (l := s.data.toList) (.inl (by omega))
    rw [e1, e2]
    obtain rfl : s = ⟨#[]⟩ := by
      cases s with
      | mk d => congr 1; exact Array.eq_empty_of_size_eq_zero h0
    clear hl e1 e2 h0
    go_enter Tryd.func5, Tryd.ntmps5
    go_wp2_with fail
    go_ret2
    exact RetT.of_row (Row.nil _) rfl (Below.refl _ _)
  have he := isEmpty_of s h0
  by_cases h4 : 400 < s.size
  · obtain ⟨e1, e2⟩ := pok_no (l := s.data.toList) (.inr (.inl (by omega)))
    rw [e1, e2]
    have d4 : decide ((400 : Int) < (s.size : Int)) = true := by simp; omega
    clear hl e1 e2
    go_enter Tryd.func5, Tryd.ntmps5
    go_wp2_with fail
    go_ret2
    exact RetT.of_row (Row.nil _) rfl (Below.refl _ _)
  have d4 : decide ((400 : Int) < (s.size : Int)) = false := by simp; omega
  by_cases hd : s.data.toList.all isDg = true
  · obtain ⟨e1, e2⟩ := pok_yes (l := s.data.toList) (by omega) (by omega) hd
    rw [e1, e2]
    have HT := hid (trim_yes s w hs hd)
    have HD := hid hd
    have HL := hid hl
    clear hl hd e1 e2
    go_enter Tryd.func5, Tryd.ntmps5
    go_wp2_with (go_at_call 12; refine (HT.out).mono ?_; rintro e w1 ⟨rfl, hb1⟩)
    go_loopw [4, 20] (fun s4 i wr => ∃ k A c, k ≤ s.size ∧ i = .int .i64 ((k : Nat) : Int) ∧ s4 = .slice A (limbs (pval (s.data.toList.take k))).length c ∧ Row wr A (limbs (pval (s.data.toList.take k))).length c (limbs (pval (s.data.toList.take k))) ∧ Below w.heap.size w wr) (fun _ i _ => s.size - (intOf i).toNat)
    case atStart => exact ⟨0, none, 0, Nat.zero_le _, rfl, rfl, Row.nil _, hb1⟩
    case round =>
      obtain ⟨k, A, c, hk, rfl, rfl, hr, hbel⟩ := hrel
      clear hb1
      by_cases hlt : k < s.size
      · have hc := (isDg_iff _).1 (List.all_eq_true.1 HD.out s.data.toList[k] (List.getElem_mem (by rw [HL.out]; exact hlt)))
        have HV := hid (pval_take_succ s.data.toList k (by rw [HL.out]; exact hlt))
        have hln := pval_limbs HD.out (show k ≤ 400 by omega) (by rw [HL.out]; exact hk)
        have hln2 := pval_limbs HD.out (show k + 1 ≤ 400 by omega) (by rw [HL.out]; exact hlt)
        have hck : s[k] = s.data.toList[k]'(by rw [HL.out]; exact hlt) := rfl
        rw [← hck] at hc HV
        clear hck
        obtain ⟨x, hx⟩ : ∃ x : Nat, x = s[k].toNat - 48 := ⟨_, rfl⟩
        have hx1 : (s[k].toNat : Int) - 48 = (x : Int) := by omega
        rw [← hx] at HV
        obtain ⟨P, hP⟩ : ∃ P, P = pval (s.data.toList.take k) := ⟨_, rfl⟩
        rw [HV.out, ← hP] at hln2
        rw [← hP] at hln HV hr ⊢
        have hx10 : x < 10 := by omega
        have hl1 := Nat.le_trans (limbs_mono (show P * 10 ≤ P * 10 + x by omega)) hln2
        have hl2 := Nat.le_trans (limbs_mono (show x ≤ P * 10 + x by omega)) hln2
        have HX := hid hx
        clear hx hP
        have q1 : IntKind.u8.wrap (x : Int) = (x : Int) := IntWalk.u8_in _ (by omega)
        have q2 : IntKind.u64.wrap (x : Int) = (x : Int) := IntWalk.u64_in _ (by omega)
        go_wp2_with fail
        go_region_law (first
          | (go_simp; go_at_call 14; refine (Mul_N _ _ _ _ _ _ _ [10] _ P 10 (hr.alloc _).drew (Row.one _ _ _ _ _ rfl (by rfl) (by omega)).drew (val_limbs _) (by rfl) (by omega) (by omega)).mono ?_; rintro e w2 ⟨A2, c2, rfl, hr2, hb2⟩)
          | (go_simp; go_at_call 15; refine (Of_any x _ (by omega)).mono ?_; rintro e w3 ⟨A3, c3, rfl, hr3, hb3⟩)
          | (go_simp; go_at_call 13; refine (Add_N _ _ _ _ _ _ _ _ _ _ _ (hr2.below hb3) hr3 (val_limbs _) (val_limbs _) (by omega) (by omega)).mono ?_; rintro e w4 ⟨A4, c4, rfl, hr4, hb4⟩))
        all_goals
          go_wp2_with fail
          go_roundw
          case rel => exact ⟨k + 1, _, _, by omega, by go_num, by rw [HV.out], by rw [HV.out]; exact hr4, (by repeat first | exact Below.refl _ _ | assumption | refine Pg.Below.then_ ?_ (by assumption) | refine Pg.Below.new_ ?_ _ | refine Pg.Below.drewN_ ?_ _)⟩
          case measure => simp [intOf]; omega
      · obtain rfl : k = s.size := by omega
        have HE : Hid (s.data.toList.take s.size = s.data.toList) := hid (List.take_of_length_le (by rw [HL.out]; exact Nat.le_refl _))
        go_wp2_with fail
        go_ret2
        rw [HE.out] at hr ⊢
        exact RetT.of_row hr rfl hbel
  · have hd' : s.data.toList.all isDg = false := by simpa using hd
    obtain ⟨e1, e2⟩ := pok_no (l := s.data.toList) (.inr (.inr hd'))
    rw [e1, e2]
    have HT := hid (trim_no s w hs hd')
    clear hl hd hd' e1 e2
    go_enter Tryd.func5, Tryd.ntmps5
    go_wp2_with (go_at_call 12; refine (HT.out).mono ?_; rintro e w1 ⟨r, hre, rfl, hb1⟩)
    go_ret2
    exact RetT.of_row (Row.nil _) rfl hb1
end Go.Proofs.YtliflabkpeemdaaDoor
