/- Walks: the laws NatTexts and NatPrints. Conditions: none. -/
import Derived.Test.YtliflabkpeemdaaDoorTx2
import Derived.Test.YtliflabkpeemdaaDoorTx4
namespace Go.Proofs.YtliflabkpeemdaaDoor
open Go.RowKit Pg

set_option maxHeartbeats 2000000 in
theorem law_NatTexts (A0 : Option Addr) (n0 c0 : Nat) (x : List Nat) (s : ByteArray) (w : World) (h0 : Row w A0 n0 c0 x) (hs : s.size ≤ 9223372036854775807) :
    Calls Tryd.prog 3 #[.slice A0 n0 c0, .string s] w fun e w' => e = .returned (.bool true) ∧ Below w.heap.size w w' := by
  have b0 := h0.nc
  have b0' := h0.cm
  by_cases g0 : 20 < n0
  · have d0 : decide ((20 : Int) < (n0 : Int)) = true := by simp; omega
    go_enter Tryd.func3, Tryd.ntmps3
    go_wp2_with fail
    go_ret
    exact ⟨rfl, Below.refl _ _⟩
  have d0 : decide ((20 : Int) < (n0 : Int)) = false := by simp; omega
  by_cases g1 : 450 < s.size
  · have d1 : decide ((450 : Int) < (s.size : Int)) = true := by simp; omega
    go_enter Tryd.func3, Tryd.ntmps3
    go_wp2_with fail
    go_ret
    exact ⟨rfl, Below.refl _ _⟩
  have d1 : decide ((450 : Int) < (s.size : Int)) = false := by simp; omega
  have HP := hid (Parse_any s w hs)
  have HR : Hid (∀ W, Calls Tryd.prog 6 #[.string s] W (RetT W (pnum s.data.toList) (pok s.data.toList))) := hid fun W => rParse_any s W hs
  have HA : Hid (∀ W, Below w.heap.size w W → Calls Tryd.prog 7 #[.slice A0 n0 c0] W fun e w' => e = .returned (.string (str (dtext (val x)))) ∧ Below W.heap.size W w') := hid fun W hW => Print_any A0 n0 c0 x W (h0.below hW) (by omega)
  have HB : Hid (∀ W, Below w.heap.size w W → Calls Tryd.prog 8 #[.slice A0 n0 c0] W fun e w' => e = .returned (.string (str (dtext (val x)))) ∧ Below W.heap.size W w') := hid fun W hW => rPrint_any A0 n0 c0 x W (h0.below hW) (by omega)
  generalize str (dtext (val x)) = T at *
  generalize pnum s.data.toList = N at *
  generalize pok s.data.toList = B at *
  go_enter Tryd.func3, Tryd.ntmps3
  go_wp2_with (first
    | (go_at_call 5; refine (HP.out).mono ?_; rintro e w1 ⟨A1, c1, rfl, hr1, hb1⟩)
    | (go_at_call 6; refine (HR.out _).mono ?_; rintro e w2 ⟨A2, c2, rfl, hr2, hb2⟩)
    | (go_at_call 7; refine (HA.out _ (by repeat first | exact Below.refl _ _ | assumption | refine Pg.Below.then_ ?_ (by assumption) | refine Pg.Below.new_ ?_ _ | refine Pg.Below.drewN_ ?_ _)).mono ?_; rintro e w3 ⟨rfl, hb3⟩)
    | (go_at_call 8; refine (HB.out _ (by repeat first | exact Below.refl _ _ | assumption | refine Pg.Below.then_ ?_ (by assumption) | refine Pg.Below.new_ ?_ _ | refine Pg.Below.drewN_ ?_ _)).mono ?_; rintro e w4 ⟨rfl, hb4⟩)
    | (go_at_call 9; refine (limbs_T _ _ _ _ _ _ _ _ _ (by repeat first | assumption | apply Pg.Row.below (hb := by assumption) | apply Pg.Row.alloc | apply Pg.Row.drewN) (by repeat first | assumption | apply Pg.Row.below (hb := by assumption) | apply Pg.Row.alloc | apply Pg.Row.drewN) rfl).mono ?_; rintro e w1 ⟨rfl, hb⟩) | (go_at_call 10; refine (known_any _).mono ?_; rintro e w1 ⟨rfl, hb⟩))
  go_ret
  exact ⟨rfl, (by repeat first | exact Below.refl _ _ | assumption | refine Pg.Below.then_ ?_ (by assumption) | refine Pg.Below.new_ ?_ _ | refine Pg.Below.drewN_ ?_ _)⟩

set_option maxHeartbeats 2000000 in
theorem law_NatPrints (A0 : Option Addr) (n0 c0 : Nat) (x : List Nat) (w : World) (h0 : Row w A0 n0 c0 x) :
    Calls Tryd.prog 4 #[.slice A0 n0 c0] w fun e w' => e = .returned (.bool true) ∧ Below w.heap.size w w' := by
  have b0 := h0.nc
  have b0' := h0.cm
  by_cases g0 : 20 < n0
  · have d0 : decide ((20 : Int) < (n0 : Int)) = true := by simp; omega
    go_enter Tryd.func4, Tryd.ntmps4
    go_wp2_with fail
    go_ret
    exact ⟨rfl, Below.refl _ _⟩
  have d0 : decide ((20 : Int) < (n0 : Int)) = false := by simp; omega
  have HA : Hid (Calls Tryd.prog 7 #[.slice A0 n0 c0] w fun e w' => e = .returned (.string (str (dtext (val x)))) ∧ Below w.heap.size w w') := hid (Print_any A0 n0 c0 x w h0 (by omega))
  have v0 : val x < 10 ^ 200 := Nat.lt_of_lt_of_le (val_lt_of h0 (k := 20) (by omega)) (by decide)
  have hd : (str (dtext (val x))).data.toList = dtext (val x) := by simp [str]
  have hlen := length_dtext v0 (by omega)
  rw [← hd, ← Lib.size_eq] at hlen
  obtain ⟨hp, hpn⟩ := pok_yes (l := (str (dtext (val x))).data.toList) (by rw [← Lib.size_eq]; omega) (by rw [← Lib.size_eq]; omega) (by rw [hd]; exact all_dtext _)
  rw [hd, pval_dtext] at hpn
  rw [hd] at hp
  have hhead := dtext_head (val x)
  rw [← hd, ← Lib.size_eq] at hhead
  have HP : Hid (∀ W, Calls Tryd.prog 5 #[.string (str (dtext (val x)))] W (RetT W (val x) true)) := hid fun W => by
    have := Parse_any (str (dtext (val x))) W (by omega)
    rwa [hd, hpn, hp] at this
  clear v0 hp hpn hd
  generalize str (dtext (val x)) = T at *
  obtain ⟨t1, t2⟩ := hlen
  have hT0 : T[0] = T.data.toList[0]'(by rw [← Lib.size_eq]; exact t1) := rfl
  rcases hhead with h1 | h1
  · go_enter Tryd.func4, Tryd.ntmps4
    have e1 : ((T.size : Int) == 1) = true := by rw [h1]; rfl
    have H1 := hid h1
    clear h1 hT0
    go_wp2_with (first
      | (go_at_call 7; refine (HA.out).mono ?_; rintro e w3 ⟨rfl, hb3⟩)
      | (go_at_call 5; refine (HP.out _).mono ?_; rintro e w1 ⟨A1, c1, rfl, hr1, hb1⟩)
      | (go_at_call 11; refine (rTrim_N _ _ _ _ _ _ (by repeat first | assumption | apply Pg.Row.below (hb := by assumption) | apply Pg.Row.alloc | apply Pg.Row.drewN) (by first | exact val_limbs _ | rfl) (by first | omega | assumption)).mono ?_; rintro e w1 ⟨A, c, rfl, hr, hb⟩) | (go_at_call 9; refine (limbs_T _ _ _ _ _ _ _ _ _ (by repeat first | assumption | apply Pg.Row.below (hb := by assumption) | apply Pg.Row.alloc | apply Pg.Row.drewN) (by repeat first | assumption | apply Pg.Row.below (hb := by assumption) | apply Pg.Row.alloc | apply Pg.Row.drewN) rfl).mono ?_; rintro e w1 ⟨rfl, hb⟩) | (go_at_call 10; refine (known_any _).mono ?_; rintro e w1 ⟨rfl, hb⟩))
    go_ret
    exact ⟨rfl, (by repeat first | exact Below.refl _ _ | assumption | refine Pg.Below.then_ ?_ (by assumption) | refine Pg.Below.new_ ?_ _ | refine Pg.Below.drewN_ ?_ _)⟩
  · have hne := h1 T[0] (by rw [hT0]; simp)
    have hnat : T[0].toNat ≠ 48 := fun e => hne (UInt8.toNat_inj.1 e)
    have e2 : ((T[0].toNat : Int) != 48) = true := by simp; omega
    clear h1 hT0 hne
    by_cases h1 : T.size = 1
    · have e1 : ((T.size : Int) == 1) = true := by rw [h1]; rfl
      have H1 := hid h1
      clear h1
      go_enter Tryd.func4, Tryd.ntmps4
      go_wp2_with (first
        | (go_at_call 7; refine (HA.out).mono ?_; rintro e w3 ⟨rfl, hb3⟩)
        | (go_at_call 5; refine (HP.out _).mono ?_; rintro e w1 ⟨A1, c1, rfl, hr1, hb1⟩)
        | (go_at_call 11; refine (rTrim_N _ _ _ _ _ _ (by repeat first | assumption | apply Pg.Row.below (hb := by assumption) | apply Pg.Row.alloc | apply Pg.Row.drewN) (by first | exact val_limbs _ | rfl) (by first | omega | assumption)).mono ?_; rintro e w1 ⟨A, c, rfl, hr, hb⟩) | (go_at_call 9; refine (limbs_T _ _ _ _ _ _ _ _ _ (by repeat first | assumption | apply Pg.Row.below (hb := by assumption) | apply Pg.Row.alloc | apply Pg.Row.drewN) (by repeat first | assumption | apply Pg.Row.below (hb := by assumption) | apply Pg.Row.alloc | apply Pg.Row.drewN) rfl).mono ?_; rintro e w1 ⟨rfl, hb⟩) | (go_at_call 10; refine (known_any _).mono ?_; rintro e w1 ⟨rfl, hb⟩))
      go_ret
      exact ⟨rfl, (by repeat first | exact Below.refl _ _ | assumption | refine Pg.Below.then_ ?_ (by assumption) | refine Pg.Below.new_ ?_ _ | refine Pg.Below.drewN_ ?_ _)⟩
    · have e1 : ((T.size : Int) == 1) = false := beq_eq_false_iff_ne.2 (by omega)
      have H1 := hid h1
      clear h1
      go_enter Tryd.func4, Tryd.ntmps4
      go_wp2_with (first
        | (go_at_call 7; refine (HA.out).mono ?_; rintro e w3 ⟨rfl, hb3⟩)
        | (go_at_call 5; refine (HP.out _).mono ?_; rintro e w1 ⟨A1, c1, rfl, hr1, hb1⟩)
        | (go_at_call 11; refine (rTrim_N _ _ _ _ _ _ (by repeat first | assumption | apply Pg.Row.below (hb := by assumption) | apply Pg.Row.alloc | apply Pg.Row.drewN) (by first | exact val_limbs _ | rfl) (by first | omega | assumption)).mono ?_; rintro e w1 ⟨A, c, rfl, hr, hb⟩) | (go_at_call 9; refine (limbs_T _ _ _ _ _ _ _ _ _ (by repeat first | assumption | apply Pg.Row.below (hb := by assumption) | apply Pg.Row.alloc | apply Pg.Row.drewN) (by repeat first | assumption | apply Pg.Row.below (hb := by assumption) | apply Pg.Row.alloc | apply Pg.Row.drewN) rfl).mono ?_; rintro e w1 ⟨rfl, hb⟩) | (go_at_call 10; refine (known_any _).mono ?_; rintro e w1 ⟨rfl, hb⟩))
      go_ret
      exact ⟨rfl, (by repeat first | exact Below.refl _ _ | assumption | refine Pg.Below.then_ ?_ (by assumption) | refine Pg.Below.new_ ?_ _ | refine Pg.Below.drewN_ ?_ _)⟩
end Go.Proofs.YtliflabkpeemdaaDoor
