/- Walks: pantographref3.run; letters of a text · Walk: pantographref3.Parse of digits with or without a point. Conditions: those that each theorem names. -/
import Derived.Test.YtbhieajpodnfpaaZ30
import Derived.Test.YtbhieajpodnfpaaZ34
import Derived.Test.YtbhieajpodnfpaaZ17
namespace Go.Proofs.Ytbhieajpodnfpaa
open Go.RowKit Pg
theorem index_str (l : List UInt8) (j : Nat) (c : UInt8) (h : l[j]? = some c) (z : Int) (hz : z = (j : Int)) (W : World) : (Instr.index 9 (.string (str l)) (.int .i64 z)).run Try.prog W = .ok (.int .u8 (c.toNat : Int)) W := by
  subst hz
  have hj := (List.getElem?_eq_some_iff.1 h).1
  rw [run_index_string W _ _ _ _ Try.underlying9]
  have hs := str_size l
  have hc : l[j] = c := by rw [List.getElem?_eq_getElem hj] at h; exact Option.some.inj h
  have : (str l)[j]'(by omega) = c := by rw [← hc]; rfl
  simp [hs, hj, this]
set_option maxHeartbeats 1000000 in
/-- pantographref3.run. -/
theorem run_any (l : List UInt8) (m : Nat) (w : World) (hl : l.length ≤ 9223372036854775807) (hm : m ≤ l.length) (hd : ∀ j (hj : j < l.length), j < m → isDg l[j] = true) (he : ∀ hj : m < l.length, isDg l[m] = false) :
    Calls Try.prog 26 #[.string (str l)] w fun e w' => e = .returned (.int .i64 (m : Int)) ∧ w = w' := by
  have sz := str_size l
  have HD := hid hd
  have HE := hid he
  clear hd he
  go_enter Try.func26, Try.ntmps26
  go_wp2_with fail
  go_loopw [3] (fun s3 wr => ∃ k : Nat, k ≤ m ∧ s3 = .int .i64 (k : Int) ∧ w = wr) (fun s3 _ => m - (intOf s3).toNat)
  case atStart => exact ⟨0, Nat.zero_le _, rfl, rfl⟩
  case round =>
    obtain ⟨k, hk, rfl, rfl⟩ := hrel
    by_cases hlt : k < l.length
    · have qi := fun W => index_str l k l[k] (List.getElem?_eq_getElem hlt) (k : Int) rfl W
      have hlt' : (k : Int) < (l.length : Int) := by omega
      obtain ⟨c, hc⟩ : ∃ c, l[k] = c := ⟨_, rfl⟩
      by_cases hkm : k < m
      · have h1 := (isDg_iff _).1 (HD.out k hlt hkm)
        rw [hc] at h1 qi
        have t1 : (48 : Int) ≤ (c.toNat : Int) := by omega
        have t2 : (c.toNat : Int) ≤ 57 := by omega
        obtain ⟨cn, hcn⟩ : ∃ cn : Int, (c.toNat : Int) = cn := ⟨_, rfl⟩
        rw [hcn] at qi t1 t2
        clear hc h1 hcn hlt
        go_wp2_with fail
        exact ⟨⟨k + 1, by omega, by go_num, by first | rfl | trivial⟩, by simp [intOf]; omega⟩
      · have hkm' : k = m := by omega
        subst hkm'
        have h1 := HE.out hlt
        have h2 : ¬ (48 ≤ c.toNat ∧ c.toNat ≤ 57) := fun h => by rw [hc, (isDg_iff c).2 h] at h1; cases h1
        rw [hc] at qi
        obtain ⟨cn, hcn⟩ : ∃ cn : Int, (c.toNat : Int) = cn := ⟨_, rfl⟩
        rw [hcn] at qi
        by_cases t1 : (48 : Int) ≤ cn
        · have t2 : decide (cn ≤ 57) = false := decide_eq_false (by omega)
          clear hc h1 h2 hcn hlt
          go_wp2_with fail
          go_ret
          exact ⟨rfl, rfl⟩
        · have t2 : decide (48 ≤ cn) = false := decide_eq_false t1
          clear hc h1 h2 hcn hlt
          go_wp2_with fail
          go_ret
          exact ⟨rfl, rfl⟩
    · have hkm' : k = m := by omega
      subst hkm'
      have hlt' : decide ((k : Int) < (l.length : Int)) = false := decide_eq_false (by omega)
      have hlt2 : decide (k < l.length) = false := decide_eq_false hlt
      clear hlt
      go_wp2_with fail
      go_ret
      exact ⟨rfl, rfl⟩
end Go.Proofs.Ytbhieajpodnfpaa
namespace Go.Proofs.Ytbhieajpodnfpaa
open Go.RowKit Pg
/-- A rational, and no error. -/
def ParseRet (w : World) (q : Rat) (e : Ending) (w' : World) : Prop := ∃ v, e = .returned (.tuple #[v, .int .i64 0]) ∧ IsQ w' q v ∧ Below w.heap.size w w'
theorem ParseRet.ok {w w' : World} {q : Rat} {v : Value} (h : RatRet w q (.returned v) w') : ParseRet w q (.returned (.tuple #[v, .int .i64 0])) w' := by
  obtain ⟨A, c, A', c', e, h1, h2, hb⟩ := h
  injection e with e
  exact ⟨v, rfl, ⟨A, c, A', c', e, h1, h2⟩, hb⟩
theorem rParse_digits (l : List UInt8) (w : World) (h1 : 1 ≤ l.length) (h2 : l.length ≤ 400) (h : l.all isDg = true) :
    Calls Try.prog 27 #[.string (str l)] w (RetT w (pval l) true) := by
  have := rParse_any (str l) w (by rw [str_size]; omega)
  have hd : (str l).data.toList = l := rfl
  rw [hd] at this
  obtain ⟨e1, e2⟩ := pok_yes h1 h2 h
  rwa [e1, e2] at this
theorem slice_to (L M : List UInt8) (m : Nat) (z : Int) (W : World) (hz : z = (m : Int)) (hm : m ≤ L.length) (hM : L.take m = M) : (Instr.slice 9 (.string (str L)) none (some (.int .i64 z)) none).run Try.prog W = .ok (.string (str M)) W := by
  subst hz hM
  rw [run_slice_string_h W _ _ Try.underlying9 _ _ (by omega) (by rw [str_size]; omega)]
  rw [Int.toNat_natCast, str_extract]
theorem slice_from (L M : List UInt8) (m : Nat) (z : Int) (W : World) (hz : z = (m : Int)) (hm : m ≤ L.length) (hM : L.drop m = M) : (Instr.slice 9 (.string (str L)) (some (.int .i64 z)) none none).run Try.prog W = .ok (.string (str M)) W := by
  subst hz hM
  rw [run_slice_string_l W _ _ Try.underlying9 _ _ (by omega) (by rw [str_size]; omega)]
  rw [Int.toNat_natCast, str_extract_end]
theorem isEmpty_str {l : List UInt8} (h : 0 < l.length) : (str l).toList.isEmpty = false := isEmpty_of _ (by rw [str_size]; exact h)
theorem all_get {l : List UInt8} (h : l.all isDg = true) {j : Nat} (hj : j < l.length) : isDg l[j] = true := (List.all_eq_true.1 h) _ (List.getElem_mem hj)
theorem pval_len {l : List UInt8} {k : Nat} (h : l.all isDg = true) (hl : l.length ≤ k) : (limbs (pval l)).length ≤ k :=
  length_limbs_le (Nat.lt_of_lt_of_le (pval_lt l h) (Nat.le_trans (Nat.pow_le_pow_right (by omega) hl) (ten_lt k)))
set_option maxRecDepth 100000 in
set_option maxHeartbeats 4000000 in
/-- With a point. -/
theorem rParse3_point (b : Bool) (l1 l2 : List UInt8) (q : Rat) (w : World) (h1 : l1.all isDg = true) (h2 : l2.all isDg = true) (n1 : 1 ≤ l1.length) (n2 : 1 ≤ l2.length) (m1 : l1.length ≤ 200) (m2 : l2.length ≤ 60)
    (hq : rv b (pval l1 * 10 ^ l2.length + pval l2) (10 ^ l2.length) = q) :
    Calls Try.prog 9 #[.string (str (stext b ++ (l1 ++ 46 :: l2)))] w (ParseRet w q) := by
  have HB := hid (B3.new w 24 (.bool false) (.slice none 0 0) (.slice none 0 0))
  obtain ⟨M, hM⟩ : ∃ M, l1 ++ 46 :: l2 = M := ⟨_, rfl⟩
  have lM : M.length = l1.length + l2.length + 1 := by rw [← hM, List.length_append, List.length_cons]; omega
  rw [hM]
  obtain ⟨L, hL⟩ : ∃ L, stext b ++ M = L := ⟨_, rfl⟩
  rw [hL]
  have lL : L.length ≤ M.length + 1 ∧ M.length ≤ L.length := by rw [← hL, List.length_append]; cases b <;> simp [stext] <;> omega
  have sL := str_size L
  have eL := isEmpty_str (l := L) (by omega)
  have hM0 : M[0]? = some l1[0] := by rw [← hM, List.getElem?_append_left (by omega), List.getElem?_eq_getElem (by omega)]
  have hd0 := (isDg_iff _).1 (all_get h1 (show 0 < l1.length by omega))
  obtain ⟨c, hc, hcb⟩ : ∃ c, L[0]? = some c ∧ ((c.toNat : Int) == 45) = b := by
    cases b with
    | true => exact ⟨45, by rw [← hL]; rfl, rfl⟩
    | false => exact ⟨l1[0], by rw [← hL]; exact hM0, beq_eq_false_iff_ne.2 (by omega)⟩
  have qi := fun W => index_str L 0 c hc 0 rfl W
  have qs : b = true → ∀ W, (Instr.slice 9 (.string (str L)) (some (.int .i64 1)) none none).run Try.prog W = .ok (.string (str M)) W := fun hb W => slice_from L M 1 1 W rfl (by omega) (by subst hb; rw [← hL]; rfl)
  obtain ⟨cn, hcn⟩ : ∃ cn : Int, (c.toNat : Int) = cn := ⟨_, rfl⟩
  rw [hcn] at qi hcb
  have h400 : decide ((400 : Int) < (L.length : Int)) = false := decide_eq_false (by omega)
  have HLM := hid (show b = false → L = M from fun hb => by subst hb; rw [← hL]; rfl)
  have HM := hid hM
  have HD1 := hid h1
  have HD2 := hid h2
  have HQ := hid hq
  clear hc hcn hM0 hd0 hL hM h1 h2 hq
  go_enter Try.func9, Try.ntmps9
  go_upto_if 25 with fail
  go_cut [0] (fun s0 wd => s0 = .string (str M) ∧ w.alloc (.cells #[.bool false, .slice none 0 0, .slice none 0 0] 24) = wd)
  case first =>
    rcases b with _ | _
    · have HLM2 := HLM.out rfl
      clear HLM HM HD1 HD2 HQ
      go_wp2_with fail
      go_meet
      exact ⟨by rw [HLM2], rfl⟩
    · have qs2 := qs rfl
      clear HLM HM HD1 HD2 HQ qs
      go_wp2_with fail
      go_meet
      exact ⟨rfl, rfl⟩
  case rest =>
  obtain ⟨rfl, rfl⟩ := hcut
  clear qi qs hcb h400 eL sL HLM lL cn
  obtain ⟨R, hR⟩ : ∃ R, 46 :: l2 = R := ⟨_, rfl⟩
  have hM := HM.out
  rw [hR] at hM
  have lR : R.length = l2.length + 1 := by rw [← hR, List.length_cons]
  have HR1 := hid fun W => run_any M l1.length W (by omega) (by omega) (fun j hj hjm => by
    have : M[j] = l1[j] := by simp only [← hM]; exact List.getElem_append_left hjm
    rw [this]; exact all_get HD1.out hjm) (fun hj => by
    have : M[l1.length] = 46 := by simp only [← hM, ← hR]; rw [List.getElem_append_right (by omega)]; simp
    rw [this]; rfl)
  have HR2 := hid fun W => run_any l2 l2.length W (by omega) (by omega) (fun j hj _ => all_get HD2.out hj) (fun hj => absurd hj (by omega))
  have HP1 := hid fun W => rParse_digits l1 W (by omega) (by omega) HD1.out
  have HP2 := hid fun W => rParse_digits l2 W (by omega) (by omega) HD2.out
  have HTn := hid fun W => rten_any l2.length W (by omega)
  have q2 := fun W => slice_to M l1 l1.length (l1.length : Int) W rfl (by omega) (by rw [← hM]; simp)
  have q3 := fun W => slice_from M R l1.length (l1.length : Int) W rfl (by omega) (by rw [← hM]; simp)
  have q4 := fun W => slice_from R l2 1 1 W rfl (by omega) (by rw [← hR]; rfl)
  have q5 : ∀ W, (Instr.index 9 (.string (str R)) (.int .i64 0)).run Try.prog W = .ok (.int .u8 46) W := fun W => index_str R 0 46 (by rw [← hR]; rfl) 0 rfl W
  have eR := isEmpty_str (l := R) (by omega)
  have sR : (str R).size = l2.length + 1 := by rw [str_size, lR]
  have sM : (str M).size = l1.length + (l2.length + 1) := by rw [str_size, lM]; omega
  have k1 : ((l1.length : Int) == 0) = false := beq_eq_false_iff_ne.2 (by omega)
  have k2 : ((l2.length : Int) == 0) = false := beq_eq_false_iff_ne.2 (by omega)
  have p1 := pval_len HD1.out (show l1.length ≤ 200 by omega)
  have p2 := pval_len HD2.out (show l2.length ≤ 200 by omega)
  have p3 := limbs_ten l2.length
  clear hM hR lM lR HM HD1 HD2
  generalize 10 ^ l2.length = T at *
  generalize pval l1 = N1 at *
  generalize pval l2 = N2 at *
  generalize l1.length = a1 at *
  generalize l2.length = a2 at *
  have p4 := limbs_mul_len (k := 200) p1 (show (limbs T).length ≤ 200 by omega)
  have p5 := limbs_add_len (k := 400) p4 (show (limbs N2).length ≤ 400 by omega)
  go_upto_region 7 with (go_at_call 26; refine (HR1.out _).mono ?_; rintro e w1 ⟨rfl, rfl⟩)
  go_quiet (fail)
  go_wp2_with (first
    | (go_at_call 27; (with_reducible refine (HP1.out _).mono ?_); rintro e w2 ⟨A2, c2, rfl, hr2, hb2⟩)
    | (go_at_call 26; (with_reducible refine (HR2.out _).mono ?_); rintro e w3 ⟨rfl, rfl⟩)
    | (go_at_call 27; (with_reducible refine (HP2.out _).mono ?_); rintro e w4 ⟨A4, c4, rfl, hr4, hb4⟩)
    | (go_at_call 29; (with_reducible refine (HTn.out _).mono ?_); rintro e w5 ⟨A5, c5, rfl, hr5, hb5⟩)
    | (go_at_call 31; (with_reducible refine (rMul_E A2 A5 _ c2 _ c5 _ _ _ N1 T (N1 * T) (by repeat first | assumption | apply Pg.Row.below (hb := by assumption) | apply Pg.Row.alloc | apply Pg.Row.drewN) (by repeat first | assumption | apply Pg.Row.below (hb := by assumption) | apply Pg.Row.alloc | apply Pg.Row.drewN) (val_limbs _) (val_limbs _) (by omega) (by omega) rfl).mono ?_); rintro e w6 ⟨A6, c6, rfl, hr6, hb6⟩)
    | (go_at_call 30; (with_reducible refine (rAdd_N A6 A4 _ c6 _ c4 _ _ _ (N1 * T) N2 (by repeat first | assumption | apply Pg.Row.below (hb := by assumption) | apply Pg.Row.alloc | apply Pg.Row.drewN) (by repeat first | assumption | apply Pg.Row.below (hb := by assumption) | apply Pg.Row.alloc | apply Pg.Row.drewN) (val_limbs _) (val_limbs _) (by omega) (by omega)).mono ?_); rintro e w7 ⟨A7, c7, rfl, hr7, hb7⟩)
    | (go_at_call 28; (with_reducible refine (r2Of_E b A7 A5 _ c7 _ c5 (N1 * T + N2) T _ _ q _ (by repeat first | assumption | apply Pg.Row.below (hb := by assumption) | apply Pg.Row.alloc | apply Pg.Row.drewN) (by repeat first | assumption | apply Pg.Row.below (hb := by assumption) | apply Pg.Row.alloc | apply Pg.Row.drewN) (val_limbs _) (val_limbs _) (by omega) (by omega) HQ.out).mono ?_); rintro e w8 ⟨A8, c8, A9, c9, rfl, hr8, hr9, hb8⟩; have hBr : B3 w8 w.heap.size 24 (.bool false) (.slice none 0 0) (.slice none 0 0) := (by repeat first | exact (HB).out | refine B3.below ?_ (by assumption) | refine B3.drew ?_ | refine B3.alloc ?_ _); obtain ⟨k0, k1, k2, f0, f1, f2⟩ := hBr.cells))
  refine bodyPost_ret (by have q0 := fun u0 u1 u2 => (hBr.set u0 u1 u2).cells.1; have q1 := fun u0 u1 u2 => (hBr.set u0 u1 u2).cells.2.1; have q2 := fun u0 u1 u2 => (hBr.set u0 u1 u2).cells.2.2.1; simp [results, Try.results9, go_sem, q0, q1, q2]) rfl (ParseRet.ok (RatRet.put hBr (Nat.le_refl _) (by repeat first | exact Below.refl _ _ | assumption | refine Pg.Below.then_ ?_ (by assumption) | refine Pg.Below.new_ ?_ _ | refine Pg.Below.drewN_ ?_ _) rfl rfl rfl hr8 hr9 rfl rfl))
set_option maxRecDepth 100000 in
set_option maxHeartbeats 4000000 in
/-- Without a point. -/
theorem rParse3_plain (b : Bool) (l1 : List UInt8) (q : Rat) (w : World) (h1 : l1.all isDg = true) (n1 : 1 ≤ l1.length) (m1 : l1.length ≤ 200)
    (hq : rv b (pval l1) 1 = q) :
    Calls Try.prog 9 #[.string (str (stext b ++ l1))] w (ParseRet w q) := by
  have HB := hid (B3.new w 24 (.bool false) (.slice none 0 0) (.slice none 0 0))
  obtain ⟨M, hM⟩ : ∃ M, l1 = M := ⟨_, rfl⟩
  have lM : M.length = l1.length := by rw [← hM]
  have hgoal : str (stext b ++ l1) = str (stext b ++ M) := by rw [hM]
  rw [hgoal]
  clear hgoal
  obtain ⟨L, hL⟩ : ∃ L, stext b ++ M = L := ⟨_, rfl⟩
  rw [hL]
  have lL : L.length ≤ M.length + 1 ∧ M.length ≤ L.length := by rw [← hL, List.length_append]; cases b <;> simp [stext] <;> omega
  have sL := str_size L
  have eL := isEmpty_str (l := L) (by omega)
  have hM0 : M[0]? = some l1[0] := by rw [← hM, List.getElem?_eq_getElem (by omega)]
  have hd0 := (isDg_iff _).1 (all_get h1 (show 0 < l1.length by omega))
  obtain ⟨c, hc, hcb⟩ : ∃ c, L[0]? = some c ∧ ((c.toNat : Int) == 45) = b := by
    cases b with
    | true => exact ⟨45, by rw [← hL]; rfl, rfl⟩
    | false => exact ⟨l1[0], by rw [← hL]; exact hM0, beq_eq_false_iff_ne.2 (by omega)⟩
  have qi := fun W => index_str L 0 c hc 0 rfl W
  have qs : b = true → ∀ W, (Instr.slice 9 (.string (str L)) (some (.int .i64 1)) none none).run Try.prog W = .ok (.string (str M)) W := fun hb W => slice_from L M 1 1 W rfl (by omega) (by subst hb; rw [← hL]; rfl)
  obtain ⟨cn, hcn⟩ : ∃ cn : Int, (c.toNat : Int) = cn := ⟨_, rfl⟩
  rw [hcn] at qi hcb
  have h400 : decide ((400 : Int) < (L.length : Int)) = false := decide_eq_false (by omega)
  have HLM := hid (show b = false → L = M from fun hb => by subst hb; rw [← hL]; rfl)
  have HM := hid hM
  have HD1 := hid h1
  have HQ := hid hq
  clear hc hcn hM0 hd0 hL hM h1 hq
  go_enter Try.func9, Try.ntmps9
  go_upto_if 25 with fail
  go_cut [0] (fun s0 wd => s0 = .string (str M) ∧ w.alloc (.cells #[.bool false, .slice none 0 0, .slice none 0 0] 24) = wd)
  case first =>
    rcases b with _ | _
    · have HLM2 := HLM.out rfl
      clear HLM HM HD1 HQ
      go_wp2_with fail
      go_meet
      exact ⟨by rw [HLM2], rfl⟩
    · have qs2 := qs rfl
      clear HLM HM HD1 HQ qs
      go_wp2_with fail
      go_meet
      exact ⟨rfl, rfl⟩
  case rest =>
  obtain ⟨rfl, rfl⟩ := hcut
  clear qi qs hcb h400 eL sL HLM lL cn
  have hM := HM.out
  subst hM
  have HR1 := hid fun W => run_any l1 l1.length W (by omega) (by omega) (fun j hj _ => all_get HD1.out hj) (fun hj => absurd hj (by omega))
  have HP1 := hid fun W => rParse_digits l1 W (by omega) (by omega) HD1.out
  have q2 := fun W => slice_to l1 l1 l1.length (l1.length : Int) W rfl (by omega) (by simp)
  have q3 : ∀ W, (Instr.slice 9 (.string (str l1)) (some (.int .i64 (l1.length : Int))) none none).run Try.prog W = .ok (.string ⟨#[]⟩) W := fun W => slice_from l1 [] l1.length (l1.length : Int) W rfl (by omega) (by simp)
  have sM : (str l1).size = l1.length := str_size l1
  have k1 : ((l1.length : Int) == 0) = false := beq_eq_false_iff_ne.2 (by omega)
  have p1 := pval_len HD1.out (show l1.length ≤ 200 by omega)
  clear HM lM HD1
  generalize pval l1 = N1 at *
  generalize l1.length = a1 at *
  go_upto_region 7 with (go_at_call 26; refine (HR1.out _).mono ?_; rintro e w1 ⟨rfl, rfl⟩)
  go_quiet (fail)
  go_wp2_with (first
    | (go_at_call 27; (with_reducible refine (HP1.out _).mono ?_); rintro e w2 ⟨A2, c2, rfl, hr2, hb2⟩)
    | (go_at_call 28; (with_reducible refine (r2Of_E b A2 _ _ c2 1 _ N1 1 _ [1] q _ (by repeat first | assumption | exact Pg.Row.one _ _ _ _ _ (by simp) (by first | rfl | omega) (by omega) | apply Pg.Row.drew | apply Pg.Row.below (hb := by assumption) | apply Pg.Row.alloc) (by repeat first | assumption | exact Pg.Row.one _ _ _ _ _ (by simp) (by first | rfl | omega) (by omega) | apply Pg.Row.drew | apply Pg.Row.below (hb := by assumption) | apply Pg.Row.alloc) (val_limbs _) (val_one 1) (by omega) (by omega) HQ.out).mono ?_); rintro e w8 ⟨A8, c8, A9, c9, rfl, hr8, hr9, hb8⟩; have hBr : B3 w8 w.heap.size 24 (.bool false) (.slice none 0 0) (.slice none 0 0) := (by repeat first | exact (HB).out | refine B3.below ?_ (by assumption) | refine B3.drew ?_ | refine B3.alloc ?_ _); obtain ⟨k0, k1, k2, f0, f1, f2⟩ := hBr.cells))
  refine bodyPost_ret (by have q0 := fun u0 u1 u2 => (hBr.set u0 u1 u2).cells.1; have q1 := fun u0 u1 u2 => (hBr.set u0 u1 u2).cells.2.1; have q2 := fun u0 u1 u2 => (hBr.set u0 u1 u2).cells.2.2.1; simp [results, Try.results9, go_sem, q0, q1, q2]) rfl (ParseRet.ok (RatRet.put hBr (Nat.le_refl _) (by repeat first | exact Below.refl _ _ | assumption | refine Pg.Below.then_ ?_ (by assumption) | refine Pg.Below.new_ ?_ _ | refine Pg.Below.drewN_ ?_ _) rfl rfl rfl hr8 hr9 rfl rfl)) 
/-- What is told by a text with k digits behind the point. -/
theorem rParse3_fixed (q : Rat) (k : Nat) (w : World) (hs : (limbs (unitsN q k)).length ≤ 15) (hk : k ≤ 9) :
    Calls Try.prog 9 #[.string (str (fixedT q k))] w (ParseRet w (roundQ q k)) := by
  have hd := dtext_len hs
  have hd0 := length_dtext_pos (unitsN q k)
  obtain ⟨b, hb⟩ : ∃ b, (rneg q && decide (0 < unitsN q k)) = b := ⟨_, rfl⟩
  have hf : fixedT q k = stext b ++ ptext (unitsN q k) k := by unfold fixedT; rw [hb]
  have hr : ∀ N D, rv b (unitsN q k) D = N → True := fun _ _ _ => trivial
  have hround : roundQ q k = rv b (unitsN q k) (10 ^ k) := by
    unfold roundQ
    by_cases h0 : unitsN q k = 0
    · rw [h0, rv_zero (.inl rfl), rv_zero (.inl rfl)]
    · rw [← hb, decide_eq_true (show 0 < unitsN q k by omega), Bool.and_true]
  rw [hf, hround]
  by_cases h0 : k = 0
  · subst h0
    have hp : ptext (unitsN q 0) 0 = dtext (unitsN q 0) := by unfold ptext; rw [if_pos rfl]
    rw [hp]
    exact rParse3_plain b _ _ w (all_dtext _) (by omega) (by omega) (by rw [pval_dtext])
  · have hp : ptext (unitsN q k) k = (pad k (dtext (unitsN q k))).take ((pad k (dtext (unitsN q k))).length - k) ++ 46 :: (pad k (dtext (unitsN q k))).drop ((pad k (dtext (unitsN q k))).length - k) := by
      unfold ptext; rw [if_neg h0]
    rw [hp]
    have ha := all_pad k (unitsN q k)
    have hv := pval_pad k (unitsN q k)
    have hl := pad_length k (dtext (unitsN q k))
    have hl2 : (pad k (dtext (unitsN q k))).length ≤ 200 := by unfold pad; rw [List.length_append, List.length_replicate]; omega
    generalize pad k (dtext (unitsN q k)) = P at *
    have e := List.take_append_drop (P.length - k) P
    rw [← e, List.all_append, Bool.and_eq_true] at ha
    rw [← e, pval_append] at hv
    have d1 : (P.drop (P.length - k)).length = k := by rw [List.length_drop]; omega
    have d2 : (P.take (P.length - k)).length = P.length - k := by rw [List.length_take]; omega
    exact rParse3_point b _ _ _ w ha.1 ha.2 (by omega) (by omega) (by omega) (by omega) (by rw [hv, d1])
end Go.Proofs.Ytbhieajpodnfpaa
