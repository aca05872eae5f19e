/- view.Field of a form with one field; walk: pantographlaw19.known · Walk: the law ViewExact. Conditions: those that each theorem names. -/
import Derived.Test.YtbhieajpodnfpaaZ33
import Derived.Test.YtbhieajpodnfpaaZ35
import Derived.Test.YtbhieajpodnfpaaZ17
namespace Go.Proofs.Ytbhieajpodnfpaa
open Go.RowKit Pg
theorem cellsAt_heap {w : World} {g : Nat} {cs : Array Value} {t : TypeId} (h : w.heap[g]? = some (.cells cs t (0, 0))) : CellsAt w g 0 cs.toList := fun j _ => by
  rw [Nat.zero_add, cell_of_row w g j _ t (0, 0) h, Array.getElem?_toList]
/-- The form and the document of one field, one value. -/
def oneD (fl : Bool) : VData := ⟨[], [], [], [], [], [false], [fl]⟩
def endT (q : Rat) (k : Nat) : List UInt8 := if eqQ (roundQ q k) q then [32, 101, 120, 97, 99, 116] else [32, 97, 98, 111, 117, 116]
theorem lineT_one (nm : List UInt8) (q : Rat) (k : Nat) (fl : Bool) : lineT ⟨nm, 0, false, (k : Int)⟩ q (oneD fl) 0 = nm ++ [32, 61, 32] ++ fixedT q k ++ endT q k := by
  have ht : told (oneD fl) (0 : Nat) = [] := rfl
  unfold lineT endT
  rw [ht]
  simp [oneD]
theorem slAt_nil {α : Type} {sz : Nat} {E : World → Nat → Nat → α → Prop} (w : World) : SlAt sz E w none 0 0 [] := ⟨rfl, Nat.le_refl _, by omega, by omega, fun _ => rfl, fun h => absurd h (by omega)⟩
theorem slAt_one {α : Type} {sz : Nat} {E : World → Nat → Nat → α → Prop} {w : World} {g : Nat} {x : α} (hg : g < w.heap.size) (h : E w g 0 x) : SlAt sz E w (some ⟨g, 0, none⟩) 1 1 [x] :=
  ⟨rfl, Nat.le_refl _, by omega, by omega, (fun e => by cases e), fun _ => ⟨g, 0, rfl, hg, fun j y hj => by
    match j with
    | 0 =>
      simp only [List.getElem?_cons_zero, Option.some.injEq] at hj
      subst hj
      rw [Nat.zero_mul, Nat.add_zero]; exact h
    | j + 1 => simp at hj⟩⟩
/-- view.Field of one field. -/
theorem Field_one (nm : List UInt8) (fl : Bool) (gF gV gP gL : Nat) (p : Value) (s : Bool) (A A' : Option Addr) (n c n' c' : Nat) (q : Rat) (k : Nat) (t1 t2 t3 t4 : TypeId) (w : World) (ha : RArg w (.agg #[.bool s, .slice A n c, .slice A' n' c']) q 1000) (hk : k ≤ 9) (hnm : nm.length ≤ 1000)
    (hF : w.heap[gF]? = some (.cells #[.string (str nm), .int .i64 0, .bool false, .int .i64 (k : Int)] t1 (0, 0))) (hV : w.heap[gV]? = some (.cells #[.bool s, .slice A n c, .slice A' n' c'] t2 (0, 0)))
    (hP : w.heap[gP]? = some (.cells #[.bool false, .bool false, .bool false, .slice none 0 0, .slice none 0 0] t3 (0, 0))) (hL : w.heap[gL]? = some (.cells #[.bool fl] t4 (0, 0))) :
    Calls Try.prog 7 #[.agg #[.slice none 0 0, .slice none 0 0, p, .slice (some ⟨gF, 0, none⟩) 1 1, .slice none 0 0, .slice none 0 0], .agg #[.slice none 0 0, .slice none 0 0, .slice (some ⟨gV, 0, none⟩) 1 1, .slice none 0 0, .slice (some ⟨gP, 0, none⟩) 1 1, .slice (some ⟨gL, 0, none⟩) 1 1], .int .i64 0] w fun e w' => e = .returned (.string (str (nm ++ [32, 61, 32] ++ fixedT q k ++ endT q k))) ∧ Below w.heap.size w w' := by
  obtain ⟨s0, A0, n0, c0, A1, n1, c1, xs, ys, e, h1, h2, h3, h4, h5⟩ := ha
  injection e with e
  simp only [Array.mk.injEq, List.cons.injEq, Value.bool.injEq, Value.slice.injEq, and_true] at e
  obtain ⟨rfl, ⟨rfl, rfl, rfl⟩, rfl, rfl, rfl⟩ := e
  have cF := cellsAt_heap hF
  have cV := cellsAt_heap hV
  have cP := cellsAt_heap hP
  have cL := cellsAt_heap hL
  have lF := cell_lt (cF.at_ 0 rfl)
  have lV := cell_lt (cV.at_ 0 rfl)
  have lP := cell_lt (cP.at_ 0 rfl)
  have lL := cell_lt (cL.at_ 0 rfl)
  have := Field_in (.slice none 0 0) (.slice none 0 0) p (.slice none 0 0) (.slice none 0 0) (.slice none 0 0) gF 0 gV 0 none none none none (some ⟨gP, 0, none⟩) (some ⟨gL, 0, none⟩) 1 1 0 0 1 1 0 0 1 1 1 1 0 ⟨nm, 0, false, (k : Int)⟩ q (oneD fl) w
    ⟨cF, by show nm.length ≤ _; omega⟩ ⟨s, A, n, c, A', n', c', xs, ys, cV, h1, h2, h3, h4, h5⟩ lF lV (by omega) (by omega) (by omega) (by omega) k rfl hk (slAt_nil w) (slAt_nil w) (slAt_one lP (fun j hj => by
      have hj0 : j = 0 := by simpa using hj
      subst hj0; exact cP.at_ 0 rfl)) (slAt_one lL cL)
  rwa [lineT_one] at this
theorem heap_new (w : World) (o : Obj) (g : Nat) (hg : g = w.heap.size) : (w.alloc o).heap[g]? = some o := by subst hg; exact heap_alloc_new w o
theorem heap_old {w : World} {g : Nat} {x : Obj} (h : w.heap[g]? = some x) (o : Obj) : (w.alloc o).heap[g]? = some x := (Below.heap_alloc w o g (Array.getElem?_eq_some_iff.1 h).1).trans h
theorem third_text : [97] ++ [32, 61, 32] ++ fixedT (rv false (val [1]) (val [3])) 2 ++ endT (rv false (val [1]) (val [3])) 2 = [97, 32, 61, 32, 48, 46, 51, 51, 32, 97, 98, 111, 117, 116] := by decide +kernel
set_option maxRecDepth 100000 in
set_option maxHeartbeats 2000000 in
theorem known19_any (w : World) : Calls Try.prog 11 #[] w fun e w' => e = .returned (.bool true) ∧ Below w.heap.size w w' := by
  have hB : ∀ o0 o1 o2 o3 o4 o5 o6 o7 o8 : Obj, Below w.heap.size w (((((((((w.alloc o0).alloc o1).alloc o2).alloc o3).alloc o4).alloc o5).alloc o6).alloc o7).alloc o8) := fun _ _ _ _ _ _ _ _ _ => Below.new_ (Below.new_ (Below.new_ (Below.new_ (Below.new_ (Below.new_ (Below.new_ (Below.new_ (Below.new_ (Below.refl _ _) _) _) _) _) _) _) _) _) _
  go_enter Try.func11, Try.ntmps11
  go_wp2_with (go_at_call 7; go_must (refine (Field_one [97] false (w.heap.size + 1) (w.heap.size + 1 + 1 + 1 + 1 + 1) (w.heap.size + 1 + 1 + 1 + 1 + 1 + 1) (w.heap.size + 1 + 1 + 1 + 1 + 1 + 1 + 1) _ false _ _ _ _ _ _ (rv false (val [1]) (val [3])) 2 _ _ _ _ _ (RArg.mk (s := false) (n := 1) (c := 1) (n' := 1) (c' := 1) (A := some ⟨w.heap.size + 1 + 1 + 1, 0, none⟩) (A' := some ⟨w.heap.size + 1 + 1 + 1 + 1, 0, none⟩) (xs := [1]) (ys := [3]) (by repeat first | assumption | exact Pg.Row.one _ _ _ _ _ (by simp) (by first | rfl | omega) (by omega) | apply Pg.Row.drew | apply Pg.Row.below (hb := by assumption) | apply Pg.Row.alloc) (by repeat first | assumption | exact Pg.Row.one _ _ _ _ _ (by simp) (by first | rfl | omega) (by omega) | apply Pg.Row.drew | apply Pg.Row.below (hb := by assumption) | apply Pg.Row.alloc) (by omega) (by omega)) (by omega) (by decide) (by repeat first | exact heap_new _ _ _ (by simp) | apply heap_old) (by repeat first | exact heap_new _ _ _ (by simp) | apply heap_old) (by repeat first | exact heap_new _ _ _ (by simp) | apply heap_old) (by repeat first | exact heap_new _ _ _ (by simp) | apply heap_old)).mono ?_; rintro e w1 ⟨he, hb1⟩; rw [third_text] at he; have he2 : e = Ending.returned (.string ⟨#[97, 32, 61, 32, 48, 46, 51, 51, 32, 97, 98, 111, 117, 116]⟩) := he; clear he; subst he2; have HW := hid (Below.then_ (hB _ _ _ _ _ _ _ _ _) hb1)))
  go_ret
  exact ⟨rfl, HW.out⟩
end Go.Proofs.Ytbhieajpodnfpaa
namespace Go.Proofs.Ytbhieajpodnfpaa
open Go.RowKit Pg
theorem r2Same_R {va vb : Value} {p q : Rat} {E : Bool} {k : Nat} (w : World) (ha : RArg w va p k) (hb : RArg w vb q k) (hk : k ≤ 1000) (hE : eqQ p q = E) :
    Calls Try.prog 10 #[va, vb] w fun e w' => e = .returned (.bool E) ∧ Below w.heap.size w w' := by
  subst hE
  obtain ⟨s1, A, n, c, A', n', c', xs, ys, rfl, h1, h2, h3, h4, rfl⟩ := ha
  obtain ⟨s2, C, m, d, C', m', d', us, vs, rfl, g1, g2, g3, g4, rfl⟩ := hb
  exact r2Same_any _ _ _ _ _ _ _ _ _ _ _ _ _ _ _ _ _ _ w h1 h2 g1 g2 (by omega) (by omega) (by omega) (by omega)
theorem units_small {q : Rat} {k : Nat} (h : Short q 3) (hk : k ≤ 9) : (limbs (unitsN q k)).length ≤ 15 := by
  have h0 := limbs_ten k
  have h1 : (limbs (rnum q * 10 ^ k)).length ≤ 3 + 10 := length_limbs_le (by
    rw [Nat.pow_add]
    exact Nat.mul_lt_mul'' (Nat.lt_of_lt_of_le (lt_pow_length _) (Nat.pow_le_pow_right (by omega) h.1)) (Nat.lt_of_lt_of_le (lt_pow_length _) (Nat.pow_le_pow_right (by omega) (by omega))))
  have h2 := limbs_add_len (k := 13) (a := rnum q * 10 ^ k) (b := 1) h1 (by rw [limbs_one]; decide)
  exact Nat.le_trans (limbs_mono (unitsN_le q k)) (by omega)
theorem endT_len (q : Rat) (k : Nat) : (endT q k).length = 6 := by unfold endT; split <;> rfl
set_option maxRecDepth 100000 in
set_option maxHeartbeats 8000000 in
theorem law_ViewExact (v : Value) (q : Rat) (z : Int) (w : World) (ha : RArg w v q 140737488355328) :
    Calls Try.prog 3 #[v, .int .i64 z] w fun e w' => e = .returned (.bool true) ∧ Below w.heap.size w w' := by
  obtain ⟨s, A, n, c, A', n', c', xs, ys, rfl, h, h', hn, hn', hp⟩ := ha
  have HR0 : Hid (n ≤ 3 → n' ≤ 3 → RArg w (.agg #[.bool s, .slice A n c, .slice A' n' c']) q 3) := hid fun h1 h2 => ⟨_, _, _, _, _, _, _, _, _, rfl, h, h', h1, h2, hp⟩
  have HX := hid ((B3.new w 24 (.bool s) (.slice A n c) (.slice A' n' c')).alloc (.cells #[.bool s, .slice A n c, .slice A' n' c'] 24))
  have HY := B3.newg (w.alloc (.cells #[.bool s, .slice A n c, .slice A' n' c'] 24)) 24 (.bool s) (.slice A n c) (.slice A' n' c') (w.heap.size + 1) (by simp)
  have hb0 : Hid (Below w.heap.size w ((w.alloc (.cells #[.bool s, .slice A n c, .slice A' n' c'] 24)).alloc (.cells #[.bool s, .slice A n c, .slice A' n' c'] 24))) := hid (Below.new_ (Below.new_ (Below.refl _ _) _) _)
  have HM := hid (many19_any (some ⟨w.heap.size + 1, 0, none⟩) 1 1 [⟨s, A, n, c, A', n', c'⟩] _ rfl (fun _ => ⟨_, _, rfl, HY.lt, fun j x hj => by
    match j with
    | 0 =>
      simp only [List.getElem?_cons_zero, Option.some.injEq] at hj
      subst hj
      obtain ⟨k0, k1, k2, _⟩ := HY.cells
      exact ⟨k0, k1, k2⟩
    | j + 1 => simp at hj⟩) (fun x hx => by
    simp only [List.mem_singleton] at hx
    subst hx
    exact ⟨hn, hn'⟩) (by omega))
  obtain ⟨k0, k1, k2, _, _, _⟩ := (B3.new w 24 (.bool s) (.slice A n c) (.slice A' n' c')).cells
  clear h h' hp HY
  by_cases hz0 : 0 ≤ z
  · by_cases hz1 : z ≤ 9
    · obtain ⟨k, rfl⟩ : ∃ k : Nat, z = (k : Int) := ⟨z.toNat, by omega⟩
      have hk : k ≤ 9 := by omega
      clear hz0 hz1
      go_enter Try.func3, Try.ntmps3
      go_upto_if 21 with (go_at_call 6; refine HM.out.mono ?_; rintro e w1 ⟨b, rfl, hb3, hb1⟩; rcases b with _ | _; all_goals (have hXc := HX.out.below hb1; clear k0 k1 k2))
      · obtain ⟨a1, a2⟩ := hb3 (by first | rfl | trivial)
        have h3 : n ≤ 3 ∧ n' ≤ 3 := a2 _ (List.mem_singleton.2 rfl)
        have hR := HR0.out h3.1 h3.2
        have hs3 := hR.short (by omega)
        have hbw := Below.then_ hb0.out hb1
        have HR := hid (hR.below hbw)
        have lU := units_small hs3 hk
        have lfx := fixedT_len (hs3.mono (by omega : 3 ≤ 1000)) hk
        have lX := endT_len q k
        clear hb3 a1 a2 h3 hR HR0 HM hn hn' hs3 hb0 HX hb1
        obtain ⟨k0, k1, k2, _⟩ := hXc.cells
        have kk0 := fun o o' o'' => keep_alloc (keep_alloc (keep_alloc k0 o) o') o''
        have kk1 := fun o o' o'' => keep_alloc (keep_alloc (keep_alloc k1 o) o') o''
        have kk2 := fun o o' o'' => keep_alloc (keep_alloc (keep_alloc k2 o) o') o''
        have hB7 : ∀ o0 o1 o2 o3 o4 o5 o6 : Obj, Below w1.heap.size w1 (((((((w1.alloc o0).alloc o1).alloc o2).alloc o3).alloc o4).alloc o5).alloc o6) := fun _ _ _ _ _ _ _ => Below.new_ (Below.new_ (Below.new_ (Below.new_ (Below.new_ (Below.new_ (Below.new_ (Below.refl _ _) _) _) _) _) _) _) _
        obtain ⟨Lf, hLf⟩ : ∃ Lf, [97] ++ [32, 61, 32] ++ fixedT q k = Lf := ⟨_, rfl⟩
        have lLf : Lf.length ≤ 40000 := by rw [← hLf, List.length_append, List.length_append, List.length_singleton, show [(32 : UInt8), 61, 32].length = 3 from rfl]; omega
        obtain ⟨G, hG⟩ : ∃ G, Lf ++ endT q k = G := ⟨_, rfl⟩
        have lG : G.length = Lf.length + 6 := by rw [← hG, List.length_append, lX]
        have HF := hid fun W g1 g2 g3 g4 P t1 t2 t3 t4 hW hF hV hP hL => Field_one [97] true g1 g2 g3 g4 P s A A' n c n' c' q k t1 t2 t3 t4 W ((HR.out.below hW).mono (by omega : 3 ≤ 1000)) hk (by decide) hF hV hP hL
        rw [hLf, hG] at HF
        have q1 : ∀ W, (Op.stringOp .add ⟨#[97, 32, 61, 32]⟩ (str (fixedT q k))).run Try.prog W = .ok (.string (str Lf)) W := fun W => by
          have := add_text [97, 32, 61, 32] (fixedT q k) (by rw [show [(97 : UInt8), 32, 61, 32].length = 4 from rfl]; omega) W
          rw [show [(97 : UInt8), 32, 61, 32] ++ fixedT q k = Lf from hLf] at this
          exact this
        have q2 : ∀ W, (Instr.slice 9 (.string (str G)) none (some (.int .i64 (Lf.length : Int))) none).run Try.prog W = .ok (.string (str Lf)) W := fun W => slice_to G Lf Lf.length _ W rfl (by omega) (by rw [← hG]; simp)
        have sG : (str G).size = Lf.length + 6 := by rw [str_size, lG]
        have sL := str_size Lf
        obtain ⟨E, hE⟩ : ∃ E, eqQ (roundQ q k) q = E := ⟨_, rfl⟩
        have HE := hid hE
        have q3 : E = true → ∀ W, (Op.stringOp .add (str Lf) ⟨#[32, 101, 120, 97, 99, 116]⟩).run Try.prog W = .ok (.string (str G)) W := fun e W => by
          have := add_text Lf [32, 101, 120, 97, 99, 116] (by rw [show [(32 : UInt8), 101, 120, 97, 99, 116].length = 6 from rfl]; omega) W
          rw [← hG, show endT q k = [32, 101, 120, 97, 99, 116] by unfold endT; rw [hE, e]; rfl]
          exact this
        have q4 : E = false → ∀ W, (Op.stringOp .add (str Lf) ⟨#[32, 97, 98, 111, 117, 116]⟩).run Try.prog W = .ok (.string (str G)) W := fun e W => by
          have := add_text Lf [32, 97, 98, 111, 117, 116] (by rw [show [(32 : UInt8), 97, 98, 111, 117, 116].length = 6 from rfl]; omega) W
          rw [← hG, show endT q k = [32, 97, 98, 111, 117, 116] by unfold endT; rw [hE, e]; rfl]
          exact this
        have HX1 := hid hXc
        have HFx := hid fun W hW => rFixed_any k W ((HR.out.below hW).mono (by omega : 3 ≤ 1000)) hk
        have HPa := hid fun W => rParse3_fixed q k W lU hk
        have hrs := round_short ((HR.out.short (by omega)).mono (by omega : 3 ≤ 1000)) (show k ≤ 60 by omega)
        have d1 : decide ((k : Int) < 0) = false := decide_eq_false (by omega)
        have d2 : decide ((9 : Int) < (k : Int)) = false := decide_eq_false (by omega)
        have hrl : (limbs (unitsN q k)).length ≤ 15 ∧ (limbs (10 ^ k)).length ≤ 15 := ⟨lU, by have := limbs_ten k; omega⟩
        have hrs2 : Short (roundQ q k) 15 := by unfold roundQ; exact Short.rv (Nat.pos_iff_ne_zero.1 (Nat.pow_pos (by omega))) hrl.1 hrl.2
        generalize roundQ q k = rq at *
        generalize fixedT q k = fx at *
        clear hLf hG hE lX hXc lU hrl hrs lfx
        rcases E with _ | _
        · have q4 := q4 rfl
          clear q3
          go_wp2_with (first
            | (go_at_call 7; refine (HF.out _ (w1.heap.size + 1) (w1.heap.size + 1 + 1 + 1) (w1.heap.size + 1 + 1 + 1 + 1) (w1.heap.size + 1 + 1 + 1 + 1 + 1) _ _ _ _ _ (hB7 _ _ _ _ _ _ _) (by repeat first | exact heap_new _ _ _ (by simp) | apply heap_old) (by repeat first | exact heap_new _ _ _ (by simp) | apply heap_old) (by repeat first | exact heap_new _ _ _ (by simp) | apply heap_old) (by repeat first | exact heap_new _ _ _ (by simp) | apply heap_old)).mono ?_; rintro e w2 ⟨rfl, hb2⟩; have hb2 := Below.then_ (hB7 _ _ _ _ _ _ _) hb2; clear kk0 kk1 kk2 hB7; clear k0 k1 k2; obtain ⟨k0, k1, k2, _⟩ := (HX1.out.below hb2).cells)
            | (go_at_call 8; refine (HFx.out _ hb2).mono ?_; rintro e w3 ⟨rfl, hb3⟩; have hb3 := Below.then_ hb2 hb3; clear hb2; have hb2 := hb3; clear hb3; clear k0 k1 k2; obtain ⟨k0, k1, k2, _⟩ := (HX1.out.below hb2).cells)
            | (go_at_call 9; refine (HPa.out _).mono ?_; rintro e w4 ⟨v4, rfl, ⟨A4, c4, A5, c5, rfl, hr4, hr5⟩, hb4⟩; have hb4 := Below.new_ (Below.then_ hb2 hb4) (.cells #[.bool (rneg rq), .slice A4 (limbs (rnum rq)).length c4, .slice A5 (limbs rq.den).length c5] 24); have hr4 := hr4.alloc (.cells #[.bool (rneg rq), .slice A4 (limbs (rnum rq)).length c4, .slice A5 (limbs rq.den).length c5] 24); have hr5 := hr5.alloc (.cells #[.bool (rneg rq), .slice A4 (limbs (rnum rq)).length c4, .slice A5 (limbs rq.den).length c5] 24); clear k0 k1 k2; obtain ⟨k0, k1, k2, _⟩ := (HX1.out.below hb4).cells)
            | (go_at_call 10; refine (r2Same_R (k := 15) _ (RArg.norm hr4 hr5 hrs2.1 hrs2.2) ((HR.out.below hb4).mono (by omega : 3 ≤ 15)) (by omega) HE.out).mono ?_; rintro e w5 ⟨rfl, hb5⟩)
            | (go_at_call 11; refine (known19_any _).mono ?_; rintro e w6 ⟨rfl, hb6⟩))
          go_ret
          exact ⟨rfl, Below.then_ (Below.then_ (Below.then_ hbw hb4) hb5) hb6⟩
        · have q3 := q3 rfl
          clear q4
          go_wp2_with (first
            | (go_at_call 7; refine (HF.out _ (w1.heap.size + 1) (w1.heap.size + 1 + 1 + 1) (w1.heap.size + 1 + 1 + 1 + 1) (w1.heap.size + 1 + 1 + 1 + 1 + 1) _ _ _ _ _ (hB7 _ _ _ _ _ _ _) (by repeat first | exact heap_new _ _ _ (by simp) | apply heap_old) (by repeat first | exact heap_new _ _ _ (by simp) | apply heap_old) (by repeat first | exact heap_new _ _ _ (by simp) | apply heap_old) (by repeat first | exact heap_new _ _ _ (by simp) | apply heap_old)).mono ?_; rintro e w2 ⟨rfl, hb2⟩; have hb2 := Below.then_ (hB7 _ _ _ _ _ _ _) hb2; clear kk0 kk1 kk2 hB7; clear k0 k1 k2; obtain ⟨k0, k1, k2, _⟩ := (HX1.out.below hb2).cells)
            | (go_at_call 8; refine (HFx.out _ hb2).mono ?_; rintro e w3 ⟨rfl, hb3⟩; have hb3 := Below.then_ hb2 hb3; clear hb2; have hb2 := hb3; clear hb3; clear k0 k1 k2; obtain ⟨k0, k1, k2, _⟩ := (HX1.out.below hb2).cells)
            | (go_at_call 9; refine (HPa.out _).mono ?_; rintro e w4 ⟨v4, rfl, ⟨A4, c4, A5, c5, rfl, hr4, hr5⟩, hb4⟩; have hb4 := Below.new_ (Below.then_ hb2 hb4) (.cells #[.bool (rneg rq), .slice A4 (limbs (rnum rq)).length c4, .slice A5 (limbs rq.den).length c5] 24); have hr4 := hr4.alloc (.cells #[.bool (rneg rq), .slice A4 (limbs (rnum rq)).length c4, .slice A5 (limbs rq.den).length c5] 24); have hr5 := hr5.alloc (.cells #[.bool (rneg rq), .slice A4 (limbs (rnum rq)).length c4, .slice A5 (limbs rq.den).length c5] 24); clear k0 k1 k2; obtain ⟨k0, k1, k2, _⟩ := (HX1.out.below hb4).cells)
            | (go_at_call 10; refine (r2Same_R (k := 15) _ (RArg.norm hr4 hr5 hrs2.1 hrs2.2) ((HR.out.below hb4).mono (by omega : 3 ≤ 15)) (by omega) HE.out).mono ?_; rintro e w5 ⟨rfl, hb5⟩)
            | (go_at_call 11; refine (known19_any _).mono ?_; rintro e w6 ⟨rfl, hb6⟩))
          go_ret
          exact ⟨rfl, Below.then_ (Below.then_ (Below.then_ hbw hb4) hb5) hb6⟩
      · go_wp2_with fail
        go_ret
        exact ⟨rfl, Below.then_ hb0.out hb1⟩
    · have d2 : decide ((9 : Int) < z) = true := decide_eq_true (by omega)
      go_enter Try.func3, Try.ntmps3
      go_wp2_with (go_at_call 6; refine HM.out.mono ?_; rintro e w1 ⟨b, rfl, _, hb1⟩; rcases b with _ | _)
      all_goals
        go_ret
        exact ⟨rfl, Below.then_ hb0.out hb1⟩
  · have d2 : decide (z < (0 : Int)) = true := decide_eq_true (by omega)
    go_enter Try.func3, Try.ntmps3
    go_wp2_with (go_at_call 6; refine HM.out.mono ?_; rintro e w1 ⟨b, rfl, _, hb1⟩; rcases b with _ | _)
    all_goals
      go_ret
      exact ⟨rfl, Below.then_ hb0.out hb1⟩
end Go.Proofs.Ytbhieajpodnfpaa
