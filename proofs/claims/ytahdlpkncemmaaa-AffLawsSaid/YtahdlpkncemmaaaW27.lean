/- Walk. Conditions: those that each theorem names. -/
import Derived.Test.YtahdlpkncemmaaaW24
import Derived.Test.YtahdlpkncemmaaaW25
import Derived.Test.YtahdlpkncemmaaaW26
set_option maxRecDepth 100000
set_option maxHeartbeats 8000000
set_option linter.unusedSimpArgs false
set_option linter.unusedVariables false
namespace Go.Proofs.Ytahdlpkncemmaaa
open Go.RowKit Pg
theorem info8 : (Try.prog.info? 5).map (fun i => (i.zero, i.size, i.bytes)) = some (some (.int .u8 0), 1, 1) := by kernel_rfl
theorem letter_at (d : Nat) (h : d < 10) (z : Int) (hz : z = (d : Int)) (W : World) :
  (Instr.index 9 (.string ⟨#[48, 49, 50, 51, 52, 53, 54, 55, 56, 57]⟩) (.int .u32 z)).run Try.prog W = .ok (encD d) W := by
 subst hz
 have hd : d = 0 ∨ d = 1 ∨ d = 2 ∨ d = 3 ∨ d = 4 ∨ d = 5 ∨ d = 6 ∨ d = 7 ∨ d = 8 ∨ d = 9 := by omega
 rcases hd with rfl | rfl | rfl | rfl | rfl | rfl | rfl | rfl | rfl | rfl <;> (show _ = _; kernel_rfl)
theorem reverse_any (w : World) (g B n cap : Nat) (ds : List Nat) (h : Let w g B n cap ds) :
  Calls Try.prog 84 #[.slice (some ⟨g, 0, none⟩) n cap] w fun e w' => e = .returned (.tuple #[]) ∧ ∃ q, w' = Sort.putRow encD (Sort.ahead w q) g 0 ds.reverse.toArray := by
 have hn := h.nc
 have hc := h.cm
 have := AnyE.slices_Reverse Try.laygSlgn35 encD (fun _ => rfl) g 0 cap ds w h.holds (by rw [h.len]; omega)
 rw [h.len] at this
 exact this
theorem small_tag (A : Option Addr) (n c b : Nat) (xs : List Nat) (w : World) (h : Row w A n c xs) (hn : n ≤ 1073741824) (hb0 : 0 < b) (hb : b < 4294967296) :
  Calls Try.prog 51 #[.slice A n c, .int .u32 (b : Int)] w fun e w' => ∃ A' c', e = .returned (.tuple #[.slice A' (limbs (val xs / b)).length c', .int .u32 ((val xs % b : Nat) : Int)]) ∧ Row w' A' (limbs (val xs / b)).length c' (limbs (val xs / b)) ∧ Below w.heap.size w w' ∧ Tag w' A' 44 := by
 have h1 := h.nc
 have h2 := h.cm
 have hpl := hid h.len
 have hmk := run_make_row (P := Try.prog) 23 44 Try.underlying23 info32 (n : Int) n rfl (by omega)
 go_enter Try.func51, Try.ntmps51
 go_wp2_with fail
 go_loopw [7, 8] (fun s7 i wr => ∃ k rest cs, ∃ iI : Int, k ≤ n ∧ i = .int .i64 iI ∧ iI + 1 = (k : Int) ∧ s7 = .int .u32 ((rest : Nat) : Int) ∧ SmallInv xs b k rest cs ∧ Blk wr w.heap.size 44 cs ∧ Below w.heap.size w wr) (fun _ i _ => (intOf i + 1).toNat)
 case atStart =>
  have hs := SmallInv.start xs hb0
  rw [hpl.out] at hs
  exact ⟨n, 0, _, _, Nat.le_refl _, rfl, by omega, rfl, hs, Blk.new _ _ _, Below.alloc (Below.refl _ _) (Nat.le_refl _) _⟩
 case round =>
  obtain ⟨k, rest, cs, iI, hk, rfl, hi, rfl, hinv, hblk, hbel⟩ := hrel
  have hcl := hid (hinv.len.trans hpl.out)
  rcases k with _ | m
  ·obtain rfl : iI = -1 := by omega
   have HD := hid hinv.done
   have hr2 := hblk.row hinv.ok (by rw [hcl.out]; omega)
   rw [hcl.out] at hr2
   go_wp2_with (go_at_call 32; refine (trim_any _ _ _ _ _ hr2).mono ?_; rintro e w' ⟨rfl, rfl⟩)
   go_ret2
   have e1 := HD.out.1
   have e2 := HD.out.2
   subst e2
   rw [← e1]
   exact ⟨_, _, rfl, hr2.trim, hbel, fun b o e => by injection e with e; injection e with e; subst e; exact ⟨_, _, hblk⟩⟩
  ·obtain rfl : iI = (m : Int) := by omega
   have hlt := hinv.lt
   have hlp := lim_lt h.ok m
   obtain ⟨bb, o, rfl, hc⟩ := h.at_ (by omega)
   have hbw1 := h.lt (by omega) rfl
   have g1 : wr.cell? ⟨bb, o + m, none⟩ = some (.int .u32 ((lim xs m : Nat) : Int)) := (hbel.cell (by exact hbw1)).trans (hc m (by omega))
   clear hc
   have hnext := hid (hinv.step h.ok (by rw [hpl.out]; omega) (by omega))
   go_wp2_with (go_at_call 60; refine (div32_any rest (lim xs m) b _ _ _ _ (by rfl) (by rfl) (by rfl) hlp hb hlt).mono ?_; rintro e w' ⟨rfl, hb1⟩; have hblk2 := hblk.below hb1; have hfz := hblk2.frozen m; have g2 := hblk2.cell (i := m) (by rw [hcl.out]; omega))
   go_roundw
   case rel => exact ⟨m, _, _, _, by omega, rfl, by omega, by go_num, hnext.out, hblk2.set m _ _ (by go_num), (hbel.trans (hb1.mono hbel.size)).setCell (Nat.le_refl _) _⟩
   case measure => simp [intOf]
theorem Print_any (A : Option Addr) (n c : Nat) (xs : List Nat) (w : World) (h : Row w A n c xs) (hb : n ≤ 1048576) :
  Calls Try.prog 81 #[.slice A n c] w fun e w' => e = .returned (.string (str (dtext (val xs)))) ∧ Below w.heap.size w w' := by
 have hT := hid (Trim_any A n c xs w h (by omega))
 have l1 : (limbs (val xs)).length ≤ 1048576 := by have := tl_le h.ok; rw [h.len] at this; unfold tl at this; omega
 have ld : val xs < 10 ^ (10 * n) := Nat.lt_of_lt_of_le (val_lt h.ok) (by
  rw [h.len, Nat.pow_mul]
  exact Nat.pow_le_pow_left (by decide) _)
 obtain ⟨K, hK⟩ : ∃ K, K = 10 * n := ⟨_, rfl⟩
 rw [← hK] at ld
 have hKb : K ≤ 10485760 := by omega
 clear h hK
 generalize val xs = N at *
 rcases Nat.eq_zero_or_pos N with h0 | h0
 ·subst h0
  have e0 : (limbs 0).length = 0 := rfl
  clear ld
  go_enter Try.func81, Try.ntmps81
  go_wp2_with (go_at_call 33; refine (hT.out).mono ?_; rintro e w1 ⟨A1, c1, rfl, hr1, hb1⟩)
  go_ret
  exact ⟨rfl, hb1⟩
 have hne : (((limbs N).length : Int) == 0) = false := by
  have : (limbs N).length ≠ 0 := fun e => by have := limbs_eq_nil.1 (List.eq_nil_of_length_eq_zero e); omega
  exact beq_eq_false_iff_ne.2 (by omega)
 have HD := hid ld
 have HN := hid h0
 clear ld h0
 go_enter Try.func81, Try.ntmps81
 go_wp2_with (go_at_call 33; refine (hT.out).mono ?_; rintro e w1 ⟨A1, c1, rfl, hr1, hb1⟩)
 go_loopw [0, 3] (fun s0 s3 wr => ∃ M A c ds, s0 = .slice A (limbs M).length c ∧ wr.ownsRow w.heap.size 5 1 s3 ds.length (u8s ds) ∧ Row wr A (limbs M).length c (limbs M) ∧ Hid (N = val10 ds + 10 ^ ds.length * M) ∧ Dg ds ∧ ds.length ≤ K + 9 ∧ (limbs M).length ≤ 1048576 ∧ Below w.heap.size w wr) (fun s0 _ wr => rowval wr s0)
 case atStart => exact ⟨N, A1, c1, [], rfl, World.ownsRow_nil _ _ _ _, hr1, hid (by simp [val10]), dg_nil, by simp, l1, hb1⟩
 case round =>
  obtain ⟨M, A2, c2, ds, rfl, hown, hr, HM, hdg, hdl, hlm, hbel⟩ := hrel
  clear hb1 hr1
  have hv := hr.rowval
  rw [val_limbs] at hv
  rcases Nat.eq_zero_or_pos M with hm | hm
  ·subst hm
   have e0 : (limbs 0).length = 0 := rfl
   have hvd : N = val10 ds := by have := HM.out; simpa using this
   have hn0 : 0 < ds.length := by
    rcases Nat.eq_zero_or_pos ds.length with hz | hz
    ·have := List.eq_nil_of_length_eq_zero hz
     subst this
     have := HN.out
     simp [val10] at hvd; omega
    ·exact hz
   obtain ⟨g, cap, rfl, hlet⟩ := Let.of_own hown hn0
   have HVD := hid hvd
   clear hv hown hvd HM
   have hcap1 := hlet.nc
   have hcap2 := hlet.cm
   go_wp2_with fail
   go_loop [3] (fun s3 => ∃ m : Nat, m < ds.length ∧ s3 = .slice (some ⟨g, 0, none⟩) (m + 1) cap ∧ Hid (val10 (ds.take (m + 1)) = N)) (fun s3 => slen s3)
   case atStart => exact ⟨ds.length - 1, by omega, by rw [show ds.length - 1 + 1 = ds.length by omega], hid (by rw [show ds.length - 1 + 1 = ds.length by omega, List.take_length, HVD.out])⟩
   case round =>
    obtain ⟨m, hmd, rfl, HS⟩ := hrel
    have g1 := hlet.at_ m hmd
    have hdm : ds.getD m 0 < 10 := by
     have : ds.getD m 0 = ds[m] := by simp [List.getD, hmd]
     rw [this]; exact hdg _ (List.getElem_mem hmd)
    have g2 : wr.cell? ⟨g, m, none⟩ = some (.int .u8 (48 + (ds.getD m 0 : Int))) := g1
    obtain ⟨d, hd⟩ : ∃ d, d = ds.getD m 0 := ⟨_, rfl⟩
    rw [← hd] at g2 hdm
    have HD2 := hid hd
    clear g1 hd
    by_cases hm0 : m = 0 ∨ d ≠ 0
    ·have hdn : d ≠ 0 := by
      rcases hm0 with rfl | h1
      ·intro h2
       have e1 := HS.out
       have e2 := HN.out
       rw [List.take_succ_eq_append_getElem hmd] at e1
       have : ds[0] = 0 := by have := HD2.out; simp [List.getD, hmd] at this; omega
       simp [val10, this] at e1
       omega
      ·exact h1
     have hfin := dig_strip hdg hmd HS.out (by rw [← HD2.out]; exact hdn)
     have hl2 := hlet.take (show m + 1 ≤ ds.length by omega)
     have HF : Hid (dtext N = ((ds.take (m + 1)).map chr).reverse) := hid (by rw [dtext_pos (by have := HN.out; omega), hfin])
     obtain ⟨T, hT⟩ : ∃ T, T = str (dtext N) := ⟨_, rfl⟩
     have hT2 : str (((ds.take (m + 1)).map chr).reverse) = T := by rw [hT, HF.out]
     have HC : Hid (∀ (w1 : World) (q : Nat), w1 = Sort.putRow encD (Sort.ahead wr q) g 0 (ds.take (m + 1)).reverse.toArray → (convert 104 9 (.slice (some ⟨g, 0, none⟩) (m + 1) cap)).run Try.prog w1 = .ok (.string T) w1) := hid fun w1 q hq => by
      rw [← hT2]; exact str_back (P := Try.prog) (w1 := w1) (q := q) hl2 (hdg.take _) 104 9 5 Try.underlying104 Try.underlying5 Try.underlying9 hq
     have HTT := hid hT
     clear hT hT2
     have HR := hid (reverse_any _ _ _ _ _ _ hl2)
     have t1 : ((48 : Int) + (d : Int) == 48) = false := beq_eq_false_iff_ne.2 (by omega)
     have hcase : m = 0 ∨ 0 < m := by omega
     clear hfin hm0
     rcases hcase with rfl | hm1
     all_goals
      go_wp2_with (go_at_call 84; refine (HR.out).mono ?_; rintro e w4 ⟨rfl, q, hq⟩; have hcv := HC.out w4 q hq; have HQ := hid hq; clear hq)
      go_ret
      exact ⟨by rw [← HTT.out]; rfl, by rw [HQ.out]; exact below_putRow hbel hlet.base⟩
    ·have hm1 : 0 < m ∧ d = 0 := by omega
     obtain ⟨hm1, rfl⟩ := hm1
     have HS2 : Hid (val10 (ds.take m) = N) := hid (by rw [val10_strip hmd HD2.out.symm, HS.out])
     clear hm0
     go_wp2_with fail
     go_round
     case rel => exact ⟨m - 1, by omega, by rw [show m - 1 + 1 = m by omega], by rw [show m - 1 + 1 = m by omega]; exact HS2⟩
     case measure => simp [slen]
  ·have hpos : 0 < (limbs M).length := by
    have : (limbs M).length ≠ 0 := fun e => by have := limbs_eq_nil.1 (List.eq_nil_of_length_eq_zero e); omega
    omega
   have HV := hid hv
   have hS := small_tag A2 _ c2 1000000000 _ wr hr (by omega) (by omega) (by omega)
   rw [val_limbs] at hS
   have hlt := Nat.mod_lt M (show 0 < 1000000000 by omega)
   have HS : Hid (Calls Try.prog 51 #[.slice A2 (limbs M).length c2, .int .u32 1000000000] wr fun e w' => ∃ A' c', e = .returned (.tuple #[.slice A' (limbs (M / 1000000000)).length c', .int .u32 ((M % 1000000000 : Nat) : Int)]) ∧ Row w' A' (limbs (M / 1000000000)).length c' (limbs (M / 1000000000)) ∧ Below wr.heap.size wr w' ∧ Tag w' A' 44) := hid hS
   have HM2 : Hid (N = val10 ds + 10 ^ ds.length * (M % 1000000000 + 10 ^ (9 - 0) * (M / 1000000000))) := hid (by
    rw [show 10 ^ (9 - 0) = 1000000000 from rfl, show M % 1000000000 + 1000000000 * (M / 1000000000) = M by omega]; exact HM.out)
   have hLK := len_of (pow_le_of HM.out hm) HD.out
   have HQ : Hid (M / 1000000000 < M) := hid (by omega)
   have hl2 := Nat.le_trans (limbs_mono (Nat.le_of_lt HQ.out)) hlm
   clear hS hv HM
   generalize M % 1000000000 = R at *
   generalize M / 1000000000 = Q at *
   go_wp2_with (go_at_call 51; refine (HS.out).mono ?_; rintro e w3 ⟨A5, c5, rfl, hr5, hb3, ht5⟩)
   have hown3 := own_below hown hb3
   have hb03 : Below w.heap.size w w3 := Below.then_ hbel hb3
   obtain ⟨wo, hwo⟩ : ∃ wo, wo = wr := ⟨_, rfl⟩
   go_loopw [3, 5, 19] (fun s3 s5 s19 wi => ∃ k r es, k ≤ 9 ∧ s19 = .int .i64 ((k : Nat) : Int) ∧ s5 = .int .u32 ((r : Nat) : Int) ∧ wi.ownsRow w.heap.size 5 1 s3 es.length (u8s es) ∧ Hid (N = val10 es + 10 ^ es.length * (r + 10 ^ (9 - k) * Q)) ∧ Hid (r < 10 ^ (9 - k)) ∧ r < 4294967296 ∧ Dg es ∧ es.length ≤ ds.length + k ∧ Row wi A5 (limbs Q).length c5 (limbs Q) ∧ Tag wi A5 44 ∧ Below w.heap.size w wi) (fun _ _ s19 _ => 9 - (intOf s19).toNat)
   case atStart => exact ⟨0, R, ds, by omega, rfl, rfl, hown3, HM2, hid hlt, by omega, hdg, by omega, hr5, ht5, hb03⟩
   case round =>
    obtain ⟨k, r, es, hk, rfl, rfl, howe, HE, HRL, hr32, hdge, hle, hrq, htq, hbi⟩ := hrel
    by_cases hk9 : k < 9
    ·have hst := grp_step hk9 HE.out HRL.out
     obtain ⟨d, hd⟩ : ∃ d, d = r % 10 := ⟨_, rfl⟩
     have hd10 : d < 10 := by omega
     have hdI : (r : Int) % 10 = (d : Int) := by omega
     rw [← hd] at hst
     have hlet : ∀ W : World, (Instr.index 9 (.string ⟨#[48, 49, 50, 51, 52, 53, 54, 55, 56, 57]⟩) (.int .u32 (d : Int))).run Try.prog W = .ok (.int .u8 (48 + (d : Int))) W := fun W => letter_at d hd10 _ rfl W
     have HST := hid hst
     clear hst hd
     have hKn := hLK
     go_wp2_with (at_builtin; refine wpList_append_letter _ rfl _ _ 104 rfl w.heap.size 5 Try.underlying104 info8 _ es.length es rfl (howe.alloc _) ⟨wr.heap.size, 0, none⟩ 1 d rfl (by simp [encD]) (by omega) (by have := hbi.size; simp; omega) ?_)
     intro v' w' hown' hgr
     obtain ⟨hrq', htq'⟩ := keep_own (howe.alloc _) hgr (by decide) (hrq.alloc _) (htq.below (Below.alloc (Below.refl _ _) (Nat.le_refl _) _))
     go_wp2_with fail
     go_roundw
     case rel => exact ⟨k + 1, r / 10, es ++ [d], by omega, by go_num, by go_num, by rw [List.length_append]; exact hown', hid (by rw [List.length_append, val10_snoc]; exact HST.out.1), hid HST.out.2, by omega, dg_append.2 ⟨hdge, dg_cons.2 ⟨hd10, dg_nil⟩⟩, by simp; omega, hrq', htq', Below.grown (Below.alloc hbi hbi.size _) hgr (by have := hbi.size; simp; omega) (fun g hg => (howe.lt g hg).1)⟩
     case measure => simp [intOf]; omega
    ·obtain rfl : k = 9 := by omega
     have hr0 : r = 0 := by have := HRL.out; simp at this; omega
     subst hr0
     have HN2 : Hid (N = val10 es + 10 ^ es.length * Q) := hid (by have := HE.out; simpa using this)
     go_wp2_with fail
     go_roundw
     case rel => exact ⟨Q, A5, c5, es, rfl, howe, hrq, HN2, hdge, by omega, hl2, hbi⟩
     case measure =>
      have e2 := hrq.rowval
      rw [val_limbs] at e2
      rw [e2, HV.out]
      exact HQ.out
end Go.Proofs.Ytahdlpkncemmaaa
