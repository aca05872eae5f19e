/- Walk: nat.guess. Conditions: the divisor's head is above 0, the first two limbs not above it. -/
import Derived.Test.YtgehoflkbckgkaaWo
import Derived.Test.YtgehoflkbckgkaaWp
namespace Go.Proofs.Ytgehoflkbckgkaa
open Go.RowKit Pg

set_option maxHeartbeats 1000000 in
/-- nat.guess. -/
theorem guess_any (hi mid low b1 b2 : Nat) (w : World) (hI mI lI bI cI : Int) (e1 : hI = (hi : Int)) (e2 : mI = (mid : Int)) (e3 : lI = (low : Int)) (e4 : bI = (b1 : Int)) (e5 : cI = (b2 : Int))
    (h1 : hi < 4294967296) (h2 : mid < 4294967296) (h3 : low < 4294967296) (h4 : b1 < 4294967296) (h5 : b2 < 4294967296) (hb : 0 < b1) (hu : hi * 4294967296 + mid ≤ b1 * 4294967296 + b2) :
    Calls Try.prog 76 #[.int .u32 hI, .int .u32 mI, .int .u32 lI, .int .u32 bI, .int .u32 cI] w fun e w' =>
      e = .returned (.int .u64 ((gq ((hi * 4294967296 + mid) * 4294967296 + low) (b1 * 4294967296 + b2) : Nat) : Int)) ∧ ∃ m, w' = w.drewN m := by
  subst e1 e2 e3 e4 e5
  have hub : hi * 4294967296 + mid < 18446744073709551616 := by omega
  have hj := join_or h2 h1
  obtain ⟨u, hue⟩ : ∃ u, u = hi * 4294967296 + mid := ⟨_, rfl⟩
  rw [← hue] at hu hj hub ⊢
  clear hue
  have hne : ((b1 : Int) != 0) = true := by simp; omega
  have HS := hid (guess_start (u := u) (low := low) (b1 := b1) (b2 := b2) hb h3)
  have HD := hid (Nat.div_add_mod' u b1)
  have hr0 : u % b1 < b1 := Nat.mod_lt _ hb
  have HQ : Hid ((u : Int) / (b1 : Int) = ((u / b1 : Nat) : Int)) := hid (Int.natCast_ediv _ _).symm
  have HR : Hid ((u : Int) % (b1 : Int) = ((u % b1 : Nat) : Int)) := hid (Int.natCast_emod _ _).symm
  go_enter Try.func76, Try.ntmps76
  go_wp2_with fail
  go_quiet (fail)
  go_wp2_with fail
  go_loopw [12, 13] (fun s12 s13 wr => ∃ q r : Nat, s12 = .int .u64 (q : Int) ∧ s13 = .int .u64 (r : Int) ∧ Hid (q * b1 + r = u) ∧ q < 18446744073709551616 ∧ r < 4294967296 ∧ Hid (gq (u * 4294967296 + low) (b1 * 4294967296 + b2) ≤ q) ∧ wr = w.drewN nq) (fun s12 _ _ => (intOf s12).toNat)
  case atStart =>
    have hd : u / b1 ≤ u := Nat.div_le_self _ _
    exact ⟨u / b1, u % b1, by rw [HQ.out, IntWalk.u64_in _ (by generalize u / b1 = x at *; omega)], by rw [HR.out], HD, by omega, by omega, HS, rfl⟩
  case round =>
    obtain ⟨q, r, rfl, rfl, hq, hql, hr, hle, rfl⟩ := hrel
    have hj2 := join_or h3 hr
    rcases Nat.lt_or_ge q 4294967296 with hlt | hge
    · have b4 : (q : Int) * (b2 : Int) ≤ 18446744065119617025 := by have := prod_le (a := q) (b := b2) (by omega) (by omega); rw [← Int.natCast_mul]; omega
      have b5 : (0 : Int) ≤ (q : Int) * (b2 : Int) := Int.mul_nonneg (by omega) (by omega)
      have t1 : ((q : Int) / 4294967296 != 0) = false := by simp; omega
      by_cases hc : q * b2 ≤ r * 4294967296 + low
      · have t2 : (q : Int) * (b2 : Int) ≤ (r : Int) * 4294967296 + (low : Int) := by rw [← Int.natCast_mul]; omega
        go_wp2_with fail
        go_ret
        exact ⟨congrArg (fun z : Nat => Ending.returned (Value.int .u64 (z : Int))) (guess_stop hq.out hb hlt hc hle.out), nq, rfl⟩
      · have t2 : (r : Int) * 4294967296 + (low : Int) < (q : Int) * (b2 : Int) := by rw [← Int.natCast_mul]; omega
        have hdn := guess_down hq.out hb (Or.inr (by omega)) hle.out
        have hq1 : Hid ((q - 1) * b1 + (r + b1) = u) := hid (by rw [← hq.out]; obtain ⟨x, rfl⟩ : ∃ x, q = x + 1 := ⟨q - 1, by omega⟩; rw [Nat.add_sub_cancel, Nat.add_mul, Nat.one_mul]; omega)
        have hd2 := hdn.1
        have HL := hid hdn.2
        clear hdn
        rcases Nat.lt_or_ge (r + b1) 4294967296 with hs | hs
        · have t3 : (((r : Int) + (b1 : Int)) / 4294967296 != 0) = false := by simp; omega
          go_wp2_with fail
          go_roundw
          case rel => exact ⟨q - 1, r + b1, by go_num, by go_num, hq1, by omega, hs, HL, trivial⟩
          case measure => simp [intOf]; omega
        · have t3 : (((r : Int) + (b1 : Int)) / 4294967296 != 0) = true := by simp; omega
          go_wp2_with fail
          go_ret
          exact ⟨by rw [← guess_break hq1.out hb h5 hs hu HL.out]; go_num, nq, rfl⟩
    · have t1 : ((q : Int) / 4294967296 != 0) = true := by simp; omega
      have hdn := guess_down hq.out hb (Or.inl hge) hle.out
      have hq1 : Hid ((q - 1) * b1 + (r + b1) = u) := hid (by rw [← hq.out]; obtain ⟨x, rfl⟩ : ∃ x, q = x + 1 := ⟨q - 1, by omega⟩; rw [Nat.add_sub_cancel, Nat.add_mul, Nat.one_mul]; omega)
      have hd2 := hdn.1
      have HL := hid hdn.2
      clear hdn
      rcases Nat.lt_or_ge (r + b1) 4294967296 with hs | hs
      · have t3 : (((r : Int) + (b1 : Int)) / 4294967296 != 0) = false := by simp; omega
        go_wp2_with fail
        go_roundw
        case rel => exact ⟨q - 1, r + b1, by go_num, by go_num, hq1, by omega, hs, HL, trivial⟩
        case measure => simp [intOf]; omega
      · have t3 : (((r : Int) + (b1 : Int)) / 4294967296 != 0) = true := by simp; omega
        go_wp2_with fail
        go_ret
        exact ⟨by rw [← guess_break hq1.out hb h5 hs hu HL.out]; go_num, nq, rfl⟩
end Go.Proofs.Ytgehoflkbckgkaa
