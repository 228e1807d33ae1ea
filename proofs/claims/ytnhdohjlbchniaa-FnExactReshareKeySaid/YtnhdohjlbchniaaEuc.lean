/- Contracts for inverses modulo a number: the program's and the reference's. -/
import Derived.Test.YtnhdohjlbchniaaProg
import Derived.Test.YtnhdohjlbchniaaNum
import Derived.Test.YtnhdohjlbchniaaFer
namespace Go.Proofs.Ytnhdohjlbchniaa
open Go.RowKit

theorem ei_start (m : Nat) (a : Nat) (ha : a ≤ m) (hm : 1 ≤ m) : EI m a m a 0 1 := by
  refine ⟨Nat.le_refl _, ha, ?_, ?_, by omega, by simp, by simpa using hm, by simp, Nat.gcd_comm _ _⟩
  · rw [Int.mul_zero, Int.zero_sub]; exact Int.dvd_neg.2 (Int.dvd_refl _)
  · rw [Int.mul_one, Int.sub_self]; exact ⟨0, by simp⟩
theorem ei_start2 (m : Nat) (a : Nat) (ha : a ≤ m) (hm : 1 ≤ m) : EI m a a m 1 0 := by
  refine ⟨ha, Nat.le_refl _, ?_, ?_, by omega, by simpa using hm, by simp, by simp, by simp⟩
  · rw [Int.mul_one, Int.sub_self]; exact ⟨0, by simp⟩
  · rw [Int.mul_zero, Int.zero_sub]; exact Int.dvd_neg.2 (Int.dvd_refl _)
set_option maxHeartbeats 2000000 in
theorem inverse_any (a m : Nat) (w : World) (ha : a < m) (hm : 2 ≤ m) (hm2 : m ≤ 2000000000) :
    Calls Try.prog 124 #[.int .i64 a, .int .i64 m] w fun e w' => e = .returned (.int .i64 (invV a m)) ∧ w = w' := by
  go_enter Try.func124, Try.ntmps124
  go_wp2
  go_loop [5, 6, 7, 8] (fun u v x y => ∃ (r s : Nat) (X Y : Int), u = .int .i64 r ∧ v = .int .i64 s ∧ x = .int .i64 X ∧ y = .int .i64 Y ∧ Hid (EI m a r s X Y)) (fun _ v _ _ => (intOf v).toNat)
  case atStart => exact ⟨m, a, 0, 1, rfl, rfl, rfl, rfl, ei_start m a (by omega) (by omega)⟩
  case round =>
    obtain ⟨r, s, X, Y, rfl, rfl, rfl, rfl, HI⟩ := hrel
    by_cases hs : s = 0
    · subst hs
      obtain ⟨f1, f2⟩ := HI.out.fin hm
      have hax := HI.out.ax
      have hb1 : -2000000000 ≤ X ∧ X ≤ 2000000000 := by omega
      by_cases hr : r = 1
      · subst hr
        have H1 := Lib.hid (f1 rfl)
        clear f1 f2 hax
        go_wp2_with fail
        refine (mod_any X m _ (by omega) (by omega) (by omega) (by omega)).mono ?_
        rintro e w1 ⟨rfl, rfl⟩
        go_wp2
        go_ret
        exact ⟨ret_int H1.out, rfl⟩
      · have H1 := Lib.hid (invV_no (f2 hr))
        have hr1 : ((r : Int) != 1) = true := by simp; omega
        clear f1 f2 hax hr
        go_wp2
        go_ret
        exact ⟨ret_int H1.out.symm, rfl⟩
    · have hst := HI.out.step hs
      obtain ⟨q1, q2, q3⟩ := HI.out.qs hs
      have hrm := HI.out.rm
      have hsm := HI.out.sm
      have hax := HI.out.ax
      have hay := HI.out.ay
      have hay2 := hst.ay
      have HST := Lib.hid hst
      have hlt : r % s < s := Nat.mod_lt _ (by omega)
      have hs0 : ((s : Int) == 0) = false := by simp; omega
      have hs1 : ((s : Int) != 0) = true := by simp; omega
      obtain ⟨q, hq⟩ : ∃ q, r / s = q := ⟨_, rfl⟩
      have hqq : (r : Int) / (s : Int) = (q : Int) := by rw [← hq]; simp
      have hqr : q ≤ r := by rw [← hq]; exact Nat.div_le_self _ _
      rw [hq] at q1 q2 q3 hay2
      have HQ := Lib.hid hq
      have hb1 : -2000000000 ≤ X ∧ X ≤ 2000000000 := by omega
      have hb2 : -2000000000 ≤ Y ∧ Y ≤ 2000000000 := by omega
      have hb3 : 0 ≤ (q : Int) * s ∧ (q : Int) * s ≤ r := by have := Int.mul_nonneg (Int.natCast_nonneg q) (Int.natCast_nonneg s); omega
      have hb4 : -2000000000 ≤ (q : Int) * Y ∧ (q : Int) * Y ≤ 2000000000 := by omega
      have Q1 := Lib.hid q1
      clear hst hq hs q1 q2 q3 hax hay hay2
      go_wp2
      go_round
      case rel => exact ⟨s, r % s, Y, X - (q : Int) * Y, rfl, by have := Q1.out; congr 1; omega, rfl, rfl, by have h9 := HST.out; rw [HQ.out] at h9; exact h9⟩
      case measure =>
        have := Q1.out
        simp only [intOf]
        omega

/-- What the reference's inverse returns. -/
def InvPost (A m : Int) (w : World) (e : Ending) (w' : World) : Prop := ∃ (v : Int) (ok : Bool), e = .returned (.tuple #[.int .i64 v, .bool ok]) ∧ (ok = true ∧ v = invV A m ∧ invV A m ≠ 0 ∨ ok = false ∧ invV A m = 0) ∧ w = w'
set_option maxHeartbeats 2000000 in
theorem nInverse_any (b : Int) (m : Nat) (w : World) (hb1 : -9000000000 ≤ b) (hb2 : b ≤ 9000000000) (hm : 2 ≤ m) (hm2 : m ≤ 2000000000) :
    Calls Try.prog 73 #[.int .i64 b, .int .i64 m] w fun e w' => InvPost (b % m) m w e w' := by
  obtain ⟨a, ha⟩ := Int.eq_ofNat_of_zero_le (Int.emod_nonneg b (show (m : Int) ≠ 0 by omega))
  have ham : a < m := by have := Int.emod_lt_of_pos b (show (0 : Int) < m by omega); omega
  rw [ha]
  have HA := Lib.hid ha
  clear ha
  go_enter Try.func73, Try.ntmps73
  go_wp2_with fail
  refine (nMod_any b m _ (by omega) (by omega) (by omega) (by omega)).mono ?_
  rintro e w1 ⟨rfl, rfl⟩
  rw [HA.out]
  go_wp2_with fail
  go_loop [6, 7, 8, 9] (fun u v x y => ∃ (r s : Nat) (X Y : Int), u = .int .i64 r ∧ v = .int .i64 s ∧ x = .int .i64 X ∧ y = .int .i64 Y ∧ Hid (EI m a r s X Y)) (fun _ v _ _ => (intOf v).toNat)
  case atStart => exact ⟨a, m, 1, 0, rfl, rfl, rfl, rfl, ei_start2 m a (by omega) (by omega)⟩
  case round =>
    obtain ⟨r, s, X, Y, rfl, rfl, rfl, rfl, HI⟩ := hrel
    by_cases hs : s = 0
    · subst hs
      obtain ⟨f1, f2⟩ := HI.out.fin hm
      have hax := HI.out.ax
      have hx1 : -2000000000 ≤ X ∧ X ≤ 2000000000 := by omega
      by_cases hr : r = 1
      · subst hr
        have H1 := Lib.hid (f1 rfl)
        have H2 : Hid (invV a m ≠ 0) := Lib.hid ((invV_pos (by omega)).2 ⟨X % m, Int.emod_nonneg _ (by omega), Int.emod_lt_of_pos _ (by omega), by
          have h9 := HI.out.dx
          have h1 : (a : Int) * (X % m) % m = a * X % m := by rw [Int.mul_emod, Int.emod_emod_of_dvd _ (Int.dvd_refl _), ← Int.mul_emod]
          have h3 := Int.emod_eq_emod_iff_emod_sub_eq_zero.2 (Int.emod_eq_zero_of_dvd h9)
          rw [h1, h3]
          exact Int.emod_eq_of_lt (by omega) (by omega)⟩)
        clear f1 f2 hax
        go_wp2_with fail
        refine (nMod_any X m _ (by omega) (by omega) (by omega) (by omega)).mono ?_
        rintro e w1 ⟨rfl, rfl⟩
        go_wp2
        go_ret2
        exact ⟨_, true, rfl, .inl ⟨rfl, H1.out, H2.out⟩, rfl⟩
      · have H1 := Lib.hid (invV_no (f2 hr))
        have hr1 : ((r : Int) == 1) = false := by simp; omega
        clear f1 f2 hax hr
        go_wp2_with fail
        refine (nMod_any X m _ (by omega) (by omega) (by omega) (by omega)).mono ?_
        rintro e w1 ⟨rfl, rfl⟩
        go_wp2
        go_ret2
        exact ⟨_, false, rfl, .inr ⟨rfl, H1.out⟩, rfl⟩
    · have hst := HI.out.step hs
      obtain ⟨q1, q2, q3⟩ := HI.out.qs hs
      have hrm := HI.out.rm
      have hsm := HI.out.sm
      have hax := HI.out.ax
      have hay := HI.out.ay
      have hay2 := hst.ay
      have HST := Lib.hid hst
      have hlt : r % s < s := Nat.mod_lt _ (by omega)
      have hs0 : ((s : Int) == 0) = false := by simp; omega
      have hs1 : ((s : Int) != 0) = true := by simp; omega
      obtain ⟨q, hq⟩ : ∃ q, r / s = q := ⟨_, rfl⟩
      have hqq : (r : Int) / (s : Int) = (q : Int) := by rw [← hq]; simp
      have hqr : q ≤ r := by rw [← hq]; exact Nat.div_le_self _ _
      rw [hq] at q1 q2 q3 hay2
      have HQ := Lib.hid hq
      have hx1 : -2000000000 ≤ X ∧ X ≤ 2000000000 := by omega
      have hx2 : -2000000000 ≤ Y ∧ Y ≤ 2000000000 := by omega
      have hx3 : 0 ≤ (q : Int) * s ∧ (q : Int) * s ≤ r := by have := Int.mul_nonneg (Int.natCast_nonneg q) (Int.natCast_nonneg s); omega
      have hx4 : -2000000000 ≤ (q : Int) * Y ∧ (q : Int) * Y ≤ 2000000000 := by omega
      have Q1 := Lib.hid q1
      clear hst hq hs q1 q2 q3 hax hay hay2
      go_wp2
      go_round
      case rel => exact ⟨s, r % s, Y, X - (q : Int) * Y, rfl, by have := Q1.out; congr 1; omega, rfl, rfl, by have h9 := HST.out; rw [HQ.out] at h9; exact h9⟩
      case measure =>
        have := Q1.out
        simp only [intOf]
        omega

/-- InverseMod's guard and values. -/
def imG (a m : Int) : Bool := inR m 2 2000000000 && inR a 0 (m - 1)
noncomputable def imV (a m : Int) : Int := if imG a m then invV a m else 0
noncomputable def imK (a m : Int) : Bool := open Classical in imG a m && decide (invV a m ≠ 0)
end Go.Proofs.Ytnhdohjlbchniaa
