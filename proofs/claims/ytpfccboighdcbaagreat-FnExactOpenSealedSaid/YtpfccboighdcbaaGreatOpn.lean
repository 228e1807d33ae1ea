/- Contracts for OpenSealed's parts: logarithms, the reference's vote of exponents. -/
import Derived.Test.YtpfccboighdcbaaGreatProg
import Derived.Test.YtpfccboighdcbaaGreatOpnP
import Derived.Test.YtpfccboighdcbaaGreatEncG
import Derived.Test.YtpfccboighdcbaaGreatDec2
namespace Go.Proofs.YtpfccboighdcbaaGreat
open Go.RowKit
set_option linter.unusedVariables false
set_option linter.unusedSimpArgs false

theorem pow_step {P B e : Nat} : ((B ^ e % P : Nat) : Int) * (B : Int) % (P : Int) = ((B ^ (e + 1) % P : Nat) : Int) := by
  have h : B ^ e % P * B % P = B ^ (e + 1) % P := by rw [Nat.pow_succ, Nat.mul_mod, Nat.mod_mod, ← Nat.mul_mod]
  rw [← h]
  push_cast
  rfl
/-- What a search for a logarithm answers. -/
def lgOut : Option Nat → Int
  | some e => e
  | none => -1
set_option maxHeartbeats 2000000 in
theorem gLog_any (q g : Int) (P B X M : Nat) (w : World) (h : GrpB P q) (hp : 2 ≤ P) (hb : B ≤ 3000000000) (hM : M ≤ 1000000) :
    Calls Tryz.prog 32 #[.agg #[.int .i64 (P : Int), .int .i64 q, .int .i64 g], .int .i64 (B : Int), .int .i64 (X : Int), .int .i64 (M : Int)] w fun e w' => e = .returned (.tuple #[.int .i64 (((lgO P B X M).getD 0 : Nat) : Int), .bool (lgO P B X M).isSome]) ∧ Ext w w' := by
  obtain ⟨p1, p2, q1, q2⟩ := h
  have hE := (Ext.refl w).alloc (.cells #[.int .i64 (P : Int), .int .i64 q, .int .i64 g] 36)
  have C := (Blk.new w 36 #[.int .i64 (P : Int), .int .i64 q, .int .i64 g]).cells
  have hp0 : ((P : Int) == 0) = false := by simp; omega
  have h1 : 1 % P = 1 := Nat.mod_eq_of_lt (by omega)
  go_enter Tryz.func32, Tryz.ntmps32
  go_wp2
  go_loop [10, 11] (fun y i => ∃ j : Nat, j ≤ M + 1 ∧ i = .int .i64 (j : Int) ∧ y = .int .i64 ((B ^ j % P : Nat) : Int) ∧ Hid (∀ k, k < j → B ^ k % P ≠ X)) (fun _ i => M + 1 - (intOf i).toNat)
  case atStart => exact ⟨0, Nat.zero_le _, rfl, by rw [Nat.pow_zero, h1]; rfl, fun k hk => absurd hk (by omega)⟩
  case round =>
    obtain ⟨j, hj, rfl, rfl, hn⟩ := hrel
    have hst := pow_step (P := P) (B := B) (e := j)
    have hlt := Nat.mod_lt (B ^ j) (show 0 < P by omega)
    have hlt2 := Nat.mod_lt (B ^ (j + 1)) (show 0 < P by omega)
    by_cases hjM : j ≤ M
    · by_cases hx : B ^ j % P = X
      · have hr : Hid (lgO P B X M = some j) := lgO_some hjM hx hn.out
        have hq : (((B ^ j % P : Nat) : Int) == (X : Int)) = true := by rw [hx]; simp
        clear hx hst hlt hlt2
        generalize B ^ j % P = y at *
        have hc : (j : Int) ≤ (M : Int) := by omega
        go_wp2
        go_ret2
        exact ⟨by rw [hr.out]; rfl, hE⟩
      · have hq : (((B ^ j % P : Nat) : Int) == (X : Int)) = false := by rw [beq_eq_false_iff_ne]; exact fun e => hx (Int.ofNat_inj.1 e)
        have hn' : Hid (∀ k, k < j + 1 → B ^ k % P ≠ X) := fun k hk => by
          rcases Nat.lt_or_ge k j with hk | hk
          · exact hn.out k hk
          · obtain rfl : k = j := by omega
            exact hx
        have HST := Lib.hid hst
        have hy0 : 0 ≤ ((B ^ j % P : Nat) : Int) * (B : Int) := Int.mul_nonneg (by omega) (by omega)
        have hy1 : ((B ^ j % P : Nat) : Int) * (B : Int) ≤ 2000000000 * 3000000000 := Int.mul_le_mul (by omega) (by omega) (by omega) (by omega)
        have hc : (j : Int) ≤ (M : Int) := by omega
        by_cases hz : B ^ (j + 1) % P = 1
        · have hr : Hid (lgO P B X M = none) := lgO_cyc hp (Nat.succ_pos j) hz hn'.out
          have hz1 : ((B ^ (j + 1) % P : Nat) : Int) = 1 := by omega
          rw [hz1] at HST
          clear hx hst hn hn' hz hz1 hlt2
          generalize ((B ^ j % P : Nat) : Int) = y at *
          obtain ⟨m, hm⟩ : ∃ m, y * (B : Int) % (P : Int) = m := ⟨_, rfl⟩
          have hm1 : m = 1 := by rw [← hm]; exact HST.out
          have hmm : (m == 1) = true := by simp [hm1]
          have hr1 : (y * (B : Int) % (P : Int) == 1) = true := by rw [hm, hm1]; rfl
          clear hm1 hm hmm
          go_wp2
          go_ret2
          exact ⟨by rw [hr.out]; rfl, hE⟩
        · have hz1 : (((B ^ (j + 1) % P : Nat) : Int) == 1) = false := by rw [beq_eq_false_iff_ne]; exact fun e => hz (Int.ofNat_inj.1 (e.trans rfl))
          clear hx hst hn hz hlt2
          have hr1 : (((B ^ j % P : Nat) : Int) * (B : Int) % (P : Int) == 1) = false := by rw [HST.out]; exact hz1
          generalize ((B ^ j % P : Nat) : Int) = y at *
          clear hz1
          go_wp2
          go_round
          case rel => exact ⟨j + 1, by omega, by go_num, by rw [HST.out], hn'⟩
          case measure => simp [intOf]; omega
    · have hr : Hid (lgO P B X M = none) := lgO_none fun k hk => hn.out k (by omega)
      clear hst hlt hlt2
      generalize B ^ j % P = y at *
      have hc : ¬ (j : Int) ≤ (M : Int) := by omega
      go_wp2
      go_ret2
      exact ⟨by rw [hr.out]; rfl, hE⟩
set_option maxHeartbeats 2000000 in
theorem log_any (q g : Int) (P B X M : Nat) (w : World) (h : GrpB P q) (hp : 2 ≤ P) (hb : B ≤ 3000000000) (hM : M ≤ 1000000) :
    Calls Tryz.prog 41 #[.agg #[.int .i64 (P : Int), .int .i64 q, .int .i64 g], .int .i64 (B : Int), .int .i64 (X : Int), .int .i64 (M : Int)] w fun e w' => e = .returned (.int .i64 (lgOut (lgO P B X M))) ∧ Ext w w' := by
  have p2 := h.p2
  have hE := (Ext.refl w).alloc (.cells #[.int .i64 (P : Int), .int .i64 q, .int .i64 g] 36)
  have B0 := Blk.new w 36 #[.int .i64 (P : Int), .int .i64 q, .int .i64 g]
  have h1 : 1 % P = 1 := Nat.mod_eq_of_lt (by omega)
  go_enter Tryz.func41, Tryz.ntmps41
  go_wp2
  go_loopw [9, 13] (fun y i wr => ∃ j : Nat, j ≤ M + 1 ∧ i = .int .i64 (j : Int) ∧ y = .int .i64 ((B ^ j % P : Nat) : Int) ∧ Hid (∀ k, k < j → B ^ k % P ≠ X) ∧ Blk wr w.heap.size 36 #[.int .i64 (P : Int), .int .i64 q, .int .i64 g] ∧ Ext w wr) (fun _ i _ => M + 1 - (intOf i).toNat)
  case atStart => exact ⟨0, Nat.zero_le _, rfl, by rw [Nat.pow_zero, h1]; rfl, fun k hk => absurd hk (by omega), B0, hE⟩
  case round =>
    clear B0 hE
    obtain ⟨j, hj, rfl, rfl, hn, B0, hE⟩ := hrel
    have hst := pow_step (P := P) (B := B) (e := j)
    have hlt := Nat.mod_lt (B ^ j) (show 0 < P by omega)
    have C := B0.cells
    by_cases hjM : j ≤ M
    · have hc : (j : Int) < (M : Int) + 1 := by omega
      by_cases hx : B ^ j % P = X
      · have hr : Hid (lgO P B X M = some j) := lgO_some hjM hx hn.out
        have hq : (((B ^ j % P : Nat) : Int) == (X : Int)) = true := by rw [hx]; simp
        clear hx hst hlt
        generalize B ^ j % P = y at *
        go_wp2
        go_ret
        exact ⟨by rw [hr.out]; rfl, hE⟩
      · have hq : (((B ^ j % P : Nat) : Int) == (X : Int)) = false := by rw [beq_eq_false_iff_ne]; exact fun e => hx (Int.ofNat_inj.1 e)
        have hn' : Hid (∀ k, k < j + 1 → B ^ k % P ≠ X) := fun k hk => by
          rcases Nat.lt_or_ge k j with hk | hk
          · exact hn.out k hk
          · obtain rfl : k = j := by omega
            exact hx
        have hg : gmul (P : Int) [((B ^ j % P : Nat) : Int), (B : Int)] = ((B ^ (j + 1) % P : Nat) : Int) := by
          rw [gmul_two, Nat.pow_succ, Nat.mul_mod, Nat.mod_mod, ← Nat.mul_mod]
        have HG := Lib.hid hg
        have hy : 0 ≤ ((B ^ j % P : Nat) : Int) ∧ ((B ^ j % P : Nat) : Int) ≤ 3000000000 := by omega
        clear hx hst hn hg
        generalize ((B ^ j % P : Nat) : Int) = y at *
        have hE2 := hE.alloc (.cells #[.int .i64 y, .int .i64 (B : Int)] 3)
        have B02 := B0.alloc (.cells #[.int .i64 y, .int .i64 (B : Int)] 3)
        go_wp2_with fail
        refine (mul_any (P : Int) q g _ 2 2 [y, (B : Int)] _ h (rd_two rfl) rfl (by decide) (two_rg hy (by omega))).mono ?_
        rintro en w1 ⟨rfl, hb1⟩
        go_wp2
        go_roundw
        case rel => exact ⟨j + 1, by omega, by go_num, by rw [HG.out], hn', B02.ext hb1, hE2.trans hb1⟩
        case measure => simp [intOf]; omega
    · have hr : Hid (lgO P B X M = none) := lgO_none fun k hk => hn.out k (by omega)
      clear hst hlt
      generalize B ^ j % P = y at *
      have hc : ¬ (j : Int) < (M : Int) + 1 := by omega
      go_wp2
      go_ret
      exact ⟨by rw [hr.out]; rfl, hE⟩
end Go.Proofs.YtpfccboighdcbaaGreat
