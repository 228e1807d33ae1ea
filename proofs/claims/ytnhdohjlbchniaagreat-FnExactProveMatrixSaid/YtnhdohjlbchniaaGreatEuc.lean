/- Contracts for inverses modulo a number: the program's and the reference's. -/
import Derived.Test.YtnhdohjlbchniaaGreatProg
import Derived.Test.YtnhdohjlbchniaaGreatNum
import Derived.Test.YtnhdohjlbchniaaGreatFer
namespace Go.Proofs.YtnhdohjlbchniaaGreat
open Go.RowKit

theorem ei_start (m : Nat) (a : Nat) (ha : a ≤ m) (hm : 1 ≤ m) : EI m a m a 0 1 := by
  refine ⟨Nat.le_refl _, ha, ?_, ?_, by omega, by simp, by simpa using hm, by simp, Nat.gcd_comm _ _⟩
  · rw [Int.mul_zero, Int.zero_sub]; exact Int.dvd_neg.2 (Int.dvd_refl _)
  · rw [Int.mul_one, Int.sub_self]; exact ⟨0, by simp⟩
theorem ei_start2 (m : Nat) (a : Nat) (ha : a ≤ m) (hm : 1 ≤ m) : EI m a a m 1 0 := by
  refine ⟨ha, Nat.le_refl _, ?_, ?_, by omega, by simpa using hm, by simp, by simp, by simp⟩
  · rw [Int.mul_one, Int.sub_self]; exact ⟨0, by simp⟩
  · rw [Int.mul_zero, Int.zero_sub]; exact Int.dvd_neg.2 (Int.dvd_refl _)

/-- What the reference's inverse returns. -/
def InvPost (A m : Int) (w : World) (e : Ending) (w' : World) : Prop := ∃ (v : Int) (ok : Bool), e = .returned (.tuple #[.int .i64 v, .bool ok]) ∧ (ok = true ∧ v = invV A m ∧ invV A m ≠ 0 ∨ ok = false ∧ invV A m = 0) ∧ w = w'

/-- InverseMod's guard and values. -/
def imG (a m : Int) : Bool := inR m 2 2000000000 && inR a 0 (m - 1)
noncomputable def imV (a m : Int) : Int := if imG a m then invV a m else 0
noncomputable def imK (a m : Int) : Bool := open Classical in imG a m && decide (invV a m ≠ 0)
end Go.Proofs.YtnhdohjlbchniaaGreat
