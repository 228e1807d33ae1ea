/- Contracts for CountVotes, all kinds: the program's and the reference's. -/
import Derived.Test.YtpfccboighdcbaaGreatProg
import Derived.Test.YtpfccboighdcbaaGreatCnt
namespace Go.Proofs.YtpfccboighdcbaaGreat
open Go.RowKit





noncomputable def cvVal (a b c d f : Int) : Int := if validCt a b c d f then cntV a b.toNat c.toNat d.toNat f.toNat else 0
theorem valid_more {a : Int} {b c d f : Nat} (h : validCt a b c d f = true) : c ≤ d ∧ b ≤ 8 ∧ f ≤ 5 ∧ (a = 1 → d ≤ b) ∧ (a = 2 → d ≤ b * f) ∧ (a = 3 → d ≤ b) ∧ (a = 4 → d ≤ 5) := by
  obtain ⟨_, h2, h3, h4, h5, _⟩ := valid_kind h
  rw [validCt_iff] at h
  obtain ⟨g1, g2, g3⟩ := h
  refine ⟨by omega, by omega, by omega, fun e => ?_, fun e => ?_, fun e => ?_, fun e => ?_⟩
  · subst e; omega
  · subst e
    have hm : (b : Int) * f ≤ 8 * 5 := Int.mul_le_mul h3 h5 (by omega) (by omega)
    have hm0 : 0 ≤ (b : Int) * f := Int.mul_nonneg (by omega) (by omega)
    have hw : wrap64 ((b : Int) * f) = (b : Int) * f := by simp only [wrap64]; omega
    rw [hw] at g3
    have hc : ((b * f : Nat) : Int) = (b : Int) * f := Int.natCast_mul _ _
    omega
  · subst e; omega
  · subst e; omega
end Go.Proofs.YtpfccboighdcbaaGreat
