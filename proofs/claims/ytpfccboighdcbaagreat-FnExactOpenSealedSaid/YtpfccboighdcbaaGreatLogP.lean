/- Plain: the least logarithm up to a bound. No program in sight. -/
import Derived.Test.YtpfccboighdcbaaGreatArith
namespace Go.Proofs.YtpfccboighdcbaaGreat
open Go.RowKit

/-- The least logarithm up to M. -/
def lgO (P G X M : Nat) : Option Nat := (List.range (M + 1)).find? fun e => G ^ e % P == X
theorem pow_per {P G k : Nat} (hP : 2 ≤ P) (h : G ^ k % P = 1) (j : Nat) : G ^ j % P = G ^ (j % k) % P := by
  have h1 : G ^ j = (G ^ k) ^ (j / k) * G ^ (j % k) := by rw [← Nat.pow_mul, ← Nat.pow_add, Nat.div_add_mod]
  have h2 : (G ^ k) ^ (j / k) % P = 1 := by
    rw [Nat.pow_mod, h, Nat.one_pow]; exact Nat.mod_eq_of_lt (by omega)
  rw [h1, Nat.mul_mod, h2, Nat.one_mul, Nat.mod_mod]
theorem lgO_some {P G X M e : Nat} (he : e ≤ M) (hx : G ^ e % P = X) (hn : ∀ j, j < e → G ^ j % P ≠ X) : lgO P G X M = some e := by
  unfold lgO
  rw [List.find?_range_eq_some]
  exact ⟨by simp [hx], by simp; omega, fun j hj => by simp [hn j hj]⟩
theorem lgO_none {P G X M : Nat} (hn : ∀ j, j ≤ M → G ^ j % P ≠ X) : lgO P G X M = none := by
  unfold lgO
  rw [List.find?_eq_none]
  intro j hj
  rw [List.mem_range] at hj
  simp [hn j (by omega)]
theorem lgO_le {P G X M e : Nat} (h : lgO P G X M = some e) : e ≤ M ∧ G ^ e % P = X := by
  unfold lgO at h
  have h1 := List.mem_of_find?_eq_some h
  have h2 := List.find?_some h
  rw [List.mem_range] at h1
  exact ⟨by omega, by simpa using h2⟩
/-- A cycle that does not hit. -/
theorem lgO_cyc {P G X M k : Nat} (hP : 2 ≤ P) (hk : 0 < k) (h : G ^ k % P = 1) (hn : ∀ j, j < k → G ^ j % P ≠ X) : lgO P G X M = none :=
  lgO_none fun j _ => by rw [pow_per hP h]; exact hn _ (Nat.mod_lt _ hk)
/-- Past the order nothing new comes. -/
theorem lgO_min {P G X M Q : Nat} (hP : 2 ≤ P) (hQ : 0 < Q) (h : G ^ Q % P = 1) : lgO P G X (min M (Q - 1)) = lgO P G X M := by
  cases h1 : lgO P G X (min M (Q - 1)) with
  | some e =>
    have h2 := h1
    unfold lgO at h1
    rw [List.find?_range_eq_some] at h1
    obtain ⟨ha, hb, hc⟩ := h1
    refine (lgO_some ?_ (by simpa using ha) fun j hj => by simpa using hc j hj).symm
    have := (lgO_le h2).1
    omega
  | none =>
    unfold lgO at h1
    rw [List.find?_eq_none] at h1
    refine (Eq.symm ?_)
    rcases Nat.lt_or_ge M Q with hq | hq
    · refine lgO_none fun j hj => ?_
      have := h1 j (by rw [List.mem_range]; omega)
      simpa using this
    · refine lgO_cyc hP hQ h fun j hj => ?_
      have := h1 j (by rw [List.mem_range]; omega)
      simpa using this
end Go.Proofs.YtpfccboighdcbaaGreat
