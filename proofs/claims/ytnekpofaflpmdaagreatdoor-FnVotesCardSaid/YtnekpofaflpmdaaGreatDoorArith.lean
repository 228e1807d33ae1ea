/- Plain arithmetic: primes by trial division, powers modulo a number, residues. No program in sight. -/
import Derived.Test.YtnekpofaflpmdaaGreatDoorBase
namespace Go.Proofs.YtnekpofaflpmdaaGreatDoor

def PrimeN (n : Nat) : Prop := 2 ≤ n ∧ ∀ d, 2 ≤ d → d < n → ¬ d ∣ n
open Classical in
noncomputable def primeB (n : Int) : Bool := decide (PrimeN n.toNat)
theorem primeB_iff {n : Int} : primeB n = true ↔ PrimeN n.toNat := by unfold primeB; exact @decide_eq_true_iff _ (Classical.propDecidable _)
theorem primeB_iff' {n : Int} : primeB n = false ↔ ¬ PrimeN n.toNat := by unfold primeB; exact @decide_eq_false_iff_not _ (Classical.propDecidable _)

theorem prime_of_trial {n d : Nat} (h2 : 2 ≤ n) (hd : n < d * d) (h : ∀ e, 2 ≤ e → e < d → ¬ e ∣ n) : PrimeN n := by
  refine ⟨h2, fun e he hen hdv => ?_⟩
  by_cases hed : e < d
  · exact h e he hed hdv
  · obtain ⟨c, rfl⟩ := hdv
    have hc : c < d := by
      refine Nat.lt_of_not_le fun hdc => ?_
      have : d * d ≤ e * c := Nat.mul_le_mul (by omega) hdc
      omega
    have hc2 : 2 ≤ c := by
      refine Nat.lt_of_not_le fun h1 => ?_
      have : c = 0 ∨ c = 1 := by omega
      rcases this with rfl | rfl
      · omega
      · omega
    exact h c hc2 hc ⟨e, Nat.mul_comm _ _⟩
theorem not_prime_of_div {n d : Nat} (hd : 2 ≤ d) (hdn : d * d ≤ n) (h : n % d = 0) : ¬ PrimeN n := by
  intro hp
  have : d < n := Nat.lt_of_lt_of_le (by
    have : d * 2 ≤ d * d := Nat.mul_le_mul (Nat.le_refl _) hd
    omega : d < d * d) hdn
  exact hp.2 d hd this (Nat.dvd_of_mod_eq_zero h)
theorem trial_step {n d : Nat} (h : ∀ e, 2 ≤ e → e < d → ¬ e ∣ n) (hd : n % d ≠ 0) : ∀ e, 2 ≤ e → e < d + 1 → ¬ e ∣ n := by
  intro e he hed hdv
  by_cases hh : e = d
  · subst hh; exact hd (Nat.mod_eq_zero_of_dvd hdv)
  · exact h e he (by omega) hdv
theorem trial_step2 {n d : Nat} (h : ∀ e, 2 ≤ e → e < d → ¬ e ∣ n) (hd : n % d ≠ 0) (ho : d % 2 = 1) (hn : n % 2 = 1) : ∀ e, 2 ≤ e → e < d + 2 → ¬ e ∣ n := by
  intro e he hed hdv
  by_cases hh : e = d + 1
  · subst hh
    have h2 : 2 ∣ d + 1 := Nat.dvd_of_mod_eq_zero (by omega)
    have := Nat.mod_eq_zero_of_dvd (Nat.dvd_trans h2 hdv)
    omega
  · exact trial_step h hd e he (by omega) hdv

/-- Powers modulo m. -/
def powM (a e m : Int) : Int := ((a.toNat ^ e.toNat % m.toNat : Nat) : Int)

theorem mul_pow_mod (x y k m : Nat) : (x % m) * (y % m) ^ k % m = x * y ^ k % m := by
  rw [Nat.mul_mod, Nat.mod_mod, ← Nat.pow_mod, ← Nat.mul_mod]
theorem pow_half_even (out a m e : Nat) (h : e % 2 = 0) : out * (a * a % m) ^ (e / 2) % m = out * a ^ e % m := by
  have h1 : e = 2 * (e / 2) := by omega
  conv => rhs; rw [h1, Nat.pow_mul]
  rw [Nat.mul_mod, ← Nat.pow_mod, ← Nat.mul_mod, Nat.pow_two]
theorem pow_half_odd (out a m e : Nat) (h : e % 2 = 1) : (out * a % m) * (a * a % m) ^ (e / 2) % m = out * a ^ e % m := by
  have h1 : e = 2 * (e / 2) + 1 := by omega
  conv => rhs; rw [h1, Nat.pow_succ, Nat.pow_mul]
  rw [mul_pow_mod, ← Nat.pow_two, Nat.mul_assoc, Nat.mul_comm a]
end Go.Proofs.YtnekpofaflpmdaaGreatDoor
