/- Plain facts about powers modulo a prime, elements of a group, and the group of an order. No program in sight. -/
import Derived.Test.YtnhdohjlbchniaaGreatGrp
import Derived.Test.YtnhdohjlbchniaaGreatFer
namespace Go.Proofs.YtnhdohjlbchniaaGreat

theorem powM_nat (x e m : Nat) : powM x e m = ((x ^ e % m : Nat) : Int) := by simp [powM]
theorem pow_red {X Q P : Nat} (hP : 2 ≤ P) (h : X ^ Q % P = 1) (e : Nat) : X ^ e % P = X ^ (e % Q) % P := by
  conv => lhs; rw [← Nat.div_add_mod e Q, Nat.pow_add, Nat.pow_mul]
  rw [Nat.mul_mod, Nat.pow_mod (X ^ Q), h, Nat.one_pow, Nat.mod_eq_of_lt (show 1 < P by omega), Nat.one_mul, Nat.mod_mod]
theorem pow_el {X Q P : Nat} (hP : 2 ≤ P) (h : X ^ Q % P = 1) (e : Nat) : (X ^ e % P) ^ Q % P = 1 := by
  rw [← Nat.pow_mod, ← Nat.pow_mul, Nat.mul_comm, Nat.pow_mul, Nat.pow_mod, h, Nat.one_pow, Nat.mod_eq_of_lt (by omega)]
theorem mul_el {X Y Q P : Nat} (hP : 2 ≤ P) (h : X ^ Q % P = 1) (k : Y ^ Q % P = 1) : (X * Y % P) ^ Q % P = 1 := by
  rw [← Nat.pow_mod, Nat.mul_pow, Nat.mul_mod, h, k, Nat.mod_eq_of_lt (by omega)]
theorem el_pos {X Q P : Nat} (hQ : 1 ≤ Q) (h : X ^ Q % P = 1) : X % P ≠ 0 := fun h0 => by
  rw [Nat.pow_mod, h0, Nat.zero_pow (by omega), Nat.zero_mod] at h
  omega

/-- An element of the group. -/
def elB (p q x : Int) : Bool := inR x 1 (p - 1) && decide (powM x q p = 1)
theorem elB_iff {p q x : Int} : elB p q x = true ↔ (1 ≤ x ∧ x ≤ p - 1) ∧ powM x q p = 1 := by
  unfold elB
  rw [Bool.and_eq_true, inR_iff, decide_eq_true_iff]
/-- In natural numbers. -/
theorem el_nat {P Q : Nat} (_hP : 2 ≤ P) (hQ : 1 ≤ Q) {x : Int} : elB P Q x = true ↔ ∃ X : Nat, x = X ∧ X < P ∧ X ^ Q % P = 1 := by
  rw [elB_iff]
  constructor
  · rintro ⟨⟨h1, h2⟩, h3⟩
    obtain ⟨X, rfl⟩ := Int.eq_ofNat_of_zero_le (show 0 ≤ x by omega)
    rw [powM_nat] at h3
    exact ⟨X, rfl, by omega, by omega⟩
  · rintro ⟨X, rfl, h1, h2⟩
    have h3 := el_pos hQ h2
    rw [Nat.mod_eq_of_lt h1] at h3
    exact ⟨by omega, by rw [powM_nat]; omega⟩
theorem el_mk {P Q : Nat} (hP : 2 ≤ P) (hQ : 1 ≤ Q) {X : Nat} (h : X ^ Q % P = 1) : elB P Q ((X % P : Nat) : Int) = true :=
  (el_nat hP hQ).2 ⟨X % P, rfl, Nat.mod_lt _ (by omega), by rw [← Nat.pow_mod]; exact h⟩

/-- A power with any exponent; a product. -/
def gpw (p q x e : Int) : Int := powM x (e % q) p
def gmul (p : Int) (l : List Int) : Int := l.foldl (fun o x => o * x % p) 1
theorem gpw_nat {P Q : Nat} (X : Nat) (E : Nat) : gpw P Q X E = ((X ^ (E % Q) % P : Nat) : Int) := by
  unfold gpw
  rw [show ((E : Int) % (Q : Int)) = ((E % Q : Nat) : Int) by simp, powM_nat]
theorem gmul_two {P : Nat} (X Y : Nat) : gmul P [(X : Int), (Y : Int)] = ((X * Y % P : Nat) : Int) := by
  simp only [gmul, List.foldl, Int.one_mul]
  push_cast
  rw [Int.mul_emod, Int.emod_emod_of_dvd _ (Int.dvd_refl _), ← Int.mul_emod]
end Go.Proofs.YtnhdohjlbchniaaGreat
