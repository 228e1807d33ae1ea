/- Plain laws of groups: inverses cancel, powers have the order of the group, the group of an order is one. No program in sight. -/
import Derived.Test.YticimniegecfeaaGrpP
import Derived.Test.YticimniegecfeaaMkG
namespace Go.Proofs.Yticimniegecfeaa
open Go.RowKit

theorem neg1_mod {q : Int} (h : 1 ≤ q) : (-1 : Int) % q = q - 1 := by
  rw [show (-1 : Int) = (q - 1) + q * (-1) by omega, Int.add_mul_emod_self_left, Int.emod_eq_of_lt (by omega) (by omega)]
theorem inv_law {p q g x : Int} (h : grpB p q g = true) (hx : elB p q x = true) :
    elB p q (gpw p q x (-1)) = true ∧ gmul p [x, gpw p q x (-1)] = 1 ∧ gpw p q x (q - 1) = gpw p q x (-1) := by
  have hG := grpB_in h
  obtain ⟨P, rfl⟩ := Int.eq_ofNat_of_zero_le (show 0 ≤ p by have := hG.p3; omega)
  obtain ⟨Q, rfl⟩ := Int.eq_ofNat_of_zero_le (show 0 ≤ q by have := hG.q2; omega)
  have hP : 3 ≤ P := by have := hG.p3; omega
  have hQ : 2 ≤ Q := by have := hG.q2; omega
  obtain ⟨X, rfl, hXP, hX⟩ := (el_nat (P := P) (Q := Q) (by omega) (by omega)).1 hx
  have e1 : gpw P Q X (-1) = ((X ^ (Q - 1) % P : Nat) : Int) := by
    unfold gpw
    rw [neg1_mod (by omega), show (Q : Int) - 1 = ((Q - 1 : Nat) : Int) by omega, powM_nat]
  have e2 : gpw P Q X ((Q : Int) - 1) = ((X ^ (Q - 1) % P : Nat) : Int) := by
    unfold gpw
    rw [Int.emod_eq_of_lt (by omega) (by omega), show (Q : Int) - 1 = ((Q - 1 : Nat) : Int) by omega, powM_nat]
  refine ⟨?_, ?_, by rw [e1, e2]⟩
  · rw [e1]
    refine el_mk (by omega) (by omega) ?_
    have := pow_el (by omega) hX (Q - 1)
    rw [← Nat.pow_mod] at this
    exact this
  · rw [e1, gmul_two, Nat.mul_mod, Nat.mod_mod, ← Nat.mul_mod, Nat.mul_comm, ← Nat.pow_succ, show (Q - 1).succ = Q by omega, hX]
    rfl
/-- The group of an order is one. -/
theorem mk_valid {q : Int} {P t h : Nat} (hq : (inR q 2 1000000 && primeB q) = true) (h1 : IsMk q.toNat P) (h2 : P = q.toNat * t + 1) (h3 : IsGen P t h) : grpB P q (powM h t P) = true := by
  rw [Bool.and_eq_true] at hq
  have hq1 := inR_iff.1 hq.1
  obtain ⟨Q, rfl⟩ := Int.eq_ofNat_of_zero_le (show 0 ≤ q by omega)
  rw [Int.toNat_natCast] at h1 h2
  obtain ⟨t', t1, e, hb, hp, _⟩ := h1
  have ht : t = t' := Nat.eq_of_mul_eq_mul_left (show 0 < Q by omega) (by omega)
  subst ht
  have htb := mk_bd (q := Q) (t := t) (by omega) (by rw [← h2]; exact hp) t1
  rw [← h2] at htb
  obtain ⟨h0, g1, g2, g3⟩ := nonroot hp t1 htb
  have hh : h ≤ h0 := Nat.le_of_not_lt fun hh => g3 (h3.2.2 h0 g1 hh)
  have hQt : Q * 1 ≤ Q * t := Nat.mul_le_mul_left Q t1
  have hfer := fermatN hp (x := h) (by rw [Nat.mod_eq_of_lt (by omega)]; have := h3.1; omega)
  have hpm : (h ^ t % P) ^ Q % P = 1 := by
    rw [← Nat.pow_mod, ← Nat.pow_mul, show t * Q = P - 1 by rw [h2, Nat.add_sub_cancel, Nat.mul_comm]]; exact hfer
  have hlt := Nat.mod_lt (h ^ t) (show 0 < P by omega)
  have h0' : h ^ t % P ≠ 0 := fun e0 => by
    rw [e0, Nat.zero_pow (by omega), Nat.zero_mod] at hpm
    omega
  have h1' := h3.2.1
  rw [powM_nat]
  generalize h ^ t % P = G at *
  unfold grpB
  simp only [Bool.and_eq_true, decide_eq_true_eq]
  refine ⟨inR_iff.2 ⟨by omega, by omega⟩, inR_iff.2 ⟨by omega, by omega⟩, ?_, inR_iff.2 ⟨by omega, by omega⟩, ?_, hq.2, primeB_iff.2 (by rw [Int.toNat_natCast]; exact hp)⟩
  · rw [show (P : Int) - 1 = (Q : Int) * (t : Int) by rw [← Int.natCast_mul]; omega, Int.mul_emod_right]
  · rw [powM_nat, hpm]; rfl
/-- What MakeGroup returns is read as three numbers; if it is a group, a valid one of the order. -/
theorem mk_out {q : Int} {v : Value} {ok : Bool} (h : MkOut q v ok) : ∃ a b c : Int, v = .agg #[.int .i64 a, .int .i64 b, .int .i64 c] ∧ (ok = true → grpB a b c = true ∧ b = q) := by
  rcases h with ⟨h0, P, t, s, h1, h2, h3, rfl, rfl⟩ | ⟨_, rfl, rfl⟩
  · exact ⟨P, q, powM s t P, rfl, fun _ => ⟨mk_valid h0 h1 h2 h3, rfl⟩⟩
  · exact ⟨0, 0, 0, rfl, fun h => by cases h⟩
end Go.Proofs.Yticimniegecfeaa
