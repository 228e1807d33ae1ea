/- Plain laws of encryption: decryption inverts encryption, re-encryption keeps the message. No program in sight. -/
import Derived.Test.YthamimjejlicpaaGrpP
namespace Go.Proofs.Ythamimjejlicpaa

/-- Equal modulo P. -/
def eqm (P a b : Nat) : Prop := a % P = b % P
theorem eqm.refl (P a : Nat) : eqm P a a := rfl
theorem eqm.symm {P a b : Nat} (h : eqm P a b) : eqm P b a := Eq.symm h
theorem eqm.trans {P a b c : Nat} (h : eqm P a b) (k : eqm P b c) : eqm P a c := Eq.trans h k
theorem eqm.of_eq {P a b : Nat} (h : a = b) : eqm P a b := by rw [h]; rfl
theorem eqm.mul {P a b c d : Nat} (h : eqm P a b) (k : eqm P c d) : eqm P (a * c) (b * d) := by
  unfold eqm at *
  rw [Nat.mul_mod, h, k, ← Nat.mul_mod]
theorem eqm.pow {P a b : Nat} (h : eqm P a b) (e : Nat) : eqm P (a ^ e) (b ^ e) := by
  unfold eqm at *
  rw [Nat.pow_mod, h, ← Nat.pow_mod]
theorem eqm.mod (P a : Nat) : eqm P (a % P) a := Nat.mod_mod _ _
/-- A power of an element whose exponent is a multiple of the order. -/
theorem eqm.one {X Q P : Nat} (_hP : 2 ≤ P) (h : X ^ Q % P = 1) (k : Nat) : eqm P (X ^ (Q * k)) 1 := by
  unfold eqm
  rw [Nat.pow_mul, Nat.pow_mod, h, Nat.one_pow]

theorem elB_pw {p q g x e : Int} (h : grpB p q g = true) (hx : elB p q x = true) : elB p q (gpw p q x e) = true := by
  have hG := grpB_in h
  obtain ⟨P, rfl⟩ := Int.eq_ofNat_of_zero_le (show 0 ≤ p by have := hG.p3; omega)
  obtain ⟨Q, rfl⟩ := Int.eq_ofNat_of_zero_le (show 0 ≤ q by have := hG.q2; omega)
  have hP : 3 ≤ P := by have := hG.p3; omega
  have hQ : 2 ≤ Q := by have := hG.q2; omega
  obtain ⟨X, rfl, hXP, hX⟩ := (el_nat (P := P) (Q := Q) (by omega) (by omega)).1 hx
  obtain ⟨E, hE⟩ := Int.eq_ofNat_of_zero_le (Int.emod_nonneg e (show (Q : Int) ≠ 0 by omega))
  have e1 : gpw P Q X e = ((X ^ E % P : Nat) : Int) := by
    unfold gpw
    rw [hE, powM_nat]
  rw [e1]
  refine el_mk (by omega) (by omega) ?_
  have := pow_el (by omega) hX E
  rw [← Nat.pow_mod] at this
  exact this
theorem elB_mul {p q g x y : Int} (h : grpB p q g = true) (hx : elB p q x = true) (hy : elB p q y = true) : elB p q (gmul p [x, y]) = true := by
  have hG := grpB_in h
  obtain ⟨P, rfl⟩ := Int.eq_ofNat_of_zero_le (show 0 ≤ p by have := hG.p3; omega)
  obtain ⟨Q, rfl⟩ := Int.eq_ofNat_of_zero_le (show 0 ≤ q by have := hG.q2; omega)
  have hP : 3 ≤ P := by have := hG.p3; omega
  have hQ : 2 ≤ Q := by have := hG.q2; omega
  obtain ⟨X, rfl, hXP, hX⟩ := (el_nat (P := P) (Q := Q) (by omega) (by omega)).1 hx
  obtain ⟨Y, rfl, hYP, hY⟩ := (el_nat (P := P) (Q := Q) (by omega) (by omega)).1 hy
  rw [gmul_two]
  refine el_mk (by omega) (by omega) ?_
  have := mul_el (by omega) hX hY
  rw [← Nat.pow_mod] at this
  exact this
theorem elB_gen {p q g : Int} (h : grpB p q g = true) : elB p q g = true := by
  have hG := grpB_in h
  exact elB_iff.2 ⟨⟨by have := hG.g2; omega, hG.gp⟩, hG.gq⟩
theorem elB_one {p q g : Int} (h : grpB p q g = true) : elB p q 1 = true := by
  have hG := grpB_in h
  refine elB_iff.2 ⟨⟨by omega, by have := hG.p3; omega⟩, ?_⟩
  obtain ⟨P, rfl⟩ := Int.eq_ofNat_of_zero_le (show 0 ≤ p by have := hG.p3; omega)
  obtain ⟨Q, rfl⟩ := Int.eq_ofNat_of_zero_le (show 0 ≤ q by have := hG.q2; omega)
  have := powM_nat 1 Q P
  rw [Nat.one_pow, Nat.mod_eq_of_lt (by have := hG.p3; omega)] at this
  exact this

theorem gpw_neg1 {P Q : Nat} (hQ : 1 ≤ Q) (X : Nat) : gpw P Q X (-1) = ((X ^ (Q - 1) % P : Nat) : Int) := by
  unfold gpw
  rw [show (-1 : Int) = ((Q : Int) - 1) + Q * (-1) by omega, Int.add_mul_emod_self_left, Int.emod_eq_of_lt (by omega) (by omega), show (Q : Int) - 1 = ((Q - 1 : Nat) : Int) by omega, powM_nat]

/-- The element of a ciphertext. -/
def gdec (p q x a b : Int) : Int := gmul p [b, gpw p q (gpw p q a x) (-1)]
/-- A ciphertext. -/
def gencA (p q g r : Int) : Int := gpw p q g r
def gencB (p q k m r : Int) : Int := gmul p [m, gpw p q k r]

theorem gdec_nat {P Q : Nat} (hQ : 1 ≤ Q) (X A B : Nat) : gdec P Q X A B = ((B * ((A ^ (X % Q)) ^ (Q - 1)) % P : Nat) : Int) := by
  unfold gdec
  rw [gpw_nat, gpw_neg1 hQ, gmul_two]
  congr 1
  exact (eqm.refl P B).mul ((eqm.mod P _).trans ((eqm.mod P _).pow _))

theorem enc_key {P Q X R : Nat} {G _M : Nat} (hP : 2 ≤ P) (hQ : 2 ≤ Q) (hX : X < Q) (hR : R < Q) (hG : G ^ Q % P = 1) {A B : Nat} :
    eqm P ((B * ((G ^ X) ^ R)) * (((A * G ^ R) ^ X) ^ (Q - 1))) (B * ((A ^ X) ^ (Q - 1))) := by
  have h1 := eqm.one hP hG (X * R)
  have h2 : (B * ((G ^ X) ^ R)) * (((A * G ^ R) ^ X) ^ (Q - 1)) = (B * ((A ^ X) ^ (Q - 1))) * G ^ (Q * (X * R)) := by
    have h3 : G ^ (Q * (X * R)) = (G ^ X) ^ R * (((G ^ R) ^ X) ^ (Q - 1)) := by
      rw [← Nat.pow_mul, ← Nat.pow_mul, ← Nat.pow_mul, ← Nat.pow_add]
      congr 1
      obtain ⟨q, rfl⟩ : ∃ q, Q = q + 1 := ⟨Q - 1, by omega⟩
      rw [Nat.add_sub_cancel, Nat.add_mul, Nat.one_mul]
      have h5 : R * (X * q) = q * (X * R) := by rw [← Nat.mul_assoc, Nat.mul_comm R X, Nat.mul_comm]
      omega
    rw [h3, Nat.mul_pow, Nat.mul_pow]
    simp only [Nat.mul_assoc, Nat.mul_left_comm]
  rw [h2]
  have h4 := (eqm.refl P (B * ((A ^ X) ^ (Q - 1)))).mul h1
  rw [Nat.mul_one] at h4
  exact h4

theorem enc_laws {p q g x a b r s : Int} (h : grpB p q g = true) (hx : inR x 0 (q - 1) = true) (ha : elB p q a = true) (hb : elB p q b = true) (hr : inR r 0 (q - 1) = true) (hs : inR s 0 (q - 1) = true) :
    gdec p q x (gmul p [a, gpw p q g r]) (gmul p [b, gencB p q (gpw p q g x) 1 r]) = gdec p q x a b ∧
    gdec p q x (gencA p q g s) (gencB p q (gpw p q g x) (gdec p q x a b) s) = gdec p q x a b := by
  have hG := grpB_in h
  obtain ⟨P, rfl⟩ := Int.eq_ofNat_of_zero_le (show 0 ≤ p by have := hG.p3; omega)
  obtain ⟨Q, rfl⟩ := Int.eq_ofNat_of_zero_le (show 0 ≤ q by have := hG.q2; omega)
  have hP : 3 ≤ P := by have := hG.p3; omega
  have hQ : 2 ≤ Q := by have := hG.q2; omega
  obtain ⟨A, rfl, hAP, hA⟩ := (el_nat (P := P) (Q := Q) (by omega) (by omega)).1 ha
  obtain ⟨B, rfl, hBP, hB⟩ := (el_nat (P := P) (Q := Q) (by omega) (by omega)).1 hb
  obtain ⟨G, rfl, hGP, hGQ⟩ := (el_nat (P := P) (Q := Q) (by omega) (by omega)).1 (elB_gen h)
  have hx' := inR_iff.1 hx
  have hr' := inR_iff.1 hr
  have hs' := inR_iff.1 hs
  obtain ⟨X, rfl⟩ := Int.eq_ofNat_of_zero_le hx'.1
  obtain ⟨R, rfl⟩ := Int.eq_ofNat_of_zero_le hr'.1
  obtain ⟨S, rfl⟩ := Int.eq_ofNat_of_zero_le hs'.1
  have hXQ : X < Q := by omega
  have hRQ : R < Q := by omega
  have hSQ : S < Q := by omega
  constructor
  · unfold gencB
    rw [gpw_nat, gpw_nat, gpw_nat, show (1 : Int) = ((1 : Nat) : Int) from rfl, gmul_two, gmul_two, gmul_two, gdec_nat (by omega), gdec_nat (by omega)]
    congr 1
    rw [Nat.mod_eq_of_lt hXQ, Nat.mod_eq_of_lt hRQ]
    have h1 : eqm P (B * (1 * ((G ^ X % P) ^ R % P) % P) % P) (B * ((G ^ X) ^ R)) := (eqm.mod P _).trans ((eqm.refl P B).mul ((eqm.mod P _).trans (by rw [Nat.one_mul]; exact (eqm.mod P _).trans ((eqm.mod P _).pow R))))
    have h2 : eqm P (A * (G ^ R % P) % P) (A * G ^ R) := (eqm.mod P _).trans ((eqm.refl P A).mul (eqm.mod P _))
    exact (h1.mul ((h2.pow X).pow (Q - 1))).trans (enc_key (_M := 0) (by omega) hQ hXQ hRQ hGQ)
  · unfold gencA gencB
    rw [gdec_nat (by omega) X A B, gpw_nat, gpw_nat, gpw_nat, gmul_two, gdec_nat (by omega)]
    congr 1
    rw [Nat.mod_eq_of_lt hXQ, Nat.mod_eq_of_lt hSQ]
    generalize hM : B * (A ^ X) ^ (Q - 1) = M
    have h1 : eqm P (M % P * ((G ^ X % P) ^ S % P) % P) (M * ((G ^ X) ^ S)) := (eqm.mod P _).trans ((eqm.mod P _).mul ((eqm.mod P _).trans ((eqm.mod P _).pow S)))
    have h2 : eqm P (G ^ S % P) (1 * G ^ S) := by rw [Nat.one_mul]; exact eqm.mod P _
    have h3 := (h1.mul ((h2.pow X).pow (Q - 1))).trans (enc_key (_M := 0) (A := 1) (by omega) hQ hXQ hSQ hGQ)
    rw [Nat.one_pow, Nat.one_pow, Nat.mul_one] at h3
    exact h3
end Go.Proofs.Ythamimjejlicpaa
