/- Plain laws of encryption: decryption inverts encryption, re-encryption keeps the message. No program in sight. Plain laws of transcripts: the extracted exponent belongs to the element, simulated transcripts are accepted. No program in sight. -/
import Derived.Test.YtnhdohjlbchniaaGreatGrpP
import Derived.Test.YtnhdohjlbchniaaGreatFer
namespace Go.Proofs.YtnhdohjlbchniaaGreat
section
/-- Equal modulo P. -/
def eqm (P a b : Nat) : Prop := a % P = b % P
theorem eqm.refl (P a : Nat) : eqm P a a := rfl
theorem eqm.symm {P a b : Nat} (h : eqm P a b) : eqm P b a := Eq.symm h
theorem eqm.trans {P a b c : Nat} (h : eqm P a b) (k : eqm P b c) : eqm P a c := Eq.trans h k
theorem eqm.of_eq {P a b : Nat} (h : a = b) : eqm P a b := by rw [h]; rfl
theorem eqm.mul {P a b c d : Nat} (h : eqm P a b) (k : eqm P c d) : eqm P (a * c) (b * d) := by
  unfold eqm at *
  rw [Nat.mul_mod, h, k, ← Nat.mul_mod]
theorem eqm.pow {P a b : Nat} (h : eqm P a b) (e : Nat) : eqm P (a ^ e) (b ^ e) := by
  unfold eqm at *
  rw [Nat.pow_mod, h, ← Nat.pow_mod]
theorem eqm.mod (P a : Nat) : eqm P (a % P) a := Nat.mod_mod _ _
/-- A power of an element whose exponent is a multiple of the order. -/
theorem eqm.one {X Q P : Nat} (_hP : 2 ≤ P) (h : X ^ Q % P = 1) (k : Nat) : eqm P (X ^ (Q * k)) 1 := by
  unfold eqm
  rw [Nat.pow_mul, Nat.pow_mod, h, Nat.one_pow]

theorem elB_pw {p q g x e : Int} (h : grpB p q g = true) (hx : elB p q x = true) : elB p q (gpw p q x e) = true := by
  have hG := grpB_in h
  obtain ⟨P, rfl⟩ := Int.eq_ofNat_of_zero_le (show 0 ≤ p by have := hG.p3; omega)
  obtain ⟨Q, rfl⟩ := Int.eq_ofNat_of_zero_le (show 0 ≤ q by have := hG.q2; omega)
  have hP : 3 ≤ P := by have := hG.p3; omega
  have hQ : 2 ≤ Q := by have := hG.q2; omega
  obtain ⟨X, rfl, hXP, hX⟩ := (el_nat (P := P) (Q := Q) (by omega) (by omega)).1 hx
  obtain ⟨E, hE⟩ := Int.eq_ofNat_of_zero_le (Int.emod_nonneg e (show (Q : Int) ≠ 0 by omega))
  have e1 : gpw P Q X e = ((X ^ E % P : Nat) : Int) := by
    unfold gpw
    rw [hE, powM_nat]
  rw [e1]
  refine el_mk (by omega) (by omega) ?_
  have := pow_el (by omega) hX E
  rw [← Nat.pow_mod] at this
  exact this
theorem elB_mul {p q g x y : Int} (h : grpB p q g = true) (hx : elB p q x = true) (hy : elB p q y = true) : elB p q (gmul p [x, y]) = true := by
  have hG := grpB_in h
  obtain ⟨P, rfl⟩ := Int.eq_ofNat_of_zero_le (show 0 ≤ p by have := hG.p3; omega)
  obtain ⟨Q, rfl⟩ := Int.eq_ofNat_of_zero_le (show 0 ≤ q by have := hG.q2; omega)
  have hP : 3 ≤ P := by have := hG.p3; omega
  have hQ : 2 ≤ Q := by have := hG.q2; omega
  obtain ⟨X, rfl, hXP, hX⟩ := (el_nat (P := P) (Q := Q) (by omega) (by omega)).1 hx
  obtain ⟨Y, rfl, hYP, hY⟩ := (el_nat (P := P) (Q := Q) (by omega) (by omega)).1 hy
  rw [gmul_two]
  refine el_mk (by omega) (by omega) ?_
  have := mul_el (by omega) hX hY
  rw [← Nat.pow_mod] at this
  exact this
theorem elB_gen {p q g : Int} (h : grpB p q g = true) : elB p q g = true := by
  have hG := grpB_in h
  exact elB_iff.2 ⟨⟨by have := hG.g2; omega, hG.gp⟩, hG.gq⟩
theorem elB_one {p q g : Int} (h : grpB p q g = true) : elB p q 1 = true := by
  have hG := grpB_in h
  refine elB_iff.2 ⟨⟨by omega, by have := hG.p3; omega⟩, ?_⟩
  obtain ⟨P, rfl⟩ := Int.eq_ofNat_of_zero_le (show 0 ≤ p by have := hG.p3; omega)
  obtain ⟨Q, rfl⟩ := Int.eq_ofNat_of_zero_le (show 0 ≤ q by have := hG.q2; omega)
  have := powM_nat 1 Q P
  rw [Nat.one_pow, Nat.mod_eq_of_lt (by have := hG.p3; omega)] at this
  exact this

theorem gpw_neg1 {P Q : Nat} (hQ : 1 ≤ Q) (X : Nat) : gpw P Q X (-1) = ((X ^ (Q - 1) % P : Nat) : Int) := by
  unfold gpw
  rw [show (-1 : Int) = ((Q : Int) - 1) + Q * (-1) by omega, Int.add_mul_emod_self_left, Int.emod_eq_of_lt (by omega) (by omega), show (Q : Int) - 1 = ((Q - 1 : Nat) : Int) by omega, powM_nat]

/-- The element of a ciphertext. -/
def gdec (p q x a b : Int) : Int := gmul p [b, gpw p q (gpw p q a x) (-1)]
/-- A ciphertext. -/
def gencA (p q g r : Int) : Int := gpw p q g r
def gencB (p q k m r : Int) : Int := gmul p [m, gpw p q k r]

theorem gdec_nat {P Q : Nat} (hQ : 1 ≤ Q) (X A B : Nat) : gdec P Q X A B = ((B * ((A ^ (X % Q)) ^ (Q - 1)) % P : Nat) : Int) := by
  unfold gdec
  rw [gpw_nat, gpw_neg1 hQ, gmul_two]
  congr 1
  exact (eqm.refl P B).mul ((eqm.mod P _).trans ((eqm.mod P _).pow _))

theorem enc_key {P Q X R : Nat} {G _M : Nat} (hP : 2 ≤ P) (hQ : 2 ≤ Q) (hX : X < Q) (hR : R < Q) (hG : G ^ Q % P = 1) {A B : Nat} :
    eqm P ((B * ((G ^ X) ^ R)) * (((A * G ^ R) ^ X) ^ (Q - 1))) (B * ((A ^ X) ^ (Q - 1))) := by
  have h1 := eqm.one hP hG (X * R)
  have h2 : (B * ((G ^ X) ^ R)) * (((A * G ^ R) ^ X) ^ (Q - 1)) = (B * ((A ^ X) ^ (Q - 1))) * G ^ (Q * (X * R)) := by
    have h3 : G ^ (Q * (X * R)) = (G ^ X) ^ R * (((G ^ R) ^ X) ^ (Q - 1)) := by
      rw [← Nat.pow_mul, ← Nat.pow_mul, ← Nat.pow_mul, ← Nat.pow_add]
      congr 1
      obtain ⟨q, rfl⟩ : ∃ q, Q = q + 1 := ⟨Q - 1, by omega⟩
      rw [Nat.add_sub_cancel, Nat.add_mul, Nat.one_mul]
      have h5 : R * (X * q) = q * (X * R) := by rw [← Nat.mul_assoc, Nat.mul_comm R X, Nat.mul_comm]
      omega
    rw [h3, Nat.mul_pow, Nat.mul_pow]
    simp only [Nat.mul_assoc, Nat.mul_left_comm]
  rw [h2]
  have h4 := (eqm.refl P (B * ((A ^ X) ^ (Q - 1)))).mul h1
  rw [Nat.mul_one] at h4
  exact h4

theorem enc_laws {p q g x a b r s : Int} (h : grpB p q g = true) (hx : inR x 0 (q - 1) = true) (ha : elB p q a = true) (hb : elB p q b = true) (hr : inR r 0 (q - 1) = true) (hs : inR s 0 (q - 1) = true) :
    gdec p q x (gmul p [a, gpw p q g r]) (gmul p [b, gencB p q (gpw p q g x) 1 r]) = gdec p q x a b ∧
    gdec p q x (gencA p q g s) (gencB p q (gpw p q g x) (gdec p q x a b) s) = gdec p q x a b := by
  have hG := grpB_in h
  obtain ⟨P, rfl⟩ := Int.eq_ofNat_of_zero_le (show 0 ≤ p by have := hG.p3; omega)
  obtain ⟨Q, rfl⟩ := Int.eq_ofNat_of_zero_le (show 0 ≤ q by have := hG.q2; omega)
  have hP : 3 ≤ P := by have := hG.p3; omega
  have hQ : 2 ≤ Q := by have := hG.q2; omega
  obtain ⟨A, rfl, hAP, hA⟩ := (el_nat (P := P) (Q := Q) (by omega) (by omega)).1 ha
  obtain ⟨B, rfl, hBP, hB⟩ := (el_nat (P := P) (Q := Q) (by omega) (by omega)).1 hb
  obtain ⟨G, rfl, hGP, hGQ⟩ := (el_nat (P := P) (Q := Q) (by omega) (by omega)).1 (elB_gen h)
  have hx' := inR_iff.1 hx
  have hr' := inR_iff.1 hr
  have hs' := inR_iff.1 hs
  obtain ⟨X, rfl⟩ := Int.eq_ofNat_of_zero_le hx'.1
  obtain ⟨R, rfl⟩ := Int.eq_ofNat_of_zero_le hr'.1
  obtain ⟨S, rfl⟩ := Int.eq_ofNat_of_zero_le hs'.1
  have hXQ : X < Q := by omega
  have hRQ : R < Q := by omega
  have hSQ : S < Q := by omega
  constructor
  · unfold gencB
    rw [gpw_nat, gpw_nat, gpw_nat, show (1 : Int) = ((1 : Nat) : Int) from rfl, gmul_two, gmul_two, gmul_two, gdec_nat (by omega), gdec_nat (by omega)]
    congr 1
    rw [Nat.mod_eq_of_lt hXQ, Nat.mod_eq_of_lt hRQ]
    have h1 : eqm P (B * (1 * ((G ^ X % P) ^ R % P) % P) % P) (B * ((G ^ X) ^ R)) := (eqm.mod P _).trans ((eqm.refl P B).mul ((eqm.mod P _).trans (by rw [Nat.one_mul]; exact (eqm.mod P _).trans ((eqm.mod P _).pow R))))
    have h2 : eqm P (A * (G ^ R % P) % P) (A * G ^ R) := (eqm.mod P _).trans ((eqm.refl P A).mul (eqm.mod P _))
    exact (h1.mul ((h2.pow X).pow (Q - 1))).trans (enc_key (_M := 0) (by omega) hQ hXQ hRQ hGQ)
  · unfold gencA gencB
    rw [gdec_nat (by omega) X A B, gpw_nat, gpw_nat, gpw_nat, gmul_two, gdec_nat (by omega)]
    congr 1
    rw [Nat.mod_eq_of_lt hXQ, Nat.mod_eq_of_lt hSQ]
    generalize hM : B * (A ^ X) ^ (Q - 1) = M
    have h1 : eqm P (M % P * ((G ^ X % P) ^ S % P) % P) (M * ((G ^ X) ^ S)) := (eqm.mod P _).trans ((eqm.mod P _).mul ((eqm.mod P _).trans ((eqm.mod P _).pow S)))
    have h2 : eqm P (G ^ S % P) (1 * G ^ S) := by rw [Nat.one_mul]; exact eqm.mod P _
    have h3 := (h1.mul ((h2.pow X).pow (Q - 1))).trans (enc_key (_M := 0) (A := 1) (by omega) hQ hXQ hSQ hGQ)
    rw [Nat.one_pow, Nat.one_pow, Nat.mul_one] at h3
    exact h3
end
section
/-- A transcript is accepted. -/
def accB (p q b y t c z : Int) : Bool := gpw p q b z == gmul p [t, gpw p q y c]
theorem inv_prime {Q : Nat} (hQ : PrimeN Q) {D : Nat} (h0 : D ≠ 0) (hD : D < Q) : ∃ v : Nat, v < Q ∧ invV D Q = v ∧ D * v % Q = 1 := by
  have h2 := hQ.1
  have hf := fermatN hQ (x := D) (by rw [Nat.mod_eq_of_lt hD]; exact h0)
  have h1 : D * (D ^ (Q - 2) % Q) % Q = 1 := by
    rw [Nat.mul_mod, Nat.mod_mod, ← Nat.mul_mod, Nat.mul_comm, ← Nat.pow_succ, show (Q - 2).succ = Q - 1 by omega, hf]
  refine ⟨D ^ (Q - 2) % Q, Nat.mod_lt _ (by omega), ?_, h1⟩
  refine invV_eq ⟨by omega, ?_, ?_⟩
  · have := Nat.mod_lt (D ^ (Q - 2)) (show 0 < Q by omega)
    omega
  · rw [← Int.natCast_mul, ← Int.natCast_emod, h1]; rfl
theorem sub_emod {a b q : Nat} (hb : b ≤ q) : ((a : Int) - b) % (q : Int) = (((a + (q - b)) % q : Nat) : Int) := by
  have h1 : (a : Int) - b = ((a + (q - b) : Nat) : Int) + (q : Int) * (-1) := by omega
  rw [h1, Int.add_mul_emod_self_left, Int.natCast_emod]
theorem eqm.red {X Q P : Nat} (hP : 2 ≤ P) (h : X ^ Q % P = 1) (e : Nat) : eqm P (X ^ e) (X ^ (e % Q)) := pow_red hP h e
/-- The core of the extraction. -/
theorem ext_core {P Q B Y T c1 c2 z1 z2 : Nat} (hP : 2 ≤ P) (hQ : 2 ≤ Q) (hB : B ^ Q % P = 1) (hY : Y ^ Q % P = 1) (hT : T ^ Q % P = 1) (_h1 : c1 < Q) (h2 : c2 < Q) (_h3 : z1 < Q) (h4 : z2 < Q)
    (ha : eqm P (B ^ z1) (T * Y ^ c1)) (hb : eqm P (B ^ z2) (T * Y ^ c2)) : eqm P (B ^ ((z1 + (Q - z2)) % Q)) (Y ^ ((c1 + (Q - c2)) % Q)) := by
  have e1 : eqm P (B ^ z1 * (T * Y ^ c2)) ((T * Y ^ c1) * B ^ z2) := ha.mul hb.symm
  have e2 := e1.mul (eqm.refl P (B ^ (Q - z2) * T ^ (Q - 1) * Y ^ (Q - c2)))
  have oB : eqm P (B ^ Q) 1 := by unfold eqm; rw [hB, Nat.mod_eq_of_lt (by omega)]
  have oY : eqm P (Y ^ Q) 1 := by unfold eqm; rw [hY, Nat.mod_eq_of_lt (by omega)]
  have oT : eqm P (T ^ Q) 1 := by unfold eqm; rw [hT, Nat.mod_eq_of_lt (by omega)]
  have tq : T ^ Q = T * T ^ (Q - 1) := by rw [Nat.mul_comm, ← Nat.pow_succ]; congr 1; omega
  have f1 : B ^ z1 * (T * Y ^ c2) * (B ^ (Q - z2) * T ^ (Q - 1) * Y ^ (Q - c2)) = B ^ (z1 + (Q - z2)) * (T ^ Q * Y ^ Q) := by
    have y1 : Y ^ Q = Y ^ c2 * Y ^ (Q - c2) := by rw [← Nat.pow_add]; congr 1; omega
    rw [Nat.pow_add, y1, tq]
    simp only [Nat.mul_assoc, Nat.mul_left_comm, Nat.mul_comm]
  have f2 : (T * Y ^ c1) * B ^ z2 * (B ^ (Q - z2) * T ^ (Q - 1) * Y ^ (Q - c2)) = Y ^ (c1 + (Q - c2)) * (T ^ Q * B ^ Q) := by
    have y1 : B ^ Q = B ^ z2 * B ^ (Q - z2) := by rw [← Nat.pow_add]; congr 1; omega
    rw [Nat.pow_add, y1, tq]
    simp only [Nat.mul_assoc, Nat.mul_left_comm, Nat.mul_comm]
  rw [f1, f2] at e2
  have g1 := (eqm.refl P (B ^ (z1 + (Q - z2)))).mul (oT.mul oY)
  have g2 := (eqm.refl P (Y ^ (c1 + (Q - c2)))).mul (oT.mul oB)
  simp only [Nat.mul_one] at g1 g2
  exact (eqm.red hP hB _).symm.trans ((g1.symm.trans (e2.trans g2)).trans (eqm.red hP hY _))

/-- The extracted exponent. -/
noncomputable def gext (q c1 z1 c2 z2 : Int) : Int := (((z1 - z2) % q) * invV ((c1 - c2) % q) q) % q
theorem ext_law {p q g b y t c1 z1 c2 z2 : Int} (h : grpB p q g = true) (hb : elB p q b = true) (hy : elB p q y = true) (ht : elB p q t = true)
    (i1 : inR c1 0 (q - 1) = true) (i2 : inR z1 0 (q - 1) = true) (i3 : inR c2 0 (q - 1) = true) (i4 : inR z2 0 (q - 1) = true)
    (a1 : accB p q b y t c1 z1 = true) (a2 : accB p q b y t c2 z2 = true) (hc : c1 ≠ c2) :
    gpw p q b (gext q c1 z1 c2 z2) = y ∧ inR (gext q c1 z1 c2 z2) 0 (q - 1) = true := by
  have hG := grpB_in h
  obtain ⟨P, rfl⟩ := Int.eq_ofNat_of_zero_le (show 0 ≤ p by have := hG.p3; omega)
  obtain ⟨Q, rfl⟩ := Int.eq_ofNat_of_zero_le (show 0 ≤ q by have := hG.q2; omega)
  have hP : 3 ≤ P := by have := hG.p3; omega
  have hQ : 2 ≤ Q := by have := hG.q2; omega
  have hQp : PrimeN Q := by have := primeB_iff.1 hG.hq; rwa [Int.toNat_natCast] at this
  obtain ⟨B, rfl, hBP, hB⟩ := (el_nat (P := P) (Q := Q) (by omega) (by omega)).1 hb
  obtain ⟨Y, rfl, hYP, hY⟩ := (el_nat (P := P) (Q := Q) (by omega) (by omega)).1 hy
  obtain ⟨T, rfl, hTP, hT⟩ := (el_nat (P := P) (Q := Q) (by omega) (by omega)).1 ht
  have i1 := inR_iff.1 i1
  have i2 := inR_iff.1 i2
  have i3 := inR_iff.1 i3
  have i4 := inR_iff.1 i4
  obtain ⟨C1, rfl⟩ := Int.eq_ofNat_of_zero_le i1.1
  obtain ⟨Z1, rfl⟩ := Int.eq_ofNat_of_zero_le i2.1
  obtain ⟨C2, rfl⟩ := Int.eq_ofNat_of_zero_le i3.1
  obtain ⟨Z2, rfl⟩ := Int.eq_ofNat_of_zero_le i4.1
  have acc : ∀ {C Z : Nat}, C < Q → Z < Q → accB P Q B Y T C Z = true → eqm P (B ^ Z) (T * Y ^ C) := by
    intro C Z hC hZ ha
    unfold accB at ha
    rw [gpw_nat, gpw_nat, gmul_two, beq_iff_eq, Nat.mod_eq_of_lt hC, Nat.mod_eq_of_lt hZ] at ha
    have h1 : B ^ Z % P = T * (Y ^ C % P) % P := by omega
    exact Eq.trans h1 ((eqm.refl P T).mul (eqm.mod P _))
  have k := ext_core (by omega) hQ hB hY hT (by omega) (by omega) (by omega) (by omega) (acc (by omega) (by omega) a1) (acc (by omega) (by omega) a2)
  have hD0 : (C1 + (Q - C2)) % Q ≠ 0 := by
    intro h0
    have h1 : C1 ≠ C2 := fun e => hc (by rw [e])
    have h2 := Nat.div_add_mod (C1 + (Q - C2)) Q
    rw [h0, Nat.add_zero] at h2
    generalize (C1 + (Q - C2)) / Q = d at h2
    have h3 : C1 < Q := by omega
    have h4 : C2 < Q := by omega
    match d with
    | 0 => omega
    | 1 => omega
    | d + 2 => rw [Nat.mul_add] at h2; omega
  obtain ⟨v, hv1, hv2, hv3⟩ := inv_prime hQp hD0 (Nat.mod_lt _ (by omega))
  unfold gext
  rw [sub_emod (by omega), sub_emod (by omega), hv2, ← Int.natCast_mul, ← Int.natCast_emod]
  generalize (C1 + (Q - C2)) % Q = D at *
  generalize (Z1 + (Q - Z2)) % Q = Z at *
  have hlt := Nat.mod_lt (Z * v) (show 0 < Q by omega)
  refine ⟨?_, inR_iff.2 ⟨by omega, by omega⟩⟩
  rw [gpw_nat, Nat.mod_mod]
  congr 1
  have r1 : eqm P (B ^ (Z * v % Q)) (Y ^ (D * v % Q)) := by
    refine (eqm.red (by omega) hB _).symm.trans (eqm.trans ?_ (eqm.red (by omega) hY _))
    rw [Nat.pow_mul, Nat.pow_mul]
    exact k.pow v
  rw [hv3, Nat.pow_one] at r1
  unfold eqm at r1
  rw [r1, Nat.mod_eq_of_lt hYP]
/-- A simulated transcript is accepted. -/
theorem sim_law {p q g b y e z : Int} (h : grpB p q g = true) (hb : elB p q b = true) (hy : elB p q y = true) (i1 : inR e 0 (q - 1) = true) (i2 : inR z 0 (q - 1) = true) :
    accB p q b y (gmul p [gpw p q b z, gpw p q y (-e)]) e z = true ∧ elB p q (gmul p [gpw p q b z, gpw p q y (-e)]) = true := by
  refine ⟨?_, elB_mul h (elB_pw h hb) (elB_pw h hy)⟩
  have hG := grpB_in h
  obtain ⟨P, rfl⟩ := Int.eq_ofNat_of_zero_le (show 0 ≤ p by have := hG.p3; omega)
  obtain ⟨Q, rfl⟩ := Int.eq_ofNat_of_zero_le (show 0 ≤ q by have := hG.q2; omega)
  have hP : 3 ≤ P := by have := hG.p3; omega
  have hQ : 2 ≤ Q := by have := hG.q2; omega
  obtain ⟨B, rfl, hBP, hB⟩ := (el_nat (P := P) (Q := Q) (by omega) (by omega)).1 hb
  obtain ⟨Y, rfl, hYP, hY⟩ := (el_nat (P := P) (Q := Q) (by omega) (by omega)).1 hy
  have i1 := inR_iff.1 i1
  have i2 := inR_iff.1 i2
  obtain ⟨C, rfl⟩ := Int.eq_ofNat_of_zero_le i1.1
  obtain ⟨Z, rfl⟩ := Int.eq_ofNat_of_zero_le i2.1
  have e1 : gpw P Q Y (-(C : Int)) = ((Y ^ ((0 + (Q - C)) % Q) % P : Nat) : Int) := by
    unfold gpw
    rw [show -(C : Int) = ((0 : Nat) : Int) - C by omega, sub_emod (by omega), powM_nat]
  unfold accB
  rw [e1, gpw_nat, gpw_nat, gmul_two, gmul_two, beq_iff_eq]
  congr 1
  have hC : C % Q = C := Nat.mod_eq_of_lt (by omega)
  have hZ : Z % Q = Z := Nat.mod_eq_of_lt (by omega)
  rw [hC, hZ]
  have o : eqm P (Y ^ ((0 + (Q - C)) % Q) * Y ^ C) 1 := by
    have h1 : eqm P (Y ^ ((0 + (Q - C)) % Q)) (Y ^ (Q - C)) := by rw [Nat.zero_add]; exact (eqm.red (by omega) hY _).symm
    have h2 := h1.mul (eqm.refl P (Y ^ C))
    rw [← Nat.pow_add, ← Nat.pow_add, Nat.sub_add_cancel (by omega)] at h2
    rw [← Nat.pow_add]
    refine h2.trans ?_
    unfold eqm
    rw [hY, Nat.mod_eq_of_lt (by omega)]
  have s1 : eqm P (B ^ Z % P * (Y ^ ((0 + (Q - C)) % Q) % P) % P * (Y ^ C % P)) (B ^ Z * (Y ^ ((0 + (Q - C)) % Q) * Y ^ C)) := by
    refine (((eqm.mod P _).trans ((eqm.mod P _).mul (eqm.mod P _))).mul (eqm.mod P _)).trans (eqm.of_eq ?_)
    rw [Nat.mul_assoc]
  have s2 := s1.trans ((eqm.refl P (B ^ Z)).mul o)
  rw [Nat.mul_one] at s2
  exact s2.symm
end
end Go.Proofs.YtnhdohjlbchniaaGreat
