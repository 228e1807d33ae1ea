/- Plain: a product of ciphertexts by growing powers, and by Horner's rule. No program in sight. -/
import Derived.Test.YtpfccboighdcbaaGreatEncP
namespace Go.Proofs.YtpfccboighdcbaaGreat
open Go.RowKit

def hoS (P Q b : Nat) : List Nat → Nat
  | [] => 1
  | x :: xs => (hoS P Q b xs ^ (b % Q) % P) * x % P
def hoI (P Q b : Nat) : List Nat → Nat → Nat → Nat
  | [], o, _ => o
  | x :: xs, o, e => hoI P Q b xs (o * (x ^ (e % Q) % P) % P) (e * b % Q)
theorem hoS_el {P Q b : Nat} (hP : 2 ≤ P) : ∀ xs : List Nat, (∀ x ∈ xs, x ^ Q % P = 1) → hoS P Q b xs ^ Q % P = 1
  | [], _ => by simp only [hoS, Nat.one_pow]; exact Nat.mod_eq_of_lt (by omega)
  | x :: xs, h => mul_el hP (pow_el hP (hoS_el hP xs fun y hy => h y (List.mem_cons_of_mem _ hy)) _) (h x (List.mem_cons_self ..))
theorem hoS_lt {P Q b : Nat} (hP : 2 ≤ P) : ∀ xs : List Nat, hoS P Q b xs < P
  | [] => by simp only [hoS]; omega
  | _ :: _ => Nat.mod_lt _ (by omega)
theorem hoI_lt {P Q b : Nat} (hP : 2 ≤ P) : ∀ (xs : List Nat) (o e : Nat), o < P → hoI P Q b xs o e < P
  | [], _, _, h => h
  | _ :: xs, _, _, _ => hoI_lt hP xs _ _ (Nat.mod_lt _ (by omega))
theorem ho_core {P Q b : Nat} (hP : 2 ≤ P) : ∀ (xs : List Nat) (o e : Nat), (∀ x ∈ xs, x ^ Q % P = 1) → eqm P (hoI P Q b xs o e) (o * hoS P Q b xs ^ e)
  | [], o, e, _ => by simp only [hoI, hoS, Nat.one_pow, Nat.mul_one]; exact eqm.refl _ _
  | x :: xs, o, e, h => by
    have hx := h x (List.mem_cons_self ..)
    have hl := fun y hy => h y (List.mem_cons_of_mem x hy)
    have hH := hoS_el (b := b) hP xs hl
    have h1 := ho_core (b := b) hP xs (o * (x ^ (e % Q) % P) % P) (e * b % Q) hl
    refine h1.trans ?_
    rw [show hoS P Q b (x :: xs) = (hoS P Q b xs ^ (b % Q) % P) * x % P from rfl]
    generalize hoS P Q b xs = H at hH ⊢
    have h2 : eqm P (H ^ (e * b % Q)) (H ^ (e * b)) := (eqm.red hP hH _).symm
    have h3 : eqm P (o * (x ^ (e % Q) % P) % P) (o * x ^ e) := (eqm.mod P _).trans ((eqm.refl P o).mul ((eqm.mod P _).trans (eqm.red hP hx e).symm))
    refine (h3.mul h2).trans ?_
    have h4 : eqm P ((H ^ (b % Q) % P) * x % P) (H ^ b * x) := (eqm.mod P _).trans (((eqm.mod P _).trans (eqm.red hP hH b).symm).mul (eqm.refl P x))
    have h5 := (eqm.refl P o).mul (h4.pow e)
    refine (eqm.of_eq ?_).trans h5.symm
    rw [Nat.mul_pow, ← Nat.pow_mul, Nat.mul_comm e b, Nat.mul_assoc, Nat.mul_comm (x ^ e)]
theorem ho_eq {P Q b : Nat} (hP : 2 ≤ P) {xs : List Nat} (h : ∀ x ∈ xs, x ^ Q % P = 1) : hoI P Q b xs 1 1 = hoS P Q b xs := by
  have := ho_core (b := b) hP xs 1 1 h
  rw [Nat.one_mul, Nat.pow_one] at this
  unfold eqm at this
  rwa [Nat.mod_eq_of_lt (hoI_lt hP xs 1 1 (by omega)), Nat.mod_eq_of_lt (hoS_lt hP xs)] at this

/-- The program's product, the reference's. -/
def mxStep (p q b : Int) (s : (Int × Int) × Int) (c : Int × Int) : (Int × Int) × Int := ((gmul p [s.1.1, gpw p q c.1 s.2], gmul p [s.1.2, gpw p q c.2 s.2]), s.2 * b % q)
def mxF (p q b : Int) (l : List (Int × Int)) : (Int × Int) × Int := l.foldl (mxStep p q b) ((1, 1), 1)
def mxS (p q b : Int) : List (Int × Int) → Int × Int
  | [] => (1, 1)
  | c :: l => (gmul p [gpw p q (mxS p q b l).1 b, c.1], gmul p [gpw p q (mxS p q b l).2 b, c.2])
theorem mxS_nat {P Q b : Nat} : ∀ (xs : List (Nat × Nat)), mxS P Q b (xs.map fun c : Nat × Nat => ((c.1 : Int), (c.2 : Int))) = (((hoS P Q b (xs.map (·.1)) : Nat) : Int), ((hoS P Q b (xs.map (·.2)) : Nat) : Int))
  | [] => rfl
  | c :: xs => by
    simp only [List.map_cons, mxS, mxS_nat xs, gpw_nat, gmul_two, hoS]
theorem mxF_nat {P Q b : Nat} : ∀ (xs : List (Nat × Nat)) (o1 o2 e : Nat), ((xs.map fun c : Nat × Nat => ((c.1 : Int), (c.2 : Int))).foldl (mxStep P Q b) (((o1 : Int), (o2 : Int)), (e : Int))).1 = (((hoI P Q b (xs.map (·.1)) o1 e : Nat) : Int), ((hoI P Q b (xs.map (·.2)) o2 e : Nat) : Int))
  | [], _, _, _ => rfl
  | c :: xs, o1, o2, e => by
    have he : (e : Int) * (b : Int) % (Q : Int) = ((e * b % Q : Nat) : Int) := by simp
    simp only [List.map_cons, List.foldl_cons, mxStep, gpw_nat, gmul_two, hoI, he]
    exact mxF_nat xs _ _ _
theorem mx_eq {p q g : Int} (hG : grpB p q g = true) (b : Nat) {l : List (Int × Int)} (hl : ∀ c ∈ l, elB p q c.1 = true ∧ elB p q c.2 = true) : (mxF p q b l).1 = mxS p q b l := by
  have hi := grpB_in hG
  have hp3 := hi.p3
  have hq2 := hi.q2
  obtain ⟨P, rfl⟩ := Int.eq_ofNat_of_zero_le (show 0 ≤ p by omega)
  obtain ⟨Q, rfl⟩ := Int.eq_ofNat_of_zero_le (show 0 ≤ q by omega)
  have hP : 2 ≤ P := by omega
  have hQ : 1 ≤ Q := by omega
  have : ∃ xs : List (Nat × Nat), l = xs.map (fun c : Nat × Nat => ((c.1 : Int), (c.2 : Int))) ∧ ∀ c ∈ xs, c.1 ^ Q % P = 1 ∧ c.2 ^ Q % P = 1 := by
    clear hG hi
    induction l with
    | nil => exact ⟨[], rfl, fun c h => absurd h (by simp)⟩
    | cons c l ih =>
      obtain ⟨xs, rfl, h⟩ := ih fun d hd => hl d (List.mem_cons_of_mem _ hd)
      obtain ⟨h1, h2⟩ := hl c (List.mem_cons_self ..)
      obtain ⟨X, hX, _, k1⟩ := (el_nat hP hQ).1 h1
      obtain ⟨Y, hY, _, k2⟩ := (el_nat hP hQ).1 h2
      refine ⟨(X, Y) :: xs, ?_, ?_⟩
      · simp only [List.map_cons]; rw [← hX, ← hY]
      · intro d hd
        rcases List.mem_cons.1 hd with rfl | hd
        · exact ⟨k1, k2⟩
        · exact h d hd
  obtain ⟨xs, rfl, h⟩ := this
  have e1 : (mxF P Q b (xs.map fun c : Nat × Nat => ((c.1 : Int), (c.2 : Int)))).1 = (((hoI P Q b (xs.map (·.1)) 1 1 : Nat) : Int), ((hoI P Q b (xs.map (·.2)) 1 1 : Nat) : Int)) := mxF_nat xs 1 1 1
  rw [e1, mxS_nat]
  rw [ho_eq hP (fun x hx => by obtain ⟨c, hc, rfl⟩ := List.mem_map.1 hx; exact (h c hc).1), ho_eq hP (fun x hx => by obtain ⟨c, hc, rfl⟩ := List.mem_map.1 hx; exact (h c hc).2)]
end Go.Proofs.YtpfccboighdcbaaGreat
