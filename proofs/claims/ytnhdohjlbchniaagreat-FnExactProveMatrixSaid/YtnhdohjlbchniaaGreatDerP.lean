/- Plain facts of derived elements. No program in sight. -/
import Derived.Test.YtnhdohjlbchniaaGreatEncP
import Derived.Test.YtnhdohjlbchniaaGreatLab
namespace Go.Proofs.YtnhdohjlbchniaaGreat

/-- The first one of f c, f (c + 1), .. (n many) that is not 1, else 0. -/
def derF (f : Nat → Int) : Nat → Nat → Int
  | 0, _ => 0
  | n + 1, c => if f c = 1 then derF f n (c + 1) else f c
theorem derF_out (f : Nat → Int) : ∀ n c, derF f n c = 0 ∨ ∃ j, derF f n c = f j ∧ f j ≠ 1
  | 0, _ => .inl rfl
  | n + 1, c => by
    unfold derF
    split
    · exact derF_out f n (c + 1)
    · rename_i h
      exact .inr ⟨c, rfl, h⟩
theorem derF_one {f : Nat → Int} {n c : Nat} (h : f c = 1) : derF f (n + 1) c = derF f n (c + 1) := by rw [derF, if_pos h]
theorem derF_got {f : Nat → Int} {n c : Nat} (h : f c ≠ 1) : derF f (n + 1) c = f c := by rw [derF, if_neg h]
noncomputable def derX (p q g : Int) (s : ByteArray) (k c : Int) : Int := powM (1 + hInt (labL s [p, q, g, k, c]) % (p - 1)) ((p - 1) / q) p
noncomputable def derG (p q g : Int) (s : ByteArray) (k : Int) : Nat → Int := fun c => derX p q g s k (c : Int)
/-- The derived element, or 0. -/
noncomputable def derV (p q g : Int) (s : ByteArray) (k : Int) : Int := derF (derG p q g s k) 1000 0

theorem derX_el {p q g : Int} (h : grpB p q g = true) (s : ByteArray) (k c : Int) : elB p q (derX p q g s k c) = true := by
  have hG := grpB_in h
  obtain ⟨P, rfl⟩ := Int.eq_ofNat_of_zero_le (show 0 ≤ p by have := hG.p3; omega)
  obtain ⟨Q, rfl⟩ := Int.eq_ofNat_of_zero_le (show 0 ≤ q by have := hG.q2; omega)
  have hP : 3 ≤ P := by have := hG.p3; omega
  have hQ : 2 ≤ Q := by have := hG.q2; omega
  have hPp : PrimeN P := by have := primeB_iff.1 hG.hp; rwa [Int.toNat_natCast] at this
  unfold derX
  have hb0 := Int.emod_nonneg (hInt (labL s [P, Q, g, k, c])) (show (P : Int) - 1 ≠ 0 by omega)
  have hb1 := Int.emod_lt_of_pos (hInt (labL s [P, Q, g, k, c])) (show 0 < (P : Int) - 1 by omega)
  generalize hInt (labL s [P, Q, g, k, c]) % ((P : Int) - 1) = d at *
  obtain ⟨D, rfl⟩ := Int.eq_ofNat_of_zero_le hb0
  have hqd := hG.qd
  obtain ⟨t, ht⟩ := Int.dvd_of_emod_eq_zero hqd
  have ht0 : 0 ≤ t := by
    refine Int.not_lt.1 fun hh => ?_
    have := Int.mul_neg_of_pos_of_neg (show (0 : Int) < Q by omega) hh
    omega
  obtain ⟨t, rfl⟩ := Int.eq_ofNat_of_zero_le ht0
  have e1 : ((P : Int) - 1) / (Q : Int) = (t : Int) := by rw [ht]; exact Int.mul_ediv_cancel_left _ (by omega)
  have e2 : P - 1 = Q * t := by rw [← Int.natCast_mul] at ht; omega
  rw [e1, show (1 : Int) + (D : Int) = ((D + 1 : Nat) : Int) by omega, powM_nat]
  refine el_mk (by omega) (by omega) ?_
  have hf := fermatN hPp (x := D + 1) (by rw [Nat.mod_eq_of_lt (by omega)]; omega)
  rw [← Nat.pow_mul, Nat.mul_comm, ← e2]
  exact hf
theorem derX_ne {p q g : Int} (h : grpB p q g = true) (s : ByteArray) (k c : Int) : derX p q g s k c ≠ 0 := by
  have := (elB_iff.1 (derX_el h s k c)).1
  omega
theorem derV_out {p q g : Int} (h : grpB p q g = true) (s : ByteArray) (k : Int) (h0 : derV p q g s k ≠ 0) : elB p q (derV p q g s k) = true ∧ derV p q g s k ≠ 1 := by
  rcases derF_out (derG p q g s k) 1000 0 with h1 | ⟨j, h1, h2⟩
  · exact absurd h1 h0
  · unfold derV
    rw [h1]
    exact ⟨derX_el h s k j, h2⟩
/-- The derived elements of 0, .., n - 1. -/
noncomputable def derL (p q g : Int) (s : ByteArray) (n : Nat) : List Int := (List.range n).map fun k : Nat => derV p q g s (k : Int)
theorem derL_length (p q g : Int) (s : ByteArray) (n : Nat) : (derL p q g s n).length = n := by simp [derL]
theorem derL_succ (p q g : Int) (s : ByteArray) (n : Nat) : derL p q g s (n + 1) = derL p q g s n ++ [derV p q g s (n : Int)] := by simp [derL, List.range_succ]
/-- None of them fails. -/
noncomputable def derA (p q g : Int) (s : ByteArray) (n : Nat) : Bool := (derL p q g s n).all fun x => x != 0
theorem derA_succ (p q g : Int) (s : ByteArray) (n : Nat) : derA p q g s (n + 1) = (derA p q g s n && (derV p q g s (n : Int) != 0)) := by
  unfold derA
  rw [derL_succ, List.all_append]
  simp
theorem derA_lt {p q g : Int} {s : ByteArray} {n k : Nat} (hk : k < n) (h : derV p q g s (k : Int) = 0) : derA p q g s n = false := by
  unfold derA derL
  rw [List.all_eq_false]
  exact ⟨derV p q g s (k : Int), List.mem_map.2 ⟨k, List.mem_range.2 hk, rfl⟩, by simp [h]⟩
theorem derA_mem {p q g : Int} {s : ByteArray} {n k : Nat} (h : derA p q g s n = true) (hk : k < n) : derV p q g s (k : Int) ≠ 0 := by
  intro h0
  rw [derA_lt hk h0] at h
  cases h
theorem derL_at {p q g : Int} {s : ByteArray} {n k : Nat} (hk : k < (derL p q g s n).length) : (derL p q g s n)[k] = derV p q g s (k : Int) := by
  simp [derL]
end Go.Proofs.YtnhdohjlbchniaaGreat
