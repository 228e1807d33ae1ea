/- Contracts for transcripts: acceptance, simulation, extraction. (Printed by tools/gen_extc.py.) -/
import Derived.Test.YtnhdohjlbchniaaProg
import Derived.Test.YtnhdohjlbchniaaEncC
import Derived.Test.YtnhdohjlbchniaaEncP
import Derived.Test.YtnhdohjlbchniaaEuc
namespace Go.Proofs.Ytnhdohjlbchniaa
open Go.RowKit

theorem quietE {P : Program} {f : FuncId} {args : Array Value} {w : World} {n : Nat} {u v : Int} (h : Calls P f args (w.drewN n) fun e w' => e = .returned (.int .i64 u) ∧ w.drewN n = w') (huv : u = v) :
    Calls P f args (w.drewN n) fun e w'' => e = .returned (.int .i64 v) ∧ ∃ m, w'' = w.drewN m := h.mono fun _ _ ⟨he, hm⟩ => ⟨by rw [he, huv], n, hm.symm⟩
/-- A valid transcript. -/
def trB (p q t c z : Int) : Bool := elB p q t && (inR c 0 (q - 1) && inR z 0 (q - 1))
theorem trB_out {p q t c z : Int} (h : trB p q t c z = true) : elB p q t = true ∧ inR c 0 (q - 1) = true ∧ inR z 0 (q - 1) = true := by
  unfold trB at h
  simpa [Bool.and_eq_true] using h
theorem inv_ne {p q g c1 c2 : Int} (h : grpB p q g = true) (i1 : inR c1 0 (q - 1) = true) (i2 : inR c2 0 (q - 1) = true) (hc : c1 ≠ c2) : invV ((c1 - c2) % q) q ≠ 0 := by
  have hG := grpB_in h
  have i1 := inR_iff.1 i1
  have i2 := inR_iff.1 i2
  obtain ⟨Q, rfl⟩ := Int.eq_ofNat_of_zero_le (show 0 ≤ q by have := hG.q2; omega)
  have hQ : 2 ≤ Q := by have := hG.q2; omega
  have hQp : PrimeN Q := by have := primeB_iff.1 hG.hq; rwa [Int.toNat_natCast] at this
  have h0 : (c1 - c2) % (Q : Int) ≠ 0 := fun h0 => by
    obtain ⟨d, hd⟩ := Int.dvd_of_emod_eq_zero h0
    rcases Int.lt_trichotomy d 0 with h1 | h1 | h1
    · have := Int.mul_le_mul_of_nonneg_left (show d ≤ -1 by omega) (show (0 : Int) ≤ Q by omega)
      omega
    · subst h1; omega
    · have := Int.mul_le_mul_of_nonneg_left (show 1 ≤ d by omega) (show (0 : Int) ≤ Q by omega)
      omega
  have h1 := Int.emod_nonneg (c1 - c2) (show (Q : Int) ≠ 0 by omega)
  have h2 := Int.emod_lt_of_pos (c1 - c2) (show (0 : Int) < Q by omega)
  generalize (c1 - c2) % (Q : Int) = D at *
  obtain ⟨D, rfl⟩ := Int.eq_ofNat_of_zero_le h1
  obtain ⟨v, v1, v2, v3⟩ := inv_prime hQp (show D ≠ 0 by omega) (by omega)
  rw [v2]
  intro h3
  have : v = 0 := by omega
  subst this
  simp at v3
theorem inverse_int (a m : Int) (w : World) (h0 : 0 ≤ a) (ha : a < m) (hm : 2 ≤ m) (hm2 : m ≤ 2000000000) :
    Calls Try.prog 124 #[.int .i64 a, .int .i64 m] w fun e w' => e = .returned (.int .i64 (invV a m)) ∧ w = w' := by
  obtain ⟨A, rfl⟩ := Int.eq_ofNat_of_zero_le h0
  obtain ⟨M, rfl⟩ := Int.eq_ofNat_of_zero_le (show 0 ≤ m by omega)
  exact inverse_any A M w (by omega) (by omega) (by omega)
theorem nInverse_int (b m : Int) (w : World) (hb1 : -9000000000 ≤ b) (hb2 : b ≤ 9000000000) (hm : 2 ≤ m) (hm2 : m ≤ 2000000000) (hn : invV (b % m) m ≠ 0) :
    Calls Try.prog 73 #[.int .i64 b, .int .i64 m] w fun e w' => e = .returned (.tuple #[.int .i64 (invV (b % m) m), .bool true]) ∧ w = w' := by
  obtain ⟨M, rfl⟩ := Int.eq_ofNat_of_zero_le (show 0 ≤ m by omega)
  refine (nInverse_any b M w hb1 hb2 (by omega) (by omega)).mono ?_
  rintro e w1 ⟨v, ok, rfl, h, hw⟩
  rcases h with ⟨rfl, rfl, _⟩ | ⟨_, h⟩
  · exact ⟨rfl, hw⟩
  · exact absurd h hn













end Go.Proofs.Ytnhdohjlbchniaa
