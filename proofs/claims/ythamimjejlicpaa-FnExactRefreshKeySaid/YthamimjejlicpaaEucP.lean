/- Plain facts about Euclid's steps and inverses modulo a number. No program in sight. -/
import Derived.Test.YthamimjejlicpaaArith
namespace Go.Proofs.Ythamimjejlicpaa

theorem abs_step {x y : Int} {q : Nat} (h : x * y ≤ 0) : (x - q * y).natAbs = x.natAbs + q * y.natAbs := by
  have hq : (0 : Int) ≤ q := by omega
  rcases Int.lt_trichotomy y 0 with hy | hy | hy
  · have hx : 0 ≤ x := Int.not_lt.1 fun hx => by
      have := Int.mul_pos_of_neg_of_neg hx hy
      omega
    have h1 : (q : Int) * y ≤ 0 := Int.mul_nonpos_of_nonneg_of_nonpos hq (by omega)
    have h2 : ((q * y.natAbs : Nat) : Int) = -(q * y) := by
      rw [Int.natCast_mul, Int.ofNat_natAbs_of_nonpos (by omega), Int.mul_neg]
    omega
  · subst hy; simp
  · have hx : x ≤ 0 := Int.not_lt.1 fun hx => by
      have := Int.mul_pos hx hy
      omega
    have h1 : 0 ≤ (q : Int) * y := Int.mul_nonneg hq (by omega)
    have h2 : ((q * y.natAbs : Nat) : Int) = q * y := by
      rw [Int.natCast_mul, Int.natAbs_of_nonneg (by omega)]
    omega

/-- A state of Euclid's steps. -/
structure EI (m : Nat) (a : Int) (r s : Nat) (x y : Int) : Prop where
  rm : r ≤ m
  sm : s ≤ m
  dx : (m : Int) ∣ a * x - r
  dy : (m : Int) ∣ a * y - s
  xy : x * y ≤ 0
  ax : x.natAbs ≤ m
  ay : y.natAbs ≤ m
  key : x.natAbs * s + y.natAbs * r = m
  g : Nat.gcd r s = Nat.gcd a.natAbs m
theorem EI.step {m : Nat} {a : Int} {r s : Nat} {x y : Int} (h : EI m a r s x y) (hs : s ≠ 0) : EI m a s (r % s) y (x - (r / s : Nat) * y) := by
  have hb := abs_step (q := r / s) h.xy
  have hr : r % s + s * (r / s) = r := Nat.mod_add_div r s
  have hlt : r % s < s := Nat.mod_lt _ (by omega)
  have hkey : y.natAbs * (r % s) + (x.natAbs + r / s * y.natAbs) * s = m := by
    rw [← h.key, Nat.add_mul]
    conv => rhs; rw [← hr, Nat.mul_add]
    have e : r / s * y.natAbs * s = y.natAbs * (s * (r / s)) := by
      rw [Nat.mul_comm (r / s), Nat.mul_assoc, Nat.mul_comm (r / s)]
    omega
  have hay : (x - (r / s : Nat) * y).natAbs ≤ m := by
    rw [hb]
    have h1 : (x.natAbs + r / s * y.natAbs) * 1 ≤ (x.natAbs + r / s * y.natAbs) * s := Nat.mul_le_mul_left _ (by omega)
    omega
  refine ⟨h.sm, Nat.le_trans (Nat.le_of_lt hlt) h.sm, h.dy, ?_, ?_, h.ay, hay, by rw [hb, Nat.add_comm (y.natAbs * (r % s)), Nat.add_comm] at *; omega, ?_⟩
  · have e : a * (x - (r / s : Nat) * y) - ((r % s : Nat) : Int) = (a * x - r) - (r / s : Nat) * (a * y - s) := by
      have e1 : ((r % s : Nat) : Int) = (r : Int) - (s : Int) * ((r / s : Nat) : Int) := by rw [← Int.natCast_mul]; omega
      rw [e1, Int.mul_sub, Int.mul_sub, Int.mul_comm (s : Int)]
      have e2 : a * (((r / s : Nat) : Int) * y) = ((r / s : Nat) : Int) * (a * y) := by rw [← Int.mul_assoc, Int.mul_comm a, Int.mul_assoc]
      rw [e2]
      omega
    rw [e]
    exact Int.dvd_sub h.dx (Int.dvd_mul_of_dvd_right h.dy)
  · have h1 := h.xy
    have h2 : 0 ≤ ((r / s : Nat) : Int) * (y * y) := Int.mul_nonneg (Int.natCast_nonneg _) (by
      rcases Int.le_total 0 y with hy | hy
      · exact Int.mul_nonneg hy hy
      · exact Int.mul_nonneg_of_nonpos_of_nonpos hy hy)
    have e : y * (x - (r / s : Nat) * y) = x * y - ((r / s : Nat) : Int) * (y * y) := by
      rw [Int.mul_sub, Int.mul_comm y x]
      congr 1
      rw [← Int.mul_assoc, Int.mul_comm y, Int.mul_assoc]
    omega
  · rw [← h.g, Nat.gcd_comm s, ← Nat.gcd_rec, Nat.gcd_comm]
theorem EI.qs {m : Nat} {a : Int} {r s : Nat} {x y : Int} (h : EI m a r s x y) (hs : s ≠ 0) : ((r / s : Nat) : Int) * s = (r : Int) - ((r % s : Nat) : Int) ∧ -(m : Int) ≤ ((r / s : Nat) : Int) * y ∧ ((r / s : Nat) : Int) * y ≤ m := by
  have h1 := abs_step (q := r / s) h.xy
  have h2 := (h.step hs).ay
  have h3 : (((r / s : Nat) : Int) * y).natAbs = r / s * y.natAbs := by rw [Int.natAbs_mul, Int.natAbs_natCast]
  have hr : r % s + s * (r / s) = r := Nat.mod_add_div r s
  refine ⟨?_, by omega, by omega⟩
  rw [Int.mul_comm, ← Int.natCast_mul]; omega

/-- The inverse modulo m, 0 if there is none. -/
noncomputable def invV (a m : Int) : Int := open Classical in if h : ∃ v, 0 ≤ v ∧ v < m ∧ a * v % m = 1 then h.choose else 0
theorem inv_uniq {a m v v' : Int} (h : 0 ≤ v ∧ v < m ∧ a * v % m = 1) (h' : 0 ≤ v' ∧ v' < m ∧ a * v' % m = 1) : v = v' := by
  have h1 : v * (a * v') % m = v % m := by rw [Int.mul_emod, h'.2.2, Int.mul_one, Int.emod_emod_of_dvd _ (Int.dvd_refl m)]
  have h2 : v' * (a * v) % m = v' % m := by rw [Int.mul_emod, h.2.2, Int.mul_one, Int.emod_emod_of_dvd _ (Int.dvd_refl m)]
  have h3 : v * (a * v') = v' * (a * v) := by rw [← Int.mul_assoc, ← Int.mul_assoc, Int.mul_comm (v * a), Int.mul_comm (v' * a) v, ← Int.mul_assoc, ← Int.mul_assoc, Int.mul_comm v v']
  rw [h3, h2, Int.emod_eq_of_lt h.1 h.2.1, Int.emod_eq_of_lt h'.1 h'.2.1] at h1
  exact h1.symm
theorem invV_eq {a m v : Int} (h : 0 ≤ v ∧ v < m ∧ a * v % m = 1) : invV a m = v := by
  unfold invV
  have hx : ∃ v, 0 ≤ v ∧ v < m ∧ a * v % m = 1 := ⟨v, h⟩
  rw [dif_pos hx]
  exact inv_uniq hx.choose_spec h
theorem invV_no {a m : Int} (h : ¬ ∃ v, 0 ≤ v ∧ v < m ∧ a * v % m = 1) : invV a m = 0 := by unfold invV; rw [dif_neg h]
theorem invV_spec {a m : Int} (h : ∃ v, 0 ≤ v ∧ v < m ∧ a * v % m = 1) : 0 ≤ invV a m ∧ invV a m < m ∧ a * invV a m % m = 1 := by
  obtain ⟨v, hv⟩ := h
  rw [invV_eq hv]; exact hv
theorem invV_bd {a m : Int} (hm : 0 < m) : 0 ≤ invV a m ∧ invV a m < m := by
  by_cases h : ∃ v, 0 ≤ v ∧ v < m ∧ a * v % m = 1
  · have := invV_spec h; omega
  · rw [invV_no h]; omega
theorem invV_pos {a m : Int} (_hm : 2 ≤ m) : invV a m ≠ 0 ↔ ∃ v, 0 ≤ v ∧ v < m ∧ a * v % m = 1 := by
  constructor
  · intro h
    exact Classical.byContradiction fun hn => h (invV_no hn)
  · intro h h0
    have := (invV_spec h).2.2
    rw [h0, Int.mul_zero, Int.zero_emod] at this
    omega
/-- At the end. -/
theorem EI.fin {m : Nat} {a : Int} {r : Nat} {x y : Int} (h : EI m a r 0 x y) (hm : 2 ≤ m) : (r = 1 → x % m = invV a m) ∧ (r ≠ 1 → ¬ ∃ v, 0 ≤ v ∧ v < (m : Int) ∧ a * v % m = 1) := by
  have hg : r = Nat.gcd a.natAbs m := by rw [← h.g, Nat.gcd_zero_right]
  constructor
  · intro hr
    refine (invV_eq ⟨Int.emod_nonneg _ (by omega), Int.emod_lt_of_pos _ (by omega), ?_⟩).symm
    have h1 : a * (x % m) % m = a * x % m := by rw [Int.mul_emod, Int.emod_emod_of_dvd _ (Int.dvd_refl _), ← Int.mul_emod]
    rw [h1]
    have h2 := h.dx
    rw [hr] at h2
    have h3 := Int.emod_eq_emod_iff_emod_sub_eq_zero.2 (Int.emod_eq_zero_of_dvd h2)
    rw [h3]
    exact Int.emod_eq_of_lt (by omega) (by omega)
  · rintro hr ⟨v, _, _, hv⟩
    have hga : (Nat.gcd a.natAbs m) ∣ a.natAbs := Nat.gcd_dvd_left _ _
    have hgm : (Nat.gcd a.natAbs m) ∣ m := Nat.gcd_dvd_right _ _
    rw [← hg] at hga hgm
    have h1 : (r : Int) ∣ a * v := Int.dvd_mul_of_dvd_left (Int.natAbs_dvd_natAbs.1 (by rw [Int.natAbs_natCast]; exact hga))
    have h2 : (r : Int) ∣ (m : Int) := Int.natCast_dvd_natCast.2 hgm
    have h3 : (r : Int) ∣ a * v % m := by
      rw [Int.emod_def]
      exact Int.dvd_sub h1 (Int.dvd_mul_of_dvd_left h2)
    rw [hv] at h3
    have h4 : (r : Int) ∣ ((1 : Nat) : Int) := h3
    have := Nat.dvd_one.1 (Int.natCast_dvd_natCast.1 h4)
    exact hr this
end Go.Proofs.Ythamimjejlicpaa
