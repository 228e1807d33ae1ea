/- Fermat's small theorem, and a number that is no root of x^k - 1 modulo a prime. No program in sight. -/
import Derived.Test.YthamimjejlicpaaRoot
namespace Go.Proofs.Ythamimjejlicpaa

theorem perm_of_sub : ∀ {l m : List Int}, l.Nodup → (∀ x ∈ l, x ∈ m) → l.length = m.length → l.Perm m
  | [], m, _, _, h => by rw [List.eq_nil_of_length_eq_zero (show m.length = 0 by simpa using h.symm)]
  | x :: l, m, hd, hs, hl => by
    rw [List.nodup_cons] at hd
    have hx := hs x (by simp)
    refine (List.Perm.cons x (perm_of_sub hd.2 (fun y hy => ?_) ?_)).trans (List.perm_cons_erase hx).symm
    · exact (List.mem_erase_of_ne (fun e => hd.1 (by subst e; exact hy))).2 (hs y (by simp [hy]))
    · rw [List.length_erase_of_mem hx]; simp at hl; omega

def prodL : List Int → Int
  | [] => 1
  | x :: l => x * prodL l
theorem prodL_perm {a b : List Int} (h : a.Perm b) : prodL a = prodL b := by
  induction h with
  | nil => rfl
  | cons x _ ih => rw [prodL, prodL, ih]
  | swap x y l => simp only [prodL]; rw [← Int.mul_assoc, ← Int.mul_assoc, Int.mul_comm y]
  | trans _ _ h1 h2 => exact h1.trans h2
theorem prodL_mod (p x : Int) : ∀ l : List Int, prodL (l.map fun i => x * i % p) % p = x ^ l.length * prodL l % p
  | [] => by simp [prodL]
  | i :: l => by
    have ih := prodL_mod p x l
    rw [List.map_cons, prodL, Int.mul_emod, ih, ← Int.mul_emod, prodL, List.length_cons, Int.pow_succ]
    rw [Int.mul_emod, Int.emod_emod_of_dvd _ (Int.dvd_refl p), ← Int.mul_emod]
    congr 1
    generalize x ^ l.length = y
    generalize prodL l = z
    rw [Int.mul_comm y x, Int.mul_assoc, Int.mul_assoc, ← Int.mul_assoc i, Int.mul_comm i y, Int.mul_assoc]
theorem not_dvd_prodL {p : Int} (hp : Pr p) : ∀ {l : List Int}, (∀ x ∈ l, ¬ p ∣ x) → ¬ p ∣ prodL l
  | [], _, h => by
    have h1 : (1 : Int) % p = 0 := Int.emod_eq_zero_of_dvd h
    rw [Int.emod_eq_of_lt (by omega) (by have := hp.1; omega)] at h1
    omega
  | x :: l, hl, h => by
    rcases hp.2 _ _ h with h1 | h1
    · exact hl x (by simp) h1
    · exact not_dvd_prodL hp (fun y hy => hl y (by simp [hy])) h1
theorem not_dvd_of {p x : Int} (h0 : 0 < x) (h1 : x < p) : ¬ p ∣ x := fun h => by
  have := Int.emod_eq_zero_of_dvd h
  rw [Int.emod_eq_of_lt (by omega) h1] at this
  omega

/-- The residues from 1 to p - 1. -/
def resL (p : Nat) : List Int := (List.range (p - 1)).map fun i : Nat => (i : Int) + 1
theorem resL_length (p : Nat) : (resL p).length = p - 1 := by simp [resL]
theorem resL_mem {p : Nat} {x : Int} : x ∈ resL p ↔ 0 < x ∧ x < p := by
  unfold resL
  rw [List.mem_map]
  constructor
  · rintro ⟨i, hi, rfl⟩; have := List.mem_range.1 hi; omega
  · rintro ⟨h0, h1⟩; exact ⟨(x - 1).toNat, List.mem_range.2 (by omega), by omega⟩
theorem resL_nodup (p : Nat) : (resL p).Nodup := by
  unfold resL
  rw [List.nodup_iff_pairwise_ne, List.pairwise_map]
  exact List.nodup_iff_pairwise_ne.1 List.nodup_range |>.imp fun h e => h (by omega)

theorem fermat {p : Nat} (hp : PrimeN p) {x : Int} (hx : ¬ (p : Int) ∣ x) : (p : Int) ∣ x ^ (p - 1) - 1 := by
  have hP := pr_of_prime hp
  have h2 := hp.1
  have hperm : ((resL p).map fun i => x * i % (p : Int)).Perm (resL p) := by
    refine perm_of_sub ?_ ?_ (by simp)
    · rw [List.nodup_iff_pairwise_ne, List.pairwise_map]
      have hn := List.nodup_iff_pairwise_ne.1 (resL_nodup p)
      refine List.Pairwise.imp_of_mem ?_ hn
      intro a b ha hb hab he
      have h3 : (p : Int) ∣ x * a - x * b := Int.dvd_of_emod_eq_zero (Int.emod_eq_emod_iff_emod_sub_eq_zero.1 he)
      rw [← Int.mul_sub] at h3
      rcases hP.2 _ _ h3 with h4 | h4
      · exact hx h4
      · have ha' := resL_mem.1 ha
        have hb' := resL_mem.1 hb
        exact hab (same_res (by omega) (by omega) h4)
    · intro y hy
      obtain ⟨i, hi, rfl⟩ := List.mem_map.1 hy
      have hi' := resL_mem.1 hi
      rw [resL_mem]
      have h3 := Int.emod_nonneg (x * i) (show (p : Int) ≠ 0 by omega)
      have h4 := Int.emod_lt_of_pos (x * i) (show (0 : Int) < p by omega)
      refine ⟨?_, h4⟩
      by_cases h5 : x * i % (p : Int) = 0
      · rcases hP.2 _ _ (Int.dvd_of_emod_eq_zero h5) with h6 | h6
        · exact absurd h6 hx
        · exact absurd h6 (not_dvd_of hi'.1 hi'.2)
      · omega
  have h3 := prodL_mod (p : Int) x (resL p)
  rw [prodL_perm hperm, resL_length] at h3
  have h4 : (p : Int) ∣ x ^ (p - 1) * prodL (resL p) - prodL (resL p) := Int.dvd_of_emod_eq_zero (Int.emod_eq_emod_iff_emod_sub_eq_zero.1 h3.symm)
  have h5 : x ^ (p - 1) * prodL (resL p) - prodL (resL p) = (x ^ (p - 1) - 1) * prodL (resL p) := by rw [Int.sub_mul, Int.one_mul]
  rw [h5] at h4
  rcases hP.2 _ _ h4 with h6 | h6
  · exact h6
  · exact absurd h6 (not_dvd_prodL hP fun y hy => by have := resL_mem.1 hy; exact not_dvd_of this.1 this.2)
theorem fermatN {p x : Nat} (hp : PrimeN p) (hx : x % p ≠ 0) : x ^ (p - 1) % p = 1 := by
  have h := fermat hp (x := (x : Int)) (fun h => hx (by have := Int.emod_eq_zero_of_dvd h; omega))
  have h2 := hp.1
  have h3 : ((x : Int) ^ (p - 1) % (p : Int)) = 1 % (p : Int) := Int.emod_eq_emod_iff_emod_sub_eq_zero.2 (Int.emod_eq_zero_of_dvd h)
  rw [Int.emod_eq_of_lt (show (0 : Int) ≤ 1 by omega) (by omega)] at h3
  have h4 : ((x ^ (p - 1) % p : Nat) : Int) = 1 := by push_cast; exact h3
  omega

theorem tpow_isP : ∀ n : Nat, IsP (n + 1) (fun t => t ^ n)
  | 0 => ⟨[1], rfl, fun t => by simp [ev]⟩
  | n + 1 => (tpow_isP n).shift.congr fun t => by show t ^ (n + 1) = t * t ^ n; rw [Int.pow_succ, Int.mul_comm]
theorem const_isP (n : Nat) (c : Int) : IsP (n + 1) (fun _ => c) := ⟨c :: List.replicate n 0, by simp, fun t => by
  have h : ∀ m, ev (List.replicate m 0) t = 0 := fun m => by
    induction m with
    | zero => rfl
    | succ m ih => rw [List.replicate_succ, ev, ih]; simp
  show c = c + t * ev (List.replicate n 0) t
  rw [h]; simp⟩
/-- Among 2 .. k + 1 there is a number whose k-th power is not 1. -/
theorem nonroot {p k : Nat} (hp : PrimeN p) (hk : 1 ≤ k) (hkp : k + 1 < p) : ∃ h, 2 ≤ h ∧ h ≤ k + 1 ∧ h ^ k % p ≠ 1 := by
  refine Classical.byContradiction fun hno => ?_
  have hP := pr_of_prime hp
  have h2 := hp.1
  have hall : ∀ h : Nat, 1 ≤ h → h ≤ k + 1 → h ^ k % p = 1 := fun h h1 h3 => by
    by_cases e : h = 1
    · subst e; rw [Nat.one_pow, Nat.mod_eq_of_lt (by omega)]
    · exact Classical.byContradiction fun hn => hno ⟨h, by omega, h3, hn⟩
  have hI : IsP (k + 1) (fun t => t ^ k - 1) := ((tpow_isP k).add (const_isP k (-1))).congr fun t => by show t ^ k - 1 = t ^ k + -1; omega
  have h0 := hI.roots hP ((List.range (k + 1)).map fun i : Nat => (i : Int) + 1) (by simp) (by
    rw [List.nodup_iff_pairwise_ne, List.pairwise_map]
    exact List.nodup_iff_pairwise_ne.1 List.nodup_range |>.imp fun h e => h (by omega)) (fun t ht => by
      obtain ⟨i, hi, rfl⟩ := List.mem_map.1 ht
      have hi' := List.mem_range.1 hi
      refine ⟨by omega, by omega, ?_⟩
      have h3 := hall (i + 1) (by omega) (by omega)
      have h4 : (((i : Int) + 1) ^ k % (p : Int)) = 1 := by
        have : (((i + 1) ^ k % p : Nat) : Int) = 1 := by omega
        push_cast at this; exact this
      have h5 : (((i : Int) + 1) ^ k % (p : Int)) = 1 % (p : Int) := by rw [h4, Int.emod_eq_of_lt (by omega) (by omega)]
      exact Int.dvd_of_emod_eq_zero (Int.emod_eq_emod_iff_emod_sub_eq_zero.1 h5)) 0
  have h6 : ((0 : Int) ^ k - 1) = -1 := by rw [Int.zero_pow (by omega)]; rfl
  simp only [h6] at h0
  have h7 := Int.dvd_neg.1 h0
  have h8 : (1 : Int) % p = 0 := Int.emod_eq_zero_of_dvd h7
  rw [Int.emod_eq_of_lt (by omega) (by omega)] at h8
  omega
end Go.Proofs.Ythamimjejlicpaa
