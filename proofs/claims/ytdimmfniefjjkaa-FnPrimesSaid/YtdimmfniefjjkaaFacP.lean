/- Plain facts about factorisation by trial. No program in sight. -/
import Derived.Test.YtdimmfniefjjkaaArith
namespace Go.Proofs.Ytdimmfniefjjkaa

/-- n without its factors d, and how many they are. -/
def strip (d : Nat) (n : Nat) : Nat × Nat :=
  if h : 2 ≤ d ∧ 0 < n ∧ n % d = 0 then ((strip d (n / d)).1, (strip d (n / d)).2 + 1) else (n, 0)
termination_by n
decreasing_by all_goals exact Nat.div_lt_self h.2.1 (by omega)
theorem strip_yes {d n : Nat} (hd : 2 ≤ d) (hn : 0 < n) (h : n % d = 0) : strip d n = ((strip d (n / d)).1, (strip d (n / d)).2 + 1) := by
  rw [strip, dif_pos ⟨hd, hn, h⟩]
theorem strip_no {d n : Nat} (h : n % d ≠ 0) : strip d n = (n, 0) := by
  rw [strip, dif_neg (fun x => h x.2.2)]
theorem strip_le (d : Nat) : ∀ n, (strip d n).1 ≤ n := by
  intro n
  induction n using Nat.strongRecOn with
  | _ n ih =>
    rw [strip]
    split
    · rename_i h
      have h1 := ih (n / d) (Nat.div_lt_self h.2.1 (by omega))
      exact Nat.le_trans h1 (Nat.div_le_self _ _)
    · exact Nat.le_refl _
theorem strip_pos {d : Nat} : ∀ {n : Nat}, 0 < n → 0 < (strip d n).1 := by
  intro n
  induction n using Nat.strongRecOn with
  | _ n ih =>
    intro hn
    rw [strip]
    split
    · rename_i h
      have hdv : d ≤ n := Nat.le_of_dvd hn (Nat.dvd_of_mod_eq_zero h.2.2)
      exact ih (n / d) (Nat.div_lt_self h.2.1 (by omega)) (Nat.div_pos hdv (by omega))
    · exact hn
theorem strip_mul (d : Nat) : ∀ n, d ^ (strip d n).2 * (strip d n).1 = n := by
  intro n
  induction n using Nat.strongRecOn with
  | _ n ih =>
    rw [strip]
    split
    · rename_i h
      have h1 := ih (n / d) (Nat.div_lt_self h.2.1 (by omega))
      show d ^ ((strip d (n / d)).2 + 1) * (strip d (n / d)).1 = n
      rw [Nat.pow_succ, Nat.mul_comm (d ^ _) d, Nat.mul_assoc, h1, Nat.mul_div_cancel' (Nat.dvd_of_mod_eq_zero h.2.2)]
    · simp
theorem strip_end {d : Nat} (hd : 2 ≤ d) : ∀ {n : Nat}, 0 < n → (strip d n).1 % d ≠ 0 := by
  intro n
  induction n using Nat.strongRecOn with
  | _ n ih =>
    intro hn
    rw [strip]
    split
    · rename_i h
      have hdv : d ≤ n := Nat.le_of_dvd hn (Nat.dvd_of_mod_eq_zero h.2.2)
      exact ih (n / d) (Nat.div_lt_self h.2.1 (by omega)) (Nat.div_pos hdv (by omega))
    · rename_i h
      intro h0
      exact h ⟨hd, hn, h0⟩

/-- The factors of n from d on. -/
def fac (n d : Nat) : List (Nat × Nat) :=
  if n ≤ 1 then [] else
  if h : n < d * d then [(n, 1)] else
  (if (strip d n).2 = 0 then [] else [(d, (strip d n).2)]) ++ fac (strip d n).1 (d + 1)
termination_by n + 1 - d
decreasing_by
  have h1 := strip_le d n
  have h2 : d ≤ n := by
    rcases Nat.eq_zero_or_pos d with h0 | h0
    · omega
    · exact Nat.le_trans (Nat.le_mul_of_pos_left d h0) (Nat.not_lt.1 h)
  omega

theorem strip_dvd (d n : Nat) : (strip d n).1 ∣ n := ⟨d ^ (strip d n).2, by rw [Nat.mul_comm]; exact (strip_mul d n).symm⟩
theorem fac_one {n d : Nat} (h : n ≤ 1) : fac n d = [] := by rw [fac, if_pos h]
theorem fac_last {n d : Nat} (h : 1 < n) (hd : n < d * d) : fac n d = [(n, 1)] := by rw [fac, if_neg (by omega), dif_pos hd]
theorem fac_next {n d : Nat} (h : 1 < n) (hd : d * d ≤ n) : fac n d = (if (strip d n).2 = 0 then [] else [(d, (strip d n).2)]) ++ fac (strip d n).1 (d + 1) := by
  rw [fac, if_neg (by omega), dif_neg (by omega)]
theorem fac_le {n d : Nat} (hd : d * d ≤ n) : d ≤ n := by
  rcases Nat.eq_zero_or_pos d with h0 | h0
  · omega
  · exact Nat.le_trans (Nat.le_mul_of_pos_left d h0) hd
def prodF : List (Nat × Nat) → Nat
  | [] => 1
  | f :: l => f.1 ^ f.2 * prodF l
theorem prodF_append (a b : List (Nat × Nat)) : prodF (a ++ b) = prodF a * prodF b := by
  induction a with
  | nil => simp [prodF]
  | cons f a ih => simp only [List.cons_append, prodF, ih, Nat.mul_assoc]
theorem fac_facts : ∀ (k n d : Nat), n + 1 - d ≤ k → 1 ≤ n → 2 ≤ d → (∀ e, 2 ≤ e → e < d → ¬ e ∣ n) → prodF (fac n d) = n ∧ ∀ f ∈ fac n d, PrimeN f.1 ∧ 1 ≤ f.2
  | k, n, d, hk, hn, hd, hnd => by
    by_cases h1 : n ≤ 1
    · rw [fac_one h1]
      exact ⟨by simp [prodF]; omega, by simp⟩
    by_cases h2 : n < d * d
    · rw [fac_last (by omega) h2]
      refine ⟨by simp [prodF], ?_⟩
      intro f hf
      rw [List.mem_singleton] at hf
      subst hf
      exact ⟨prime_of_trial (by omega) h2 hnd, Nat.le_refl _⟩
    have hdn : d ≤ n := fac_le (Nat.not_lt.1 h2)
    have hle := strip_le d n
    have hpos := strip_pos (d := d) (show 0 < n by omega)
    match k with
    | 0 => omega
    | k + 1 =>
      obtain ⟨i1, i2⟩ := fac_facts k (strip d n).1 (d + 1) (by omega) hpos (by omega) (fun e he1 he2 he3 => by
        by_cases hed : e = d
        · subst hed
          exact strip_end hd (by omega) (Nat.mod_eq_zero_of_dvd he3)
        · exact hnd e he1 (by omega) (Nat.dvd_trans he3 (strip_dvd d n)))
      rw [fac_next (by omega) (Nat.not_lt.1 h2)]
      have hm := strip_mul d n
      by_cases h0 : (strip d n).2 = 0
      · rw [if_pos h0, List.nil_append]
        rw [h0, Nat.pow_zero, Nat.one_mul] at hm
        exact ⟨i1.trans hm, i2⟩
      · rw [if_neg h0, List.singleton_append]
        refine ⟨by rw [prodF, i1]; exact hm, ?_⟩
        intro f hf
        rw [List.mem_cons] at hf
        rcases hf with rfl | hf
        · refine ⟨⟨hd, fun e he1 he2 he3 => hnd e he1 he2 (Nat.dvd_trans he3 ?_)⟩, by omega⟩
          have : d ^ 1 ∣ d ^ (strip d n).2 := Nat.pow_dvd_pow d (by omega)
          rw [Nat.pow_one] at this
          exact Nat.dvd_trans this ⟨_, hm.symm⟩
        · exact i2 f hf
end Go.Proofs.Ytdimmfniefjjkaa
