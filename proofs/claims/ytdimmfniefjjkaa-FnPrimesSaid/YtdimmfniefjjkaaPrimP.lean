/- Plain facts: every prime has a primitive root. No program in sight. -/
import Derived.Test.YtdimmfniefjjkaaFacP
import Derived.Test.YtdimmfniefjjkaaEncP
namespace Go.Proofs.Ytdimmfniefjjkaa

theorem pow_gcd {p c : Nat} (hp : 2 ≤ p) : ∀ x y : Nat, eqm p (c ^ x) 1 → eqm p (c ^ y) 1 → eqm p (c ^ Nat.gcd x y) 1 := by
  intro x y
  induction x, y using Nat.gcd.induction with
  | H0 n => intro _ h; rw [Nat.gcd_zero_left]; exact h
  | H1 m n hm ih =>
    intro h1 h2
    rw [Nat.gcd_rec]
    refine ih ?_ h1
    have h3 := Nat.div_add_mod n m
    have h4 : eqm p (c ^ n) (c ^ (n % m)) := by
      conv => lhs; rw [← h3, Nat.pow_add, Nat.pow_mul]
      have h5 := (h1.pow (n / m)).mul (eqm.refl p (c ^ (n % m)))
      rw [Nat.one_pow, Nat.one_mul] at h5
      exact h5
    exact h4.symm.trans h2
theorem pow_coprime {p c x y : Nat} (hp : 2 ≤ p) (hg : Nat.gcd x y = 1) (h1 : eqm p (c ^ x) 1) (h2 : eqm p (c ^ y) 1) : eqm p c 1 := by
  have := pow_gcd hp x y h1 h2
  rw [hg, Nat.pow_one] at this
  exact this
theorem coprime_prime {q m : Nat} (hq : PrimeN q) (h : m % q ≠ 0) : Nat.gcd m q = 1 := by
  have h1 := Nat.gcd_dvd_left m q
  have h2 := Nat.gcd_dvd_right m q
  have h3 := hq.1
  have h4 : 0 < Nat.gcd m q := Nat.gcd_pos_of_pos_right _ (by omega)
  have h5 : Nat.gcd m q ≤ q := Nat.le_of_dvd (by omega) h2
  generalize Nat.gcd m q = g at *
  by_cases hg : g = 1
  · exact hg
  by_cases hgq : g = q
  · subst hgq
    exact absurd (Nat.mod_eq_zero_of_dvd h1) h
  · exact absurd h2 (hq.2 g (by omega) (by omega))

/-- g is a root for the factors l of n. -/
def IsRt (p n : Nat) (l : List (Nat × Nat)) (g : Nat) : Prop := ∀ f ∈ l, ¬ eqm p (g ^ (n / f.1)) 1

theorem strip_cop {d n : Nat} (hd : PrimeN d) (hn : 0 < n) : (strip d n).1 % d ≠ 0 := strip_end hd.1 hn
/-- An element whose order is a power of a prime factor. -/
theorem prime_part {p q e m : Nat} (hp : PrimeN p) (hq : PrimeN q) (he : 1 ≤ e) (hn : p - 1 = q ^ e * m) (hm : 1 ≤ m) :
    ∃ b, eqm p (b ^ (q ^ e)) 1 ∧ ¬ eqm p (b ^ (q ^ (e - 1))) 1 := by
  have h2 := hp.1
  have hq2 := hq.1
  have hk : p - 1 = (q ^ (e - 1) * m) * q := by
    rw [hn]
    obtain ⟨e, rfl⟩ : ∃ e', e = e' + 1 := ⟨e - 1, by omega⟩
    rw [Nat.add_sub_cancel, Nat.pow_succ, Nat.mul_assoc, Nat.mul_comm q, ← Nat.mul_assoc]
  have hpos : 1 ≤ q ^ (e - 1) * m := Nat.mul_pos (Nat.pow_pos (by omega)) (by omega)
  have hlt : q ^ (e - 1) * m + 1 < p := by
    have := Nat.mul_le_mul (Nat.le_refl (q ^ (e - 1) * m)) hq2
    omega
  obtain ⟨a, ha1, ha2, ha3⟩ := nonroot hp hpos hlt
  refine ⟨a ^ m, ?_, ?_⟩
  · rw [← Nat.pow_mul, Nat.mul_comm, ← hn]
    unfold eqm
    rw [fermatN hp (by rw [Nat.mod_eq_of_lt (by omega)]; omega), Nat.mod_eq_of_lt (by omega)]
  · rw [← Nat.pow_mul, Nat.mul_comm]
    unfold eqm
    rw [Nat.mod_eq_of_lt (show 1 < p by omega)]
    exact ha3
theorem mul_div_of {a b f : Nat} (hf : f ∣ b) : a * b / f = a * (b / f) := Nat.mul_div_assoc a hf
/-- The factors from d on have an element of full order. -/
theorem root_from {p : Nat} (hp : PrimeN p) : ∀ (k n d : Nat), n + 1 - d ≤ k → 1 ≤ n → 2 ≤ d → n ∣ p - 1 → (∀ e, 2 ≤ e → e < d → ¬ e ∣ n) → ∃ g, eqm p (g ^ n) 1 ∧ IsRt p n (fac n d) g := by
  have hp2 := hp.1
  intro k
  induction k with
  | zero =>
    intro n d hk hn hd hdv hnd
    by_cases h1 : n ≤ 1
    · exact ⟨1, by rw [Nat.one_pow]; rfl, by rw [fac_one h1]; intro f hf; cases hf⟩
    · have := hnd n (by omega) (by omega)
      exact absurd (Nat.dvd_refl n) this
  | succ k ih =>
    intro n d hk hn hd hdv hnd
    by_cases h1 : n ≤ 1
    · exact ⟨1, by rw [Nat.one_pow]; rfl, by rw [fac_one h1]; intro f hf; cases hf⟩
    have hpn : p - 1 = n * ((p - 1) / n) := (Nat.mul_div_cancel' hdv).symm
    have hq1 : 1 ≤ (p - 1) / n := Nat.div_pos (Nat.le_of_dvd (by omega) hdv) (by omega)
    generalize (p - 1) / n = r at hpn hq1
    by_cases h2 : n < d * d
    · have hnp := prime_of_trial (by omega) h2 hnd
      obtain ⟨b, hb1, hb2⟩ := prime_part hp hnp (e := 1) (m := r) (Nat.le_refl 1) (by rw [Nat.pow_one]; exact hpn) hq1
      rw [Nat.pow_one] at hb1
      refine ⟨b, hb1, ?_⟩
      rw [fac_last (by omega) h2]
      intro f hf
      rw [List.mem_singleton] at hf
      subst hf
      rw [Nat.div_self (by omega)]
      exact hb2
    have hdn : d ≤ n := fac_le (Nat.not_lt.1 h2)
    have hle := strip_le d n
    have hpos := strip_pos (d := d) (show 0 < n by omega)
    have hm := strip_mul d n
    have hend := strip_end hd (show 0 < n by omega)
    have hdv1 := strip_dvd d n
    have hF := fac_next (show 1 < n by omega) (Nat.not_lt.1 h2)
    generalize (strip d n).2 = e at *
    generalize (strip d n).1 = m at *
    have hnd1 : ∀ e, 2 ≤ e → e < d + 1 → ¬ e ∣ m := by
      intro x hx1 hx2 hx3
      by_cases hxd : x = d
      · subst hxd
        exact hend (Nat.mod_eq_zero_of_dvd hx3)
      · exact hnd x hx1 (by omega) (Nat.dvd_trans hx3 hdv1)
    obtain ⟨h, hh1, hh2⟩ := ih m (d + 1) (by omega) hpos (by omega) (Nat.dvd_trans hdv1 hdv) hnd1
    rw [hF]
    by_cases h0 : e = 0
    · subst h0
      rw [Nat.pow_zero, Nat.one_mul] at hm
      subst hm
      rw [if_pos rfl, List.nil_append]
      exact ⟨h, hh1, hh2⟩
    rw [if_neg h0, List.singleton_append]
    have hde : d ∣ d ^ e := by
      have := Nat.pow_dvd_pow d (show 1 ≤ e by omega)
      rwa [Nat.pow_one] at this
    have hdp : PrimeN d := ⟨hd, fun x hx1 hx2 hx3 => hnd x hx1 hx2 (Nat.dvd_trans hx3 (Nat.dvd_trans hde ⟨m, hm.symm⟩))⟩
    obtain ⟨b, hb1, hb2⟩ := prime_part hp hdp (e := e) (m := m * r) (by omega) (by rw [← Nat.mul_assoc, hm]; exact hpn) (Nat.mul_pos hpos (by omega))
    have hfm := (fac_facts _ m (d + 1) (Nat.le_refl _) hpos (by omega) hnd1)
    have hmem : ∀ f ∈ fac m (d + 1), f.1 ∣ m ∧ PrimeN f.1 := by
      intro f hf
      refine ⟨?_, (hfm.2 f hf).1⟩
      obtain ⟨s, t, hst⟩ := List.append_of_mem hf
      have h5 := hfm.1
      rw [hst, prodF_append, prodF] at h5
      have h6 : f.1 ∣ f.1 ^ f.2 := by
        have := Nat.pow_dvd_pow f.1 (hfm.2 f hf).2
        rwa [Nat.pow_one] at this
      rw [← h5]
      exact Nat.dvd_trans h6 (Nat.dvd_mul_left_of_dvd (Nat.dvd_mul_right _ _) _)
    have hdd : d ^ e = d ^ (e - 1) * d := by rw [← Nat.pow_succ]; congr 1; omega
    refine ⟨b * h, ?_, ?_⟩
    · rw [← hm, Nat.mul_pow]
      have x1 : eqm p (b ^ (d ^ e * m)) 1 := by rw [Nat.pow_mul]; have := hb1.pow m; rwa [Nat.one_pow] at this
      have x2 : eqm p (h ^ (d ^ e * m)) 1 := by rw [Nat.mul_comm, Nat.pow_mul]; have := hh1.pow (d ^ e); rwa [Nat.one_pow] at this
      exact x1.mul x2
    · intro f hf
      rw [List.mem_cons] at hf
      rcases hf with rfl | hf
      · have e1 : n / d = d ^ (e - 1) * m := by
          rw [← hm, hdd, Nat.mul_assoc, Nat.mul_comm d m, ← Nat.mul_assoc, Nat.mul_div_cancel _ (by omega)]
        show ¬ eqm p ((b * h) ^ (n / d)) 1
        rw [e1, Nat.mul_pow]
        intro hx
        have x2 : eqm p (h ^ (d ^ (e - 1) * m)) 1 := by rw [Nat.mul_comm, Nat.pow_mul]; have := hh1.pow (d ^ (e - 1)); rwa [Nat.one_pow] at this
        have x3 : eqm p (b ^ (d ^ (e - 1) * m)) 1 := by
          have := (eqm.refl p (b ^ (d ^ (e - 1) * m))).mul x2
          rw [Nat.mul_one] at this
          exact this.symm.trans hx
        rw [Nat.pow_mul] at x3
        have x4 : eqm p ((b ^ d ^ (e - 1)) ^ d) 1 := by rw [← Nat.pow_mul, ← hdd]; exact hb1
        exact hb2 (pow_coprime hp2 (coprime_prime hdp hend) x3 x4)
      · obtain ⟨f1, f2⟩ := hmem f hf
        have e1 : n / f.1 = d ^ e * (m / f.1) := by rw [← hm]; exact mul_div_of f1
        rw [e1, Nat.mul_pow]
        intro hx
        have x2 : eqm p (b ^ (d ^ e * (m / f.1))) 1 := by rw [Nat.pow_mul]; have := hb1.pow (m / f.1); rwa [Nat.one_pow] at this
        have x3 : eqm p (h ^ (d ^ e * (m / f.1))) 1 := by
          have := x2.mul (eqm.refl p (h ^ (d ^ e * (m / f.1))))
          rw [Nat.one_mul] at this
          exact this.symm.trans hx
        rw [Nat.mul_comm, Nat.pow_mul] at x3
        have x4 : eqm p ((h ^ (m / f.1)) ^ f.1) 1 := by rw [← Nat.pow_mul, Nat.div_mul_cancel f1]; exact hh1
        have hfd : d % f.1 ≠ 0 := by
          intro h7
          have h8 := Nat.dvd_of_mod_eq_zero h7
          by_cases h9 : f.1 = d
          · rw [h9] at f1
            exact hend (Nat.mod_eq_zero_of_dvd f1)
          · have h10 := Nat.le_of_dvd (by omega) h8
            exact hdp.2 f.1 f2.1 (by omega) h8
        have hg : Nat.gcd (d ^ e) f.1 = 1 := by
          have := coprime_prime f2 hfd
          exact Nat.Coprime.pow_left e this
        exact hh2 f hf (pow_coprime hp2 hg x3 x4)
/-- Every prime has a primitive root. -/
theorem root_ex {p : Nat} (hp : PrimeN p) : ∃ g, 1 ≤ g ∧ g < p ∧ IsRt p (p - 1) (fac (p - 1) 2) g := by
  have h2 := hp.1
  obtain ⟨g, hg1, hg2⟩ := root_from hp _ (p - 1) 2 (Nat.le_refl _) (by omega) (Nat.le_refl _) (Nat.dvd_refl _) (fun e h1 h3 => absurd h3 (by omega))
  refine ⟨g % p, ?_, Nat.mod_lt _ (by omega), ?_⟩
  · by_cases h0 : g % p = 0
    · unfold eqm at hg1
      rw [Nat.pow_mod, h0, Nat.zero_pow (by omega), Nat.zero_mod, Nat.mod_eq_of_lt (by omega)] at hg1
      omega
    · omega
  · intro f hf h
    exact hg2 f hf (((eqm.mod p g).pow _).symm.trans h)

/-- The least root. -/
def IsLst (p g : Nat) : Prop := 1 ≤ g ∧ IsRt p (p - 1) (fac (p - 1) 2) g ∧ ∀ h, 1 ≤ h → h < g → ¬ IsRt p (p - 1) (fac (p - 1) 2) h
theorem IsLst.uniq {p g h : Nat} (a : IsLst p g) (b : IsLst p h) : g = h := by
  rcases Nat.lt_trichotomy g h with h1 | h1 | h1
  · exact absurd a.2.1 (b.2.2 g a.1 h1)
  · exact h1
  · exact absurd b.2.1 (a.2.2 h b.1 h1)
theorem IsLst.lt {p g : Nat} (hp : PrimeN p) (a : IsLst p g) : g < p := by
  obtain ⟨h, h1, h2, h3⟩ := root_ex hp
  refine Nat.lt_of_not_le fun hh => ?_
  exact a.2.2 h h1 (by omega) h3
/-- Half the order gives -1. -/
theorem root_half {p g : Nat} (hp : PrimeN p) (h3 : 3 ≤ p) (hg1 : 1 ≤ g) (hgp : g < p) (h : IsRt p (p - 1) (fac (p - 1) 2) g) : g ^ ((p - 1) / 2) % p = p - 1 := by
  have hodd : (p - 1) % 2 = 0 := by
    have := hp.2 2 (by omega) (by omega)
    have h5 : p % 2 ≠ 0 := fun h0 => this (Nat.dvd_of_mod_eq_zero h0)
    omega
  have hff := fac_facts _ (p - 1) 2 (Nat.le_refl _) (by omega) (Nat.le_refl _) (fun e h1 h3 => absurd h3 (by omega))
  have hmem : ∃ f ∈ fac (p - 1) 2, f.1 = 2 := by
    by_cases h4 : p - 1 < 2 * 2
    · rw [fac_last (by omega) h4]
      exact ⟨_, List.mem_singleton.2 rfl, by show p - 1 = 2; omega⟩
    · rw [fac_next (by omega) (by omega)]
      have hs := strip_yes (d := 2) (by omega) (show 0 < p - 1 by omega) hodd
      rw [if_neg (by rw [hs]; simp)]
      exact ⟨(2, (strip 2 (p - 1)).2), by simp, rfl⟩
  obtain ⟨f, hf, hf2⟩ := hmem
  have hne := h f hf
  rw [hf2] at hne
  generalize hK : (p - 1) / 2 = k at *
  have hsq : (g ^ k % p) * (g ^ k % p) % p = 1 := by
    rw [← Nat.mul_mod, ← Nat.pow_add, show k + k = p - 1 by omega]
    exact fermatN hp (by rw [Nat.mod_eq_of_lt hgp]; omega)
  have hx := Nat.mod_lt (g ^ k) (show 0 < p by omega)
  have hn1 : g ^ k % p ≠ 1 := fun e => hne (by unfold eqm; rw [e, Nat.mod_eq_of_lt (show 1 < p by omega)])
  generalize g ^ k % p = x at *
  have hx0 : x ≠ 0 := by
    intro h0; subst h0; simp at hsq
  -- (x - 1) (x + 1) is a multiple of p
  have hP := pr_of_prime hp
  have h7 : (p : Int) ∣ ((x : Int) - 1) * ((x : Int) + 1) := by
    have h8 : ((x : Int) - 1) * ((x : Int) + 1) = (x : Int) * x - 1 := by
      rw [Int.sub_mul, Int.mul_add, Int.mul_one, Int.one_mul]; omega
    rw [h8]
    refine Int.dvd_of_emod_eq_zero (Int.emod_eq_emod_iff_emod_sub_eq_zero.1 ?_)
    rw [← Int.natCast_mul, ← Int.natCast_emod, hsq, Int.emod_eq_of_lt (show (0 : Int) ≤ 1 by omega) (by omega)]
    rfl
  rcases hP.2 _ _ h7 with h8 | h8
  · have h9 := Int.emod_eq_zero_of_dvd h8
    rw [Int.emod_eq_of_lt (by omega) (by omega)] at h9
    omega
  · obtain ⟨t, ht⟩ := h8
    have : t = 1 := by
      rcases Int.lt_trichotomy t 1 with h9 | h9 | h9
      · have : (p : Int) * t ≤ 0 := Int.mul_nonpos_of_nonneg_of_nonpos (by omega) (by omega)
        omega
      · exact h9
      · have : (p : Int) * 2 ≤ (p : Int) * t := Int.mul_le_mul_of_nonneg_left (by omega) (by omega)
        omega
    subst this
    omega
end Go.Proofs.Ytdimmfniefjjkaa
