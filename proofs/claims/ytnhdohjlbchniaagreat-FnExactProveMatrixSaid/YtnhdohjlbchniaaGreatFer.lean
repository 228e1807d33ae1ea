/- Plain facts about polynomials over a prime and their roots. No program in sight. Fermat's small theorem, and a number that is no root of x^k - 1 modulo a prime. No program in sight. Plain facts about Euclid's steps and inverses modulo a number. No program in sight. -/
import Derived.Test.YtnhdohjlbchniaaGreatArith
namespace Go.Proofs.YtnhdohjlbchniaaGreat
section
/-- The value of a polynomial by its coefficients, from the lowest. -/
def ev : List Int → Int → Int
  | [], _ => 0
  | c :: cs, t => c + t * ev cs t
/-- Synthetic division by t - r. -/
def dv (r : Int) : List Int → List Int
  | [] => []
  | [_] => []
  | _ :: c :: cs => ev (c :: cs) r :: dv r (c :: cs)
theorem dv_length (r : Int) : ∀ cs : List Int, (dv r cs).length = cs.length - 1
  | [] => rfl
  | [_] => rfl
  | _ :: c :: cs => by rw [dv, List.length_cons, dv_length r (c :: cs)]; simp
theorem dv_ev (r t : Int) : ∀ cs : List Int, ev cs t - ev cs r = (t - r) * ev (dv r cs) t
  | [] => by simp [ev, dv]
  | [c] => by simp [ev, dv]
  | c0 :: c :: cs => by
    have ih := dv_ev r t (c :: cs)
    have e : ev (c0 :: c :: cs) t - ev (c0 :: c :: cs) r = t * (ev (c :: cs) t - ev (c :: cs) r) + (t - r) * ev (c :: cs) r := by
      show c0 + t * ev (c :: cs) t - (c0 + r * ev (c :: cs) r) = _
      rw [Int.mul_sub, Int.sub_mul]; omega
    rw [e, ih]
    show t * ((t - r) * ev (dv r (c :: cs)) t) + (t - r) * ev (c :: cs) r = (t - r) * (ev (c :: cs) r + t * ev (dv r (c :: cs)) t)
    rw [Int.mul_add, ← Int.mul_assoc, ← Int.mul_assoc, Int.mul_comm t (t - r), Int.add_comm]

/-- A prime divides one of two factors. -/
def Pr (q : Int) : Prop := 2 ≤ q ∧ ∀ a b : Int, q ∣ a * b → q ∣ a ∨ q ∣ b

/-- A polynomial with as many roots as coefficients vanishes. -/
theorem roots {q : Int} (hq : Pr q) : ∀ (n : Nat) (cs : List Int), cs.length = n → ∀ ts : List Int, ts.length = n → ts.Nodup → (∀ t ∈ ts, 0 ≤ t ∧ t < q ∧ q ∣ ev cs t) → ∀ t, q ∣ ev cs t := by
  intro n
  induction n with
  | zero =>
    intro cs hc _ _ _ _ t
    rw [List.eq_nil_of_length_eq_zero hc]
    exact ⟨0, by simp [ev]⟩
  | succ n ih =>
    intro cs hc ts ht hd hr t
    match ts, ht with
    | r :: ts, ht =>
      rw [List.nodup_cons] at hd
      obtain ⟨r0, r1, hrr⟩ := hr r (by simp)
      have h1 : ∀ u, q ∣ ev (dv r cs) u := by
        refine ih (dv r cs) (by rw [dv_length, hc]; omega) ts (by simpa using ht) hd.2 fun u hu => ?_
        obtain ⟨u0, u1, hu2⟩ := hr u (by simp [hu])
        refine ⟨u0, u1, ?_⟩
        have h2 : q ∣ (u - r) * ev (dv r cs) u := by rw [← dv_ev]; exact Int.dvd_sub hu2 hrr
        rcases hq.2 _ _ h2 with h3 | h3
        · exfalso
          obtain ⟨k, hk⟩ := h3
          have hne : u ≠ r := fun e => hd.1 (e ▸ hu)
          have hk0 : k = 0 := by
            rcases Int.lt_trichotomy k 0 with h | h | h
            · have : q * k ≤ q * (-1) := Int.mul_le_mul_of_nonneg_left (by omega) (by omega)
              omega
            · exact h
            · have : q * 1 ≤ q * k := Int.mul_le_mul_of_nonneg_left (by omega) (by omega)
              omega
          subst hk0
          omega
        · exact h3
      have h2 : ev cs t = ev cs r + (t - r) * ev (dv r cs) t := by have := dv_ev r t cs; omega
      rw [h2]
      exact Int.dvd_add hrr (Int.dvd_mul_of_dvd_right (h1 t))

/-- A function that is a polynomial with n coefficients. -/
def IsP (n : Nat) (f : Int → Int) : Prop := ∃ cs : List Int, cs.length = n ∧ ∀ t, f t = ev cs t
theorem IsP.zero (n : Nat) : IsP n (fun _ => 0) := ⟨List.replicate n 0, by simp, fun t => by
  induction n with
  | zero => rfl
  | succ n ih => rw [List.replicate_succ, ev, ← ih]; simp⟩
theorem IsP.more {n : Nat} {f : Int → Int} (h : IsP n f) : IsP (n + 1) f := by
  obtain ⟨cs, hl, hf⟩ := h
  refine ⟨cs ++ [0], by simp [hl], fun t => ?_⟩
  rw [hf]
  clear hl hf
  induction cs with
  | nil => simp [ev]
  | cons c cs ih => simp only [List.cons_append, ev]; rw [ih]
theorem IsP.scale {n : Nat} {f : Int → Int} (h : IsP n f) (k : Int) : IsP n (fun t => k * f t) := by
  obtain ⟨cs, hl, hf⟩ := h
  refine ⟨cs.map (k * ·), by simp [hl], fun t => ?_⟩
  show k * f t = _
  rw [hf]
  clear hl hf
  induction cs with
  | nil => simp [ev]
  | cons c cs ih => simp only [List.map_cons, ev]; rw [← ih, Int.mul_add, ← Int.mul_assoc, ← Int.mul_assoc, Int.mul_comm k t]
theorem IsP.shift {n : Nat} {f : Int → Int} (h : IsP n f) : IsP (n + 1) (fun t => t * f t) := by
  obtain ⟨cs, hl, hf⟩ := h
  exact ⟨0 :: cs, by simp [hl], fun t => by simp [ev, hf]⟩
theorem IsP.add {n : Nat} {f g : Int → Int} (h : IsP n f) (k : IsP n g) : IsP n (fun t => f t + g t) := by
  induction n generalizing f g with
  | zero =>
    obtain ⟨cs, hl, hf⟩ := h
    obtain ⟨ds, hm, hg⟩ := k
    exact ⟨[], rfl, fun t => by
      show f t + g t = _
      rw [hf, hg, List.eq_nil_of_length_eq_zero hl, List.eq_nil_of_length_eq_zero hm]; rfl⟩
  | succ n ih =>
    obtain ⟨cs, hl, hf⟩ := h
    obtain ⟨ds, hm, hg⟩ := k
    match cs, ds, hl, hm with
    | c :: cs, d :: ds, hl, hm =>
      obtain ⟨es, he, hh⟩ := ih ⟨cs, by simpa using hl, fun _ => rfl⟩ ⟨ds, by simpa using hm, fun _ => rfl⟩
      refine ⟨(c + d) :: es, by simp [he], fun t => ?_⟩
      show f t + g t = _
      rw [hf, hg]
      have := hh t
      simp only at this
      show c + t * ev cs t + (d + t * ev ds t) = c + d + t * ev es t
      rw [← this, Int.mul_add]; omega
theorem IsP.congr {n : Nat} {f g : Int → Int} (h : IsP n f) (e : ∀ t, g t = f t) : IsP n g := by
  obtain ⟨cs, hl, hf⟩ := h
  exact ⟨cs, hl, fun t => (e t).trans (hf t)⟩
theorem IsP.roots {q : Int} (hq : Pr q) {n : Nat} {f : Int → Int} (h : IsP n f) (ts : List Int) (ht : n ≤ ts.length) (hd : ts.Nodup) (hr : ∀ t ∈ ts, 0 ≤ t ∧ t < q ∧ q ∣ f t) (t : Int) : q ∣ f t := by
  obtain ⟨cs, hl, hf⟩ := h
  rw [hf]
  exact Go.Proofs.YtnhdohjlbchniaaGreat.roots hq n cs hl (ts.take n) (by rw [List.length_take]; omega) (hd.sublist (List.take_sublist _ _)) (fun u hu => by
    have := hr u (List.mem_of_mem_take hu)
    rw [hf] at this; exact this) t

theorem same_res {q x y : Int} (hx : 0 ≤ x ∧ x < q) (hy : 0 ≤ y ∧ y < q) (h : q ∣ x - y) : x = y := by
  obtain ⟨k, hk⟩ := h
  rcases Int.lt_trichotomy k 0 with h | h | h
  · have : q * k ≤ q * (-1) := Int.mul_le_mul_of_nonneg_left (by omega) (by omega)
    omega
  · subst h; omega
  · have : q * 1 ≤ q * k := Int.mul_le_mul_of_nonneg_left (by omega) (by omega)
    omega
theorem nodup_range (q : Nat) : ((List.range q).map fun i : Nat => (i : Int)).Nodup := by
  rw [List.nodup_iff_pairwise_ne, List.pairwise_map]
  exact List.nodup_iff_pairwise_ne.1 List.nodup_range |>.imp fun h e => h (by omega)
theorem pr_of_prime {n : Nat} (h : PrimeN n) : Pr n := by
  refine ⟨by have := h.1; omega, fun a b hab => ?_⟩
  have h1 : n ∣ a.natAbs * b.natAbs := by
    rw [← Int.natAbs_mul]; exact Int.natAbs_dvd_natAbs.2 hab
  by_cases hg : n ∣ a.natAbs
  · exact .inl (Int.natAbs_dvd_natAbs.1 hg)
  · right
    have hc : Nat.Coprime n a.natAbs := by
      have hd := Nat.gcd_dvd_left n a.natAbs
      have hd2 := Nat.gcd_dvd_right n a.natAbs
      have hle := Nat.le_of_dvd (by have := h.1; omega) hd
      have hpos := Nat.gcd_pos_of_pos_left a.natAbs (show 0 < n by have := h.1; omega)
      show Nat.gcd n a.natAbs = 1
      generalize Nat.gcd n a.natAbs = g at *
      by_cases h2 : 2 ≤ g
      · by_cases h3 : g < n
        · exact absurd hd (h.2 g h2 h3)
        · obtain rfl : g = n := by omega
          exact absurd hd2 hg
      · omega
    exact Int.natAbs_dvd_natAbs.1 (hc.dvd_of_dvd_mul_left h1)
end
section
theorem perm_of_sub : ∀ {l m : List Int}, l.Nodup → (∀ x ∈ l, x ∈ m) → l.length = m.length → l.Perm m
  | [], m, _, _, h => by rw [List.eq_nil_of_length_eq_zero (show m.length = 0 by simpa using h.symm)]
  | x :: l, m, hd, hs, hl => by
    rw [List.nodup_cons] at hd
    have hx := hs x (by simp)
    refine (List.Perm.cons x (perm_of_sub hd.2 (fun y hy => ?_) ?_)).trans (List.perm_cons_erase hx).symm
    · exact (List.mem_erase_of_ne (fun e => hd.1 (by subst e; exact hy))).2 (hs y (by simp [hy]))
    · rw [List.length_erase_of_mem hx]; simp at hl; omega

def prodL : List Int → Int
  | [] => 1
  | x :: l => x * prodL l
theorem prodL_perm {a b : List Int} (h : a.Perm b) : prodL a = prodL b := by
  induction h with
  | nil => rfl
  | cons x _ ih => rw [prodL, prodL, ih]
  | swap x y l => simp only [prodL]; rw [← Int.mul_assoc, ← Int.mul_assoc, Int.mul_comm y]
  | trans _ _ h1 h2 => exact h1.trans h2
theorem prodL_mod (p x : Int) : ∀ l : List Int, prodL (l.map fun i => x * i % p) % p = x ^ l.length * prodL l % p
  | [] => by simp [prodL]
  | i :: l => by
    have ih := prodL_mod p x l
    rw [List.map_cons, prodL, Int.mul_emod, ih, ← Int.mul_emod, prodL, List.length_cons, Int.pow_succ]
    rw [Int.mul_emod, Int.emod_emod_of_dvd _ (Int.dvd_refl p), ← Int.mul_emod]
    congr 1
    generalize x ^ l.length = y
    generalize prodL l = z
    rw [Int.mul_comm y x, Int.mul_assoc, Int.mul_assoc, ← Int.mul_assoc i, Int.mul_comm i y, Int.mul_assoc]
theorem not_dvd_prodL {p : Int} (hp : Pr p) : ∀ {l : List Int}, (∀ x ∈ l, ¬ p ∣ x) → ¬ p ∣ prodL l
  | [], _, h => by
    have h1 : (1 : Int) % p = 0 := Int.emod_eq_zero_of_dvd h
    rw [Int.emod_eq_of_lt (by omega) (by have := hp.1; omega)] at h1
    omega
  | x :: l, hl, h => by
    rcases hp.2 _ _ h with h1 | h1
    · exact hl x (by simp) h1
    · exact not_dvd_prodL hp (fun y hy => hl y (by simp [hy])) h1
theorem not_dvd_of {p x : Int} (h0 : 0 < x) (h1 : x < p) : ¬ p ∣ x := fun h => by
  have := Int.emod_eq_zero_of_dvd h
  rw [Int.emod_eq_of_lt (by omega) h1] at this
  omega

/-- The residues from 1 to p - 1. -/
def resL (p : Nat) : List Int := (List.range (p - 1)).map fun i : Nat => (i : Int) + 1
theorem resL_length (p : Nat) : (resL p).length = p - 1 := by simp [resL]
theorem resL_mem {p : Nat} {x : Int} : x ∈ resL p ↔ 0 < x ∧ x < p := by
  unfold resL
  rw [List.mem_map]
  constructor
  · rintro ⟨i, hi, rfl⟩; have := List.mem_range.1 hi; omega
  · rintro ⟨h0, h1⟩; exact ⟨(x - 1).toNat, List.mem_range.2 (by omega), by omega⟩
theorem resL_nodup (p : Nat) : (resL p).Nodup := by
  unfold resL
  rw [List.nodup_iff_pairwise_ne, List.pairwise_map]
  exact List.nodup_iff_pairwise_ne.1 List.nodup_range |>.imp fun h e => h (by omega)

theorem fermat {p : Nat} (hp : PrimeN p) {x : Int} (hx : ¬ (p : Int) ∣ x) : (p : Int) ∣ x ^ (p - 1) - 1 := by
  have hP := pr_of_prime hp
  have h2 := hp.1
  have hperm : ((resL p).map fun i => x * i % (p : Int)).Perm (resL p) := by
    refine perm_of_sub ?_ ?_ (by simp)
    · rw [List.nodup_iff_pairwise_ne, List.pairwise_map]
      have hn := List.nodup_iff_pairwise_ne.1 (resL_nodup p)
      refine List.Pairwise.imp_of_mem ?_ hn
      intro a b ha hb hab he
      have h3 : (p : Int) ∣ x * a - x * b := Int.dvd_of_emod_eq_zero (Int.emod_eq_emod_iff_emod_sub_eq_zero.1 he)
      rw [← Int.mul_sub] at h3
      rcases hP.2 _ _ h3 with h4 | h4
      · exact hx h4
      · have ha' := resL_mem.1 ha
        have hb' := resL_mem.1 hb
        exact hab (same_res (by omega) (by omega) h4)
    · intro y hy
      obtain ⟨i, hi, rfl⟩ := List.mem_map.1 hy
      have hi' := resL_mem.1 hi
      rw [resL_mem]
      have h3 := Int.emod_nonneg (x * i) (show (p : Int) ≠ 0 by omega)
      have h4 := Int.emod_lt_of_pos (x * i) (show (0 : Int) < p by omega)
      refine ⟨?_, h4⟩
      by_cases h5 : x * i % (p : Int) = 0
      · rcases hP.2 _ _ (Int.dvd_of_emod_eq_zero h5) with h6 | h6
        · exact absurd h6 hx
        · exact absurd h6 (not_dvd_of hi'.1 hi'.2)
      · omega
  have h3 := prodL_mod (p : Int) x (resL p)
  rw [prodL_perm hperm, resL_length] at h3
  have h4 : (p : Int) ∣ x ^ (p - 1) * prodL (resL p) - prodL (resL p) := Int.dvd_of_emod_eq_zero (Int.emod_eq_emod_iff_emod_sub_eq_zero.1 h3.symm)
  have h5 : x ^ (p - 1) * prodL (resL p) - prodL (resL p) = (x ^ (p - 1) - 1) * prodL (resL p) := by rw [Int.sub_mul, Int.one_mul]
  rw [h5] at h4
  rcases hP.2 _ _ h4 with h6 | h6
  · exact h6
  · exact absurd h6 (not_dvd_prodL hP fun y hy => by have := resL_mem.1 hy; exact not_dvd_of this.1 this.2)
theorem fermatN {p x : Nat} (hp : PrimeN p) (hx : x % p ≠ 0) : x ^ (p - 1) % p = 1 := by
  have h := fermat hp (x := (x : Int)) (fun h => hx (by have := Int.emod_eq_zero_of_dvd h; omega))
  have h2 := hp.1
  have h3 : ((x : Int) ^ (p - 1) % (p : Int)) = 1 % (p : Int) := Int.emod_eq_emod_iff_emod_sub_eq_zero.2 (Int.emod_eq_zero_of_dvd h)
  rw [Int.emod_eq_of_lt (show (0 : Int) ≤ 1 by omega) (by omega)] at h3
  have h4 : ((x ^ (p - 1) % p : Nat) : Int) = 1 := by push_cast; exact h3
  omega

theorem tpow_isP : ∀ n : Nat, IsP (n + 1) (fun t => t ^ n)
  | 0 => ⟨[1], rfl, fun t => by simp [ev]⟩
  | n + 1 => (tpow_isP n).shift.congr fun t => by show t ^ (n + 1) = t * t ^ n; rw [Int.pow_succ, Int.mul_comm]
theorem const_isP (n : Nat) (c : Int) : IsP (n + 1) (fun _ => c) := ⟨c :: List.replicate n 0, by simp, fun t => by
  have h : ∀ m, ev (List.replicate m 0) t = 0 := fun m => by
    induction m with
    | zero => rfl
    | succ m ih => rw [List.replicate_succ, ev, ih]; simp
  show c = c + t * ev (List.replicate n 0) t
  rw [h]; simp⟩
/-- Among 2 .. k + 1 there is a number whose k-th power is not 1. -/
theorem nonroot {p k : Nat} (hp : PrimeN p) (hk : 1 ≤ k) (hkp : k + 1 < p) : ∃ h, 2 ≤ h ∧ h ≤ k + 1 ∧ h ^ k % p ≠ 1 := by
  refine Classical.byContradiction fun hno => ?_
  have hP := pr_of_prime hp
  have h2 := hp.1
  have hall : ∀ h : Nat, 1 ≤ h → h ≤ k + 1 → h ^ k % p = 1 := fun h h1 h3 => by
    by_cases e : h = 1
    · subst e; rw [Nat.one_pow, Nat.mod_eq_of_lt (by omega)]
    · exact Classical.byContradiction fun hn => hno ⟨h, by omega, h3, hn⟩
  have hI : IsP (k + 1) (fun t => t ^ k - 1) := ((tpow_isP k).add (const_isP k (-1))).congr fun t => by show t ^ k - 1 = t ^ k + -1; omega
  have h0 := hI.roots hP ((List.range (k + 1)).map fun i : Nat => (i : Int) + 1) (by simp) (by
    rw [List.nodup_iff_pairwise_ne, List.pairwise_map]
    exact List.nodup_iff_pairwise_ne.1 List.nodup_range |>.imp fun h e => h (by omega)) (fun t ht => by
      obtain ⟨i, hi, rfl⟩ := List.mem_map.1 ht
      have hi' := List.mem_range.1 hi
      refine ⟨by omega, by omega, ?_⟩
      have h3 := hall (i + 1) (by omega) (by omega)
      have h4 : (((i : Int) + 1) ^ k % (p : Int)) = 1 := by
        have : (((i + 1) ^ k % p : Nat) : Int) = 1 := by omega
        push_cast at this; exact this
      have h5 : (((i : Int) + 1) ^ k % (p : Int)) = 1 % (p : Int) := by rw [h4, Int.emod_eq_of_lt (by omega) (by omega)]
      exact Int.dvd_of_emod_eq_zero (Int.emod_eq_emod_iff_emod_sub_eq_zero.1 h5)) 0
  have h6 : ((0 : Int) ^ k - 1) = -1 := by rw [Int.zero_pow (by omega)]; rfl
  simp only [h6] at h0
  have h7 := Int.dvd_neg.1 h0
  have h8 : (1 : Int) % p = 0 := Int.emod_eq_zero_of_dvd h7
  rw [Int.emod_eq_of_lt (by omega) (by omega)] at h8
  omega
end
section
theorem abs_step {x y : Int} {q : Nat} (h : x * y ≤ 0) : (x - q * y).natAbs = x.natAbs + q * y.natAbs := by
  have hq : (0 : Int) ≤ q := by omega
  rcases Int.lt_trichotomy y 0 with hy | hy | hy
  · have hx : 0 ≤ x := Int.not_lt.1 fun hx => by
      have := Int.mul_pos_of_neg_of_neg hx hy
      omega
    have h1 : (q : Int) * y ≤ 0 := Int.mul_nonpos_of_nonneg_of_nonpos hq (by omega)
    have h2 : ((q * y.natAbs : Nat) : Int) = -(q * y) := by
      rw [Int.natCast_mul, Int.ofNat_natAbs_of_nonpos (by omega), Int.mul_neg]
    omega
  · subst hy; simp
  · have hx : x ≤ 0 := Int.not_lt.1 fun hx => by
      have := Int.mul_pos hx hy
      omega
    have h1 : 0 ≤ (q : Int) * y := Int.mul_nonneg hq (by omega)
    have h2 : ((q * y.natAbs : Nat) : Int) = q * y := by
      rw [Int.natCast_mul, Int.natAbs_of_nonneg (by omega)]
    omega

/-- A state of Euclid's steps. -/
structure EI (m : Nat) (a : Int) (r s : Nat) (x y : Int) : Prop where
  rm : r ≤ m
  sm : s ≤ m
  dx : (m : Int) ∣ a * x - r
  dy : (m : Int) ∣ a * y - s
  xy : x * y ≤ 0
  ax : x.natAbs ≤ m
  ay : y.natAbs ≤ m
  key : x.natAbs * s + y.natAbs * r = m
  g : Nat.gcd r s = Nat.gcd a.natAbs m
theorem EI.step {m : Nat} {a : Int} {r s : Nat} {x y : Int} (h : EI m a r s x y) (hs : s ≠ 0) : EI m a s (r % s) y (x - (r / s : Nat) * y) := by
  have hb := abs_step (q := r / s) h.xy
  have hr : r % s + s * (r / s) = r := Nat.mod_add_div r s
  have hlt : r % s < s := Nat.mod_lt _ (by omega)
  have hkey : y.natAbs * (r % s) + (x.natAbs + r / s * y.natAbs) * s = m := by
    rw [← h.key, Nat.add_mul]
    conv => rhs; rw [← hr, Nat.mul_add]
    have e : r / s * y.natAbs * s = y.natAbs * (s * (r / s)) := by
      rw [Nat.mul_comm (r / s), Nat.mul_assoc, Nat.mul_comm (r / s)]
    omega
  have hay : (x - (r / s : Nat) * y).natAbs ≤ m := by
    rw [hb]
    have h1 : (x.natAbs + r / s * y.natAbs) * 1 ≤ (x.natAbs + r / s * y.natAbs) * s := Nat.mul_le_mul_left _ (by omega)
    omega
  refine ⟨h.sm, Nat.le_trans (Nat.le_of_lt hlt) h.sm, h.dy, ?_, ?_, h.ay, hay, by rw [hb, Nat.add_comm (y.natAbs * (r % s)), Nat.add_comm] at *; omega, ?_⟩
  · have e : a * (x - (r / s : Nat) * y) - ((r % s : Nat) : Int) = (a * x - r) - (r / s : Nat) * (a * y - s) := by
      have e1 : ((r % s : Nat) : Int) = (r : Int) - (s : Int) * ((r / s : Nat) : Int) := by rw [← Int.natCast_mul]; omega
      rw [e1, Int.mul_sub, Int.mul_sub, Int.mul_comm (s : Int)]
      have e2 : a * (((r / s : Nat) : Int) * y) = ((r / s : Nat) : Int) * (a * y) := by rw [← Int.mul_assoc, Int.mul_comm a, Int.mul_assoc]
      rw [e2]
      omega
    rw [e]
    exact Int.dvd_sub h.dx (Int.dvd_mul_of_dvd_right h.dy)
  · have h1 := h.xy
    have h2 : 0 ≤ ((r / s : Nat) : Int) * (y * y) := Int.mul_nonneg (Int.natCast_nonneg _) (by
      rcases Int.le_total 0 y with hy | hy
      · exact Int.mul_nonneg hy hy
      · exact Int.mul_nonneg_of_nonpos_of_nonpos hy hy)
    have e : y * (x - (r / s : Nat) * y) = x * y - ((r / s : Nat) : Int) * (y * y) := by
      rw [Int.mul_sub, Int.mul_comm y x]
      congr 1
      rw [← Int.mul_assoc, Int.mul_comm y, Int.mul_assoc]
    omega
  · rw [← h.g, Nat.gcd_comm s, ← Nat.gcd_rec, Nat.gcd_comm]
theorem EI.qs {m : Nat} {a : Int} {r s : Nat} {x y : Int} (h : EI m a r s x y) (hs : s ≠ 0) : ((r / s : Nat) : Int) * s = (r : Int) - ((r % s : Nat) : Int) ∧ -(m : Int) ≤ ((r / s : Nat) : Int) * y ∧ ((r / s : Nat) : Int) * y ≤ m := by
  have h1 := abs_step (q := r / s) h.xy
  have h2 := (h.step hs).ay
  have h3 : (((r / s : Nat) : Int) * y).natAbs = r / s * y.natAbs := by rw [Int.natAbs_mul, Int.natAbs_natCast]
  have hr : r % s + s * (r / s) = r := Nat.mod_add_div r s
  refine ⟨?_, by omega, by omega⟩
  rw [Int.mul_comm, ← Int.natCast_mul]; omega

/-- The inverse modulo m, 0 if there is none. -/
noncomputable def invV (a m : Int) : Int := open Classical in if h : ∃ v, 0 ≤ v ∧ v < m ∧ a * v % m = 1 then h.choose else 0
theorem inv_uniq {a m v v' : Int} (h : 0 ≤ v ∧ v < m ∧ a * v % m = 1) (h' : 0 ≤ v' ∧ v' < m ∧ a * v' % m = 1) : v = v' := by
  have h1 : v * (a * v') % m = v % m := by rw [Int.mul_emod, h'.2.2, Int.mul_one, Int.emod_emod_of_dvd _ (Int.dvd_refl m)]
  have h2 : v' * (a * v) % m = v' % m := by rw [Int.mul_emod, h.2.2, Int.mul_one, Int.emod_emod_of_dvd _ (Int.dvd_refl m)]
  have h3 : v * (a * v') = v' * (a * v) := by rw [← Int.mul_assoc, ← Int.mul_assoc, Int.mul_comm (v * a), Int.mul_comm (v' * a) v, ← Int.mul_assoc, ← Int.mul_assoc, Int.mul_comm v v']
  rw [h3, h2, Int.emod_eq_of_lt h.1 h.2.1, Int.emod_eq_of_lt h'.1 h'.2.1] at h1
  exact h1.symm
theorem invV_eq {a m v : Int} (h : 0 ≤ v ∧ v < m ∧ a * v % m = 1) : invV a m = v := by
  unfold invV
  have hx : ∃ v, 0 ≤ v ∧ v < m ∧ a * v % m = 1 := ⟨v, h⟩
  rw [dif_pos hx]
  exact inv_uniq hx.choose_spec h
theorem invV_no {a m : Int} (h : ¬ ∃ v, 0 ≤ v ∧ v < m ∧ a * v % m = 1) : invV a m = 0 := by unfold invV; rw [dif_neg h]
theorem invV_spec {a m : Int} (h : ∃ v, 0 ≤ v ∧ v < m ∧ a * v % m = 1) : 0 ≤ invV a m ∧ invV a m < m ∧ a * invV a m % m = 1 := by
  obtain ⟨v, hv⟩ := h
  rw [invV_eq hv]; exact hv
theorem invV_bd {a m : Int} (hm : 0 < m) : 0 ≤ invV a m ∧ invV a m < m := by
  by_cases h : ∃ v, 0 ≤ v ∧ v < m ∧ a * v % m = 1
  · have := invV_spec h; omega
  · rw [invV_no h]; omega
theorem invV_pos {a m : Int} (_hm : 2 ≤ m) : invV a m ≠ 0 ↔ ∃ v, 0 ≤ v ∧ v < m ∧ a * v % m = 1 := by
  constructor
  · intro h
    exact Classical.byContradiction fun hn => h (invV_no hn)
  · intro h h0
    have := (invV_spec h).2.2
    rw [h0, Int.mul_zero, Int.zero_emod] at this
    omega
/-- At the end. -/
theorem EI.fin {m : Nat} {a : Int} {r : Nat} {x y : Int} (h : EI m a r 0 x y) (hm : 2 ≤ m) : (r = 1 → x % m = invV a m) ∧ (r ≠ 1 → ¬ ∃ v, 0 ≤ v ∧ v < (m : Int) ∧ a * v % m = 1) := by
  have hg : r = Nat.gcd a.natAbs m := by rw [← h.g, Nat.gcd_zero_right]
  constructor
  · intro hr
    refine (invV_eq ⟨Int.emod_nonneg _ (by omega), Int.emod_lt_of_pos _ (by omega), ?_⟩).symm
    have h1 : a * (x % m) % m = a * x % m := by rw [Int.mul_emod, Int.emod_emod_of_dvd _ (Int.dvd_refl _), ← Int.mul_emod]
    rw [h1]
    have h2 := h.dx
    rw [hr] at h2
    have h3 := Int.emod_eq_emod_iff_emod_sub_eq_zero.2 (Int.emod_eq_zero_of_dvd h2)
    rw [h3]
    exact Int.emod_eq_of_lt (by omega) (by omega)
  · rintro hr ⟨v, _, _, hv⟩
    have hga : (Nat.gcd a.natAbs m) ∣ a.natAbs := Nat.gcd_dvd_left _ _
    have hgm : (Nat.gcd a.natAbs m) ∣ m := Nat.gcd_dvd_right _ _
    rw [← hg] at hga hgm
    have h1 : (r : Int) ∣ a * v := Int.dvd_mul_of_dvd_left (Int.natAbs_dvd_natAbs.1 (by rw [Int.natAbs_natCast]; exact hga))
    have h2 : (r : Int) ∣ (m : Int) := Int.natCast_dvd_natCast.2 hgm
    have h3 : (r : Int) ∣ a * v % m := by
      rw [Int.emod_def]
      exact Int.dvd_sub h1 (Int.dvd_mul_of_dvd_left h2)
    rw [hv] at h3
    have h4 : (r : Int) ∣ ((1 : Nat) : Int) := h3
    have := Nat.dvd_one.1 (Int.natCast_dvd_natCast.1 h4)
    exact hr this
end
end Go.Proofs.YtnhdohjlbchniaaGreat
