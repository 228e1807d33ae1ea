/- Plain facts about polynomials over a prime and their roots. No program in sight. -/
import Derived.Test.YthamimjejlicpaaArith
namespace Go.Proofs.Ythamimjejlicpaa

/-- The value of a polynomial by its coefficients, from the lowest. -/
def ev : List Int → Int → Int
  | [], _ => 0
  | c :: cs, t => c + t * ev cs t
/-- Synthetic division by t - r. -/
def dv (r : Int) : List Int → List Int
  | [] => []
  | [_] => []
  | _ :: c :: cs => ev (c :: cs) r :: dv r (c :: cs)
theorem dv_length (r : Int) : ∀ cs : List Int, (dv r cs).length = cs.length - 1
  | [] => rfl
  | [_] => rfl
  | _ :: c :: cs => by rw [dv, List.length_cons, dv_length r (c :: cs)]; simp
theorem dv_ev (r t : Int) : ∀ cs : List Int, ev cs t - ev cs r = (t - r) * ev (dv r cs) t
  | [] => by simp [ev, dv]
  | [c] => by simp [ev, dv]
  | c0 :: c :: cs => by
    have ih := dv_ev r t (c :: cs)
    have e : ev (c0 :: c :: cs) t - ev (c0 :: c :: cs) r = t * (ev (c :: cs) t - ev (c :: cs) r) + (t - r) * ev (c :: cs) r := by
      show c0 + t * ev (c :: cs) t - (c0 + r * ev (c :: cs) r) = _
      rw [Int.mul_sub, Int.sub_mul]; omega
    rw [e, ih]
    show t * ((t - r) * ev (dv r (c :: cs)) t) + (t - r) * ev (c :: cs) r = (t - r) * (ev (c :: cs) r + t * ev (dv r (c :: cs)) t)
    rw [Int.mul_add, ← Int.mul_assoc, ← Int.mul_assoc, Int.mul_comm t (t - r), Int.add_comm]

/-- A prime divides one of two factors. -/
def Pr (q : Int) : Prop := 2 ≤ q ∧ ∀ a b : Int, q ∣ a * b → q ∣ a ∨ q ∣ b

/-- A polynomial with as many roots as coefficients vanishes. -/
theorem roots {q : Int} (hq : Pr q) : ∀ (n : Nat) (cs : List Int), cs.length = n → ∀ ts : List Int, ts.length = n → ts.Nodup → (∀ t ∈ ts, 0 ≤ t ∧ t < q ∧ q ∣ ev cs t) → ∀ t, q ∣ ev cs t := by
  intro n
  induction n with
  | zero =>
    intro cs hc _ _ _ _ t
    rw [List.eq_nil_of_length_eq_zero hc]
    exact ⟨0, by simp [ev]⟩
  | succ n ih =>
    intro cs hc ts ht hd hr t
    match ts, ht with
    | r :: ts, ht =>
      rw [List.nodup_cons] at hd
      obtain ⟨r0, r1, hrr⟩ := hr r (by simp)
      have h1 : ∀ u, q ∣ ev (dv r cs) u := by
        refine ih (dv r cs) (by rw [dv_length, hc]; omega) ts (by simpa using ht) hd.2 fun u hu => ?_
        obtain ⟨u0, u1, hu2⟩ := hr u (by simp [hu])
        refine ⟨u0, u1, ?_⟩
        have h2 : q ∣ (u - r) * ev (dv r cs) u := by rw [← dv_ev]; exact Int.dvd_sub hu2 hrr
        rcases hq.2 _ _ h2 with h3 | h3
        · exfalso
          obtain ⟨k, hk⟩ := h3
          have hne : u ≠ r := fun e => hd.1 (e ▸ hu)
          have hk0 : k = 0 := by
            rcases Int.lt_trichotomy k 0 with h | h | h
            · have : q * k ≤ q * (-1) := Int.mul_le_mul_of_nonneg_left (by omega) (by omega)
              omega
            · exact h
            · have : q * 1 ≤ q * k := Int.mul_le_mul_of_nonneg_left (by omega) (by omega)
              omega
          subst hk0
          omega
        · exact h3
      have h2 : ev cs t = ev cs r + (t - r) * ev (dv r cs) t := by have := dv_ev r t cs; omega
      rw [h2]
      exact Int.dvd_add hrr (Int.dvd_mul_of_dvd_right (h1 t))

/-- A function that is a polynomial with n coefficients. -/
def IsP (n : Nat) (f : Int → Int) : Prop := ∃ cs : List Int, cs.length = n ∧ ∀ t, f t = ev cs t
theorem IsP.zero (n : Nat) : IsP n (fun _ => 0) := ⟨List.replicate n 0, by simp, fun t => by
  induction n with
  | zero => rfl
  | succ n ih => rw [List.replicate_succ, ev, ← ih]; simp⟩
theorem IsP.more {n : Nat} {f : Int → Int} (h : IsP n f) : IsP (n + 1) f := by
  obtain ⟨cs, hl, hf⟩ := h
  refine ⟨cs ++ [0], by simp [hl], fun t => ?_⟩
  rw [hf]
  clear hl hf
  induction cs with
  | nil => simp [ev]
  | cons c cs ih => simp only [List.cons_append, ev]; rw [ih]
theorem IsP.scale {n : Nat} {f : Int → Int} (h : IsP n f) (k : Int) : IsP n (fun t => k * f t) := by
  obtain ⟨cs, hl, hf⟩ := h
  refine ⟨cs.map (k * ·), by simp [hl], fun t => ?_⟩
  show k * f t = _
  rw [hf]
  clear hl hf
  induction cs with
  | nil => simp [ev]
  | cons c cs ih => simp only [List.map_cons, ev]; rw [← ih, Int.mul_add, ← Int.mul_assoc, ← Int.mul_assoc, Int.mul_comm k t]
theorem IsP.shift {n : Nat} {f : Int → Int} (h : IsP n f) : IsP (n + 1) (fun t => t * f t) := by
  obtain ⟨cs, hl, hf⟩ := h
  exact ⟨0 :: cs, by simp [hl], fun t => by simp [ev, hf]⟩
theorem IsP.add {n : Nat} {f g : Int → Int} (h : IsP n f) (k : IsP n g) : IsP n (fun t => f t + g t) := by
  induction n generalizing f g with
  | zero =>
    obtain ⟨cs, hl, hf⟩ := h
    obtain ⟨ds, hm, hg⟩ := k
    exact ⟨[], rfl, fun t => by
      show f t + g t = _
      rw [hf, hg, List.eq_nil_of_length_eq_zero hl, List.eq_nil_of_length_eq_zero hm]; rfl⟩
  | succ n ih =>
    obtain ⟨cs, hl, hf⟩ := h
    obtain ⟨ds, hm, hg⟩ := k
    match cs, ds, hl, hm with
    | c :: cs, d :: ds, hl, hm =>
      obtain ⟨es, he, hh⟩ := ih ⟨cs, by simpa using hl, fun _ => rfl⟩ ⟨ds, by simpa using hm, fun _ => rfl⟩
      refine ⟨(c + d) :: es, by simp [he], fun t => ?_⟩
      show f t + g t = _
      rw [hf, hg]
      have := hh t
      simp only at this
      show c + t * ev cs t + (d + t * ev ds t) = c + d + t * ev es t
      rw [← this, Int.mul_add]; omega
theorem IsP.congr {n : Nat} {f g : Int → Int} (h : IsP n f) (e : ∀ t, g t = f t) : IsP n g := by
  obtain ⟨cs, hl, hf⟩ := h
  exact ⟨cs, hl, fun t => (e t).trans (hf t)⟩
theorem IsP.roots {q : Int} (hq : Pr q) {n : Nat} {f : Int → Int} (h : IsP n f) (ts : List Int) (ht : n ≤ ts.length) (hd : ts.Nodup) (hr : ∀ t ∈ ts, 0 ≤ t ∧ t < q ∧ q ∣ f t) (t : Int) : q ∣ f t := by
  obtain ⟨cs, hl, hf⟩ := h
  rw [hf]
  exact Go.Proofs.Ythamimjejlicpaa.roots hq n cs hl (ts.take n) (by rw [List.length_take]; omega) (hd.sublist (List.take_sublist _ _)) (fun u hu => by
    have := hr u (List.mem_of_mem_take hu)
    rw [hf] at this; exact this) t

theorem same_res {q x y : Int} (hx : 0 ≤ x ∧ x < q) (hy : 0 ≤ y ∧ y < q) (h : q ∣ x - y) : x = y := by
  obtain ⟨k, hk⟩ := h
  rcases Int.lt_trichotomy k 0 with h | h | h
  · have : q * k ≤ q * (-1) := Int.mul_le_mul_of_nonneg_left (by omega) (by omega)
    omega
  · subst h; omega
  · have : q * 1 ≤ q * k := Int.mul_le_mul_of_nonneg_left (by omega) (by omega)
    omega
theorem nodup_range (q : Nat) : ((List.range q).map fun i : Nat => (i : Int)).Nodup := by
  rw [List.nodup_iff_pairwise_ne, List.pairwise_map]
  exact List.nodup_iff_pairwise_ne.1 List.nodup_range |>.imp fun h e => h (by omega)
theorem pr_of_prime {n : Nat} (h : PrimeN n) : Pr n := by
  refine ⟨by have := h.1; omega, fun a b hab => ?_⟩
  have h1 : n ∣ a.natAbs * b.natAbs := by
    rw [← Int.natAbs_mul]; exact Int.natAbs_dvd_natAbs.2 hab
  by_cases hg : n ∣ a.natAbs
  · exact .inl (Int.natAbs_dvd_natAbs.1 hg)
  · right
    have hc : Nat.Coprime n a.natAbs := by
      have hd := Nat.gcd_dvd_left n a.natAbs
      have hd2 := Nat.gcd_dvd_right n a.natAbs
      have hle := Nat.le_of_dvd (by have := h.1; omega) hd
      have hpos := Nat.gcd_pos_of_pos_left a.natAbs (show 0 < n by have := h.1; omega)
      show Nat.gcd n a.natAbs = 1
      generalize Nat.gcd n a.natAbs = g at *
      by_cases h2 : 2 ≤ g
      · by_cases h3 : g < n
        · exact absurd hd (h.2 g h2 h3)
        · obtain rfl : g = n := by omega
          exact absurd hd2 hg
      · omega
    exact Int.natAbs_dvd_natAbs.1 (hc.dvd_of_dvd_mul_left h1)

end Go.Proofs.Ythamimjejlicpaa
