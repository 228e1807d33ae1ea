/- Plain facts about products of differences: polynomials over a prime, their roots. No program in sight. -/
import Derived.Test.YteohpelbkmdlmaaAgree
namespace Go.Proofs.Yteohpelbkmdlmaa

/-- The value of a polynomial by its coefficients, from the lowest. -/
def ev : List Int → Int → Int
  | [], _ => 0
  | c :: cs, t => c + t * ev cs t
/-- Synthetic division by t - r. -/
def dv (r : Int) : List Int → List Int
  | [] => []
  | [_] => []
  | _ :: c :: cs => ev (c :: cs) r :: dv r (c :: cs)
theorem dv_length (r : Int) : ∀ cs : List Int, (dv r cs).length = cs.length - 1
  | [] => rfl
  | [_] => rfl
  | _ :: c :: cs => by rw [dv, List.length_cons, dv_length r (c :: cs)]; simp
theorem dv_ev (r t : Int) : ∀ cs : List Int, ev cs t - ev cs r = (t - r) * ev (dv r cs) t
  | [] => by simp [ev, dv]
  | [c] => by simp [ev, dv]
  | c0 :: c :: cs => by
    have ih := dv_ev r t (c :: cs)
    have e : ev (c0 :: c :: cs) t - ev (c0 :: c :: cs) r = t * (ev (c :: cs) t - ev (c :: cs) r) + (t - r) * ev (c :: cs) r := by
      show c0 + t * ev (c :: cs) t - (c0 + r * ev (c :: cs) r) = _
      rw [Int.mul_sub, Int.sub_mul]; omega
    rw [e, ih]
    show t * ((t - r) * ev (dv r (c :: cs)) t) + (t - r) * ev (c :: cs) r = (t - r) * (ev (c :: cs) r + t * ev (dv r (c :: cs)) t)
    rw [Int.mul_add, ← Int.mul_assoc, ← Int.mul_assoc, Int.mul_comm t (t - r), Int.add_comm]

/-- A prime divides one of two factors. -/
def Pr (q : Int) : Prop := 2 ≤ q ∧ ∀ a b : Int, q ∣ a * b → q ∣ a ∨ q ∣ b

/-- A polynomial with as many roots as coefficients vanishes. -/
theorem roots {q : Int} (hq : Pr q) : ∀ (n : Nat) (cs : List Int), cs.length = n → ∀ ts : List Int, ts.length = n → ts.Nodup → (∀ t ∈ ts, 0 ≤ t ∧ t < q ∧ q ∣ ev cs t) → ∀ t, q ∣ ev cs t := by
  intro n
  induction n with
  | zero =>
    intro cs hc _ _ _ _ t
    rw [List.eq_nil_of_length_eq_zero hc]
    exact ⟨0, by simp [ev]⟩
  | succ n ih =>
    intro cs hc ts ht hd hr t
    match ts, ht with
    | r :: ts, ht =>
      rw [List.nodup_cons] at hd
      obtain ⟨r0, r1, hrr⟩ := hr r (by simp)
      have h1 : ∀ u, q ∣ ev (dv r cs) u := by
        refine ih (dv r cs) (by rw [dv_length, hc]; omega) ts (by simpa using ht) hd.2 fun u hu => ?_
        obtain ⟨u0, u1, hu2⟩ := hr u (by simp [hu])
        refine ⟨u0, u1, ?_⟩
        have h2 : q ∣ (u - r) * ev (dv r cs) u := by rw [← dv_ev]; exact Int.dvd_sub hu2 hrr
        rcases hq.2 _ _ h2 with h3 | h3
        · exfalso
          obtain ⟨k, hk⟩ := h3
          have hne : u ≠ r := fun e => hd.1 (e ▸ hu)
          have hk0 : k = 0 := by
            rcases Int.lt_trichotomy k 0 with h | h | h
            · have : q * k ≤ q * (-1) := Int.mul_le_mul_of_nonneg_left (by omega) (by omega)
              omega
            · exact h
            · have : q * 1 ≤ q * k := Int.mul_le_mul_of_nonneg_left (by omega) (by omega)
              omega
          subst hk0
          omega
        · exact h3
      have h2 : ev cs t = ev cs r + (t - r) * ev (dv r cs) t := by have := dv_ev r t cs; omega
      rw [h2]
      exact Int.dvd_add hrr (Int.dvd_mul_of_dvd_right (h1 t))

/-- A function that is a polynomial with n coefficients. -/
def IsP (n : Nat) (f : Int → Int) : Prop := ∃ cs : List Int, cs.length = n ∧ ∀ t, f t = ev cs t
theorem IsP.zero (n : Nat) : IsP n (fun _ => 0) := ⟨List.replicate n 0, by simp, fun t => by
  induction n with
  | zero => rfl
  | succ n ih => rw [List.replicate_succ, ev, ← ih]; simp⟩
theorem IsP.more {n : Nat} {f : Int → Int} (h : IsP n f) : IsP (n + 1) f := by
  obtain ⟨cs, hl, hf⟩ := h
  refine ⟨cs ++ [0], by simp [hl], fun t => ?_⟩
  rw [hf]
  clear hl hf
  induction cs with
  | nil => simp [ev]
  | cons c cs ih => simp only [List.cons_append, ev]; rw [ih]
theorem IsP.scale {n : Nat} {f : Int → Int} (h : IsP n f) (k : Int) : IsP n (fun t => k * f t) := by
  obtain ⟨cs, hl, hf⟩ := h
  refine ⟨cs.map (k * ·), by simp [hl], fun t => ?_⟩
  show k * f t = _
  rw [hf]
  clear hl hf
  induction cs with
  | nil => simp [ev]
  | cons c cs ih => simp only [List.map_cons, ev]; rw [← ih, Int.mul_add, ← Int.mul_assoc, ← Int.mul_assoc, Int.mul_comm k t]
theorem IsP.shift {n : Nat} {f : Int → Int} (h : IsP n f) : IsP (n + 1) (fun t => t * f t) := by
  obtain ⟨cs, hl, hf⟩ := h
  exact ⟨0 :: cs, by simp [hl], fun t => by simp [ev, hf]⟩
theorem IsP.add {n : Nat} {f g : Int → Int} (h : IsP n f) (k : IsP n g) : IsP n (fun t => f t + g t) := by
  induction n generalizing f g with
  | zero =>
    obtain ⟨cs, hl, hf⟩ := h
    obtain ⟨ds, hm, hg⟩ := k
    exact ⟨[], rfl, fun t => by
      show f t + g t = _
      rw [hf, hg, List.eq_nil_of_length_eq_zero hl, List.eq_nil_of_length_eq_zero hm]; rfl⟩
  | succ n ih =>
    obtain ⟨cs, hl, hf⟩ := h
    obtain ⟨ds, hm, hg⟩ := k
    match cs, ds, hl, hm with
    | c :: cs, d :: ds, hl, hm =>
      obtain ⟨es, he, hh⟩ := ih ⟨cs, by simpa using hl, fun _ => rfl⟩ ⟨ds, by simpa using hm, fun _ => rfl⟩
      refine ⟨(c + d) :: es, by simp [he], fun t => ?_⟩
      show f t + g t = _
      rw [hf, hg]
      have := hh t
      simp only at this
      show c + t * ev cs t + (d + t * ev ds t) = c + d + t * ev es t
      rw [← this, Int.mul_add]; omega
theorem IsP.congr {n : Nat} {f g : Int → Int} (h : IsP n f) (e : ∀ t, g t = f t) : IsP n g := by
  obtain ⟨cs, hl, hf⟩ := h
  exact ⟨cs, hl, fun t => (e t).trans (hf t)⟩
theorem IsP.roots {q : Int} (hq : Pr q) {n : Nat} {f : Int → Int} (h : IsP n f) (ts : List Int) (ht : n ≤ ts.length) (hd : ts.Nodup) (hr : ∀ t ∈ ts, 0 ≤ t ∧ t < q ∧ q ∣ f t) (t : Int) : q ∣ f t := by
  obtain ⟨cs, hl, hf⟩ := h
  rw [hf]
  exact Go.Proofs.Yteohpelbkmdlmaa.roots hq n cs hl (ts.take n) (by rw [List.length_take]; omega) (hd.sublist (List.take_sublist _ _)) (fun u hu => by
    have := hr u (List.mem_of_mem_take hu)
    rw [hf] at this; exact this) t

/-- The product of the differences. -/
def pr (t : Int) : List Int → Int
  | [] => 1
  | x :: l => (x - t) * pr t l
theorem pr_perm {t : Int} {a b : List Int} (h : a.Perm b) : pr t a = pr t b := by
  induction h with
  | nil => rfl
  | cons x _ ih => rw [pr, pr, ih]
  | swap x y l => simp only [pr]; rw [← Int.mul_assoc, ← Int.mul_assoc, Int.mul_comm (y - t)]
  | trans _ _ h1 h2 => exact h1.trans h2
theorem pow_isP : ∀ n : Nat, IsP (n + 1) (fun t => (-t) ^ n)
  | 0 => ⟨[1], rfl, fun t => by simp [ev]⟩
  | n + 1 => ((pow_isP n).shift.scale (-1)).congr fun t => by
    show (-t) ^ (n + 1) = -1 * (t * (-t) ^ n)
    rw [Int.pow_succ, Int.mul_comm, ← Int.mul_assoc]
    simp
theorem pr_isP : ∀ l : List Int, IsP l.length (fun t => pr t l - (-t) ^ l.length)
  | [] => ⟨[], rfl, fun t => by simp [pr, ev]⟩
  | x :: l => by
    have h1 := pr_isP l
    have h := ((h1.more.scale x).add (h1.shift.scale (-1))).add ((pow_isP l.length).scale x)
    refine h.congr fun t => ?_
    show (x - t) * pr t l - (-t) ^ (l.length + 1) = x * (pr t l - (-t) ^ l.length) + -1 * (t * (pr t l - (-t) ^ l.length)) + x * (-t) ^ l.length
    rw [Int.pow_succ]
    generalize (-t) ^ l.length = z
    generalize pr t l = y
    rw [Int.sub_mul, Int.mul_sub, Int.mul_sub, Int.mul_comm z (-t), Int.neg_mul]
    omega
theorem diff_isP {a b : List Int} (h : a.length = b.length) : IsP a.length (fun t => pr t a - pr t b) := by
  have h2 := pr_isP b
  rw [← h] at h2
  refine ((pr_isP a).add (h2.scale (-1))).congr fun t => ?_
  show pr t a - pr t b = pr t a - (-t) ^ a.length + -1 * (pr t b - (-t) ^ a.length)
  omega

/-- A product that a prime divides holds a factor that it divides. -/
theorem pr_root {q t : Int} (hq : Pr q) : ∀ {l : List Int}, q ∣ pr t l → ∃ x ∈ l, q ∣ x - t
  | [], h => by
    exfalso
    obtain ⟨k, hk⟩ := h
    simp only [pr] at hk
    have h2 := hq.1
    rcases Int.lt_trichotomy k 0 with h | h | h
    · have : q * k ≤ q * (-1) := Int.mul_le_mul_of_nonneg_left (by omega) (by omega)
      omega
    · subst h; omega
    · have : q * 1 ≤ q * k := Int.mul_le_mul_of_nonneg_left (by omega) (by omega)
      omega
  | x :: l, h => by
    rcases hq.2 _ _ h with h1 | h1
    · exact ⟨x, by simp, h1⟩
    · obtain ⟨y, hy, h2⟩ := pr_root hq h1
      exact ⟨y, by simp [hy], h2⟩
theorem same_res {q x y : Int} (hx : 0 ≤ x ∧ x < q) (hy : 0 ≤ y ∧ y < q) (h : q ∣ x - y) : x = y := by
  obtain ⟨k, hk⟩ := h
  rcases Int.lt_trichotomy k 0 with h | h | h
  · have : q * k ≤ q * (-1) := Int.mul_le_mul_of_nonneg_left (by omega) (by omega)
    omega
  · subst h; omega
  · have : q * 1 ≤ q * k := Int.mul_le_mul_of_nonneg_left (by omega) (by omega)
    omega
/-- All residues but one. -/
def others (q : Nat) (x : Int) : List Int := ((List.range q).map fun i : Nat => (i : Int)).erase x
theorem nodup_range (q : Nat) : ((List.range q).map fun i : Nat => (i : Int)).Nodup := by
  rw [List.nodup_iff_pairwise_ne, List.pairwise_map]
  exact List.nodup_iff_pairwise_ne.1 List.nodup_range |>.imp fun h e => h (by omega)
/-- Where the products agree everywhere the lists are the same but for their order. -/
theorem perm_of_agree {q : Nat} (hq : Pr q) : ∀ (n : Nat) (a b : List Int), a.length = n → b.length = n → n ≤ q → (∀ x ∈ a, 0 ≤ x ∧ x < (q : Int)) → (∀ x ∈ b, 0 ≤ x ∧ x < (q : Int)) → (∀ t, (q : Int) ∣ pr t a - pr t b) → a.Perm b := by
  intro n
  induction n with
  | zero =>
    intro a b ha hb _ _ _ _
    rw [List.eq_nil_of_length_eq_zero ha, List.eq_nil_of_length_eq_zero hb]
  | succ n ih =>
    intro a b ha hb hnq ra rb hag
    match a, ha with
    | x :: a, ha =>
      have h0 := hag x
      have h1 : (q : Int) ∣ pr x b := by
        have e : pr x (x :: a) = 0 := by simp [pr]
        rw [e] at h0
        obtain ⟨k, hk⟩ := h0
        exact ⟨-k, by rw [Int.mul_neg]; omega⟩
      obtain ⟨y, hy, hyx⟩ := pr_root hq h1
      obtain rfl : y = x := same_res (rb y hy) (ra x (by simp)) hyx
      have hp := List.perm_cons_erase hy
      have hlb : (b.erase y).length = n := by rw [List.length_erase_of_mem hy]; omega
      have hla : a.length = n := by simpa using ha
      refine (List.Perm.cons y ?_).trans hp.symm
      refine ih a (b.erase y) hla hlb (by omega) (fun x hx => ra x (by simp [hx])) (fun x hx => rb x (List.mem_of_mem_erase hx)) ?_
      have hP := diff_isP (a := a) (b := b.erase y) (by omega)
      have hyq := rb y hy
      have hmem : y ∈ (List.range q).map fun i : Nat => (i : Int) := List.mem_map.2 ⟨y.toNat, List.mem_range.2 (by omega), by omega⟩
      refine hP.roots hq (others q y) ?_ ((nodup_range q).sublist List.erase_sublist) fun t ht => ?_
      · rw [others, List.length_erase_of_mem hmem]; simp; omega
      · have hne := ((nodup_range q).mem_erase_iff.1 ht)
        obtain ⟨i, hi, rfl⟩ := List.mem_map.1 hne.2
        have hi' := List.mem_range.1 hi
        refine ⟨by omega, by omega, ?_⟩
        have h2 := hag (i : Int)
        rw [pr_perm hp] at h2
        have h3 : (y - (i : Int)) * (pr i a - pr i (b.erase y)) = pr i (y :: a) - pr i (y :: b.erase y) := by simp only [pr]; rw [Int.mul_sub]
        rw [← h3] at h2
        rcases hq.2 _ _ h2 with h4 | h4
        · exact absurd (same_res hyq ⟨by omega, by omega⟩ h4).symm hne.1
        · exact h4

theorem shP_mod {q : Int} (t : Int) : ∀ (l : List Int) (acc : Int), l.foldl (fun out x => out * ((x - t) % q) % q) (acc % q) = acc * pr t l % q
  | [], acc => by simp [pr]
  | x :: l, acc => by
    have h := shP_mod (q := q) t l (acc * (x - t))
    have e : acc % q * ((x - t) % q) % q = acc * (x - t) % q := by rw [← Int.mul_emod]
    rw [List.foldl_cons, e, h, pr, Int.mul_assoc]
theorem shP_pr {q t : Int} (hq : 2 ≤ q) (l : List Int) : shP q t l = pr t l % q := by
  have h := shP_mod (q := q) t l 1
  rw [Int.emod_eq_of_lt (by omega) (by omega), Int.one_mul] at h
  exact h
theorem shP_eq {q t : Int} (hq : 2 ≤ q) {a b : List Int} : shP q t a = shP q t b ↔ q ∣ pr t a - pr t b := by
  rw [shP_pr hq, shP_pr hq, Int.emod_eq_emod_iff_emod_sub_eq_zero]
  exact ⟨Int.dvd_of_emod_eq_zero, Int.emod_eq_zero_of_dvd⟩
theorem agCnt_perm {q : Int} {a b : List Int} (h : a.Perm b) (hq : 2 ≤ q) (j : Nat) : agCnt q a b j = j := by
  induction j with
  | zero => rfl
  | succ j ih => rw [agCnt_succ, ih, if_pos (by rw [shP_pr hq, shP_pr hq, pr_perm h])]
theorem agCnt_lt {q : Nat} (hq : Pr q) {a b : List Int} (hl : a.length = b.length) (ra : ∀ x ∈ a, 0 ≤ x ∧ x < (q : Int)) (rb : ∀ x ∈ b, 0 ≤ x ∧ x < (q : Int)) (h : ¬ a.Perm b) : agCnt q a b q < a.length := by
  refine Nat.lt_of_not_le fun hn => h ?_
  have hnq : a.length ≤ q := Nat.le_trans hn (agCnt_le q)
  refine perm_of_agree hq a.length a b rfl hl.symm hnq ra rb ?_
  refine (diff_isP hl).roots hq (((List.range q).filter fun t : Nat => decide (shP q t a = shP q t b)).map fun i : Nat => (i : Int)) (by rw [List.length_map]; exact hn) ?_ fun t ht => ?_
  · rw [List.nodup_iff_pairwise_ne, List.pairwise_map]
    exact (List.nodup_iff_pairwise_ne.1 (List.nodup_range.sublist List.filter_sublist)).imp fun h e => h (by omega)
  · obtain ⟨i, hi, rfl⟩ := List.mem_map.1 ht
    obtain ⟨h1, h2⟩ := List.mem_filter.1 hi
    have := List.mem_range.1 h1
    exact ⟨by omega, by omega, (shP_eq hq.1).1 (of_decide_eq_true h2)⟩

theorem pr_of_prime {n : Nat} (h : PrimeN n) : Pr n := by
  refine ⟨by have := h.1; omega, fun a b hab => ?_⟩
  have h1 : n ∣ a.natAbs * b.natAbs := by
    rw [← Int.natAbs_mul]; exact Int.natAbs_dvd_natAbs.2 hab
  by_cases hg : n ∣ a.natAbs
  · exact .inl (Int.natAbs_dvd_natAbs.1 hg)
  · right
    have hc : Nat.Coprime n a.natAbs := by
      have hd := Nat.gcd_dvd_left n a.natAbs
      have hd2 := Nat.gcd_dvd_right n a.natAbs
      have hle := Nat.le_of_dvd (by have := h.1; omega) hd
      have hpos := Nat.gcd_pos_of_pos_left a.natAbs (show 0 < n by have := h.1; omega)
      show Nat.gcd n a.natAbs = 1
      generalize Nat.gcd n a.natAbs = g at *
      by_cases h2 : 2 ≤ g
      · by_cases h3 : g < n
        · exact absurd hd (h.2 g h2 h3)
        · obtain rfl : g = n := by omega
          exact absurd hd2 hg
      · omega
    exact Int.natAbs_dvd_natAbs.1 (hc.dvd_of_dvd_mul_left h1)

/-- The law's own look: every element stands as often in both lists. -/
def sameB (a b : List Int) : Bool := a.all fun v => decide (a.count v = b.count v)
theorem sameB_perm : ∀ {a b : List Int}, a.length = b.length → (∀ v ∈ a, a.count v = b.count v) → a.Perm b
  | [], b, hl, _ => by rw [List.eq_nil_of_length_eq_zero (show b.length = 0 by simpa using hl.symm)]
  | x :: a, b, hl, h => by
    have hx : x ∈ b := by
      have := h x (by simp)
      rw [List.count_cons_self] at this
      exact List.count_pos_iff.1 (by omega)
    refine (List.Perm.cons x (sameB_perm (by rw [List.length_erase_of_mem hx]; simp at hl; omega) fun v hv => ?_)).trans (List.perm_cons_erase hx).symm
    have h1 := h v (by simp [hv])
    by_cases hvx : v = x
    · subst hvx
      rw [List.count_cons_self] at h1
      rw [List.count_erase_self]; omega
    · rw [List.count_cons_of_ne (Ne.symm hvx)] at h1
      rw [List.count_erase_of_ne hvx]; exact h1
theorem sameB_iff {a b : List Int} (hl : a.length = b.length) : sameB a b = true ↔ a.Perm b := by
  unfold sameB
  rw [List.all_eq_true]
  constructor
  · intro h; exact sameB_perm hl fun v hv => of_decide_eq_true (h v hv)
  · intro h v _; exact decide_eq_true (h.count_eq v)
/-- What the law asks. -/
theorem agree_law {q : Int} {a b : List Int} (h : agG q a b = true) : (sameB a b && decide (agVal q a b = q) || (!sameB a b && decide (agVal q a b < a.length))) = true := by
  have hv : agVal q a b = agCnt q a b q.toNat := by simp [agVal, h]
  simp only [agG, Bool.and_eq_true, decide_eq_true_eq] at h
  obtain ⟨_, h2, h3, _, h5, h6⟩ := h
  simp only [fieldB, Bool.and_eq_true] at h2
  have hq := pr_of_prime (primeB_iff.1 h2.2)
  obtain ⟨n, rfl⟩ := Int.eq_ofNat_of_zero_le (show 0 ≤ q by have := (inR_iff.1 h2.1).1; omega)
  rw [Int.toNat_natCast] at hq hv
  rw [hv]
  cases hs : sameB a b
  · have hnp : ¬ a.Perm b := fun hp => by rw [(sameB_iff h3).2 hp] at hs; cases hs
    have := agCnt_lt hq h3 (fun x hx => by have := allR_iff.1 h5 x hx; omega) (fun x hx => by have := allR_iff.1 h6 x hx; omega) hnp
    simp only [Bool.false_and, Bool.not_false, Bool.true_and, Bool.false_or, decide_eq_true_eq]
    omega
  · have := agCnt_perm ((sameB_iff h3).1 hs) hq.1 n
    simp [this]
end Go.Proofs.Yteohpelbkmdlmaa
