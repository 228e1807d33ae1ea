/- The sign of a permutation: its cycles, swaps of two places, inversions. No program in sight. -/
import Derived.Test.YtpdlcbgenimmcaaCycP
namespace Go.Proofs.Ytpdlcbgenimmcaa

def oddB (n : Nat) : Bool := decide (n % 2 = 1)
theorem oddB_add (a b : Nat) : oddB (a + b) = xor (oddB a) (oddB b) := by
  unfold oddB
  rcases Nat.mod_two_eq_zero_or_one a with h | h <;> rcases Nat.mod_two_eq_zero_or_one b with k | k <;> simp [Nat.add_mod, h, k]
theorem oddB_zero : oddB 0 = false := rfl
theorem oddB_one : oddB 1 = true := rfl
/-- Whether the number of inversions is odd. -/
def par : List Int → Bool
  | [] => false
  | x :: xs => xor (oddB (xs.countP fun y => decide (y < x))) (par xs)

theorem par_prefix {xs ys : List Int} (h : xs.Perm ys) : ∀ a : List Int, xor (par (a ++ xs)) (par (a ++ ys)) = xor (par xs) (par ys)
  | [] => rfl
  | z :: a => by
    have ih := par_prefix h a
    have hc : (a ++ xs).countP (fun y => decide (y < z)) = (a ++ ys).countP (fun y => decide (y < z)) := (h.append_left a).countP_eq _
    rw [List.cons_append, List.cons_append, par, par, hc]
    revert ih
    generalize par (a ++ xs) = u
    generalize par (a ++ ys) = v
    generalize oddB _ = t
    generalize xor (par xs) (par ys) = s
    cases u <;> cases v <;> cases t <;> cases s <;> decide
theorem par_adj {x y : Int} (b : List Int) (h : x ≠ y) : xor (par (x :: y :: b)) (par (y :: x :: b)) = true := by
  simp only [par, List.countP_cons]
  rw [oddB_add, oddB_add]
  generalize oddB (b.countP fun z => decide (z < x)) = s
  generalize oddB (b.countP fun z => decide (z < y)) = t
  generalize par b = u
  by_cases hxy : x < y
  · have : ¬ y < x := by omega
    simp only [hxy, this, decide_true, decide_false, if_true]
    cases s <;> cases t <;> cases u <;> decide
  · have : y < x := by omega
    simp only [hxy, this, decide_true, decide_false, if_true]
    cases s <;> cases t <;> cases u <;> decide
theorem par_adj' {x y : Int} (a b : List Int) (h : x ≠ y) : par (a ++ x :: y :: b) = !par (a ++ y :: x :: b) := by
  have h1 := par_prefix (List.Perm.swap y x b) a
  rw [par_adj b h] at h1
  revert h1
  generalize par (a ++ x :: y :: b) = u
  generalize par (a ++ y :: x :: b) = v
  cases u <;> cases v <;> decide
theorem par_move {x : Int} (t : List Int) : ∀ (m a : List Int), ¬ x ∈ m → par (a ++ x :: (m ++ t)) = xor (oddB m.length) (par (a ++ (m ++ x :: t)))
  | [], a, _ => by simp [oddB_zero]
  | y :: m, a, h => by
    simp only [List.mem_cons, not_or] at h
    have ih := par_move t m (a ++ [y]) h.2
    rw [List.append_assoc, List.append_assoc] at ih
    rw [List.cons_append, par_adj' a (m ++ t) h.1]
    have h2 : par (a ++ y :: x :: (m ++ t)) = xor (oddB m.length) (par (a ++ (y :: m ++ x :: t))) := ih
    rw [h2, List.length_cons, oddB_add, oddB_one]
    generalize oddB m.length = u
    generalize par _ = v
    cases u <;> cases v <;> decide
theorem par_swap {x y : Int} (a m b : List Int) (hx : ¬ x ∈ m) (hy : ¬ y ∈ m) (h : x ≠ y) : par (a ++ x :: (m ++ y :: b)) = !par (a ++ y :: (m ++ x :: b)) := by
  rw [par_move (y :: b) m a hx, par_move (x :: b) m a hy]
  have h1 := par_adj' (a ++ m) b h
  rw [List.append_assoc, List.append_assoc] at h1
  rw [h1]
  generalize oddB m.length = u
  generalize par _ = v
  cases u <;> cases v <;> decide

theorem split_at {α : Type} {l : List α} {i : Nat} (h : i < l.length) : ∃ a b, l = a ++ l[i] :: b ∧ a.length = i :=
  ⟨l.take i, l.drop (i + 1), by rw [← List.drop_eq_getElem_cons h, List.take_append_drop], by rw [List.length_take]; omega⟩
def swp (l : List Int) (i j : Nat) : List Int := (l.set i (l.getD j 0)).set j (l.getD i 0)
theorem swp_length (l : List Int) (i j : Nat) : (swp l i j).length = l.length := by simp [swp]
theorem swp_comm {l : List Int} {i j : Nat} (h : i ≠ j) : swp l i j = swp l j i := by unfold swp; rw [List.set_comm _ _ h]
theorem swp_split {l : List Int} {i j : Nat} (hij : i < j) (hj : j < l.length) : ∃ a x m y b, l = a ++ x :: (m ++ y :: b) ∧ swp l i j = a ++ y :: (m ++ x :: b) := by
  obtain ⟨a, l2, h1, ha⟩ := split_at (show i < l.length by omega)
  generalize l[i] = x at h1
  subst h1
  rw [List.length_append, List.length_cons] at hj
  obtain ⟨m, b, h2, hm⟩ := split_at (show j - i - 1 < l2.length by omega)
  generalize l2[j - i - 1] = y at h2
  subst h2
  refine ⟨a, x, m, y, b, rfl, ?_⟩
  have hj2 : j = a.length + (m.length + 1) := by omega
  subst hj2
  subst ha
  have g1 : (a ++ x :: (m ++ y :: b)).getD a.length 0 = x := by simp [List.getD]
  have g2 : (a ++ x :: (m ++ y :: b)).getD (a.length + (m.length + 1)) 0 = y := by simp [List.getD]
  rw [swp, g1, g2, List.set_append_right _ _ (Nat.le_refl _), Nat.sub_self, List.set_cons_zero, List.set_append_right _ _ (by omega), Nat.add_sub_cancel_left, List.set_cons_succ, List.set_append_right _ _ (Nat.le_refl _), Nat.sub_self, List.set_cons_zero]
theorem swp_perm_lt {l : List Int} {i j : Nat} (hij : i < j) (hj : j < l.length) : (swp l i j).Perm l := by
  obtain ⟨a, x, m, y, b, h1, h2⟩ := swp_split hij hj
  rw [h1] at h2 ⊢
  rw [h2]
  refine List.Perm.append_left a ?_
  exact ((List.perm_middle).cons y).trans ((List.Perm.swap x y (m ++ b)).trans ((List.perm_middle).symm.cons x))
theorem swp_par_lt {l : List Int} {i j : Nat} (hij : i < j) (hj : j < l.length) (hd : l.Nodup) : par l = !par (swp l i j) := by
  obtain ⟨a, x, m, y, b, h1, h2⟩ := swp_split hij hj
  rw [h2, h1]
  rw [h1] at hd
  simp only [List.nodup_append, List.nodup_cons, List.mem_cons, List.mem_append, not_or] at hd
  obtain ⟨_, ⟨⟨h3, h4, _⟩, _, _, h7⟩, _⟩ := hd
  exact par_swap a m b h3 (fun hm => h7 y hm y (.inl rfl) rfl) h4
theorem swp_perm {l : List Int} {i j : Nat} (hi : i < l.length) (hj : j < l.length) (hne : i ≠ j) : (swp l i j).Perm l := by
  rcases Nat.lt_or_gt_of_ne hne with h | h
  · exact swp_perm_lt h hj
  · rw [swp_comm hne]; exact swp_perm_lt h hi
theorem swp_par {l : List Int} {i j : Nat} (hi : i < l.length) (hj : j < l.length) (hne : i ≠ j) (hd : l.Nodup) : par l = !par (swp l i j) := by
  rcases Nat.lt_or_gt_of_ne hne with h | h
  · exact swp_par_lt h hj hd
  · rw [swp_comm hne]; exact swp_par_lt h hi hd

/-- From l to l' by k swaps of two different places. -/
inductive Swaps : Nat → List Int → List Int → Prop
  | refl (l : List Int) : Swaps 0 l l
  | step {k : Nat} {l l' : List Int} (i j : Nat) (hi : i < l.length) (hj : j < l.length) (hne : i ≠ j) (h : Swaps k (swp l i j) l') : Swaps (k + 1) l l'
theorem Swaps.par {k : Nat} {l l' : List Int} (h : Swaps k l l') (hd : l.Nodup) : Go.Proofs.Ytpdlcbgenimmcaa.par l = xor (oddB k) (Go.Proofs.Ytpdlcbgenimmcaa.par l') := by
  induction h with
  | refl l => simp [oddB_zero]
  | step i j hi hj hne h ih =>
    rw [swp_par hi hj hne hd, ih ((swp_perm hi hj hne).nodup_iff.2 hd), oddB_add, oddB_one]
    generalize oddB _ = u
    generalize Go.Proofs.Ytpdlcbgenimmcaa.par _ = v
    cases u <;> cases v <;> decide
theorem getD_map0 {f : Int → Int} {l : List Int} {i : Nat} (hi : i < l.length) : (l.map f).getD i 0 = f (l.getD i 0) := by simp [List.getD, hi]
theorem swp_map {f : Int → Int} {l : List Int} {i j : Nat} (hi : i < l.length) (hj : j < l.length) : swp (l.map f) i j = (swp l i j).map f := by
  unfold swp
  rw [getD_map0 hi, getD_map0 hj, List.map_set, List.map_set]
theorem Swaps.map {k : Nat} {l l' : List Int} (f : Int → Int) (h : Swaps k l l') : Swaps k (l.map f) (l'.map f) := by
  induction h with
  | refl l => exact .refl _
  | step i j hi hj hne h ih =>
    refine .step i j (by simpa using hi) (by simpa using hj) hne ?_
    rw [swp_map hi hj]; exact ih
theorem Swaps.trans {k m : Nat} {l l' l'' : List Int} (h : Swaps k l l') (g : Swaps m l' l'') : Swaps (k + m) l l'' := by
  induction h with
  | refl l => simpa using g
  | step i j hi hj hne h ih => rw [Nat.add_right_comm]; exact .step i j hi hj hne (ih g)

/-- What has been seen stands at its own place. -/
def fixS (p : List Int) (seen : List Bool) : List Int := (List.range p.length).map fun k => if seen.getD k true then (k : Int) else p.getD k 0
theorem fixS_length (p : List Int) (seen : List Bool) : (fixS p seen).length = p.length := by simp [fixS]
theorem fixS_get {p : List Int} {seen : List Bool} {k : Nat} (hk : k < p.length) : (fixS p seen)[k]'(by rw [fixS_length]; exact hk) = if seen.getD k true then (k : Int) else p.getD k 0 := by simp [fixS]
theorem getD_setB {l : List Bool} {i k : Nat} : (l.set i true).getD k true = if i = k then true else l.getD k true := by
  simp only [List.getD, List.getElem?_set]
  by_cases h : i = k
  · subst h
    by_cases h2 : i < l.length <;> simp [h2]
  · simp [h]

/-- The step of a cycle: the next place is fixed by one swap with the cycle's head. -/
theorem mid_step {p : List Int} {seen : List Bool} {h k : Nat} (hh : h < p.length) (hk : k < p.length) (hs : seen.getD h true = true) (hu : seen.getD k true = false) :
    swp ((fixS p seen).set h k) h k = (fixS p (seen.set k true)).set h (p.getD k 0) := by
  have hne : h ≠ k := by rintro rfl; rw [hs] at hu; cases hu
  have hl := fixS_length p seen
  have g1 : ((fixS p seen).set h (k : Int)).getD h 0 = k := by simp [List.getD, hl, hh]
  have g2 : ((fixS p seen).set h (k : Int)).getD k 0 = p.getD k 0 := by
    rw [List.getD, List.getElem?_set_ne hne, List.getElem?_eq_getElem (by rw [hl]; exact hk), fixS_get hk, hu]; rfl
  rw [swp, g1, g2, List.set_set]
  apply List.ext_getElem (by simp [fixS_length])
  intro i h1 h2
  have hi : i < p.length := by simpa [fixS_length] using h1
  rw [List.getElem_set, List.getElem_set, List.getElem_set, fixS_get hi, fixS_get hi, getD_setB]
  by_cases e : k = i
  · subst e; simp [hne]
  · simp [e]
theorem cyc_swaps {p : List Int} (hR : ∀ k, k < p.length → (p.getD k 0).toNat < p.length ∧ 0 ≤ p.getD k 0) (hI : ∀ j k, j < p.length → k < p.length → p.getD j 0 = p.getD k 0 → j = k) {h : Nat} (hh : h < p.length) :
    ∀ (m : Nat) (seen : List Bool) (t k : Nat) (acc : List Int), seen.count false = m → seen.length = p.length → k < p.length → t < p.length → seen.getD h true = true → seen.getD t true = true → p.getD t 0 = k →
      (∀ x, x < p.length → seen.getD x true = true → x ≠ h → ∃ j, j < p.length ∧ seen.getD j true = true ∧ j ≠ t ∧ p.getD j 0 = x) →
      Swaps ((cyc p seen k acc).1.length - acc.length) ((fixS p seen).set h k) (fixS p (cyc p seen k acc).2) ∧
      (∀ x, x < p.length → (cyc p seen k acc).2.getD x true = true → ∃ j, j < p.length ∧ (cyc p seen k acc).2.getD j true = true ∧ p.getD j 0 = x)
  | m, seen, t, k, acc, hm, hsl, hk, ht, hsh, hst, hpt, hS => by
    by_cases hu : seen.getD k true = false
    · have hc := cf_set seen k hu
      have hf := (cyc_facts p _ (seen.set k true) (p.getD k 0).toNat (acc ++ [(k : Int)]) rfl).2.2.1
      rw [cyc_go hu]
      have hne : h ≠ k := by rintro rfl; rw [hsh] at hu; cases hu
      have hpk := hR k hk
      have hcast : ((p.getD k 0).toNat : Int) = p.getD k 0 := Int.toNat_of_nonneg hpk.2
      obtain ⟨ih1, ih2⟩ := cyc_swaps hR hI hh ((seen.set k true).count false) (seen.set k true) k (p.getD k 0).toNat (acc ++ [(k : Int)]) rfl (by rw [List.length_set]; exact hsl) hpk.1 hk
        (by rw [getD_setB, if_neg (Ne.symm hne)]; exact hsh) (by rw [getD_setB, if_pos rfl]) hcast.symm (fun x hx hsx hxh => by
          rw [getD_setB] at hsx
          by_cases e : k = x
          · subst e
            refine ⟨t, ht, ?_, ?_, hpt⟩
            · rw [getD_setB]; split
              · rfl
              · exact hst
            · rintro rfl; rw [hst] at hu; cases hu
          · rw [if_neg e] at hsx
            obtain ⟨j, hj, hsj, _, hpj⟩ := hS x hx hsx hxh
            refine ⟨j, hj, ?_, ?_, hpj⟩
            · rw [getD_setB]; split
              · rfl
              · exact hsj
            · rintro rfl; rw [hsj] at hu; cases hu)
      refine ⟨?_, ih2⟩
      rw [List.length_append, List.length_singleton] at ih1 hf
      have hl : ∀ n : Nat, acc.length + 1 ≤ n → n - acc.length = (n - (acc.length + 1)) + 1 := fun n hn => by omega
      rw [hl _ hf]
      refine .step h k (by rw [List.length_set, fixS_length]; exact hh) (by rw [List.length_set, fixS_length]; exact hk) hne ?_
      rw [mid_step hh hk hsh hu, ← hcast]
      exact ih1
    · have hu' : seen.getD k true = true := by simpa using hu
      rw [cyc_stop hu']
      have hkh : k = h := by
        refine Classical.byContradiction fun hne => ?_
        obtain ⟨j, hj, _, hjt, hpj⟩ := hS k hk hu' hne
        exact hjt (hI j t hj ht (hpj.trans hpt.symm))
      subst hkh
      refine ⟨?_, fun x hx hsx => ?_⟩
      · have he : (fixS p seen).set k (k : Int) = fixS p seen := by
          apply List.ext_getElem (by simp)
          intro i h1 h2
          have hi : i < p.length := by simpa [fixS_length] using h1
          rw [List.getElem_set]
          split
          · rename_i e; subst e; rw [fixS_get hi, hu']; rfl
          · rfl
        rw [Nat.sub_self, he]
        exact .refl _
      · by_cases e : x = k
        · subst e; exact ⟨t, ht, hst, hpt⟩
        · obtain ⟨j, hj, hsj, _, hpj⟩ := hS x hx hsx e
          exact ⟨j, hj, hsj, hpj⟩
termination_by m => m
decreasing_by omega
theorem cyc_keeps (p : List Int) : ∀ (m : Nat) (seen : List Bool) (k : Nat) (acc : List Int), seen.count false = m →
    (cyc p seen k acc).2.getD k true = true ∧ ∀ x, seen.getD x true = true → (cyc p seen k acc).2.getD x true = true
  | m, seen, k, acc, hm => by
    by_cases h : seen.getD k true = false
    · have hc := cf_set seen k h
      rw [cyc_go h]
      obtain ⟨_, h2⟩ := cyc_keeps p ((seen.set k true).count false) (seen.set k true) (p.getD k 0).toNat (acc ++ [(k : Int)]) rfl
      refine ⟨h2 k (by rw [getD_setB, if_pos rfl]), fun x hx => h2 x ?_⟩
      rw [getD_setB]; split
      · rfl
      · exact hx
    · rw [cyc_stop (by simpa using h)]
      exact ⟨by simpa using h, fun x hx => hx⟩
termination_by m => m
decreasing_by omega

theorem cycAt_swaps {p : List Int} (hR : ∀ k, k < p.length → (p.getD k 0).toNat < p.length ∧ 0 ≤ p.getD k 0) (hI : ∀ j k, j < p.length → k < p.length → p.getD j 0 = p.getD k 0 → j = k) :
    ∀ i, i ≤ p.length → (cycAt p i).1.length ≤ tot (cycAt p i).1 ∧ Swaps (tot (cycAt p i).1 - (cycAt p i).1.length) p (fixS p (cycAt p i).2) ∧
      (∀ x, x < p.length → (cycAt p i).2.getD x true = true → ∃ j, j < p.length ∧ (cycAt p i).2.getD j true = true ∧ p.getD j 0 = x) ∧ (∀ x, x < i → (cycAt p i).2.getD x true = true)
  | 0, _ => by
    have he : fixS p (List.replicate p.length false) = p := by
      apply List.ext_getElem (by simp [fixS_length])
      intro k h1 h2
      rw [fixS_get h2]; simp [List.getD, h2]
    refine ⟨by simp [cycAt, tot], ?_, ?_, fun x hx => absurd hx (by omega)⟩
    · simp only [cycAt, tot, he]; exact .refl _
    · intro x hx hs
      simp [cycAt, List.getD, hx] at hs
  | i + 1, hi => by
    obtain ⟨h0, h1, h2, h3⟩ := cycAt_swaps hR hI i (by omega)
    obtain ⟨f1, f2, _⟩ := cycAt_facts p i
    have hk := cyc_keeps p _ (cycAt p i).2 i [] rfl
    have h3' : ∀ x, x < i + 1 → (cyc p (cycAt p i).2 i []).2.getD x true = true := fun x hx => by
      by_cases e : x = i
      · subst e; exact hk.1
      · exact hk.2 x (h3 x (by omega))
    by_cases hu : (cycAt p i).2.getD i true = false
    · have hpi := hR i (by omega)
      have hcast : ((p.getD i 0).toNat : Int) = p.getD i 0 := Int.toNat_of_nonneg hpi.2
      have hgo : cyc p (cycAt p i).2 i [] = cyc p ((cycAt p i).2.set i true) (p.getD i 0).toNat [(i : Int)] := cyc_go hu
      have hf := (cyc_facts p _ ((cycAt p i).2.set i true) (p.getD i 0).toNat [(i : Int)] rfl).2.2.1
      obtain ⟨k1, k2⟩ := cyc_swaps hR hI (show i < p.length by omega) _ ((cycAt p i).2.set i true) i (p.getD i 0).toNat [(i : Int)] rfl (by rw [List.length_set]; exact f1) hpi.1 (by omega)
        (by rw [getD_setB, if_pos rfl]) (by rw [getD_setB, if_pos rfl]) hcast.symm (fun x hx hsx hxi => by
          rw [getD_setB, if_neg (Ne.symm hxi)] at hsx
          obtain ⟨j, hj, hsj, hpj⟩ := h2 x hx hsx
          refine ⟨j, hj, ?_, ?_, hpj⟩
          · rw [getD_setB]; split
            · rfl
            · exact hsj
          · rintro rfl; rw [hsj] at hu; cases hu)
      rw [← hgo] at k1 k2 hf
      have hmid : (fixS p ((cycAt p i).2.set i true)).set i ((p.getD i 0).toNat : Int) = fixS p (cycAt p i).2 := by
        rw [hcast]
        apply List.ext_getElem (by simp [fixS_length])
        intro k g1 g2
        have hkp : k < p.length := by simpa [fixS_length] using g2
        rw [List.getElem_set, fixS_get hkp, fixS_get hkp, getD_setB]
        by_cases e : i = k
        · subst e; rw [hu]; simp
        · simp [e]
      rw [hmid] at k1
      have hne : (cyc p (cycAt p i).2 i []).1 ≠ [] := by
        intro he; rw [he] at hf; simp at hf
      simp only [List.length_singleton] at k1 hf
      have e1 : (cycAt p (i + 1)).1 = (cycAt p i).1 ++ [(cyc p (cycAt p i).2 i []).1] := by simp only [cycAt]; rw [if_neg hne]
      have e2 : (cycAt p (i + 1)).2 = (cyc p (cycAt p i).2 i []).2 := rfl
      have e3 : tot (cycAt p (i + 1)).1 = tot (cycAt p i).1 + (cyc p (cycAt p i).2 i []).1.length := by rw [e1, tot_append]; simp [tot]
      have e4 : (cycAt p (i + 1)).1.length = (cycAt p i).1.length + 1 := by rw [e1]; simp
      refine ⟨by omega, ?_, ?_, ?_⟩
      · rw [e3, e4, e2]
        have := h1.trans k1
        rw [show tot (cycAt p i).1 + (cyc p (cycAt p i).2 i []).1.length - ((cycAt p i).1.length + 1) = (tot (cycAt p i).1 - (cycAt p i).1.length) + ((cyc p (cycAt p i).2 i []).1.length - 1) by omega]
        exact this
      · rw [e2]; exact k2
      · rw [e2]; exact h3'
    · have hs : cyc p (cycAt p i).2 i [] = ([], (cycAt p i).2) := cyc_stop (by simpa using hu)
      have e1 : (cycAt p (i + 1)) = cycAt p i := by simp only [cycAt, hs]; simp
      rw [hs] at h3'
      rw [e1]
      exact ⟨h0, h1, h2, h3'⟩

theorem iota_cons (k : Int) (n : Nat) : iota k (n + 1) = k :: iota (k + 1) n := by
  simp only [iota, List.range_succ_eq_map, List.map_cons, List.map_map]
  congr 1
  · simp
  · apply List.map_congr_left; intro x _; simp; omega
theorem par_iota : ∀ (n : Nat) (k : Int), par (iota k n) = false
  | 0, k => rfl
  | n + 1, k => by
    rw [iota_cons, par, par_iota n]
    have h : (iota (k + 1) n).countP (fun y => decide (y < k)) = 0 := by
      rw [List.countP_eq_zero]
      intro y hy
      simp only [iota, List.mem_map, List.mem_range] at hy
      obtain ⟨i, _, rfl⟩ := hy
      simp; omega
    rw [h]; rfl
theorem perm_facts {p : List Int} (h : permB p = true) : (∀ k, k < p.length → (p.getD k 0).toNat < p.length ∧ 0 ≤ p.getD k 0) ∧ (∀ j k, j < p.length → k < p.length → p.getD j 0 = p.getD k 0 → j = k) := by
  obtain ⟨_, h2, h3⟩ := permB_parts h
  refine ⟨fun k hk => ?_, fun j k hj hk he => ?_⟩
  · have := allR_at h2 hk
    simp only [List.getD, hk, List.getElem?_eq_getElem, Option.getD_some]
    omega
  · simp only [List.getD, hj, hk, List.getElem?_eq_getElem, Option.getD_some] at he
    exact (List.getElem_inj h3).1 he
/-- A permutation is led to the identity by as many swaps as it has elements more than cycles. -/
theorem perm_swaps {p : List Int} (h : permB p = true) : Swaps (p.length - (cycAt p p.length).1.length) p (iota 0 p.length) ∧ tot (cycAt p p.length).1 = p.length := by
  obtain ⟨hR, hI⟩ := perm_facts h
  obtain ⟨h0, h1, _, h3⟩ := cycAt_swaps hR hI p.length (Nat.le_refl _)
  obtain ⟨f1, f2, _⟩ := cycAt_facts p p.length
  have hz : (cycAt p p.length).2.count false = 0 := by
    rw [List.count_eq_zero]
    intro hm
    obtain ⟨i, hi, he⟩ := List.getElem_of_mem hm
    have := h3 i (by omega)
    simp only [List.getD, hi, List.getElem?_eq_getElem, Option.getD_some, he] at this
    cases this
  have ht : tot (cycAt p p.length).1 = p.length := by omega
  have he : fixS p (cycAt p p.length).2 = iota 0 p.length := by
    apply List.ext_getElem (by simp [fixS_length, iota_length])
    intro k g1 g2
    have hkp : k < p.length := by simpa [fixS_length] using g1
    rw [fixS_get hkp, h3 k hkp, iota_get]; simp
  rw [ht, he] at h1
  exact ⟨h1, ht⟩
theorem sgn_par {p : List Int} (h : permB p = true) : sgnB p = par p := by
  obtain ⟨h1, _⟩ := perm_swaps h
  rw [h1.par (permB_parts h).2.2, par_iota, Bool.xor_false]; rfl
theorem sgn_comp {p q : List Int} (hp : permB p = true) (hq : permB q = true) (hl : p.length = q.length) (hr : permB (applyL q p) = true) : sgnB (applyL q p) = xor (sgnB p) (sgnB q) := by
  obtain ⟨h1, _⟩ := perm_swaps hq
  have h2 := h1.map (fun k => p.getD k.toNat 0)
  have he : (iota 0 q.length).map (fun k => p.getD k.toNat 0) = p := by
    apply List.ext_getElem (by simp [iota_length, hl])
    intro k g1 g2
    simp [iota, List.getD, g2]
  rw [he] at h2
  have h3 := h2.par (permB_parts hr).2.2
  have h4 : sgnB (applyL q p) = par (applyL q p) := sgn_par hr
  have h5 : par (applyL q p) = xor (oddB (q.length - (cycAt q q.length).1.length)) (par p) := h3
  rw [h4, h5, ← sgn_par hp]
  rw [Bool.xor_comm]; rfl
end Go.Proofs.Ytpdlcbgenimmcaa
