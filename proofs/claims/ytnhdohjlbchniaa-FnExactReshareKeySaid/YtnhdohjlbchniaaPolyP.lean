/- Plain facts about sums, products and values of polynomials modulo a number. No program in sight. -/
import Derived.Test.YtnhdohjlbchniaaFer
namespace Go.Proofs.Ytnhdohjlbchniaa

theorem ev_set : ∀ (o : List Int) (j : Nat) (v x : Int), j < o.length → ev (o.set j v) x = ev o x + (v - o.getD j 0) * x ^ j
  | [], _, _, _, h => absurd h (by simp)
  | c :: cs, 0, v, x, _ => by
    show v + x * ev cs x = c + x * ev cs x + (v - c) * x ^ 0
    rw [Int.pow_zero, Int.mul_one]; omega
  | c :: cs, j + 1, v, x, h => by
    have h' : j < cs.length := by simpa using h
    show c + x * ev (cs.set j v) x = c + x * ev cs x + (v - cs.getD j 0) * x ^ (j + 1)
    rw [ev_set cs j v x h', Int.mul_add, Int.pow_succ]
    have e : x * ((v - cs.getD j 0) * x ^ j) = (v - cs.getD j 0) * (x ^ j * x) := by
      rw [Int.mul_comm (x ^ j) x, ← Int.mul_assoc, Int.mul_comm x (v - cs.getD j 0), Int.mul_assoc]
    rw [e]; omega
theorem ev_append : ∀ (a : List Int) (c x : Int), ev (a ++ [c]) x = ev a x + c * x ^ a.length
  | [], c, x => by simp [ev]
  | b :: a, c, x => by
    show b + x * ev (a ++ [c]) x = b + x * ev a x + c * x ^ (a.length + 1)
    rw [ev_append a c x, Int.mul_add, Int.pow_succ]
    have e : x * (c * x ^ a.length) = c * (x ^ a.length * x) := by
      rw [Int.mul_comm (x ^ a.length) x, ← Int.mul_assoc, Int.mul_comm x c, Int.mul_assoc]
    rw [e]; omega
theorem ev_take {g : List Int} {k : Nat} (hk : k < g.length) (x : Int) : ev (g.take (k + 1)) x = ev (g.take k) x + g[k] * x ^ k := by
  rw [List.take_succ_eq_append_getElem hk, ev_append, List.length_take, Nat.min_eq_left (Nat.le_of_lt hk)]
theorem ev_replicate (n : Nat) (x : Int) : ev (List.replicate n 0) x = 0 := by
  induction n with
  | zero => rfl
  | succ n ih => rw [List.replicate_succ]; show 0 + x * ev _ x = 0; rw [ih]; simp
theorem ev_zeros : ∀ (f : List Int) (n : Nat) (x : Int), ev (f ++ List.replicate n 0) x = ev f x
  | [], n, x => ev_replicate n x
  | c :: f, n, x => by show c + x * ev (f ++ _) x = c + x * ev f x; rw [ev_zeros f n x]
/-- One cell turned. -/
theorem ev_step {o : List Int} {j : Nat} {v t x q : Int} (hj : j < o.length) (hv : v % q = (o.getD j 0 + t) % q) : ev (o.set j v) x % q = (ev o x + t * x ^ j) % q := by
  obtain ⟨k, hk⟩ := Int.dvd_of_emod_eq_zero (Int.emod_eq_emod_iff_emod_sub_eq_zero.1 hv)
  have e : v - o.getD j 0 = t + q * k := by omega
  rw [ev_set o j v x hj, e, Int.add_mul, Int.mul_assoc q, ← Int.add_assoc, Int.add_mul_emod_self_left]

def addIn (q : Int) (g : List Int) (o : List Int) : Nat → List Int
  | 0 => o
  | k + 1 => (addIn q g o k).set k (((addIn q g o k).getD k 0 + g.getD k 0) % q)
theorem addIn_length (q : Int) (g o : List Int) : ∀ k, (addIn q g o k).length = o.length
  | 0 => rfl
  | k + 1 => by rw [addIn, List.length_set, addIn_length q g o k]
theorem getD_set (o : List Int) (j i : Nat) (v : Int) (hj : j < o.length) : (o.set j v).getD i 0 = if i = j then v else o.getD i 0 := by
  simp only [List.getD_eq_getElem?_getD, List.getElem?_set]
  by_cases h : i = j
  · subst h; simp [hj]
  · rw [if_neg (by omega), if_neg h]
theorem addIn_getD (q : Int) (g o : List Int) : ∀ k, k ≤ o.length → ∀ i, (addIn q g o k).getD i 0 = if i < k then (o.getD i 0 + g.getD i 0) % q else o.getD i 0
  | 0, _, i => by simp [addIn]
  | k + 1, hk, i => by
    rw [addIn, getD_set _ _ _ _ (by rw [addIn_length]; omega), addIn_getD q g o k (by omega), addIn_getD q g o k (by omega)]
    by_cases h : i = k
    · subst h; simp
    · rw [if_neg h]
      by_cases h2 : i < k
      · rw [if_pos h2, if_pos (by omega)]
      · rw [if_neg h2, if_neg (by omega)]
theorem getD_get {g : List Int} {k : Nat} (h : k < g.length) : g.getD k 0 = g[k] := by simp [List.getD_eq_getElem?_getD, h]
theorem addIn_ev (q : Int) (g o : List Int) (x : Int) : ∀ k, k ≤ o.length → k ≤ g.length → ev (addIn q g o k) x % q = (ev o x + ev (g.take k) x) % q
  | 0, _, _ => by simp [addIn, ev]
  | k + 1, h1, h2 => by
    have hk : k < g.length := by omega
    rw [addIn, ev_step (t := g.getD k 0) (by rw [addIn_length]; omega) (Int.emod_emod_of_dvd _ (Int.dvd_refl _)), Int.add_emod, addIn_ev q g o x k (by omega) (by omega), ← Int.add_emod, ev_take hk, getD_get hk, Int.add_assoc]
theorem set_bd {q : Int} {o : List Int} (hq : 0 < q) (h : ∀ y ∈ o, 0 ≤ y ∧ y ≤ q - 1) (j : Nat) (z : Int) : ∀ y ∈ o.set j (z % q), 0 ≤ y ∧ y ≤ q - 1 := by
  intro y hy
  rcases List.mem_or_eq_of_mem_set hy with h1 | rfl
  · exact h y h1
  · have := Int.emod_nonneg z (show q ≠ 0 by omega)
    have := Int.emod_lt_of_pos z hq
    omega
theorem addIn_bd {q : Int} (hq : 0 < q) (g : List Int) {o : List Int} (h : ∀ y ∈ o, 0 ≤ y ∧ y ≤ q - 1) : ∀ k, ∀ y ∈ addIn q g o k, 0 ≤ y ∧ y ≤ q - 1
  | 0 => h
  | k + 1 => set_bd hq (addIn_bd hq g h k) _ _

def mulIn (q a : Int) (g : List Int) (i : Nat) (o : List Int) : Nat → List Int
  | 0 => o
  | k + 1 => (mulIn q a g i o k).set (i + k) (((mulIn q a g i o k).getD (i + k) 0 + a * g.getD k 0) % q)
theorem mulIn_length (q a : Int) (g : List Int) (i : Nat) (o : List Int) : ∀ k, (mulIn q a g i o k).length = o.length
  | 0 => rfl
  | k + 1 => by rw [mulIn, List.length_set, mulIn_length q a g i o k]
theorem mulIn_bd {q : Int} (hq : 0 < q) (a : Int) (g : List Int) (i : Nat) {o : List Int} (h : ∀ y ∈ o, 0 ≤ y ∧ y ≤ q - 1) : ∀ k, ∀ y ∈ mulIn q a g i o k, 0 ≤ y ∧ y ≤ q - 1
  | 0 => h
  | k + 1 => set_bd hq (mulIn_bd hq a g i h k) _ _
theorem mulIn_ev (q a : Int) (g : List Int) (i : Nat) (o : List Int) (x : Int) : ∀ k, i + k ≤ o.length → k ≤ g.length → ev (mulIn q a g i o k) x % q = (ev o x + a * x ^ i * ev (g.take k) x) % q
  | 0, _, _ => by simp [mulIn, ev]
  | k + 1, h1, h2 => by
    have hk : k < g.length := by omega
    have e : a * g[k] * x ^ (i + k) = a * x ^ i * (g[k] * x ^ k) := by
      rw [Int.pow_add, Int.mul_assoc, Int.mul_assoc, ← Int.mul_assoc g[k], Int.mul_comm g[k], Int.mul_assoc (x ^ i)]
    rw [mulIn, ev_step (t := a * g.getD k 0) (by rw [mulIn_length]; omega) (Int.emod_emod_of_dvd _ (Int.dvd_refl _)), Int.add_emod, mulIn_ev q a g i o x k (by omega) (by omega), ← Int.add_emod, ev_take hk, getD_get hk, e, Int.mul_add, Int.add_assoc]
def mulOut (q : Int) (f g : List Int) : Nat → List Int
  | 0 => List.replicate (f.length + g.length - 1) 0
  | i + 1 => mulIn q (f.getD i 0) g i (mulOut q f g i) g.length
theorem mulOut_length (q : Int) (f g : List Int) : ∀ i, (mulOut q f g i).length = f.length + g.length - 1
  | 0 => by simp [mulOut]
  | i + 1 => by rw [mulOut, mulIn_length, mulOut_length q f g i]
theorem mulOut_bd {q : Int} (hq : 0 < q) (f g : List Int) : ∀ i, ∀ y ∈ mulOut q f g i, 0 ≤ y ∧ y ≤ q - 1
  | 0 => by
    intro y hy
    have : y = 0 := (List.mem_replicate.1 hy).2
    omega
  | i + 1 => mulIn_bd hq _ g i (mulOut_bd hq f g i) _
theorem mulOut_ev (q : Int) (f g : List Int) (x : Int) : ∀ i, i ≤ f.length → ev (mulOut q f g i) x % q = (ev (f.take i) x * ev g x) % q
  | 0, _ => by simp [mulOut, ev, ev_replicate]
  | i + 1, h => by
    have hi : i < f.length := by omega
    rw [mulOut, mulIn_ev q _ g i _ x g.length (by rw [mulOut_length]; omega) (Nat.le_refl _), Int.add_emod, mulOut_ev q f g x i (by omega), ← Int.add_emod, List.take_length, ev_take hi, getD_get hi, Int.add_mul]
/-- One step of the evaluation from the top. -/
theorem ev_down {q x : Int} {f : List Int} {i : Nat} (hi : i < f.length) : (ev (f.drop (i + 1)) x % q * x % q + f[i]) % q = ev (f.drop i) x % q := by
  rw [List.drop_eq_getElem_cons hi]
  show _ = (f[i] + x * ev (f.drop (i + 1)) x) % q
  rw [Int.mul_emod, Int.emod_emod_of_dvd _ (Int.dvd_refl _), ← Int.mul_emod, Int.add_comm (f[i]), Int.mul_comm x, Int.emod_add_emod]

/-- The program's sum. -/
def addI (q : Int) (f g : List Int) : List Int := if f.length < g.length then addIn q f g f.length else addIn q g f g.length
/-- The reference's. -/
def addS (q : Int) (f g : List Int) : List Int := addIn q g (f ++ List.replicate (g.length - f.length) 0) g.length
theorem getD_zeros (f : List Int) (n i : Nat) : (f ++ List.replicate n 0).getD i 0 = f.getD i 0 := by
  simp only [List.getD_eq_getElem?_getD, List.getElem?_append, List.getElem?_replicate]
  by_cases h : i < f.length
  · rw [if_pos h]
  · rw [if_neg h, List.getElem?_eq_none (Nat.not_lt.1 h)]
    split <;> rfl
theorem add_same {q : Int} (_hq : 0 < q) {f g : List Int} (_hf : ∀ y ∈ f, 0 ≤ y ∧ y ≤ q - 1) (hg : ∀ y ∈ g, 0 ≤ y ∧ y ≤ q - 1) : addS q f g = addI q f g := by
  have hbd : ∀ {l : List Int}, (∀ y ∈ l, 0 ≤ y ∧ y ≤ q - 1) → ∀ i, l.getD i 0 % q = l.getD i 0 := by
    intro l hl i
    by_cases h : i < l.length
    · rw [getD_get h]
      have := hl _ (List.getElem_mem h)
      exact Int.emod_eq_of_lt this.1 (by omega)
    · rw [List.getD_eq_getElem?_getD, List.getElem?_eq_none (Nat.not_lt.1 h)]; simp
  have hz : ∀ {l : List Int} {i : Nat}, l.length ≤ i → l.getD i 0 = 0 := by
    intro l i h
    rw [List.getD_eq_getElem?_getD, List.getElem?_eq_none h]; rfl
  have hlen : (addS q f g).length = (addI q f g).length := by
    unfold addS addI
    rw [addIn_length, List.length_append, List.length_replicate]
    split <;> rw [addIn_length] <;> omega
  refine List.ext_getElem hlen fun i h1 h2 => ?_
  rw [← getD_get h1, ← getD_get h2]
  unfold addS
  rw [addIn_getD _ _ _ _ (by rw [List.length_append, List.length_replicate]; omega), getD_zeros]
  unfold addI
  by_cases hlt : f.length < g.length
  · rw [if_pos hlt, addIn_getD _ _ _ _ (by omega)]
    by_cases ha : i < f.length
    · rw [if_pos (show i < g.length by omega), if_pos ha, Int.add_comm]
    · rw [if_neg ha]
      by_cases hb : i < g.length
      · rw [if_pos hb, hz (show f.length ≤ i by omega), Int.zero_add, hbd hg]
      · rw [if_neg hb, hz (show f.length ≤ i by omega), hz (show g.length ≤ i by omega)]
  · rw [if_neg hlt, addIn_getD _ _ _ _ (by omega)]
theorem addI_ev {q : Int} (f g : List Int) (x : Int) : ev (addI q f g) x % q = (ev f x + ev g x) % q := by
  unfold addI
  split
  · rw [addIn_ev _ _ _ _ _ (by omega) (Nat.le_refl _), List.take_length, Int.add_comm]
  · rw [addIn_ev _ _ _ _ _ (by omega) (Nat.le_refl _), List.take_length]
theorem addI_bd {q : Int} (hq : 0 < q) {f g : List Int} (hf : ∀ y ∈ f, 0 ≤ y ∧ y ≤ q - 1) (hg : ∀ y ∈ g, 0 ≤ y ∧ y ≤ q - 1) : ∀ y ∈ addI q f g, 0 ≤ y ∧ y ≤ q - 1 := by
  unfold addI
  split
  · exact addIn_bd hq f hg _
  · exact addIn_bd hq g hf _
theorem addI_length (q : Int) (f g : List Int) : (addI q f g).length = max f.length g.length := by
  unfold addI
  split <;> rw [addIn_length] <;> omega
end Go.Proofs.Ytnhdohjlbchniaa
