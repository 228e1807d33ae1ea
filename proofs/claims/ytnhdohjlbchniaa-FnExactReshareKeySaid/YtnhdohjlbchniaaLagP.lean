/- Plain law: the program's Lagrange coefficients and the reference's are one. No program in sight. -/
import Derived.Test.YtnhdohjlbchniaaPoly3
import Derived.Test.YtnhdohjlbchniaaExtC
namespace Go.Proofs.Ytnhdohjlbchniaa

theorem prodL_append : ∀ (a b : List Int), prodL (a ++ b) = prodL a * prodL b
  | [], b => by simp [prodL]
  | x :: a, b => by rw [List.cons_append, prodL, prodL, prodL_append a b, Int.mul_assoc]
theorem mulV_length (q : Int) {f g : List Int} (hf : f.length ≠ 0) (hg : g.length ≠ 0) : (mulV q f g).length = f.length + g.length - 1 := by
  rw [mulV, if_neg (by omega), mulOut_length]
theorem mulV_bd {q : Int} (hq : 2 ≤ q) (f g : List Int) : ∀ y ∈ mulV q f g, 0 ≤ y ∧ y ≤ q - 1 := by
  unfold mulV
  split
  · intro y hy; cases hy
  · exact mulOut_bd (by omega) f g _
theorem mulV_ev (q : Int) (f g : List Int) (x : Int) (hf : f.length ≠ 0) (hg : g.length ≠ 0) : ev (mulV q f g) x % q = (ev f x * ev g x) % q := by
  rw [mulV, if_neg (by omega), mulOut_ev q f g x f.length (Nat.le_refl _), List.take_length]
/-- The polynomial of the first k roots. -/
def rootV (q : Int) (l : List Int) : Nat → List Int
  | 0 => [1]
  | k + 1 => mulV q (rootV q l k) [(-(l.getD k 0)) % q, 1]
theorem rootV_length (q : Int) (l : List Int) : ∀ k, (rootV q l k).length = k + 1
  | 0 => rfl
  | k + 1 => by
    rw [rootV, mulV_length q (by rw [rootV_length q l k]; omega) (by simp), rootV_length q l k]
    simp
theorem rootV_bd {q : Int} (hq : 2 ≤ q) (l : List Int) : ∀ k, ∀ y ∈ rootV q l k, 0 ≤ y ∧ y ≤ q - 1
  | 0 => by
    intro y hy
    have : y = 1 := by simpa [rootV] using hy
    omega
  | k + 1 => mulV_bd hq _ _
theorem rootV_ev (q : Int) (l : List Int) (x : Int) : ∀ k, k ≤ l.length → ev (rootV q l k) x % q = prodL ((l.take k).map fun b => x - b) % q
  | 0, _ => by simp [rootV, ev, prodL]
  | k + 1, h => by
    have hk : k < l.length := by omega
    have e1 : ev [(-(l.getD k 0)) % q, 1] x % q = (x - l[k]) % q := by
      rw [getD_get hk]
      show ((-l[k]) % q + x * (1 + x * 0)) % q = _
      rw [Int.emod_add_emod]
      congr 1
      rw [Int.mul_zero, Int.add_zero, Int.mul_one]
      omega
    have e2 : prodL ([l[k]].map fun b => x - b) = x - l[k] := by simp [prodL]
    rw [rootV, mulV_ev q _ _ x (by rw [rootV_length]; omega) (by simp), Int.mul_emod, rootV_ev q l x k (by omega), e1, ← Int.mul_emod, List.take_succ_eq_append_getElem hk, List.map_append, prodL_append, e2]
/-- A basis polynomial as the program reckons it. -/
noncomputable def basV (q : Int) (xs : List Int) (i : Nat) : List Int :=
  mulV q (rootV q (xs.eraseIdx i) (xs.length - 1)) [invV (ev (rootV q (xs.eraseIdx i) (xs.length - 1)) (xs.getD i 0) % q) q]
/-- The product of the differences from the other points, of the first j. -/
def upP (xs : List Int) (x : Int) (i j : Nat) : Int := prodL (((xs.take j).eraseIdx i).map fun b => x - b)
noncomputable def lagC (q : Int) (xs : List Int) (x : Int) (i : Nat) : Int := upP xs x i xs.length % q * invV (upP xs (xs.getD i 0) i xs.length % q) q % q
noncomputable def lagL (q : Int) (xs : List Int) (x : Int) (n : Nat) : List Int := (List.range n).map (lagC q xs x)
theorem lagL_succ (q : Int) (xs : List Int) (x : Int) (n : Nat) : lagL q xs x (n + 1) = lagL q xs x n ++ [lagC q xs x n] := by simp [lagL, List.range_succ]
theorem lagL_length (q : Int) (xs : List Int) (x : Int) (n : Nat) : (lagL q xs x n).length = n := by simp [lagL]
theorem lagL_bd {q : Int} (hq : 2 ≤ q) (xs : List Int) (x : Int) (n : Nat) : ∀ y ∈ lagL q xs x n, 0 ≤ y ∧ y ≤ q - 1 := by
  intro y hy
  obtain ⟨k, _, rfl⟩ := List.mem_map.1 hy
  unfold lagC
  have h1 := Int.emod_nonneg (upP xs x k xs.length % q * invV (upP xs (xs.getD k 0) k xs.length % q) q) (show q ≠ 0 by omega)
  have h2 := Int.emod_lt_of_pos (upP xs x k xs.length % q * invV (upP xs (xs.getD k 0) k xs.length % q) q) (show 0 < q by omega)
  omega
theorem root_up (q : Int) {xs : List Int} {i : Nat} (hi : i < xs.length) (z : Int) : ev (rootV q (xs.eraseIdx i) (xs.length - 1)) z % q = upP xs z i xs.length % q := by
  have hl : (xs.eraseIdx i).length = xs.length - 1 := List.length_eraseIdx_of_lt hi
  rw [rootV_ev q _ z _ (by omega), ← hl, List.take_length, upP, List.take_length]
theorem bas_ev (q : Int) {xs : List Int} {i : Nat} (hi : i < xs.length) (x : Int) : ev (basV q xs i) x % q = lagC q xs x i := by
  unfold basV lagC
  rw [mulV_ev q _ _ x (by rw [rootV_length]; omega) (by simp), root_up q hi, Int.mul_emod, root_up q hi]
  have e : ∀ v : Int, ev [v] x = v := fun v => by show v + x * 0 = v; rw [Int.mul_zero, Int.add_zero]
  have e2 : ∀ A v : Int, A * v % q = A % q * v % q := fun A v => by rw [Int.mul_emod (A % q), Int.emod_emod_of_dvd _ (Int.dvd_refl q), ← Int.mul_emod]
  rw [e, ← Int.mul_emod]
  exact e2 _ _
theorem basV_length (q : Int) {xs : List Int} {i : Nat} (hi : i < xs.length) : (basV q xs i).length = xs.length := by
  unfold basV
  rw [mulV_length q (by rw [rootV_length]; omega) (by simp), rootV_length]
  simp; omega
theorem basV_bd {q : Int} (hq : 2 ≤ q) (xs : List Int) (i : Nat) : ∀ y ∈ basV q xs i, 0 ≤ y ∧ y ≤ q - 1 := mulV_bd hq _ _
theorem upP_zero (xs : List Int) (x : Int) (i : Nat) : upP xs x i 0 = 1 := by simp [upP, prodL]
theorem upP_skip {xs : List Int} (x : Int) {i : Nat} (hi : i < xs.length) : upP xs x i (i + 1) = upP xs x i i := by
  have hl : (xs.take i).length = i := by rw [List.length_take]; omega
  have h1 : (xs.take i).eraseIdx i = xs.take i := List.eraseIdx_of_length_le (by omega)
  have h2 : (xs.take i ++ [xs[i]]).eraseIdx i = xs.take i := by
    rw [List.eraseIdx_append_of_length_le (by omega), hl, Nat.sub_self, List.eraseIdx_cons_zero, List.append_nil]
  unfold upP
  rw [List.take_succ_eq_append_getElem hi, h1, h2]
theorem upP_step {xs : List Int} (x : Int) {i j : Nat} (hj : j < xs.length) (hne : j ≠ i) : upP xs x i (j + 1) = upP xs x i j * (x - xs[j]) := by
  have hl : (xs.take j).length = j := by rw [List.length_take]; omega
  have e2 : prodL ([xs[j]].map fun b => x - b) = x - xs[j] := by simp [prodL]
  have e3 : (xs.take j ++ [xs[j]]).eraseIdx i = (xs.take j).eraseIdx i ++ [xs[j]] := by
    by_cases h : i < j
    · rw [List.eraseIdx_append_of_lt_length (by omega)]
    · rw [List.eraseIdx_of_length_le (by simp; omega), List.eraseIdx_of_length_le (by omega)]
  unfold upP
  rw [List.take_succ_eq_append_getElem hj, e3, List.map_append, prodL_append, e2]
theorem up_inv {p q g : Int} (h : grpB p q g = true) {xs : List Int} (hd : xs.Nodup) (hr : ∀ y ∈ xs, 0 ≤ y ∧ y < q) {i : Nat} (hi : i < xs.length) : invV (upP xs xs[i] i xs.length % q) q ≠ 0 := by
  have hG := grpB_in h
  obtain ⟨Q, rfl⟩ := Int.eq_ofNat_of_zero_le (show 0 ≤ q by have := hG.q2; omega)
  have hQ : 2 ≤ Q := by have := hG.q2; omega
  have hQp : PrimeN Q := by have := primeB_iff.1 hG.hq; rwa [Int.toNat_natCast] at this
  have hn : ¬ (Q : Int) ∣ upP xs xs[i] i xs.length := by
    unfold upP
    rw [List.take_length]
    refine not_dvd_prodL (pr_of_prime hQp) ?_
    intro y hy hdv
    obtain ⟨b, hb, rfl⟩ := List.mem_map.1 hy
    obtain ⟨j, hj, hne, rfl⟩ := List.mem_eraseIdx_iff_getElem.1 hb
    have h1 := same_res (hr _ (List.getElem_mem hi)) (hr _ (List.getElem_mem hj)) hdv
    rcases Nat.lt_or_gt_of_ne hne with h9 | h9
    · exact List.pairwise_iff_getElem.1 hd j i hj hi h9 h1.symm
    · exact List.pairwise_iff_getElem.1 hd i j hi hj h9 h1
  have h0 : upP xs xs[i] i xs.length % (Q : Int) ≠ 0 := fun h0 => hn (Int.dvd_of_emod_eq_zero h0)
  have h1 := Int.emod_nonneg (upP xs xs[i] i xs.length) (show (Q : Int) ≠ 0 by omega)
  have h2 := Int.emod_lt_of_pos (upP xs xs[i] i xs.length) (show (0 : Int) < Q by omega)
  generalize upP xs xs[i] i xs.length % (Q : Int) = D at *
  obtain ⟨D, rfl⟩ := Int.eq_ofNat_of_zero_le h1
  obtain ⟨v, v1, v2, v3⟩ := inv_prime hQp (show D ≠ 0 by omega) (by omega)
  rw [v2]
  intro h3
  have : v = 0 := by omega
  subst this
  simp at v3
end Go.Proofs.Ytnhdohjlbchniaa
