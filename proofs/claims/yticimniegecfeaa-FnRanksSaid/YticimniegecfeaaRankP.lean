/- A permutation comes back from its rank and from its matrix; coins give permutations. No program in sight. -/
import Derived.Test.YticimniegecfeaaUnrP
import Derived.Test.YticimniegecfeaaPermP
import Derived.Test.YticimniegecfeaaPmat
import Derived.Test.YticimniegecfeaaShuf
namespace Go.Proofs.Yticimniegecfeaa
open Go.RowKit

/-- The numbers of lesser elements behind each. -/
def lessOf : List Int → List Nat
  | [] => []
  | x :: q => lessC q x :: lessOf q
theorem lessOf_length : ∀ q : List Int, (lessOf q).length = q.length
  | [] => rfl
  | x :: q => by simp [lessOf, lessOf_length q]
theorem lessOf_get : ∀ (q : List Int) (i : Nat) (h : i < q.length), (lessOf q)[i]'(by rw [lessOf_length]; exact h) = lessC (q.drop (i + 1)) q[i]
  | x :: q, 0, _ => by simp [lessOf]
  | x :: q, i + 1, h => by simpa [lessOf] using lessOf_get q i (by simpa using h)

/-- An element of a rising list stands behind as many as are less. -/
theorem rise_split {L : List Int} (hL : L.Pairwise (· < ·)) {x : Int} (hx : x ∈ L) : ∃ a b, L = a ++ x :: b ∧ lessC L x = a.length := by
  obtain ⟨a, b, rfl⟩ := List.append_of_mem hx
  refine ⟨a, b, rfl, ?_⟩
  rw [List.pairwise_append] at hL
  obtain ⟨_, h2, h3⟩ := hL
  rw [List.pairwise_cons] at h2
  unfold lessC
  have h4 : (a.filter fun y => decide (y < x)) = a := List.filter_eq_self.2 fun y hy => decide_eq_true (h3 y hy x (by simp))
  have h5 : (b.filter fun y => decide (y < x)) = [] := List.filter_eq_nil_iff.2 fun y hy => by have := h2.1 y hy; simp; omega
  rw [List.filter_append, h4, List.filter_cons, h5]
  simp
theorem pick_rise : ∀ (q L : List Int), L.Pairwise (· < ·) → L.Perm q → pickL (lessOf q) L = q
  | [], L, _, hp => by rw [List.Perm.eq_nil hp]; rfl
  | x :: q, L, hL, hp => by
    have hx : x ∈ L := hp.symm.subset (by simp)
    obtain ⟨a, b, rfl, hl⟩ := rise_split hL hx
    have hpq : (a ++ b).Perm q := by
      have h1 : (a ++ x :: b).Perm (x :: (a ++ b)) := List.perm_middle
      exact (h1.symm.trans hp).cons_inv
    have hc : lessC q x = a.length := by
      rw [← hl]
      unfold lessC
      have h2 := (hp.filter fun y => decide (y < x)).length_eq
      rw [h2, List.filter_cons]
      simp
    rw [lessOf, pickL, hc]
    have h3 : (a ++ x :: b).getD a.length 0 = x := by simp [List.getD]
    have h4 : (a ++ x :: b).eraseIdx a.length = a ++ b := by simp [List.eraseIdx_append_of_length_le]
    rw [h3, h4, pick_rise q (a ++ b) ?_ hpq]
    refine hL.sublist ?_
    exact List.Sublist.append (List.Sublist.refl a) (List.sublist_cons_self x b)
theorem iota_rise (n : Nat) : (iota 0 n).Pairwise (· < ·) := by
  rw [List.pairwise_iff_getElem]
  intro i j hi hj hij
  rw [iota_get, iota_get]; omega
theorem rkS_get {p : List Int} {j : Nat} (hj : j < p.length) : rkS p (j + 1) = rkS p j * (p.length - j) + lessC (p.drop (j + 1)) p[j] := by simp [rkS, List.getD, hj]
theorem lessC_lt {p : List Int} {j : Nat} (hj : j < p.length) : lessC (p.drop (j + 1)) p[j] < p.length - j := by
  have := lessC_le (p.drop (j + 1)) p[j]
  rw [List.length_drop] at this; omega
/-- The rank, cut to its first digits. -/
theorem rkS_div {p : List Int} : ∀ k j, j + k = p.length → rkS p p.length / factN k = rkS p j
  | 0, j, h => by rw [factN, Nat.div_one, show j = p.length by omega]
  | k + 1, j, h => by
    have ih := rkS_div (p := p) k (j + 1) (by omega)
    have h1 := rkS_get (p := p) (j := j) (by omega)
    have h2 := lessC_lt (p := p) (j := j) (by omega)
    rw [factN, Nat.mul_comm, ← Nat.div_div_eq_div_mul, ih, h1, show p.length - j = k + 1 by omega]
    rw [show p.length - j = k + 1 by omega] at h2
    rw [Nat.mul_comm, Nat.mul_add_div (by omega), Nat.div_eq_of_lt h2, Nat.add_zero]
theorem less_rank {p : List Int} {i : Nat} (hi : i < p.length) : lessD p.length (rkS p p.length) i = lessC (p.drop (i + 1)) p[i] := by
  unfold lessD
  rw [rkS_div (p.length - 1 - i) (i + 1) (by omega), rkS_get hi, Nat.mul_comm, Nat.mul_add_mod, Nat.mod_eq_of_lt (lessC_lt hi)]
theorem lessL_rank (p : List Int) : lessL p.length (rkS p p.length) = lessOf p := by
  apply List.ext_getElem (by rw [lessL_length, lessOf_length])
  intro i h1 h2
  rw [lessL_length] at h1
  rw [lessL_get h1, less_rank h1, lessOf_get p i h1]
theorem rkS_lt (p : List Int) : rkS p p.length < factN p.length := by
  have h := rkS_div (p := p) p.length 0 (by omega)
  rw [rkS, Nat.div_eq_zero_iff] at h
  have := factN_pos p.length
  omega
/-- A permutation has its rank's permutation. -/
theorem unr_rank {p : List Int} (h : permB p = true) (h12 : p.length ≤ 12) : unrR p.length (rkVal p) = some p := by
  have hk : rkVal p = (rkS p p.length : Nat) := by
    have : rkOk p = true := by unfold rkOk; rw [h, decide_eq_true h12]; rfl
    simp [rkVal, this]
  rw [hk]
  have hlt := rkS_lt p
  unfold unrR
  rw [if_pos, Int.toNat_natCast, Int.toNat_natCast, unrL, lessL_rank, pick_rise p _ (iota_rise _) (perm_all h).symm]
  rw [Bool.and_eq_true, Int.toNat_natCast]
  exact ⟨inR_iff.2 ⟨by omega, by omega⟩, inR_iff.2 ⟨by omega, by omega⟩⟩
/-- .. and its matrix's. -/
theorem pm_mat {p : List Int} (h : permB p = true) : pmR (matL p) = some p := by
  have h1 : pmP (matL p) = p := by
    apply List.ext_getElem (by simp [pmP, matL])
    intro k g1 g2
    obtain ⟨K, hK, hKn, _⟩ := permD (permB_parts h).2.1 g2
    simp only [pmP, matL, List.map_map, List.getElem_map, Function.comp_apply, hK, Int.toNat_natCast]
    exact unit_idx hKn
  unfold pmR
  rw [h1, h, decide_eq_true rfl]
  rfl
theorem swapL_perm {l : List Int} {i r : Nat} (hi : i < l.length) (hr : r < l.length) : (swapL l i r).Perm l := by
  by_cases h : i = r
  · subst h
    have : swapL l i i = l := by
      unfold swapL
      rw [List.set_set]
      apply List.ext_getElem (by simp)
      intro k g1 g2
      rw [List.getElem_set]
      split
      · rename_i e; subst e; simp [List.getD, g2]
      · rfl
    rw [this]
  · exact swp_perm hi hr h
theorem shufGo_perm (n : Nat) (cs : List Int) : ∀ (k : Nat) (l : List Int), l.length = n → k + cs.length < n → (shufGo n k l cs).Perm l := by
  induction cs with
  | nil => intro k l _ _; exact .refl _
  | cons x cs ih =>
    intro k l hl hk
    rw [List.length_cons] at hk
    have h1 : x.toNat % (n - k) < n - k := Nat.mod_lt _ (by omega)
    have h2 := swapL_perm (l := l) (i := n - 1 - k) (r := x.toNat % (n - k)) (by omega) (by omega)
    exact (ih (k + 1) _ (by rw [swapL_length]; exact hl) (by omega)).trans h2
theorem shuf_perm {n : Int} {cs s : List Int} (h : shufR n cs = some s) : permB s = true ∧ (s.length : Int) = n := by
  unfold shufR at h
  split at h
  · rename_i hc
    rw [Bool.and_eq_true, Bool.and_eq_true, decide_eq_true_eq] at hc
    obtain ⟨h1, h2, _⟩ := hc
    have h3 := inR_iff.1 h1
    simp only [Option.some.injEq] at h
    subst h
    have hp := shufGo_perm n.toNat cs 0 (iota 0 n.toNat) (iota_length _ _) (by omega)
    refine ⟨permB_of_perm (n := n.toNat) (by omega) hp, ?_⟩
    rw [shufL, shufGo_length, iota_length]; omega
  · cases h
end Go.Proofs.Yticimniegecfeaa
