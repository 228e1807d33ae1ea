/- Plain facts about permutations: what is put together with an inverse comes back; signs. -/
import Derived.Test.YticimniegecfeaaSgn
import Derived.Test.YticimniegecfeaaInv
import Derived.Test.YticimniegecfeaaApplyC
namespace Go.Proofs.Yticimniegecfeaa
open Go.RowKit

theorem Swaps.perm {k : Nat} {l l' : List Int} (h : Swaps k l l') : l.Perm l' := by
  induction h with
  | refl l => exact .refl _
  | step i j hi hj hne h ih => exact ((swp_perm hi hj hne).symm).trans ih
theorem perm_all {p : List Int} (h : permB p = true) : p.Perm (iota 0 p.length) := (perm_swaps h).1.perm
theorem permB_of_perm {p : List Int} {n : Nat} (hn : n ≤ 24) (h : p.Perm (iota 0 n)) : permB p = true := by
  have hl : p.length = n := by rw [h.length_eq, iota_length]
  have hd : (iota 0 n).Nodup := by
    rw [List.nodup_iff_pairwise_ne, List.pairwise_iff_getElem]
    intro i j hi hj hij
    rw [iota_get, iota_get]; omega
  unfold permB
  rw [Bool.and_eq_true, Bool.and_eq_true]
  refine ⟨decide_eq_true (by omega), allR_iff.2 fun x hx => ?_, decide_eq_true (h.nodup_iff.2 hd)⟩
  have := (h.mem_iff (a := x)).1 hx
  simp only [iota, List.mem_map, List.mem_range] at this
  obtain ⟨i, hi, rfl⟩ := this
  omega
theorem map_iota {p : List Int} : (iota 0 p.length).map (fun k => p.getD k.toNat 0) = p := by
  apply List.ext_getElem (by simp [iota_length])
  intro k g1 g2
  simp [iota, List.getD, g2]
theorem perm_comp {p q : List Int} (hp : permB p = true) (hq : permB q = true) (hl : p.length = q.length) : permB (applyL q p) = true := by
  have h1 := (perm_all hq).map (fun k => p.getD k.toNat 0)
  rw [← hl, map_iota] at h1
  exact permB_of_perm (permB_parts hp).1 ((show (applyL q p).Perm p from h1).trans (perm_all hp))

theorem getD_in {l : List Int} {i : Nat} (h : i < l.length) : l.getD i 0 = l[i] := by simp [List.getD, h]
/-- The inverse has at a permutation's elements their places. -/
theorem invAt_at {q : List Int} (h : permB q = true) : ∀ j, j ≤ q.length → ∀ i, i < j → (invAt q j).getD (q.getD i 0).toNat 0 = i := by
  obtain ⟨hR, hI⟩ := perm_facts h
  intro j
  induction j with
  | zero => intro _ i hi; omega
  | succ j ih =>
    intro hj i hi
    have hjl : j < q.length := by omega
    obtain ⟨r1, r2⟩ := hR j hjl
    have hK : q[j] = ((q.getD j 0).toNat : Int) := by rw [← getD_in hjl]; omega
    rw [invAt_succ hjl hK]
    by_cases hij : i = j
    · subst hij
      rw [getD_in (by rw [List.length_set, invAt_length]; exact r1), List.getElem_set_self]
    · have hne : (q.getD j 0).toNat ≠ (q.getD i 0).toNat := by
        intro e
        obtain ⟨s1, s2⟩ := hR i (by omega)
        exact hij (hI i j (by omega) hjl (by omega))
      have h2 := ih (by omega) i (by omega)
      rw [List.getD, List.getElem?_set_ne hne]
      exact h2
theorem invL_at {q : List Int} (h : permB q = true) {i : Nat} (hi : i < q.length) : (invL q).getD (q.getD i 0).toNat 0 = i := by
  have := invAt_at h q.length (Nat.le_refl _) i hi
  rw [invAt, List.take_length] at this
  exact this
theorem invL_length (q : List Int) : (invL q).length = q.length := by simp [invL, invGo_length]
theorem perm_inv {q : List Int} (h : permB q = true) : ∀ j, j < q.length → ∃ i, i < q.length ∧ (invL q).getD j 0 = i ∧ q.getD i 0 = j := by
  intro j hj
  have hm : (j : Int) ∈ q := (perm_all h).mem_iff.2 (by simp only [iota, List.mem_map, List.mem_range]; exact ⟨j, hj, by omega⟩)
  obtain ⟨i, hi, he⟩ := List.getElem_of_mem hm
  have he' : q.getD i 0 = j := by rw [getD_in hi]; exact he
  have h2 := invL_at h hi
  rw [he', Int.toNat_natCast] at h2
  exact ⟨i, hi, h2, he'⟩
theorem permB_inv {q : List Int} (h : permB q = true) : permB (invL q) = true := by
  refine permB_of_perm (permB_parts h).1 (List.Perm.symm ?_)
  have h1 := (perm_all h).map (fun k => (invL q).getD k.toNat 0)
  have h2 : (iota 0 q.length).map (fun k => (invL q).getD k.toNat 0) = invL q := by rw [← invL_length q]; exact map_iota
  rw [h2] at h1
  have h3 : q.map (fun k => (invL q).getD k.toNat 0) = iota 0 q.length := by
    apply List.ext_getElem (by simp [iota_length])
    intro k g1 g2
    have hk : k < q.length := by simpa using g1
    have := invL_at h hk
    rw [getD_in hk] at this
    simp only [List.getElem_map, iota_get]
    omega
  rw [h3] at h1
  exact h1
theorem comp_inv {p q : List Int} (hp : permB p = true) (hq : permB q = true) (hl : p.length = q.length) : composeR (applyL q p) (invL q) = some p := by
  have hr := perm_comp hp hq hl
  have hi := permB_inv hq
  have hll : (applyL q p).length = (invL q).length := by rw [applyL_length, invL_length]
  unfold composeR
  rw [hr, hi, decide_eq_true hll]
  simp only [Bool.and_self, if_true, Option.some.injEq]
  apply List.ext_getElem (by rw [applyL_length, invL_length, hl])
  intro j g1 g2
  obtain ⟨i, hi1, hi2, hi3⟩ := perm_inv hq j (by omega)
  have e1 : (applyL (invL q) (applyL q p))[j] = (applyL q p).getD ((invL q).getD j 0).toNat 0 := by
    have hj : j < (invL q).length := by rw [applyL_length] at g1; exact g1
    simp only [applyL, List.getElem_map]
    rw [getD_in hj]
  rw [e1, hi2, Int.toNat_natCast, getD_in (by rw [applyL_length]; exact hi1)]
  simp only [applyL, List.getElem_map]
  rw [← getD_in hi1, hi3, Int.toNat_natCast, getD_in g2]
theorem sgnVal_mul {p q : List Int} (hp : permB p = true) (hq : permB q = true) (hl : p.length = q.length) : sgnVal p * sgnVal q = sgnVal (applyL q p) := by
  have hr := perm_comp hp hq hl
  have h := sgn_comp hp hq hl hr
  simp only [sgnVal, hp, hq, hr, if_true, h]
  cases sgnB p <;> cases sgnB q <;> decide
theorem sgnVal_bd (p : List Int) : -1 ≤ sgnVal p ∧ sgnVal p ≤ 1 := by
  unfold sgnVal
  split
  · split <;> omega
  · omega
theorem cyc_tot {p : List Int} {ls : List (List Int)} (h : cycR p = some ls) : tot ls = p.length := by
  unfold cycR at h
  split at h
  · rename_i hp
    have := (perm_swaps hp).2
    simp only [Option.some.injEq] at h
    rw [← h]; exact this
  · cases h
end Go.Proofs.Yticimniegecfeaa
