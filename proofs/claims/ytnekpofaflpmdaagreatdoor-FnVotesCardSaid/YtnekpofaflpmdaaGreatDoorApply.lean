/- Contracts for permuted lists: apply, compose, inverse. -/
import Derived.Test.YtnekpofaflpmdaaGreatDoorProg
import Derived.Test.YtnekpofaflpmdaaGreatDoorDiff
import Derived.Test.YtnekpofaflpmdaaGreatDoorEq
namespace Go.Proofs.YtnekpofaflpmdaaGreatDoor
open Go.RowKit

def applyL (p l : List Int) : List Int := p.map fun k => l.getD k.toNat 0
theorem applyL_length (p l : List Int) : (applyL p l).length = p.length := by simp [applyL]
theorem applyL_take {p l : List Int} {j K : Nat} (hj : j < p.length) (hK : p[j] = (K : Int)) (hl : K < l.length) : applyL (p.take (j + 1)) l = applyL (p.take j) l ++ [l[K]] := by
  rw [List.take_succ_eq_append_getElem hj, applyL, List.map_append]
  simp [applyL, hK, List.getD, hl]
theorem set_rep {pre : List Int} {j n : Nat} (x : Int) (hp : pre.length = j) (hj : j < n) : (pre ++ List.replicate (n - j) 0).set j x = (pre ++ [x]) ++ List.replicate (n - (j + 1)) 0 := by
  rw [List.set_append_right _ _ (by omega), hp, Nat.sub_self, List.append_assoc]
  congr 1
  rw [show n - j = (n - (j + 1)) + 1 by omega, List.replicate_succ, List.set_cons_zero]
  rfl

theorem allR_at {l : List Int} {lo hi : Int} {j : Nat} (h : allR l lo hi = true) (hj : j < l.length) : lo ≤ l[j] ∧ l[j] ≤ hi := allR_iff.1 h _ (List.getElem_mem hj)
theorem permB_parts {l : List Int} (h : permB l = true) : l.length ≤ 24 ∧ allR l 0 (l.length - 1) = true ∧ l.Nodup := by
  unfold permB diffB at h
  simp only [Bool.and_eq_true, decide_eq_true_eq] at h
  exact ⟨h.1, h.2.1, h.2.2⟩


end Go.Proofs.YtnekpofaflpmdaaGreatDoor
