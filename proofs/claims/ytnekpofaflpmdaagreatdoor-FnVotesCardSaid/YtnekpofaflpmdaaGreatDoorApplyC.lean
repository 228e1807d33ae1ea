/- Contracts for IsPermutation, ApplyPermutation, ComposePermutations: the program's and the reference's. -/
import Derived.Test.YtnekpofaflpmdaaGreatDoorProg
import Derived.Test.YtnekpofaflpmdaaGreatDoorApply
namespace Go.Proofs.YtnekpofaflpmdaaGreatDoor
open Go.RowKit


def applyR (p l : List Int) : Option (List Int) := if permB p && decide (p.length = l.length) then some (applyL p l) else none
theorem applyR_bd (p l : List Int) : ((applyR p l).getD []).length ≤ 100000 := by
  unfold applyR
  split
  · rename_i h
    simp only [Bool.and_eq_true] at h
    have := (permB_parts h.1).1
    simp only [Option.getD_some, applyL_length]; omega
  · simp



def composeR (p q : List Int) : Option (List Int) := if permB p && (permB q && decide (p.length = q.length)) then some (applyL q p) else none
theorem composeR_bd (p l : List Int) : ((composeR p l).getD []).length ≤ 100000 := by
  unfold composeR
  split
  · rename_i h
    simp only [Bool.and_eq_true] at h
    have := (permB_parts h.2.1).1
    simp only [Option.getD_some, applyL_length]; omega
  · simp


end Go.Proofs.YtnekpofaflpmdaaGreatDoor
