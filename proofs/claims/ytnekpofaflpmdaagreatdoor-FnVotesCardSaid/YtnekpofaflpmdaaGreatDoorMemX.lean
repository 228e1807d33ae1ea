/- More words for memory and for permutations. -/
import Derived.Test.YtnekpofaflpmdaaGreatDoorProg
import Derived.Test.YtnekpofaflpmdaaGreatDoorMem
import Derived.Test.YtnekpofaflpmdaaGreatDoorApplyC
namespace Go.Proofs.YtnekpofaflpmdaaGreatDoor
open Go.RowKit

theorem OwnII.apartV {w : World} {base n c b e m d : Nat} {A B : Option Addr} {P : List Nat} {ls : List (List Int)} {xs : List Value} (h : OwnII w base A n c P ls) (k : OwnV w b e B m d xs) (h1 : e ≠ 26) (h2 : e ≠ 3) : Apart (fpI B) P := by
  obtain ⟨rs, hV, hl, hI, hd, rfl⟩ := h
  intro x hx hx'
  rcases List.mem_append.1 hx' with hx' | hx'
  · exact apart_types k hV h1 x hx hx'
  · obtain ⟨r, hr, hx'⟩ := rowsFp_mem.1 hx'
    obtain ⟨i, hi, rfl⟩ := List.getElem_of_mem hr
    exact apart_types k (hI i hi (by omega)).v h2 x hx hx'
theorem permD {p : List Int} (h : allR p 0 (p.length - 1) = true) {k : Nat} (hk : k < p.length) : ∃ K : Nat, p[k] = (K : Int) ∧ K < p.length ∧ (p.getD k 0).toNat = K := by
  have hr := allR_at h hk
  obtain ⟨K, hK⟩ := Int.eq_ofNat_of_zero_le hr.1
  refine ⟨K, hK, by omega, ?_⟩
  simp [List.getD, hk, hK]

theorem permB_R {p : List Int} {n : Nat} (h : permB p = true) (hl : p.length = n) : n ≤ 24 ∧ allR p 0 (n - 1) = true := by
  subst hl
  exact ⟨(permB_parts h).1, (permB_parts h).2.1⟩

end Go.Proofs.YtnekpofaflpmdaaGreatDoor
