/- Contracts for the laws' own functions on lists of ints: copies, comparisons, marks. -/
import Derived.Test.YtnekpofaflpmdaaGreatDoorProg
import Derived.Test.YtnekpofaflpmdaaGreatDoorBase
namespace Go.Proofs.YtnekpofaflpmdaaGreatDoor
open Go.RowKit

theorem intSl : IntSl Tryz.prog 26 3 := by
  refine ⟨Tryz.underlying26, ?_⟩
  have h : (Tryz.prog.info? 3).map (fun i => (i.zero, i.size, i.bytes)) = some (some (.int .i64 0), 1, 8) := by kernel_rfl
  exact info_parts h



/-- n numbers in a row from k on. -/
def iota (k : Int) (n : Nat) : List Int := (List.range n).map fun i : Nat => k + (i : Int)
theorem iota_length (k : Int) (n : Nat) : (iota k n).length = n := by simp [iota]
theorem iota_get (k : Int) (n i : Nat) (h : i < (iota k n).length) : (iota k n)[i] = k + i := by simp [iota]
theorem iota_succ (k : Int) (n : Nat) : iota k (n + 1) = iota k n ++ [k + n] := by simp [iota, List.range_succ]


theorem iota_set {k : Int} {l : List Int} {j : Nat} (hj : j < l.length) : (iota k j ++ l.drop j).set j (k + j) = iota k (j + 1) ++ l.drop (j + 1) := by
  rw [List.set_append_right _ _ (by rw [iota_length]; exact Nat.le_refl _), iota_length, Nat.sub_self, List.drop_eq_getElem_cons hj, List.set_cons_zero, iota_succ]
  simp



end Go.Proofs.YtnekpofaflpmdaaGreatDoor
