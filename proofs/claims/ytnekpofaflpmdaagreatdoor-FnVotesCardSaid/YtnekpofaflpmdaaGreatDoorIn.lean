/- A contract for the two functions that ask whether a number is in a range. -/
import Derived.Test.YtnekpofaflpmdaaGreatDoorProg
import Derived.Test.YtnekpofaflpmdaaGreatDoorBase
namespace Go.Proofs.YtnekpofaflpmdaaGreatDoor
open Go.RowKit

def inR (n lo hi : Int) : Bool := decide (lo ≤ n ∧ n ≤ hi)
theorem inR_iff {n lo hi : Int} : inR n lo hi = true ↔ (lo ≤ n ∧ n ≤ hi) := by unfold inR; exact decide_eq_true_iff
theorem inR_iff' {n lo hi : Int} : inR n lo hi = false ↔ ¬ (lo ≤ n ∧ n ≤ hi) := by unfold inR; exact decide_eq_false_iff_not

set_option maxHeartbeats 400000 in
theorem l1In_any (n lo hi : Int) (w : World) : Calls Tryz.prog 55 #[.int .i64 n, .int .i64 lo, .int .i64 hi] w fun e w' => e = .returned (.bool (inR n lo hi)) ∧ w = w' := by
  go_enter Tryz.func55, Tryz.ntmps55
  go_wp2
  all_goals
    go_ret
    refine ⟨ret_bool ?_, rfl⟩
    go_light
    rw [Bool.eq_iff_iff, inR_iff]
    simp only [decide_eq_true_eq, Bool.false_eq_true, false_iff]
    omega

set_option maxHeartbeats 400000 in
theorem within_any (n lo hi : Int) (w : World) : Calls Tryz.prog 42 #[.int .i64 n, .int .i64 lo, .int .i64 hi] w fun e w' => e = .returned (.bool (inR n lo hi)) ∧ w = w' := by
  go_enter Tryz.func42, Tryz.ntmps42
  go_wp2
  all_goals
    go_ret
    refine ⟨ret_bool ?_, rfl⟩
    go_light
    rw [Bool.eq_iff_iff, inR_iff]
    simp only [decide_eq_true_eq, Bool.false_eq_true, false_iff]
    omega
end Go.Proofs.YtnekpofaflpmdaaGreatDoor
