/- Contracts for the functions on contests. -/
import Derived.Test.YtnekpofaflpmdaaGreatDoorProg
import Derived.Test.YtnekpofaflpmdaaGreatDoorBase
namespace Go.Proofs.YtnekpofaflpmdaaGreatDoor
open Go.RowKit

def ValidCt (a b c d f : Int) : Prop :=
  0 ≤ c ∧ c ≤ d ∧ (((a = 1 ∨ a = 3) ∧ 1 ≤ b ∧ b ≤ 8 ∧ d ≤ b ∧ f = 0) ∨ (a = 2 ∧ 1 ≤ b ∧ b ≤ 8 ∧ 1 ≤ f ∧ f ≤ 5 ∧ d ≤ wrap64 (b * f)) ∨ (a = 4 ∧ b = 0 ∧ d ≤ 5 ∧ f = 0))
instance (a b c d f : Int) : Decidable (ValidCt a b c d f) := by unfold ValidCt; infer_instance
def validCt (a b c d f : Int) : Bool := decide (ValidCt a b c d f)
theorem validCt_iff (a b c d f : Int) : validCt a b c d f = true ↔
    (0 ≤ c ∧ c ≤ d ∧ (((a = 1 ∨ a = 3) ∧ 1 ≤ b ∧ b ≤ 8 ∧ d ≤ b ∧ f = 0) ∨ (a = 2 ∧ 1 ≤ b ∧ b ≤ 8 ∧ 1 ≤ f ∧ f ≤ 5 ∧ d ≤ wrap64 (b * f)) ∨ (a = 4 ∧ b = 0 ∧ d ≤ 5 ∧ f = 0))) := by
  unfold validCt; exact decide_eq_true_iff


set_option maxHeartbeats 400000 in
theorem vContest_any (a b c d f : Int) (w : World) :
    Calls Tryz.prog 29 #[.agg #[.int .i64 a, .int .i64 b, .int .i64 c, .int .i64 d, .int .i64 f]] w fun e w' => e = .returned (.bool (validCt a b c d f)) ∧ Ext w w' := by
  go_enter Tryz.func29, Tryz.ntmps29
  go_wp2
  all_goals
    go_ret
    refine ⟨ret_bool ?_, ?_⟩
  any_goals
    show Below _ _ _
    (repeat (first | exact Below.refl _ _ | assumption | apply Below.drew | refine Below.alloc ?_ (by simp; try omega) _ | refine Below.setCell ?_ (by simp; try omega) _))
  all_goals
    go_light
    try simp only [beq_iff_eq, beq_eq_false_iff_ne] at *
    rw [Bool.eq_iff_iff, validCt_iff]
    simp only [decide_eq_true_eq, Bool.false_eq_true, false_iff, beq_iff_eq]
    omega

set_option maxHeartbeats 400000 in
theorem IsValidContest_any (a b c d f : Int) (w : World) :
    Calls Tryz.prog 22 #[.agg #[.int .i64 a, .int .i64 b, .int .i64 c, .int .i64 d, .int .i64 f]] w fun e w' => e = .returned (.bool (validCt a b c d f)) ∧ Ext w w' := by
  go_enter Tryz.func22, Tryz.ntmps22
  go_wp2
  all_goals
    go_ret
    refine ⟨ret_bool ?_, ?_⟩
  any_goals
    show Below _ _ _
    (repeat (first | exact Below.refl _ _ | assumption | apply Below.drew | refine Below.alloc ?_ (by simp; try omega) _ | refine Below.setCell ?_ (by simp; try omega) _))
  all_goals
    go_light
    try simp only [beq_iff_eq, beq_eq_false_iff_ne] at *
    rw [Bool.eq_iff_iff, validCt_iff]
    simp only [decide_eq_true_eq, Bool.false_eq_true, false_iff, beq_iff_eq]
    omega
end Go.Proofs.YtnekpofaflpmdaaGreatDoor
