/- Contracts for EncodeContest: the program's and the reference's. -/
import Derived.Test.YtnekpofaflpmdaaGreatDoorCon
import Derived.Test.YtnekpofaflpmdaaGreatDoorEq
namespace Go.Proofs.YtnekpofaflpmdaaGreatDoor
open Go.RowKit

def encCt (a b c d f : Int) : Option (List Int) := if validCt a b c d f then some [a, b, c, d, f] else none



set_option maxHeartbeats 400000 in
theorem iEncodeContest_any (a b c d f : Int) (w : World) :
    Calls Tryz.prog 13 #[.agg #[.int .i64 a, .int .i64 b, .int .i64 c, .int .i64 d, .int .i64 f]] w fun e w' => ResI 3 w (encCt a b c d f) e w' := by
  by_cases h : validCt a b c d f = true
  · have hr : encCt a b c d f = some [a, b, c, d, f] := by rw [encCt, if_pos h]
    rw [hr]; clear hr
    go_enter Tryz.func13, Tryz.ntmps13
    go_wp2_with fail
    refine (IsValidContest_any _ _ _ _ _ _).mono ?_
    rintro e w1 ⟨rfl, hb⟩
    have B := (Blk.new w 25 _).ext hb
    have E := ((Ext.refl w).alloc _).trans hb
    clear hb
    have C := B.cells
    go_wp2_with fail
    go_ret2
    exact ⟨_, _, _, rfl, ownI_lit [a, b, c, d, f] rfl rfl E.size (by unfold maxLen; simp), E.alloc _⟩
  · have hr : encCt a b c d f = none := by rw [encCt, if_neg h]
    rw [hr]; clear hr
    have h : validCt a b c d f = false := by simpa using h
    go_enter Tryz.func13, Tryz.ntmps13
    go_wp2_with fail
    refine (IsValidContest_any _ _ _ _ _ _).mono ?_
    rintro e w1 ⟨rfl, hb⟩
    go_wp2_with fail
    go_ret2
    exact ⟨_, _, _, rfl, OwnI.nil _ _ _, ((Ext.refl w).alloc _).trans hb⟩
end Go.Proofs.YtnekpofaflpmdaaGreatDoor
