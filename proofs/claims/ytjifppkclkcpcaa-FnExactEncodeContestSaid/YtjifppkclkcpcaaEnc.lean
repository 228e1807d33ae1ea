/- Contracts for EncodeContest: the program's and the reference's. -/
import Derived.Test.YtjifppkclkcpcaaCon
import Derived.Test.YtjifppkclkcpcaaEq
namespace Go.Proofs.Ytjifppkclkcpcaa
open Go.RowKit

def encCt (a b c d f : Int) : Option (List Int) := if validCt a b c d f then some [a, b, c, d, f] else none

set_option maxHeartbeats 400000 in
theorem vEncode_any (a b c d f : Int) (w : World) :
    Calls Try.prog 32 #[.agg #[.int .i64 a, .int .i64 b, .int .i64 c, .int .i64 d, .int .i64 f]] w fun e w' => ∃ A, e = .returned (.slice A 5 5) ∧ OwnI w' w.heap.size 3 A 5 5 [a, b, c, d, f] ∧ Ext w w' := by
  go_enter Try.func32, Try.ntmps32
  go_wp2
  go_ret
  exact ⟨_, rfl, ownI_lit [a, b, c, d, f] rfl (by simp) (by simp) (by unfold maxLen; simp), ((Ext.refl w).alloc _).alloc _⟩

set_option maxHeartbeats 400000 in
theorem sEncodeContest_any (a b c d f : Int) (w : World) :
    Calls Try.prog 17 #[.agg #[.int .i64 a, .int .i64 b, .int .i64 c, .int .i64 d, .int .i64 f]] w fun e w' => ResI 3 w (encCt a b c d f) e w' := by
  by_cases h : validCt a b c d f = true
  · have hr : encCt a b c d f = some [a, b, c, d, f] := by rw [encCt, if_pos h]
    rw [hr]; clear hr
    go_enter Try.func17, Try.ntmps17
    go_wp2_with fail
    refine (vContest_any _ _ _ _ _ _).mono ?_
    rintro e w1 ⟨rfl, hb⟩
    have B := (Blk.new w 25 _).ext hb
    have E := ((Ext.refl w).alloc _).trans hb
    clear hb
    have C := B.cells
    go_wp2_with fail
    refine (vEncode_any _ _ _ _ _ _).mono ?_
    rintro e w2 ⟨A, rfl, hO, hb⟩
    go_wp2_with fail
    go_ret2
    exact ⟨_, _, _, rfl, hO.more E.size, E.trans hb⟩
  · have hr : encCt a b c d f = none := by rw [encCt, if_neg h]
    rw [hr]; clear hr
    have h : validCt a b c d f = false := by simpa using h
    go_enter Try.func17, Try.ntmps17
    go_wp2_with fail
    refine (vContest_any _ _ _ _ _ _).mono ?_
    rintro e w1 ⟨rfl, hb⟩
    go_wp2_with fail
    go_ret2
    exact ⟨_, _, _, rfl, OwnI.nil _ _ _, ((Ext.refl w).alloc _).trans hb⟩

set_option maxHeartbeats 400000 in
theorem iEncodeContest_any (a b c d f : Int) (w : World) :
    Calls Try.prog 18 #[.agg #[.int .i64 a, .int .i64 b, .int .i64 c, .int .i64 d, .int .i64 f]] w fun e w' => ResI 3 w (encCt a b c d f) e w' := by
  by_cases h : validCt a b c d f = true
  · have hr : encCt a b c d f = some [a, b, c, d, f] := by rw [encCt, if_pos h]
    rw [hr]; clear hr
    go_enter Try.func18, Try.ntmps18
    go_wp2_with fail
    refine (IsValidContest_any _ _ _ _ _ _).mono ?_
    rintro e w1 ⟨rfl, hb⟩
    have B := (Blk.new w 25 _).ext hb
    have E := ((Ext.refl w).alloc _).trans hb
    clear hb
    have C := B.cells
    go_wp2_with fail
    go_ret2
    exact ⟨_, _, _, rfl, ownI_lit [a, b, c, d, f] rfl rfl E.size (by unfold maxLen; simp), E.alloc _⟩
  · have hr : encCt a b c d f = none := by rw [encCt, if_neg h]
    rw [hr]; clear hr
    have h : validCt a b c d f = false := by simpa using h
    go_enter Try.func18, Try.ntmps18
    go_wp2_with fail
    refine (IsValidContest_any _ _ _ _ _ _).mono ?_
    rintro e w1 ⟨rfl, hb⟩
    go_wp2_with fail
    go_ret2
    exact ⟨_, _, _, rfl, OwnI.nil _ _ _, ((Ext.refl w).alloc _).trans hb⟩
end Go.Proofs.Ytjifppkclkcpcaa
