/- Contracts for IsValidVote: the program's and the reference's. -/
import Derived.Test.YtnekpofaflpmdaaGreatDoorProg
import Derived.Test.YtnekpofaflpmdaaGreatDoorVote2
namespace Go.Proofs.YtnekpofaflpmdaaGreatDoor
open Go.RowKit

def ivB (a b c d f : Int) (v : List Int) : Bool := validCt a b c d f && voteB a b c d f v
set_option maxHeartbeats 1000000 in
theorem vGood_any (a b c d f : Int) (A : Option Addr) (n k : Nat) (v : List Int) (w : World) (ha : RdI w A v) (hl : v.length = n) (hn : n ≤ 1048576) (hk : n ≤ k ∧ k ≤ maxLen) :
    Calls Tryz.prog 20 #[.agg #[.int .i64 a, .int .i64 b, .int .i64 c, .int .i64 d, .int .i64 f], .slice A n k] w fun e w' => e = .returned (.bool (ivB a b c d f v)) ∧ Ext w w' := by
  cases h : validCt a b c d f
  · have hv : ivB a b c d f v = false := by simp [ivB, h]
    rw [hv]; clear hv
    go_enter Tryz.func20, Tryz.ntmps20
    go_wp2_with fail
    refine (vContest_any _ _ _ _ _ _).mono ?_
    rintro e w1 ⟨he, hb⟩
    rw [h] at he; subst he
    go_wp2
    go_ret
    exact ⟨rfl, ((Ext.refl w).alloc _).trans hb⟩
  · have hv : ivB a b c d f v = voteB a b c d f v := by simp [ivB, h]
    rw [hv]; clear hv
    have H := Lib.hid h
    clear h
    go_enter Tryz.func20, Tryz.ntmps20
    go_wp2_with fail
    refine (vContest_any _ _ _ _ _ _).mono ?_
    rintro e w1 ⟨he, hb⟩
    rw [H.out] at he; subst he
    have B := (Blk.new w 25 _).ext hb
    have E := ((Ext.refl w).alloc _).trans hb
    clear hb
    have C := B.cells
    go_wp2_with fail
    refine (vVote_any _ _ _ _ _ _ _ _ v _ H.out (ha.ext E) hl (by omega) hk).mono ?_
    rintro e w2 ⟨rfl, hb⟩
    go_wp2
    go_ret
    exact ⟨rfl, E.trans hb⟩
set_option maxHeartbeats 1000000 in
theorem areVote_any (a b c d f : Int) (A : Option Addr) (n k : Nat) (v : List Int) (w : World) (ha : RdI w A v) (hl : v.length = n) (hn : n ≤ 1048576) (hk : n ≤ k ∧ k ≤ maxLen) :
    Calls Tryz.prog 18 #[.agg #[.int .i64 a, .int .i64 b, .int .i64 c, .int .i64 d, .int .i64 f], .slice A n k] w fun e w' => e = .returned (.bool (ivB a b c d f v)) ∧ Ext w w' := by
  cases h : validCt a b c d f
  · have hv : ivB a b c d f v = false := by simp [ivB, h]
    rw [hv]; clear hv
    go_enter Tryz.func18, Tryz.ntmps18
    go_wp2_with fail
    refine (IsValidContest_any _ _ _ _ _ _).mono ?_
    rintro e w1 ⟨he, hb⟩
    rw [h] at he; subst he
    go_wp2
    go_ret
    exact ⟨rfl, ((Ext.refl w).alloc _).trans hb⟩
  · have hv : ivB a b c d f v = voteB a b c d f v := by simp [ivB, h]
    rw [hv]; clear hv
    have H := Lib.hid h
    clear h
    go_enter Tryz.func18, Tryz.ntmps18
    go_wp2_with fail
    refine (IsValidContest_any _ _ _ _ _ _).mono ?_
    rintro e w1 ⟨he, hb⟩
    rw [H.out] at he; subst he
    have B := (Blk.new w 25 _).ext hb
    have E := ((Ext.refl w).alloc _).trans hb
    clear hb
    have C := B.cells
    go_wp2_with fail
    refine (isVote_any _ _ _ _ _ _ _ _ v _ H.out (ha.ext E) hl (by omega) hk).mono ?_
    rintro e w2 ⟨rfl, hb⟩
    go_wp2
    go_ret
    exact ⟨rfl, E.trans hb⟩
end Go.Proofs.YtnekpofaflpmdaaGreatDoor
