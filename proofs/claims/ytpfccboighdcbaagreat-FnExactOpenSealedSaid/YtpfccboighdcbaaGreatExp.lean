/- Contracts for ExponentsOf: the program's and the reference's. -/
import Derived.Test.YtpfccboighdcbaaGreatProg
import Derived.Test.YtpfccboighdcbaaGreatCode
namespace Go.Proofs.YtpfccboighdcbaaGreat
open Go.RowKit

/-- The exponents of a vote. -/
def expsV (a b f : Int) (v : List Int) : List Int := if a = 1 then marksL b.toNat v else if a = 2 then v else [codeV a b f v]
def expsR (a b c d f : Int) (v : List Int) : Option (List Int) := if ivB a b c d f v then some (expsV a b f v) else none
theorem expsR_bd (a b c d f : Int) (v : List Int) : ((expsR a b c d f v).getD []).length ≤ 100000 := by
  unfold expsR
  split
  · rename_i h
    have hp : validCt a b c d f = true ∧ voteB a b c d f v = true := by simpa [ivB] using h
    obtain ⟨h1, h2, h3, h4, h5, _⟩ := valid_kind hp.1
    obtain ⟨_, _, _, _, q5⟩ := vote_parts hp.1 hp.2
    rw [Option.getD_some]
    unfold expsV
    split
    · rw [← marksAt_all, marksAt_length]; omega
    · split
      · omega
      · simp
  · simp


set_option maxHeartbeats 1000000 in
theorem exponents_any (a : Int) (b : Nat) (c d f : Int) (A : Option Addr) (n k : Nat) (v : List Int) (w : World) (h : validCt a b c d f = true) (hv : voteB a b c d f v = true) (ha : RdI w A v) (hl : v.length = n) :
    Calls Tryz.prog 48 #[.agg #[.int .i64 a, .int .i64 b, .int .i64 c, .int .i64 d, .int .i64 f], .slice A n k] w fun e w' => ∃ A' m c', e = .returned (.slice A' m c') ∧ OwnI w' w.heap.size 3 A' m c' (expsV a b f v) ∧ Ext w w' := by
  have HH := Lib.hid h
  have HV := Lib.hid hv
  obtain ⟨h1, h2, h3, h4, h5, _⟩ := valid_kind h
  clear h hv
  have hE := (Ext.refl w).alloc (.cells #[.int .i64 a, .int .i64 b, .int .i64 c, .int .i64 d, .int .i64 f] 38)
  have C := (Blk.new w 38 #[.int .i64 a, .int .i64 b, .int .i64 c, .int .i64 d, .int .i64 f]).cells
  rcases h1 with rfl | rfl | rfl | rfl
  · go_enter Tryz.func48, Tryz.ntmps48
    go_wp2_with fail
    refine (digits_any _ _ _ _ _ _ _ _ v _ HH.out HV.out (ha.ext hE) hl).mono ?_
    rintro e w1 ⟨A', m, c', rfl, hO, hb⟩
    go_wp2
    go_ret
    exact ⟨_, _, _, rfl, hO.more hE.size, hE.trans hb⟩
  · go_enter Tryz.func48, Tryz.ntmps48
    go_wp2_with fail
    refine (digits_any _ _ _ _ _ _ _ _ v _ HH.out HV.out (ha.ext hE) hl).mono ?_
    rintro e w1 ⟨A', m, c', rfl, hO, hb⟩
    go_wp2
    go_ret
    exact ⟨_, _, _, rfl, hO.more hE.size, hE.trans hb⟩
  · go_enter Tryz.func48, Tryz.ntmps48
    go_wp2_with fail
    refine (code_any _ _ _ _ _ _ _ _ v _ HH.out HV.out (ha.ext hE) hl).mono ?_
    rintro e w1 ⟨rfl, hb⟩
    have hE2 := hE.trans hb
    go_wp2
    go_ret
    exact ⟨_, _, _, rfl, ownI_lit [codeV 3 b f v] rfl rfl hE2.size (by unfold maxLen; omega), hE2.alloc _⟩
  · go_enter Tryz.func48, Tryz.ntmps48
    go_wp2_with fail
    refine (code_any _ _ _ _ _ _ _ _ v _ HH.out HV.out (ha.ext hE) hl).mono ?_
    rintro e w1 ⟨rfl, hb⟩
    have hE2 := hE.trans hb
    go_wp2
    go_ret
    exact ⟨_, _, _, rfl, ownI_lit [codeV 4 b f v] rfl rfl hE2.size (by unfold maxLen; omega), hE2.alloc _⟩
end Go.Proofs.YtpfccboighdcbaaGreat
