/- Contracts for ExponentsOf: the program's and the reference's. -/
import Derived.Test.YticimniegecfeaaProg
import Derived.Test.YticimniegecfeaaCode
namespace Go.Proofs.Yticimniegecfeaa
open Go.RowKit

/-- The exponents of a vote. -/
def expsV (a b f : Int) (v : List Int) : List Int := if a = 1 then marksL b.toNat v else if a = 2 then v else [codeV a b f v]
def expsR (a b c d f : Int) (v : List Int) : Option (List Int) := if ivB a b c d f v then some (expsV a b f v) else none
theorem expsR_bd (a b c d f : Int) (v : List Int) : ((expsR a b c d f v).getD []).length ≤ 100000 := by
  unfold expsR
  split
  · rename_i h
    have hp : validCt a b c d f = true ∧ voteB a b c d f v = true := by simpa [ivB] using h
    obtain ⟨h1, h2, h3, h4, h5, _⟩ := valid_kind hp.1
    obtain ⟨_, _, _, _, q5⟩ := vote_parts hp.1 hp.2
    rw [Option.getD_some]
    unfold expsV
    split
    · rw [← marksAt_all, marksAt_length]; omega
    · split
      · omega
      · simp
  · simp

set_option maxHeartbeats 1000000 in
theorem vExps_any (a : Int) (b : Nat) (c d f : Int) (A : Option Addr) (n k : Nat) (v : List Int) (w : World) (h : validCt a b c d f = true) (hv : voteB a b c d f v = true) (ha : RdI w A v) (hl : v.length = n) (hn : n ≤ 1048576) :
    Calls Try.prog 178 #[.agg #[.int .i64 a, .int .i64 b, .int .i64 c, .int .i64 d, .int .i64 f], .slice A n k] w fun e w' => ∃ A' m c', e = .returned (.slice A' m c') ∧ OwnI w' w.heap.size 3 A' m c' (expsV a b f v) ∧ Ext w w' := by
  have HH := Lib.hid h
  have HV := Lib.hid hv
  obtain ⟨h1, h2, h3, h4, h5, _⟩ := valid_kind h
  obtain ⟨q1, q2, q3, q4, q5⟩ := vote_parts h hv
  clear h hv
  have hE := (Ext.refl w).alloc (.cells #[.int .i64 a, .int .i64 b, .int .i64 c, .int .i64 d, .int .i64 f] 94)
  have C := (Blk.new w 94 #[.int .i64 a, .int .i64 b, .int .i64 c, .int .i64 d, .int .i64 f]).cells
  subst hl
  rcases h1 with rfl | rfl | rfl | rfl
  · have hR := q1 rfl
    have HR := Lib.hid hR
    clear hR q1 q2 q3 q4
    go_enter Try.func178, Try.ntmps178
    go_wp2_with fail
    refine (vMarks_any _ b _ _ _ _ _ _ v _ (by omega) (ha.ext hE) rfl (by omega) HR.out).mono ?_
    rintro e w1 ⟨A', c', rfl, hO, hb⟩
    go_wp2
    go_ret
    exact ⟨_, _, _, rfl, hO.more hE.size, hE.trans hb⟩
  · clear q1 q2 q3 q4
    go_enter Try.func178, Try.ntmps178
    go_wp2_with fail
    refine (l1Own_any _ _ _ v _ (ha.ext hE) rfl (by omega)).mono ?_
    rintro e w1 ⟨A', c', rfl, hO, hb⟩
    go_wp2
    go_ret
    exact ⟨_, _, _, rfl, hO.more hE.size, hE.trans hb⟩
  · clear q1 q2 q3 q4
    go_enter Try.func178, Try.ntmps178
    go_wp2_with fail
    refine (vCode_any _ _ _ _ _ _ _ _ v _ HH.out HV.out (ha.ext hE) rfl (by omega)).mono ?_
    rintro e w1 ⟨rfl, hb⟩
    have hE2 := hE.trans hb
    go_wp2
    go_ret
    exact ⟨_, _, _, rfl, ownI_lit [codeV 3 b f v] rfl rfl hE2.size (by unfold maxLen; omega), hE2.alloc _⟩
  · clear q1 q2 q3 q4
    go_enter Try.func178, Try.ntmps178
    go_wp2_with fail
    refine (vCode_any _ _ _ _ _ _ _ _ v _ HH.out HV.out (ha.ext hE) rfl (by omega)).mono ?_
    rintro e w1 ⟨rfl, hb⟩
    have hE2 := hE.trans hb
    go_wp2
    go_ret
    exact ⟨_, _, _, rfl, ownI_lit [codeV 4 b f v] rfl rfl hE2.size (by unfold maxLen; omega), hE2.alloc _⟩
set_option maxHeartbeats 1000000 in
theorem sExponentsOf_any (a b c d f : Int) (A : Option Addr) (n k : Nat) (v : List Int) (w : World) (ha : RdI w A v) (hl : v.length = n) (hn : n ≤ 1048576) (hk : n ≤ k ∧ k ≤ maxLen) :
    Calls Try.prog 81 #[.agg #[.int .i64 a, .int .i64 b, .int .i64 c, .int .i64 d, .int .i64 f], .slice A n k] w fun e w' => ResI 3 w (expsR a b c d f v) e w' := by
  have hE := (Ext.refl w).alloc (.cells #[.int .i64 a, .int .i64 b, .int .i64 c, .int .i64 d, .int .i64 f] 94)
  cases h : ivB a b c d f v
  · have hv : expsR a b c d f v = none := by simp [expsR, h]
    rw [hv]; clear hv
    go_enter Try.func81, Try.ntmps81
    go_wp2_with fail
    refine (vGood_any _ _ _ _ _ _ _ _ v _ (ha.ext hE) hl hn hk).mono ?_
    rintro e w1 ⟨he, hb⟩
    rw [h] at he; subst he
    go_wp2
    go_ret2
    exact ⟨_, _, _, rfl, OwnI.nil _ _ _, hE.trans hb⟩
  · have hv : expsR a b c d f v = some (expsV a b f v) := by simp [expsR, h]
    rw [hv]; clear hv
    have hp : validCt a b c d f = true ∧ voteB a b c d f v = true := by simpa [ivB] using h
    have H := Lib.hid h
    have H1 := Lib.hid hp.1
    have H2 := Lib.hid hp.2
    obtain ⟨B, rfl⟩ := Int.eq_ofNat_of_zero_le (valid_kind hp.1).2.1
    clear h hp
    go_enter Try.func81, Try.ntmps81
    go_wp2_with fail
    refine (vGood_any _ _ _ _ _ _ _ _ v _ (ha.ext hE) hl hn hk).mono ?_
    rintro e w1 ⟨he, hb⟩
    rw [H.out] at he; subst he
    have BB := (Blk.new w 94 _).ext hb
    have E := hE.trans hb
    clear hb
    have C := BB.cells
    go_wp2_with fail
    refine (vExps_any _ _ _ _ _ _ _ _ v _ H1.out H2.out (ha.ext E) hl hn).mono ?_
    rintro e w2 ⟨A', m, c', rfl, hO, hb⟩
    go_wp2
    go_ret2
    exact ⟨_, _, _, rfl, hO.more E.size, E.trans hb⟩

set_option maxHeartbeats 1000000 in
theorem exponents_any (a : Int) (b : Nat) (c d f : Int) (A : Option Addr) (n k : Nat) (v : List Int) (w : World) (h : validCt a b c d f = true) (hv : voteB a b c d f v = true) (ha : RdI w A v) (hl : v.length = n) :
    Calls Try.prog 180 #[.agg #[.int .i64 a, .int .i64 b, .int .i64 c, .int .i64 d, .int .i64 f], .slice A n k] w fun e w' => ∃ A' m c', e = .returned (.slice A' m c') ∧ OwnI w' w.heap.size 3 A' m c' (expsV a b f v) ∧ Ext w w' := by
  have HH := Lib.hid h
  have HV := Lib.hid hv
  obtain ⟨h1, h2, h3, h4, h5, _⟩ := valid_kind h
  clear h hv
  have hE := (Ext.refl w).alloc (.cells #[.int .i64 a, .int .i64 b, .int .i64 c, .int .i64 d, .int .i64 f] 94)
  have C := (Blk.new w 94 #[.int .i64 a, .int .i64 b, .int .i64 c, .int .i64 d, .int .i64 f]).cells
  rcases h1 with rfl | rfl | rfl | rfl
  · go_enter Try.func180, Try.ntmps180
    go_wp2_with fail
    refine (digits_any _ _ _ _ _ _ _ _ v _ HH.out HV.out (ha.ext hE) hl).mono ?_
    rintro e w1 ⟨A', m, c', rfl, hO, hb⟩
    go_wp2
    go_ret
    exact ⟨_, _, _, rfl, hO.more hE.size, hE.trans hb⟩
  · go_enter Try.func180, Try.ntmps180
    go_wp2_with fail
    refine (digits_any _ _ _ _ _ _ _ _ v _ HH.out HV.out (ha.ext hE) hl).mono ?_
    rintro e w1 ⟨A', m, c', rfl, hO, hb⟩
    go_wp2
    go_ret
    exact ⟨_, _, _, rfl, hO.more hE.size, hE.trans hb⟩
  · go_enter Try.func180, Try.ntmps180
    go_wp2_with fail
    refine (code_any _ _ _ _ _ _ _ _ v _ HH.out HV.out (ha.ext hE) hl).mono ?_
    rintro e w1 ⟨rfl, hb⟩
    have hE2 := hE.trans hb
    go_wp2
    go_ret
    exact ⟨_, _, _, rfl, ownI_lit [codeV 3 b f v] rfl rfl hE2.size (by unfold maxLen; omega), hE2.alloc _⟩
  · go_enter Try.func180, Try.ntmps180
    go_wp2_with fail
    refine (code_any _ _ _ _ _ _ _ _ v _ HH.out HV.out (ha.ext hE) hl).mono ?_
    rintro e w1 ⟨rfl, hb⟩
    have hE2 := hE.trans hb
    go_wp2
    go_ret
    exact ⟨_, _, _, rfl, ownI_lit [codeV 4 b f v] rfl rfl hE2.size (by unfold maxLen; omega), hE2.alloc _⟩
set_option maxHeartbeats 1000000 in
theorem iExponentsOf_any (a b c d f : Int) (A : Option Addr) (n k : Nat) (v : List Int) (w : World) (ha : RdI w A v) (hl : v.length = n) (hn : n ≤ 1048576) (hk : n ≤ k ∧ k ≤ maxLen) :
    Calls Try.prog 83 #[.agg #[.int .i64 a, .int .i64 b, .int .i64 c, .int .i64 d, .int .i64 f], .slice A n k] w fun e w' => ResI 3 w (expsR a b c d f v) e w' := by
  have hE := (Ext.refl w).alloc (.cells #[.int .i64 a, .int .i64 b, .int .i64 c, .int .i64 d, .int .i64 f] 94)
  cases h : ivB a b c d f v
  · have hv : expsR a b c d f v = none := by simp [expsR, h]
    rw [hv]; clear hv
    go_enter Try.func83, Try.ntmps83
    go_wp2_with fail
    refine (areVote_any _ _ _ _ _ _ _ _ v _ (ha.ext hE) hl hn hk).mono ?_
    rintro e w1 ⟨he, hb⟩
    rw [h] at he; subst he
    go_wp2
    go_ret2
    exact ⟨_, _, _, rfl, OwnI.nil _ _ _, hE.trans hb⟩
  · have hv : expsR a b c d f v = some (expsV a b f v) := by simp [expsR, h]
    rw [hv]; clear hv
    have hp : validCt a b c d f = true ∧ voteB a b c d f v = true := by simpa [ivB] using h
    have H := Lib.hid h
    have H1 := Lib.hid hp.1
    have H2 := Lib.hid hp.2
    obtain ⟨B, rfl⟩ := Int.eq_ofNat_of_zero_le (valid_kind hp.1).2.1
    clear h hp
    go_enter Try.func83, Try.ntmps83
    go_wp2_with fail
    refine (areVote_any _ _ _ _ _ _ _ _ v _ (ha.ext hE) hl hn hk).mono ?_
    rintro e w1 ⟨he, hb⟩
    rw [H.out] at he; subst he
    have BB := (Blk.new w 94 _).ext hb
    have E := hE.trans hb
    clear hb
    have C := BB.cells
    go_wp2_with fail
    refine (exponents_any _ _ _ _ _ _ _ _ v _ H1.out H2.out (ha.ext E) hl).mono ?_
    rintro e w2 ⟨A', m, c', rfl, hO, hb⟩
    go_wp2
    go_ret2
    exact ⟨_, _, _, rfl, hO.more E.size, E.trans hb⟩
end Go.Proofs.Yticimniegecfeaa
