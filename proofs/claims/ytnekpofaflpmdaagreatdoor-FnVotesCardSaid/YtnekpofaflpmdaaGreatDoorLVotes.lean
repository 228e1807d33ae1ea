/- The law FnVotes returns true for every input, and so does its card. It holds without a condition. -/
import Derived.Test.YtnekpofaflpmdaaGreatDoorRows
import Derived.Test.YtnekpofaflpmdaaGreatDoorCards
import Derived.Test.YtnekpofaflpmdaaGreatDoorTie
import Derived.SevenTiedAt
import Derived.Test.YtnekpofaflpmdaaGreatDoorFacts
import Derived.Test.YtnekpofaflpmdaaGreatDoorVps
import Derived.Test.YtnekpofaflpmdaaGreatDoorDec2
import Derived.Test.YtnekpofaflpmdaaGreatDoorEnc
import Derived.Test.YtnekpofaflpmdaaGreatDoorDecC
import Derived.Test.YtnekpofaflpmdaaGreatDoorPri
import Derived.Test.YtnekpofaflpmdaaGreatDoorLtc
import Derived.Test.YtnekpofaflpmdaaGreatDoorCurVo2
import Derived.Test.YtnekpofaflpmdaaGreatDoorSame
import Derived.Test.YtnekpofaflpmdaaGreatDoorOpenB
import Derived.ProofKit
import Derived.LaidMore
import Derived.OpenShut
import Derived.Stop.Joined
namespace Go.Proofs.YtnekpofaflpmdaaGreatDoor
open Go.ChangeShapes Go.WideShapes Go.ChangeAt Go.RowKit
set_option linter.unusedVariables false
namespace lawVotes
theorem coVal_code {a b c d f : Int} {v : List Int} (h : ivB a b c d f v = true) : coVal a b c d f v = codeV a b f v := by rw [coVal, if_pos h]
theorem dec_w {a b c d f : Int} {v : List Int} (h : ivB a b c d f v = true) {N : Int} (hN : coVal a b c d f v = N) (w : World) :
    Calls Tryz.prog 8 #[.agg #[.int .i64 a, .int .i64 b, .int .i64 c, .int .i64 d, .int .i64 f], .int .i64 N] w fun e w' => ∃ A n q, e = .returned (.tuple #[.slice A n q, .bool true]) ∧ OwnI w' w.heap.size 3 A n q v ∧ Ext w w' := by
  subst hN
  rw [coVal_code h]
  have hb := code_pos h
  refine (iDecodeVote_any a b c d f _ w (by unfold Fits; omega)).mono ?_
  rw [decR_code h]
  rintro e w' ⟨A, n, q, rfl, hO, hb⟩
  exact ⟨A, n, q, rfl, hO, hb⟩
theorem text_w {a b c d f : Int} {v : List Int} (h : ivB a b c d f v = true) {A : Option Addr} {n q : Nat} (w : World) (ha : RdI w A v) (hl : v.length = n) (hn : n ≤ 1048576) (hk : n ≤ q ∧ q ≤ maxLen) :
    Calls Tryz.prog 9 #[.agg #[.int .i64 a, .int .i64 b, .int .i64 c, .int .i64 d, .int .i64 f], .slice A n q] w fun e w' => e = .returned (.tuple #[.string (vtT a v), .bool true]) ∧ Ext w w' := by
  refine (iVoteText_any a b c d f A n q v w ha hl hn hk).mono ?_
  rw [h, if_pos rfl]
  exact fun e w' h => h
theorem parse_w {a b c d f : Int} {v : List Int} (h : ivB a b c d f v = true) (w : World) (hL : LibW w) :
    Calls Tryz.prog 10 #[.agg #[.int .i64 a, .int .i64 b, .int .i64 c, .int .i64 d, .int .i64 f], .string (vtT a v)] w fun e w' => ∃ A n q, e = .returned (.tuple #[.slice A n q, .bool true]) ∧ OwnI w' w.heap.size 3 A n q v ∧ Ext w w' := by
  refine (iParseVote_any a b c d f (vtT a v) w (by have := vtT_len (a := a) (voteB_len h); omega) hL).mono ?_
  rw [pvO_back h]
  rintro e w' ⟨A, n, q, rfl, hO, hb⟩
  exact ⟨A, n, q, rfl, hO, hb⟩
theorem simp_w {a b c d f : Int} {v : List Int} (h : ivB a b c d f v = true) (w : World) :
    Calls Tryz.prog 11 #[.agg #[.int .i64 a, .int .i64 b, .int .i64 c, .int .i64 d, .int .i64 f]] w fun e w' => ∃ A n q, e = .returned (.tuple #[.slice A n q, .bool true]) ∧ OwnI w' w.heap.size 3 A n q (simpL a b c f) ∧ Ext w w' := by
  have hv : validCt a b c d f = true := by simp only [ivB, Bool.and_eq_true] at h; exact h.1
  refine (iSimplestVote_any a b c d f w).mono ?_
  rw [show simpR a b c d f = some (simpL a b c f) by rw [simpR, if_pos hv]]
  rintro e w' ⟨A, n, q, rfl, hO, hb⟩
  exact ⟨A, n, q, rfl, hO, hb⟩
theorem simp_len {a b c d f : Int} {v : List Int} (h : ivB a b c d f v = true) : (simpL a b c f).length ≤ 8 := voteB_len (simp_least h).1
theorem enc_w {a b c d f : Int} (h : validCt a b c d f = true) (w : World) :
    Calls Tryz.prog 13 #[.agg #[.int .i64 a, .int .i64 b, .int .i64 c, .int .i64 d, .int .i64 f]] w fun e w' => ∃ A n q, e = .returned (.tuple #[.slice A n q, .bool true]) ∧ OwnI w' w.heap.size 3 A n q [a, b, c, d, f] ∧ Ext w w' := by
  refine (iEncodeContest_any a b c d f w).mono ?_
  rw [show encCt a b c d f = some [a, b, c, d, f] by rw [encCt, if_pos h]]
  rintro e w' ⟨A, n, q, rfl, hO, hb⟩
  exact ⟨A, n, q, rfl, hO, hb⟩
theorem decC_w {a b c d f : Int} (h : validCt a b c d f = true) {A : Option Addr} {n q : Nat} (w : World) (ha : RdI w A [a, b, c, d, f]) (hl : [a, b, c, d, f].length = n) (hk : n ≤ q ∧ q ≤ maxLen) :
    Calls Tryz.prog 14 #[.slice A n q] w fun e w' => e = .returned (.tuple #[.agg #[.int .i64 a, .int .i64 b, .int .i64 c, .int .i64 d, .int .i64 f], .bool true]) ∧ Ext w w' := by
  refine (iDecodeContest_any A n q _ w ha hl (by simp at hl; omega) hk).mono ?_
  rw [show decCt [a, b, c, d, f] = ((a, b, c, d, f), true) by rw [decCt, if_pos h]]
  exact fun e w' h => h
set_option maxRecDepth 100000 in
set_option maxHeartbeats 8000000 in
theorem walk (A0 : Option Addr) (l0 : List Int) (c0 : Nat) (A1 : Option Addr) (l1 : List Int) (c1 : Nat) (w : World) (r0 : RdB w A0 l0) (b0 : l0.length ≤ c0) (m0 : c0 ≤ maxLen) (z0 : A0 = none → c0 = 0) (f0 : ∀ n ∈ l0, 0 ≤ n ∧ n ≤ 255) (r1 : RdB w A1 l1) (b1 : l1.length ≤ c1) (m1 : c1 ≤ maxLen) (z1 : A1 = none → c1 = 0) (f1 : ∀ n ∈ l1, 0 ≤ n ∧ n ≤ 255) (hL : LibW w) :
    Calls Tryz.prog 3 #[.slice A0 l0.length c0, .slice A1 l1.length c1] w fun e w' => e = .returned (.bool true) ∧ Ext w w' := by
  clear z0 z1
  generalize hn0 : l0.length = n0 at *
  generalize hn1 : l1.length = n1 at *
  have Hn0 := Lib.hid hn0
  have Hn1 := Lib.hid hn1
  clear hn0 hn1
  by_cases hbig : 1048576 < n0 + n1
  · go_enter Tryz.func3, Tryz.ntmps3
    go_wp2_with fail
    refine (big_any A0 A1 n0 n1 c0 c1 _ (Nat.le_trans b0 m0) (Nat.le_trans b1 m1)).mono ?_
    rintro e w1 ⟨he, rfl⟩
    rw [decide_eq_true hbig] at he
    subst he
    go_wp2
    go_ret
    exact ⟨rfl, Ext.refl _⟩
  go_enter Tryz.func3, Tryz.ntmps3
  go_wp2_with fail
  refine (big_any A0 A1 n0 n1 c0 c1 _ (Nat.le_trans b0 m0) (Nat.le_trans b1 m1)).mono ?_
  rintro e w1 ⟨he, rfl⟩
  rw [decide_eq_false hbig] at he
  subst he
  go_wp2_with fail
  refine (DrawCodeOf_any A0 n0 c0 l0 _ r0 Hn0.out (by omega) f0).mono ?_
  rintro e w2 ⟨a, b, c, d, f, A, n, q, v, rfl, hR, hl, hn20, hnq, hqm, _, E⟩
  have B := Blk.new w2 25 #[.int .i64 a, .int .i64 b, .int .i64 c, .int .i64 d, .int .i64 f]
  replace hR := hR.ext ((Ext.refl w2).alloc (.cells #[.int .i64 a, .int .i64 b, .int .i64 c, .int .i64 d, .int .i64 f] 25))
  replace E := E.alloc (.cells #[.int .i64 a, .int .i64 b, .int .i64 c, .int .i64 d, .int .i64 f] 25)
  replace hn20 : n ≤ 1048576 := by omega
  cases hv : ivB a b c d f v
  · have HV := Lib.hid hv
    clear hv
    have CB := B.cells
    go_wp2_with fail
    refine (iCodeOf_any a b c d f A n q v _ hR hl hn20 ⟨hnq, hqm⟩).mono ?_
    rintro e w3 ⟨he, hb⟩
    rw [HV.out] at he; subst he
    replace E := E.trans hb
    replace B := B.ext hb
    replace hR := hR.ext hb
    clear hb
    replace CB := B.cells
    go_wp2_with fail
    refine (sCodeOf_any a b c d f A n q v _ hR hl hn20 ⟨hnq, hqm⟩).mono ?_
    rintro e w4 ⟨he, hb⟩
    rw [HV.out] at he; subst he
    replace E := E.trans hb
    replace B := B.ext hb
    replace hR := hR.ext hb
    clear hb
    replace CB := B.cells
    clear hR
    go_wp2_with fail
    refine (DrawDecodeVote_any A1 n1 c1 l1 _ (r1.ext E) Hn1.out (by omega) f1).mono ?_
    rintro e w20 ⟨o1, o2, o3, o4, o5, K, rfl, hK, hb⟩
    replace E := E.trans hb
    clear hb
    have BO := Blk.new w20 25 #[.int .i64 o1, .int .i64 o2, .int .i64 o3, .int .i64 o4, .int .i64 o5]
    replace E := E.alloc (.cells #[.int .i64 o1, .int .i64 o2, .int .i64 o3, .int .i64 o4, .int .i64 o5] 25)
    rcases hr : decR o1 o2 o3 o4 o5 K with _ | u
    · have HR := Lib.hid hr
      clear hr
      have CBO := BO.cells
      go_wp2_with fail
      refine (iDecodeVote_any o1 o2 o3 o4 o5 K _ hK).mono ?_
      rw [HR.out]
      rintro e w21 ⟨Ax, nx, qx, rfl, hOx, hb⟩
      replace E := E.trans hb
      replace BO := BO.ext hb
      clear hb
      replace CBO := BO.cells
      go_wp2_with fail
      refine (sDecodeVote_any o1 o2 o3 o4 o5 K _ hK).mono ?_
      rw [HR.out]
      rintro e w22 ⟨Ay, ny, qy, rfl, hOy, hb⟩
      replace E := E.trans hb
      replace BO := BO.ext hb
      replace hOx := hOx.ext hb
      clear hb
      replace CBO := BO.cells
      have hlx := hOx.len
      have hly := hOy.len
      simp only [Option.getD_none] at hOx hOy hlx hly
      go_wp2_with fail
      refine (sameInts_same hOx.rd hOy.rd hlx hly hOx.le hOy.le).mono ?_
      rintro e w23 ⟨rfl, hb⟩
      replace E := E.trans hb
      replace BO := BO.ext hb
      replace hOx := hOx.ext hb
      replace hOy := hOy.ext hb
      clear hb
      replace CBO := BO.cells
      go_wp2
      go_ret
      exact ⟨rfl, E⟩
    · have hs := decR_some hr
      have HR := Lib.hid hr
      have HIV := Lib.hid hs.1
      have HCV : Hid (coVal o1 o2 o3 o4 o5 u = K) := by
        show _ = _
        rw [coVal, if_pos hs.1]; exact hs.2
      clear hr hs
      have CBO := BO.cells
      go_wp2_with fail
      refine (iDecodeVote_any o1 o2 o3 o4 o5 K _ hK).mono ?_
      rw [HR.out]
      rintro e w21 ⟨Ax, nx, qx, rfl, hOx, hb⟩
      replace E := E.trans hb
      replace BO := BO.ext hb
      clear hb
      replace CBO := BO.cells
      go_wp2_with fail
      refine (sDecodeVote_any o1 o2 o3 o4 o5 K _ hK).mono ?_
      rw [HR.out]
      rintro e w22 ⟨Ay, ny, qy, rfl, hOy, hb⟩
      replace E := E.trans hb
      replace BO := BO.ext hb
      replace hOx := hOx.ext hb
      clear hb
      replace CBO := BO.cells
      have hlx := hOx.len
      have hly := hOy.len
      simp only [Option.getD_some] at hOx hOy hlx hly
      have hn20 : nx ≤ 1048576 := by have h9 := decR_bd o1 o2 o3 o4 o5 K; rw [HR.out, Option.getD_some] at h9; omega
      go_wp2_with fail
      refine (sameInts_same hOx.rd hOy.rd hlx hly hOx.le hOy.le).mono ?_
      rintro e w23 ⟨rfl, hb⟩
      replace E := E.trans hb
      replace BO := BO.ext hb
      replace hOx := hOx.ext hb
      replace hOy := hOy.ext hb
      clear hb
      replace CBO := BO.cells
      clear hly
      go_wp2_with fail
      refine (iCodeOf_any o1 o2 o3 o4 o5 Ax nx qx u _ hOx.rd hlx hn20 hOx.cap).mono ?_
      rintro e w24 ⟨he, hb⟩
      rw [HCV.out, HIV.out] at he; subst he
      replace E := E.trans hb
      replace BO := BO.ext hb
      replace hOx := hOx.ext hb
      replace hOy := hOy.ext hb
      clear hb
      replace CBO := BO.cells
      go_wp2
      go_ret
      exact ⟨rfl, E⟩
  · have hsl := simp_least hv
    have HVS := Lib.hid hsl.1
    obtain ⟨N, hN⟩ : ∃ N, coVal a b c d f v = N := ⟨_, rfl⟩
    obtain ⟨M, hM⟩ : ∃ M, coVal a b c d f (simpL a b c f) = M := ⟨_, rfl⟩
    have hMN : M ≤ N := by
      rw [← hM, ← hN, coVal_code hv, coVal_code hsl.1]; exact hsl.2
    have HV := Lib.hid hv
    have HN := Lib.hid hN
    have HM := Lib.hid hM
    have HVC : Hid (validCt a b c d f = true) := by
      simp only [ivB, Bool.and_eq_true] at hv; exact hv.1
    have hMN' : ¬ N < M := by omega
    clear hv hN hM hsl
    have CB := B.cells
    go_wp2_with fail
    refine (iCodeOf_any a b c d f A n q v _ hR hl hn20 ⟨hnq, hqm⟩).mono ?_
    rintro e w3 ⟨he, hb⟩
    rw [HN.out, HV.out] at he; subst he
    replace E := E.trans hb
    replace B := B.ext hb
    replace hR := hR.ext hb
    clear hb
    replace CB := B.cells
    go_wp2_with fail
    refine (sCodeOf_any a b c d f A n q v _ hR hl hn20 ⟨hnq, hqm⟩).mono ?_
    rintro e w4 ⟨he, hb⟩
    rw [HN.out, HV.out] at he; subst he
    replace E := E.trans hb
    replace B := B.ext hb
    replace hR := hR.ext hb
    clear hb
    replace CB := B.cells
    go_wp2_with fail
    refine (dec_w HV.out HN.out _).mono ?_
    rintro e w5 ⟨A5, n5, q5, rfl, hO5, hb⟩
    replace E := E.trans hb
    replace B := B.ext hb
    replace hR := hR.ext hb
    clear hb
    replace CB := B.cells
    go_wp2_with fail
    refine (text_w HV.out _ hR hl hn20 ⟨hnq, hqm⟩).mono ?_
    rintro e w6 ⟨rfl, hb⟩
    replace E := E.trans hb
    replace B := B.ext hb
    replace hR := hR.ext hb
    replace hO5 := hO5.ext hb
    clear hb
    replace CB := B.cells
    go_wp2_with fail
    refine (parse_w HV.out _ (hL.ext E)).mono ?_
    rintro e w7 ⟨A7, n7, q7, rfl, hO7, hb⟩
    replace E := E.trans hb
    replace B := B.ext hb
    replace hR := hR.ext hb
    replace hO5 := hO5.ext hb
    clear hb
    replace CB := B.cells
    go_wp2_with fail
    refine (simp_w HV.out _).mono ?_
    rintro e w8 ⟨A8, n8, q8, rfl, hO8, hb⟩
    replace E := E.trans hb
    replace B := B.ext hb
    replace hR := hR.ext hb
    replace hO5 := hO5.ext hb
    replace hO7 := hO7.ext hb
    clear hb
    replace CB := B.cells
    have hl8 := hO8.len
    have hb8 := simp_len HV.out
    go_wp2_with fail
    refine (iCodeOf_any a b c d f A8 n8 q8 _ _ hO8.rd hl8 (by omega) hO8.cap).mono ?_
    rintro e w9 ⟨he, hb⟩
    rw [HM.out, HVS.out] at he; subst he
    replace E := E.trans hb
    replace B := B.ext hb
    replace hR := hR.ext hb
    replace hO5 := hO5.ext hb
    replace hO7 := hO7.ext hb
    replace hO8 := hO8.ext hb
    clear hb
    replace CB := B.cells
    clear hl8 hb8
    have hq5 := hO5.len
    have hq7 := hO7.len
    go_wp2_with fail
    refine (sameInts_same hO5.rd hR hq5 hl hO5.le (by unfold maxLen; omega)).mono ?_
    rintro e w10 ⟨rfl, hb⟩
    replace E := E.trans hb
    replace B := B.ext hb
    replace hR := hR.ext hb
    replace hO5 := hO5.ext hb
    replace hO7 := hO7.ext hb
    replace hO8 := hO8.ext hb
    clear hb
    replace CB := B.cells
    go_wp2_with fail
    refine (sameInts_same hO7.rd hR hq7 hl hO7.le (by unfold maxLen; omega)).mono ?_
    rintro e w11 ⟨rfl, hb⟩
    replace E := E.trans hb
    replace B := B.ext hb
    replace hR := hR.ext hb
    replace hO5 := hO5.ext hb
    replace hO7 := hO7.ext hb
    replace hO8 := hO8.ext hb
    clear hb
    replace CB := B.cells
    clear hO5 hO7 hO8 hR hq5 hq7
    go_wp2_with fail
    refine (enc_w HVC.out _).mono ?_
    rintro e w12 ⟨A12, n12, q12, rfl, hO12, hb⟩
    replace E := E.trans hb
    replace B := B.ext hb
    clear hb
    replace CB := B.cells
    have hl12 := hO12.len
    go_wp2_with fail
    refine (decC_w HVC.out _ hO12.rd hl12 hO12.cap).mono ?_
    rintro e w13 ⟨rfl, hb⟩
    replace E := E.trans hb
    replace B := B.ext hb
    replace hO12 := hO12.ext hb
    clear hb
    replace CB := B.cells
    clear hO12 hl12
    have BS := Blk.new w13 25 #[.int .i64 a, .int .i64 b, .int .i64 c, .int .i64 d, .int .i64 f]
    replace E := E.alloc (.cells #[.int .i64 a, .int .i64 b, .int .i64 c, .int .i64 d, .int .i64 f] 25)
    replace B := B.alloc (.cells #[.int .i64 a, .int .i64 b, .int .i64 c, .int .i64 d, .int .i64 f] 25)
    replace CB := B.cells
    have CS := BS.cells
    go_wp2_with fail
    refine (DrawDecodeVote_any A1 n1 c1 l1 _ (r1.ext E) Hn1.out (by omega) f1).mono ?_
    rintro e w20 ⟨o1, o2, o3, o4, o5, K, rfl, hK, hb⟩
    replace E := E.trans hb
    clear hb
    have BO := Blk.new w20 25 #[.int .i64 o1, .int .i64 o2, .int .i64 o3, .int .i64 o4, .int .i64 o5]
    replace E := E.alloc (.cells #[.int .i64 o1, .int .i64 o2, .int .i64 o3, .int .i64 o4, .int .i64 o5] 25)
    rcases hr : decR o1 o2 o3 o4 o5 K with _ | u
    · have HR := Lib.hid hr
      clear hr
      have CBO := BO.cells
      go_wp2_with fail
      refine (iDecodeVote_any o1 o2 o3 o4 o5 K _ hK).mono ?_
      rw [HR.out]
      rintro e w21 ⟨Ax, nx, qx, rfl, hOx, hb⟩
      replace E := E.trans hb
      replace BO := BO.ext hb
      clear hb
      replace CBO := BO.cells
      go_wp2_with fail
      refine (sDecodeVote_any o1 o2 o3 o4 o5 K _ hK).mono ?_
      rw [HR.out]
      rintro e w22 ⟨Ay, ny, qy, rfl, hOy, hb⟩
      replace E := E.trans hb
      replace BO := BO.ext hb
      replace hOx := hOx.ext hb
      clear hb
      replace CBO := BO.cells
      have hlx := hOx.len
      have hly := hOy.len
      simp only [Option.getD_none] at hOx hOy hlx hly
      go_wp2_with fail
      refine (sameInts_same hOx.rd hOy.rd hlx hly hOx.le hOy.le).mono ?_
      rintro e w23 ⟨rfl, hb⟩
      replace E := E.trans hb
      replace BO := BO.ext hb
      replace hOx := hOx.ext hb
      replace hOy := hOy.ext hb
      clear hb
      replace CBO := BO.cells
      go_wp2
      go_ret
      exact ⟨rfl, E⟩
    · have hs := decR_some hr
      have HR := Lib.hid hr
      have HIV := Lib.hid hs.1
      have HCV : Hid (coVal o1 o2 o3 o4 o5 u = K) := by
        show _ = _
        rw [coVal, if_pos hs.1]; exact hs.2
      clear hr hs
      have CBO := BO.cells
      go_wp2_with fail
      refine (iDecodeVote_any o1 o2 o3 o4 o5 K _ hK).mono ?_
      rw [HR.out]
      rintro e w21 ⟨Ax, nx, qx, rfl, hOx, hb⟩
      replace E := E.trans hb
      replace BO := BO.ext hb
      clear hb
      replace CBO := BO.cells
      go_wp2_with fail
      refine (sDecodeVote_any o1 o2 o3 o4 o5 K _ hK).mono ?_
      rw [HR.out]
      rintro e w22 ⟨Ay, ny, qy, rfl, hOy, hb⟩
      replace E := E.trans hb
      replace BO := BO.ext hb
      replace hOx := hOx.ext hb
      clear hb
      replace CBO := BO.cells
      have hlx := hOx.len
      have hly := hOy.len
      simp only [Option.getD_some] at hOx hOy hlx hly
      have hn20 : nx ≤ 1048576 := by have h9 := decR_bd o1 o2 o3 o4 o5 K; rw [HR.out, Option.getD_some] at h9; omega
      go_wp2_with fail
      refine (sameInts_same hOx.rd hOy.rd hlx hly hOx.le hOy.le).mono ?_
      rintro e w23 ⟨rfl, hb⟩
      replace E := E.trans hb
      replace BO := BO.ext hb
      replace hOx := hOx.ext hb
      replace hOy := hOy.ext hb
      clear hb
      replace CBO := BO.cells
      clear hly
      go_wp2_with fail
      refine (iCodeOf_any o1 o2 o3 o4 o5 Ax nx qx u _ hOx.rd hlx hn20 hOx.cap).mono ?_
      rintro e w24 ⟨he, hb⟩
      rw [HCV.out, HIV.out] at he; subst he
      replace E := E.trans hb
      replace BO := BO.ext hb
      replace hOx := hOx.ext hb
      replace hOy := hOy.ext hb
      clear hb
      replace CBO := BO.cells
      go_wp2
      go_ret
      exact ⟨rfl, E⟩
end lawVotes

set_option maxRecDepth 100000 in
theorem lawVotes.door_met (os : Os) (args : Array Value) : laidMetH Tryz.prog Rows.fnVotesRow.laid ((World.laidAll Tryz.prog os Rows.fnVotesRow.laid).forCall (fun _ _ => 0) ⟨#[], args, []⟩).memory := by
  rw [MakeChecks.laidMetH_plain _ _ _ (by kernel_rfl)]; exact laidMet_laidAll _ (by kernel_rfl) (by kernel_rfl)
set_option maxRecDepth 100000 in
theorem lawVotes.lifted (os : Os) (started : os.Started) (H : Type) (enc : TypeId × Value → H) :
    ReturnsInHanded {} Tryz.checked os 3 .any (fun w args => (Rows.fnVotesSpec.pre enc Tryz.prog Tryz.f3 [] false w args ∧ laidMetH Tryz.prog Rows.fnVotesRow.laid w) ∧ sizedMet enc Tryz.prog Tryz.f3 (OpenSpec.ofChange Rows.fnVotesSpec) false w args) (Rows.fnVotesSpec.post enc Tryz.prog Tryz.f3 false true false false) := by
  refine returns_shaped (C := Tryz.checked) (X := (fun w _ => laidMetH Tryz.prog Rows.fnVotesRow.laid w)) (fun _ _ _ hh h => h.of_heap hh) Facts.own started (by kernel_rfl) Tryz.func3
    (ChangeSpec.witness_shaped (enc := enc) (C := Tryz.checked) (os := os) (X := (fun w _ => laidMetH Tryz.prog Rows.fnVotesRow.laid w)) false (World.laidAll Tryz.prog os Rows.fnVotesRow.laid) #[.slice none 0 0, .slice none 0 0] 8 (World.laidAll_os _ _ _) (World.shaped_of_ZipB (by kernel_rfl) (by kernel_rfl)) (by kernel_rfl) (by kernel_rfl) (by kernel_rfl) (lawVotes.door_met os _)) ?_
  intro W base args ds gs before hval0 hW _ hL hsh
  have hval : ∀ (j : Nat) t v, Tryz.f3.params[j]? = some t → args[j]? = some v → Value.okWide Tryz.prog W .any base t v := hval0
  have hW' := hW
  obtain ⟨p, q, hA0, hV, rfl, hfz, hnd⟩ := hW
  have hA : DataW.TrodAll enc Tryz.prog W 0 (fun _ => true) true Tryz.f3.params.toList args.toList ds p := hA0
  rw [Tryz.params3] at hA hval
  obtain ⟨v0, vs0, d0, ds0, p0, q0, hargs, rfl, rfl, h0, r0⟩ := trodAll_cons hA
  obtain ⟨v1, vs1, d1, ds1, p1, q1, rfl, rfl, rfl, h1, r1⟩ := trodAll_cons r0
  obtain ⟨rfl, rfl, rfl⟩ := trodAll_nil r1
  obtain rfl : args = #[v0, v1] := by cases args; simp_all
  obtain ⟨rfl, rfl⟩ := trodVars_none hV
  have hlt := hW'.lt
  clear hA hA0 hval0 hargs r0 r1
  have k0 := h0
  have k1 := h1
  obtain ⟨A0, l0, c0, rfl, r0, b0, m0, z0, f0⟩ := openBS Tryz.underlying22 Tryz.underlying5 (by kernel_rfl) (hval 0 22 v0 rfl rfl) h0
  obtain ⟨A1, l1, c1, rfl, r1, b1, m1, z1, f1⟩ := openBS Tryz.underlying22 Tryz.underlying5 (by kernel_rfl) (hval 1 22 v1 rfl rfl) h1
  refine (lawVotes.walk A0 l0 c0 A1 l1 c1 W r0 b0 m0 z0 f0 r1 b1 m1 z1 f1 (libW_of hL hsh)).mono fun e W' ⟨he, hg⟩ => ?_
  subst he
  exact ⟨_, rfl, post_below (pv := []) hW' (fun _ _ _ => (trodAll_cons_mk (shut_bool Tryz.underlying4 _) trodAll_mk0)) (fun sp hsp => (trodAll_cons_mk (WideElems.Trod_stays Facts.laidOut (by kernel_rfl) (of_decide_eq_true (by kernel_rfl)) k0 (fun x hx => hg.same (hlt x (by simp [hx]))) (fun x hx => hsp x (by simp [hx]))) (trodAll_cons_mk (WideElems.Trod_stays Facts.laidOut (by kernel_rfl) (of_decide_eq_true (by kernel_rfl)) k1 (fun x hx => hg.same (hlt x (by simp [hx]))) (fun x hx => hsp x (by simp [hx]))) trodAll_mk0))) (fun _ _ => rfl) rfl
    hg (ok_one (by kernel_rfl) rfl (okWide_bool_mk Tryz.underlying4 _))⟩

theorem lawVotes.named : Tryz.pinned.checked.prog.funcNamed Rows.fnVotesRow.func = some 3 := by kernel_rfl
theorem lawVotes.z9 : (Rows.fnVotesRow.inPlace == Tryz.prog.inPlace 3) = true := by kernel_rfl
theorem lawVotes.z10 : (Rows.fnVotesRow.unfollowed == Tryz.prog.unfollowed 3) = true := by kernel_rfl
theorem lawVotes.z11 : (Rows.fnVotesRow.recurses == Tryz.prog.recurses 3) = true := by kernel_rfl
theorem lawVotes.z12 : (Rows.fnVotesRow.named == Tryz.prog.varsNamed 3) = true := by kernel_rfl
theorem lawVotes.closed : joinedFacts Tryz.prog 3 Tryz.f3 Rows.fnVotesSpec Rows.fnVotesRow = true :=
  joined_of (by kernel_rfl) Facts.laidOut Facts.mapsRowed (by kernel_rfl) (by kernel_rfl) (by kernel_rfl) (by kernel_rfl) (by kernel_rfl) (by kernel_rfl) lawVotes.z9 lawVotes.z10 lawVotes.z11 lawVotes.z12 (by kernel_rfl) (by kernel_rfl) (by kernel_rfl) (by kernel_rfl) (by kernel_rfl) (by kernel_rfl) (by kernel_rfl) (by kernel_rfl) (by kernel_rfl) (by rw [Facts.plainKeys]; rfl) (by kernel_rfl) Facts.heard Facts.enter (by rw [Facts.lifts]; rfl) (by rw [Facts.make]; rfl) (by kernel_rfl) (by kernel_rfl) (by kernel_rfl) (by kernel_rfl)
theorem lawVotes.inst : Tryz.f3.isInstance Tryz.pinned.checked.prog Rows.fnVotesRow.origin Rows.fnVotesRow.targs := of_decide_eq_true (by kernel_rfl)
theorem lawVotes.wrap : Tryz.f3.isWrapper Tryz.pinned.checked.prog Rows.fnVotesRow.wrapper Rows.fnVotesRow.mainSum := by
  unfold Func.isWrapper; first | (rw [if_pos (by decide +kernel)]; kernel_rfl) | (rw [if_neg (by decide +kernel)]; exact ⟨rfl, rfl⟩)
theorem lawVotes.over : Rows.fnVotesRow.holds Tryz.pinned (OpenSpec.ofChange Rows.fnVotesSpec) :=
  OpenClaim.holds_of_wide 3 Tryz.f3 rfl rfl rfl rfl rfl rfl rfl ⟨rfl, rfl, rfl, rfl, rfl⟩ rfl rfl rfl rfl rfl lawVotes.named Tryz.func3 lawVotes.closed
    lawVotes.inst lawVotes.wrap (fun os started H enc _ => lawVotes.lifted os started H enc)

theorem lawVotes.proved : Rows.FnVotesSaid := lawVotes.over
#print axioms lawVotes.proved
theorem lawVotes.card : Rows.FnVotesCardSaid :=
  Claim7.holds_tied_plain_at .later [] [.data, .data, .data, .data, .sentinel, .sentinel, .pinned] true (true, "e4833d77ef0f57ee8408a7ab8830073884e5d4054d888cc6acca7973aeb4e6ec") true
    lawVotes.proved (fun _ h => by cases h) (by kernel_rfl) (fun _ h => by cases h) fnVotes_row_tie rfl ⟨rfl, rfl⟩ (by kernel_rfl) rfl
    (fun f fn hf hfn => by
      obtain rfl : f = 3 := Option.some.inj ((show Tryz.prog.funcNamed "loop.example/g00878/laws.FnVotes" = some 3 by kernel_rfl).symm.trans hf) |>.symm
      obtain rfl : fn = Tryz.f3 := (Option.some.inj (Tryz.func3.symm.trans hfn)).symm
      exact ⟨by kernel_rfl, fun j t ht => by
        rw [Tryz.params3] at ht
        have hm : t ∈ [22, 22] := by simpa using Array.mem_of_getElem? ht
        have hall : ([22, 22].all fun u => !Tryz.prog.wantsStandIn u) = true := by kernel_rfl
        exact (show Tryz.prog.wantsStandIn t = false by simpa using List.all_eq_true.1 hall t hm)⟩)
    (by kernel_rfl)
#print axioms lawVotes.card
end Go.Proofs.YtnekpofaflpmdaaGreatDoor
