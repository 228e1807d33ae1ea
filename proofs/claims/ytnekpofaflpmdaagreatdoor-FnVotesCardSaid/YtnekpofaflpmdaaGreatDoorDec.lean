/- Contracts for DecodeVote: the program's and the reference's. -/
import Derived.Test.YtnekpofaflpmdaaGreatDoorProg
import Derived.Test.YtnekpofaflpmdaaGreatDoorDecP
import Derived.Test.YtnekpofaflpmdaaGreatDoorOpen
namespace Go.Proofs.YtnekpofaflpmdaaGreatDoor
open Go.RowKit

set_option maxHeartbeats 1000000 in
theorem vDigits_any (K : Nat) (bz : Int) (w : World) (hb : 2 ≤ bz) (hb2 : bz ≤ 100) (hK : K ≤ 9223372036854775807) :
    Calls Tryz.prog 59 #[.int .i64 K, .int .i64 bz] w fun e w' => ∃ A m c, e = .returned (.slice A m c) ∧ OwnI w' w.heap.size 3 A m c (digsN bz.toNat K) ∧ m ≤ 64 ∧ Ext w w' := by
  obtain ⟨b, rfl⟩ := Int.eq_ofNat_of_zero_le (show 0 ≤ bz by omega)
  rw [Int.toNat_natCast]
  have h0 : ((b : Int) == 0) = false := by simp; omega
  go_enter Tryz.func59, Tryz.ntmps59
  go_wp2
  go_loopw [5, 0] (fun v n wr => ∃ (j k : Nat) (A : Option Addr) (c : Nat) (l : List Int), v = .slice A j c ∧ n = .int .i64 k ∧ k ≤ 9223372036854775807 ∧ j ≤ 64 ∧ Hid (k * 2 ^ j ≤ 9223372036854775808) ∧ Hid (l ++ digsN b k = digsN b K) ∧ OwnI wr w.heap.size 3 A j c l ∧ Ext w wr) (fun _ n _ => (intOf n).toNat)
  case atStart => exact ⟨0, K, none, 0, [], rfl, rfl, hK, by omega, (by show K * 2 ^ 0 ≤ _; rw [Nat.pow_zero]; omega), rfl, OwnI.nil _ _ _, Ext.refl _⟩
  case round =>
    obtain ⟨j, k, A, c, l, rfl, rfl, hk, hj, HP, HI, hO, hE⟩ := hrel
    have hsz := hE.size
    by_cases hk0 : k = 0
    · subst hk0
      go_wp2
      go_ret
      have h := HI.out
      rw [digsN_zero, List.append_nil] at h
      exact ⟨_, _, _, rfl, by rw [← h]; exact hO, hj, hE⟩
    · have hj2 : j ≤ 63 := digs_few (by omega) HP.out
      have HD : Hid (k / b < k) := Nat.div_lt_self (by omega) (by omega)
      have hq : k / b ≤ 9223372036854775807 := Nat.le_trans (Nat.div_le_self _ _) hk
      have HS := Lib.hid (digsN_step (b := b) (by omega) hk0)
      have hq1 : 0 ≤ (k : Int) / b ∧ (k : Int) / b ≤ 9223372036854775807 := ⟨by rw [← Int.natCast_ediv]; exact Int.natCast_nonneg _, by omega⟩
      have HP2 := Lib.hid (digs_half (b := b) (by omega) HP.out)
      have hkz : (0 : Int) < k := by omega
      clear hk0
      go_wp2_with (at_builtin; refine wpList_app1 intSl rfl _ _ rfl hO rfl rfl (by omega) hsz ?_; intro A2 c2 w2 hO2 hb2)
      go_roundw
      case rel =>
        refine ⟨j + 1, k / b, A2, c2, _, rfl, by go_num, hq, by omega, HP2.out, ?_, hO2, hE.then hb2 (Nat.le_refl _)⟩
        rw [Hid, List.append_assoc, ← HI.out, HS.out]
        simp
      case measure =>
        have h1 := HD.out
        simp only [intOf]
        rw [← Int.natCast_ediv]
        omega


set_option maxHeartbeats 2000000 in
theorem vDecode_neg (a b c d f code : Int) (w : World) (hn : code < 0) (_h : validCt a b c d f = true) :
    Calls Tryz.prog 34 #[.agg #[.int .i64 a, .int .i64 b, .int .i64 c, .int .i64 d, .int .i64 f], .int .i64 code] w fun e w' => ResI 3 w (decR a b c d f code) e w' := by
  have hr : decR a b c d f code = none := by
    have h0 : decide (0 ≤ code) = false := decide_eq_false (by omega)
    simp [decR, decG, h0]
  rw [hr]; clear hr
  go_enter Tryz.func34, Tryz.ntmps34
  go_wp2
  go_ret2
  exact ⟨_, _, _, rfl, OwnI.nil _ _ _, (Ext.refl w).alloc _⟩

set_option maxRecDepth 100000 in
set_option maxHeartbeats 4000000 in
theorem vDecode_1 (b c d f : Int) (K : Nat) (w : World) (h : validCt 1 b c d f = true) (hK : K ≤ 9223372036854775807) :
    Calls Tryz.prog 34 #[.agg #[.int .i64 1, .int .i64 b, .int .i64 c, .int .i64 d, .int .i64 f], .int .i64 K] w fun e w' => ResI 3 w (decR 1 b c d f K) e w' := by
  obtain ⟨_, h2, h3, h4, h5, _⟩ := valid_kind h
  have hbase := base_bd h
  have HH := Lib.hid h
  clear h
  have hE := (Ext.refl w).alloc (.cells #[.int .i64 1, .int .i64 b, .int .i64 c, .int .i64 d, .int .i64 f] 25)
  have Bz := Blk.new w 25 #[.int .i64 1, .int .i64 b, .int .i64 c, .int .i64 d, .int .i64 f]
  have C := Bz.cells
  obtain ⟨V, hV⟩ : ∃ V, decV 1 b f K = V := ⟨_, rfl⟩
  have HV := Lib.hid hV
  clear hV
  clear hbase
  go_enter Tryz.func34, Tryz.ntmps34
  go_wp2_with fail
  refine (vDigits_any K 2 _ (by omega) (by omega) hK).mono ?_
  rintro e w1 ⟨A1, n1, c1, rfl, hD, hn1, hb⟩
  replace hE := hE.trans hb
  replace Bz := Bz.ext hb

  have hDl := hD.len
  have hD2 : (2 : Int).toNat = 2 := rfl
  rw [hD2] at hD hDl
  have HV2 : Hid (posL 0 (digsN 2 K) = V) := Lib.hid (by have h := HV.out; simpa [decV, voteV, digsV, baseV] using h)
  generalize digsN 2 K = D at *
  subst hDl
  clear hb C hD2
  go_wp2_with fail
  go_loopw [6, 22] (fun v i wr => ∃ (j m : Nat) (A' : Option Addr) (c' : Nat), j ≤ D.length ∧ i = .int .i64 j ∧ v = .slice A' m c' ∧ m ≤ j ∧ OwnI wr w1.heap.size 3 A' m c' (posL 0 (D.take j)) ∧ Ext w1 wr) (fun _ i _ => D.length - (intOf i).toNat)
  case atStart => exact ⟨0, 0, none, 0, Nat.zero_le _, rfl, rfl, Nat.le_refl _, OwnI.nil _ _ _, Ext.refl _⟩
  case round =>
    obtain ⟨j, m, A', c', hj, rfl, rfl, hm, hO, hE2⟩ := hrel
    have hsz := hE2.size
    by_cases hlt : j < D.length
    · obtain ⟨ad, rfl, hc⟩ := (RdI.ext hD.rd hE2).at_ hlt
      have HS := Lib.hid (posL_take hlt)
      by_cases hx : D[j] = 1
      · have HX := Lib.hid hx
        rw [hx] at hc
        clear hx
        go_wp2_with (at_builtin; refine wpList_app1 intSl rfl _ _ rfl hO rfl rfl (by omega) hsz ?_; intro A2 c2 w2 hO2 hb2)
        go_roundw
        case rel =>
          refine ⟨j + 1, m + 1, A2, c2, by omega, by go_num, rfl, by omega, ?_, hE2.then hb2 (Nat.le_refl _)⟩
          rw [HS.out, if_pos HX.out]; exact hO2
        case measure => simp [intOf]; omega
      · have hb1 : (D[j] == 1) = false := by simp [hx]
        have HX := Lib.hid hx
        clear hx
        go_wp2
        go_roundw
        case rel =>
          refine ⟨j + 1, m, A', c', by omega, by go_num, rfl, by omega, ?_, hE2⟩
          rw [HS.out, if_neg HX.out, List.append_nil]; exact hO
        case measure => simp [intOf]; omega
    · obtain rfl : j = D.length := by omega
      rw [List.take_length, HV2.out] at hO
      replace hO := hO.more hE.size
      replace hE := hE.trans hE2
      replace Bz := Bz.ext hE2
      clear hE2 hD
      have hlen := hO.len
      have hcap := hO.cap
      have HLEN := Lib.hid hlen
      clear hlen
      have Cz := Bz.cells
      cases hv : voteB 1 b c d f V
      · have hr : decR 1 b c d f K = none := by
          unfold decR decG
          rw [Int.toNat_natCast, HV.out, hv]
          simp
        have HR := Lib.hid hr
        clear hr
        go_wp2_with fail
        refine (vVote_any _ _ _ _ _ _ _ _ V _ HH.out hO.rd HLEN.out (by omega) hcap).mono ?_
        rintro e w3 ⟨he, hb⟩
        rw [hv] at he; subst he
        clear hv
        go_wp2
        go_ret2
        rw [HR.out]
        exact ⟨_, _, _, rfl, OwnI.nil _ _ _, hE.trans hb⟩
      · have HVV := Lib.hid hv
        clear hv
        by_cases hc : codeV 1 b f V = (K : Int)
        · have hr : decR 1 b c d f K = some V := by
            unfold decR decG
            rw [Int.toNat_natCast, HV.out, HVV.out, HH.out]
            simp [hc]
          have HR := Lib.hid hr
          have hne : (codeV 1 b f V != (K : Int)) = false := by simp [hc]
          clear hr hc
          go_wp2_with fail
          refine (vVote_any _ _ _ _ _ _ _ _ V _ HH.out hO.rd HLEN.out (by omega) hcap).mono ?_
          rintro e w3 ⟨he, hb⟩
          rw [HVV.out] at he; subst he
          replace hE := hE.trans hb
          replace hO := hO.ext hb
          replace Bz := Bz.ext hb
          clear Cz hb
          have Cz := Bz.cells
          go_wp2_with fail
          refine (vCode_any _ _ _ _ _ _ _ _ V _ HH.out HVV.out hO.rd HLEN.out (by omega)).mono ?_
          rintro e w4 ⟨rfl, hb⟩
          go_wp2
          go_ret2
          rw [HR.out]
          exact ⟨_, _, _, rfl, hO.ext hb, hE.trans hb⟩
        · have hr : decR 1 b c d f K = none := by
            unfold decR decG
            rw [Int.toNat_natCast, HV.out]
            simp [hc]
          have HR := Lib.hid hr
          have hne : (codeV 1 b f V != (K : Int)) = true := by simp [hc]
          clear hr hc
          go_wp2_with fail
          refine (vVote_any _ _ _ _ _ _ _ _ V _ HH.out hO.rd HLEN.out (by omega) hcap).mono ?_
          rintro e w3 ⟨he, hb⟩
          rw [HVV.out] at he; subst he
          replace hE := hE.trans hb
          replace hO := hO.ext hb
          replace Bz := Bz.ext hb
          clear Cz hb
          have Cz := Bz.cells
          go_wp2_with fail
          refine (vCode_any _ _ _ _ _ _ _ _ V _ HH.out HVV.out hO.rd HLEN.out (by omega)).mono ?_
          rintro e w4 ⟨rfl, hb⟩
          go_wp2
          go_ret2
          rw [HR.out]
          exact ⟨_, _, _, rfl, OwnI.nil _ _ _, hE.trans hb⟩

set_option maxRecDepth 100000 in
set_option maxHeartbeats 4000000 in
theorem vDecode_2 (b c d f : Int) (K : Nat) (w : World) (h : validCt 2 b c d f = true) (hK : K ≤ 9223372036854775807) :
    Calls Tryz.prog 34 #[.agg #[.int .i64 2, .int .i64 b, .int .i64 c, .int .i64 d, .int .i64 f], .int .i64 K] w fun e w' => ResI 3 w (decR 2 b c d f K) e w' := by
  obtain ⟨_, h2, h3, h4, h5, _⟩ := valid_kind h
  have hbase := base_bd h
  have HH := Lib.hid h
  clear h
  have hE := (Ext.refl w).alloc (.cells #[.int .i64 2, .int .i64 b, .int .i64 c, .int .i64 d, .int .i64 f] 25)
  have Bz := Blk.new w 25 #[.int .i64 2, .int .i64 b, .int .i64 c, .int .i64 d, .int .i64 f]
  have C := Bz.cells
  obtain ⟨V, hV⟩ : ∃ V, decV 2 b f K = V := ⟨_, rfl⟩
  have HV := Lib.hid hV
  clear hV
  obtain ⟨BN, rfl⟩ := Int.eq_ofNat_of_zero_le h2
  have hf1 : 1 ≤ f := by have := hbase.1; simp [baseV] at this; omega
  go_enter Tryz.func34, Tryz.ntmps34
  go_wp2_with fail
  refine (vDigits_any K (f + 1) _ (by omega) (by omega) hK).mono ?_
  rintro e w1 ⟨A1, n1, c1, rfl, hD, hn1, hb⟩
  replace hE := hE.trans hb
  replace Bz := Bz.ext hb

  have HV2 : Hid (padL BN (digsN (f + 1).toNat K) = V) := Lib.hid (by have h := HV.out; simpa [decV, voteV, digsV, baseV] using h)
  generalize digsN (f + 1).toNat K = D at *
  clear hb C hbase
  go_wp2_with fail
  go_loopw [6] (fun v wr => ∃ (m : Nat) (A' : Option Addr) (c' : Nat) (l : List Int), v = .slice A' m c' ∧ m ≤ 100 ∧ OwnI wr (w.heap.size + 1) 3 A' m c' l ∧ Hid (padL BN l = V) ∧ Ext w wr ∧ Blk wr w.heap.size 25 #[.int .i64 2, .int .i64 BN, .int .i64 c, .int .i64 d, .int .i64 f]) (fun v _ => BN - lenV v)
  case atStart => exact ⟨n1, A1, c1, D, rfl, by omega, hD.more (by simp), HV2.out, hE, Bz⟩
  case round =>
    clear hD hE Bz HV2
    obtain ⟨m, A', c', l, rfl, hm, hO, HL, hE, Bz⟩ := hrel
    have hsz : w.heap.size + 1 ≤ wr.heap.size := Bz.lt
    have hlen := hO.len
    have HLL := Lib.hid hlen
    clear hlen
    have C := Bz.cells
    by_cases hlt : (m : Int) < BN
    · go_wp2_with (at_builtin; refine wpList_app1 intSl rfl _ _ rfl hO rfl rfl (by omega) hsz ?_; intro A2 c2 w2 hO2 hb2)
      go_roundw
      case rel =>
        refine ⟨m + 1, A2, c2, _, rfl, by omega, hO2, ?_, hE.then hb2 (Nat.le_succ _), Bz.below hb2 (by omega)⟩
        rw [Hid, padL_step (by rw [HLL.out]; omega)]; exact HL.out
      case measure => simp [lenV]; omega
    · have hl : padL BN l = l := padL_end (by rw [HLL.out]; omega)
      have h3 := HL.out
      rw [hl] at h3
      rw [h3] at hO
      replace hO := hO.more (Nat.le_succ _)
      clear hl h3 hsz C
      have hlen := hO.len
      have hcap := hO.cap
      have HLEN := Lib.hid hlen
      clear hlen
      have Cz := Bz.cells
      cases hv : voteB 2 (BN : Int) c d f V
      · have hr : decR 2 (BN : Int) c d f K = none := by
          unfold decR decG
          rw [Int.toNat_natCast, HV.out, hv]
          simp
        have HR := Lib.hid hr
        clear hr
        go_wp2_with fail
        refine (vVote_any _ _ _ _ _ _ _ _ V _ HH.out hO.rd HLEN.out (by omega) hcap).mono ?_
        rintro e w3 ⟨he, hb⟩
        rw [hv] at he; subst he
        clear hv
        go_wp2
        go_ret2
        rw [HR.out]
        exact ⟨_, _, _, rfl, OwnI.nil _ _ _, hE.trans hb⟩
      · have HVV := Lib.hid hv
        clear hv
        by_cases hc : codeV 2 (BN : Int) f V = (K : Int)
        · have hr : decR 2 (BN : Int) c d f K = some V := by
            unfold decR decG
            rw [Int.toNat_natCast, HV.out, HVV.out, HH.out]
            simp [hc]
          have HR := Lib.hid hr
          have hne : (codeV 2 (BN : Int) f V != (K : Int)) = false := by simp [hc]
          clear hr hc
          go_wp2_with fail
          refine (vVote_any _ _ _ _ _ _ _ _ V _ HH.out hO.rd HLEN.out (by omega) hcap).mono ?_
          rintro e w3 ⟨he, hb⟩
          rw [HVV.out] at he; subst he
          replace hE := hE.trans hb
          replace hO := hO.ext hb
          replace Bz := Bz.ext hb
          clear Cz hb
          have Cz := Bz.cells
          go_wp2_with fail
          refine (vCode_any _ _ _ _ _ _ _ _ V _ HH.out HVV.out hO.rd HLEN.out (by omega)).mono ?_
          rintro e w4 ⟨rfl, hb⟩
          go_wp2
          go_ret2
          rw [HR.out]
          exact ⟨_, _, _, rfl, hO.ext hb, hE.trans hb⟩
        · have hr : decR 2 (BN : Int) c d f K = none := by
            unfold decR decG
            rw [Int.toNat_natCast, HV.out]
            simp [hc]
          have HR := Lib.hid hr
          have hne : (codeV 2 (BN : Int) f V != (K : Int)) = true := by simp [hc]
          clear hr hc
          go_wp2_with fail
          refine (vVote_any _ _ _ _ _ _ _ _ V _ HH.out hO.rd HLEN.out (by omega) hcap).mono ?_
          rintro e w3 ⟨he, hb⟩
          rw [HVV.out] at he; subst he
          replace hE := hE.trans hb
          replace hO := hO.ext hb
          replace Bz := Bz.ext hb
          clear Cz hb
          have Cz := Bz.cells
          go_wp2_with fail
          refine (vCode_any _ _ _ _ _ _ _ _ V _ HH.out HVV.out hO.rd HLEN.out (by omega)).mono ?_
          rintro e w4 ⟨rfl, hb⟩
          go_wp2
          go_ret2
          rw [HR.out]
          exact ⟨_, _, _, rfl, OwnI.nil _ _ _, hE.trans hb⟩

set_option maxRecDepth 100000 in
set_option maxHeartbeats 4000000 in
theorem vDecode_3 (b c d f : Int) (K : Nat) (w : World) (h : validCt 3 b c d f = true) (hK : K ≤ 9223372036854775807) :
    Calls Tryz.prog 34 #[.agg #[.int .i64 3, .int .i64 b, .int .i64 c, .int .i64 d, .int .i64 f], .int .i64 K] w fun e w' => ResI 3 w (decR 3 b c d f K) e w' := by
  obtain ⟨_, h2, h3, h4, h5, _⟩ := valid_kind h
  have hbase := base_bd h
  have HH := Lib.hid h
  clear h
  have hE := (Ext.refl w).alloc (.cells #[.int .i64 3, .int .i64 b, .int .i64 c, .int .i64 d, .int .i64 f] 25)
  have Bz := Blk.new w 25 #[.int .i64 3, .int .i64 b, .int .i64 c, .int .i64 d, .int .i64 f]
  have C := Bz.cells
  obtain ⟨V, hV⟩ : ∃ V, decV 3 b f K = V := ⟨_, rfl⟩
  have HV := Lib.hid hV
  clear hV
  obtain ⟨BN, rfl⟩ := Int.eq_ofNat_of_zero_le h2
  have hb1 : 1 ≤ BN := by have := hbase.1; simp [baseV] at this; omega
  go_enter Tryz.func34, Tryz.ntmps34
  go_wp2_with fail
  refine (vDigits_any K ((BN : Int) + 1) _ (by omega) (by omega) hK).mono ?_
  rintro e w1 ⟨A1, n1, c1, rfl, hD, hn1, hb⟩
  replace hE := hE.trans hb
  replace Bz := Bz.ext hb

  have HRNG := Lib.hid (digsN_rng (b := ((BN : Int) + 1).toNat) (n := K) (by omega))
  have HV2 : Hid ((digsN ((BN : Int) + 1).toNat K).map (fun x => x - 1) = V) := Lib.hid (by have h := HV.out; rw [← h]; simp [decV, voteV, digsV, baseV])
  have hDl := hD.len
  generalize digsN ((BN : Int) + 1).toNat K = D at *
  subst hDl
  clear hb C hbase
  go_wp2_with fail
  go_loopw [6, 57] (fun v i wr => ∃ (j : Nat) (A' : Option Addr) (c' : Nat), j ≤ D.length ∧ i = .int .i64 j ∧ v = .slice A' j c' ∧ OwnI wr w1.heap.size 3 A' j c' ((D.take j).map (fun x => x - 1)) ∧ Ext w1 wr) (fun _ i _ => D.length - (intOf i).toNat)
  case atStart => exact ⟨0, none, 0, Nat.zero_le _, rfl, rfl, OwnI.nil _ _ _, Ext.refl _⟩
  case round =>
    obtain ⟨j, A', c', hj, rfl, rfl, hO, hE2⟩ := hrel
    have hsz := hE2.size
    by_cases hlt : j < D.length
    · obtain ⟨ad, rfl, hc⟩ := (RdI.ext hD.rd hE2).at_ hlt
      obtain ⟨r0, r1⟩ := HRNG.out D[j] (List.getElem_mem hlt)
      have HS := Lib.hid (mapm1_take hlt)
      generalize D[j] = x at *
      have r2 : x ≤ 1000 := by omega
      clear r1
      go_wp2_with (at_builtin; refine wpList_app1 intSl rfl _ _ rfl hO rfl rfl (by omega) hsz ?_; intro A2 c2 w2 hO2 hb2)
      rw [← HS.out] at hO2
      go_roundw
      case rel => exact ⟨j + 1, A2, c2, by omega, by go_num, rfl, hO2, hE2.then hb2 (Nat.le_refl _)⟩
      case measure => simp [intOf]; omega
    · obtain rfl : j = D.length := by omega
      rw [List.take_length, HV2.out] at hO
      replace hO := hO.more hE.size
      replace hE := hE.trans hE2
      replace Bz := Bz.ext hE2
      clear hE2 hD HRNG
      have hlen := hO.len
      have hcap := hO.cap
      have HLEN := Lib.hid hlen
      clear hlen
      have Cz := Bz.cells
      cases hv : voteB 3 (BN : Int) c d f V
      · have hr : decR 3 (BN : Int) c d f K = none := by
          unfold decR decG
          rw [Int.toNat_natCast, HV.out, hv]
          simp
        have HR := Lib.hid hr
        clear hr
        go_wp2_with fail
        refine (vVote_any _ _ _ _ _ _ _ _ V _ HH.out hO.rd HLEN.out (by omega) hcap).mono ?_
        rintro e w3 ⟨he, hb⟩
        rw [hv] at he; subst he
        clear hv
        go_wp2
        go_ret2
        rw [HR.out]
        exact ⟨_, _, _, rfl, OwnI.nil _ _ _, hE.trans hb⟩
      · have HVV := Lib.hid hv
        clear hv
        by_cases hc : codeV 3 (BN : Int) f V = (K : Int)
        · have hr : decR 3 (BN : Int) c d f K = some V := by
            unfold decR decG
            rw [Int.toNat_natCast, HV.out, HVV.out, HH.out]
            simp [hc]
          have HR := Lib.hid hr
          have hne : (codeV 3 (BN : Int) f V != (K : Int)) = false := by simp [hc]
          clear hr hc
          go_wp2_with fail
          refine (vVote_any _ _ _ _ _ _ _ _ V _ HH.out hO.rd HLEN.out (by omega) hcap).mono ?_
          rintro e w3 ⟨he, hb⟩
          rw [HVV.out] at he; subst he
          replace hE := hE.trans hb
          replace hO := hO.ext hb
          replace Bz := Bz.ext hb
          clear Cz hb
          have Cz := Bz.cells
          go_wp2_with fail
          refine (vCode_any _ _ _ _ _ _ _ _ V _ HH.out HVV.out hO.rd HLEN.out (by omega)).mono ?_
          rintro e w4 ⟨rfl, hb⟩
          go_wp2
          go_ret2
          rw [HR.out]
          exact ⟨_, _, _, rfl, hO.ext hb, hE.trans hb⟩
        · have hr : decR 3 (BN : Int) c d f K = none := by
            unfold decR decG
            rw [Int.toNat_natCast, HV.out]
            simp [hc]
          have HR := Lib.hid hr
          have hne : (codeV 3 (BN : Int) f V != (K : Int)) = true := by simp [hc]
          clear hr hc
          go_wp2_with fail
          refine (vVote_any _ _ _ _ _ _ _ _ V _ HH.out hO.rd HLEN.out (by omega) hcap).mono ?_
          rintro e w3 ⟨he, hb⟩
          rw [HVV.out] at he; subst he
          replace hE := hE.trans hb
          replace hO := hO.ext hb
          replace Bz := Bz.ext hb
          clear Cz hb
          have Cz := Bz.cells
          go_wp2_with fail
          refine (vCode_any _ _ _ _ _ _ _ _ V _ HH.out HVV.out hO.rd HLEN.out (by omega)).mono ?_
          rintro e w4 ⟨rfl, hb⟩
          go_wp2
          go_ret2
          rw [HR.out]
          exact ⟨_, _, _, rfl, OwnI.nil _ _ _, hE.trans hb⟩

set_option maxRecDepth 100000 in
set_option maxHeartbeats 4000000 in
theorem vDecode_4 (b c d f : Int) (K : Nat) (w : World) (h : validCt 4 b c d f = true) (hK : K ≤ 9223372036854775807) :
    Calls Tryz.prog 34 #[.agg #[.int .i64 4, .int .i64 b, .int .i64 c, .int .i64 d, .int .i64 f], .int .i64 K] w fun e w' => ResI 3 w (decR 4 b c d f K) e w' := by
  obtain ⟨_, h2, h3, h4, h5, _⟩ := valid_kind h
  have hbase := base_bd h
  have HH := Lib.hid h
  clear h
  have hE := (Ext.refl w).alloc (.cells #[.int .i64 4, .int .i64 b, .int .i64 c, .int .i64 d, .int .i64 f] 25)
  have Bz := Blk.new w 25 #[.int .i64 4, .int .i64 b, .int .i64 c, .int .i64 d, .int .i64 f]
  have C := Bz.cells
  obtain ⟨V, hV⟩ : ∃ V, decV 4 b f K = V := ⟨_, rfl⟩
  have HV := Lib.hid hV
  clear hV
  clear hbase
  go_enter Tryz.func34, Tryz.ntmps34
  go_wp2_with fail
  refine (vDigits_any K 27 _ (by omega) (by omega) hK).mono ?_
  rintro e w1 ⟨A1, n1, c1, rfl, hD, hn1, hb⟩
  replace hE := hE.trans hb
  replace Bz := Bz.ext hb

  have hV2 : digsN (27 : Int).toNat K = V := by have h := HV.out; simpa [decV, voteV, digsV, baseV] using h
  rw [hV2] at hD
  have hO := hD.more (show w.heap.size ≤ _ by simp)
  clear hb C hV2 hD
  have hlen := hO.len
  have hcap := hO.cap
  have HLEN := Lib.hid hlen
  clear hlen
  have Cz := Bz.cells
  cases hv : voteB 4 b c d f V
  · have hr : decR 4 b c d f K = none := by
      unfold decR decG
      rw [Int.toNat_natCast, HV.out, hv]
      simp
    have HR := Lib.hid hr
    clear hr
    go_wp2_with fail
    refine (vVote_any _ _ _ _ _ _ _ _ V _ HH.out hO.rd HLEN.out (by omega) hcap).mono ?_
    rintro e w3 ⟨he, hb⟩
    rw [hv] at he; subst he
    clear hv
    go_wp2
    go_ret2
    rw [HR.out]
    exact ⟨_, _, _, rfl, OwnI.nil _ _ _, hE.trans hb⟩
  · have HVV := Lib.hid hv
    clear hv
    by_cases hc : codeV 4 b f V = (K : Int)
    · have hr : decR 4 b c d f K = some V := by
        unfold decR decG
        rw [Int.toNat_natCast, HV.out, HVV.out, HH.out]
        simp [hc]
      have HR := Lib.hid hr
      have hne : (codeV 4 b f V != (K : Int)) = false := by simp [hc]
      clear hr hc
      go_wp2_with fail
      refine (vVote_any _ _ _ _ _ _ _ _ V _ HH.out hO.rd HLEN.out (by omega) hcap).mono ?_
      rintro e w3 ⟨he, hb⟩
      rw [HVV.out] at he; subst he
      replace hE := hE.trans hb
      replace hO := hO.ext hb
      replace Bz := Bz.ext hb
      clear Cz hb
      have Cz := Bz.cells
      go_wp2_with fail
      refine (vCode_any _ _ _ _ _ _ _ _ V _ HH.out HVV.out hO.rd HLEN.out (by omega)).mono ?_
      rintro e w4 ⟨rfl, hb⟩
      go_wp2
      go_ret2
      rw [HR.out]
      exact ⟨_, _, _, rfl, hO.ext hb, hE.trans hb⟩
    · have hr : decR 4 b c d f K = none := by
        unfold decR decG
        rw [Int.toNat_natCast, HV.out]
        simp [hc]
      have HR := Lib.hid hr
      have hne : (codeV 4 b f V != (K : Int)) = true := by simp [hc]
      clear hr hc
      go_wp2_with fail
      refine (vVote_any _ _ _ _ _ _ _ _ V _ HH.out hO.rd HLEN.out (by omega) hcap).mono ?_
      rintro e w3 ⟨he, hb⟩
      rw [HVV.out] at he; subst he
      replace hE := hE.trans hb
      replace hO := hO.ext hb
      replace Bz := Bz.ext hb
      clear Cz hb
      have Cz := Bz.cells
      go_wp2_with fail
      refine (vCode_any _ _ _ _ _ _ _ _ V _ HH.out HVV.out hO.rd HLEN.out (by omega)).mono ?_
      rintro e w4 ⟨rfl, hb⟩
      go_wp2
      go_ret2
      rw [HR.out]
      exact ⟨_, _, _, rfl, OwnI.nil _ _ _, hE.trans hb⟩

theorem fits_nat {K : Nat} (h : Fits (K : Int)) : K ≤ 9223372036854775807 := by have := h; unfold Fits at this; omega
theorem vDecode_any (a b c d f code : Int) (w : World) (hf : Fits code) (h : validCt a b c d f = true) :
    Calls Tryz.prog 34 #[.agg #[.int .i64 a, .int .i64 b, .int .i64 c, .int .i64 d, .int .i64 f], .int .i64 code] w fun e w' => ResI 3 w (decR a b c d f code) e w' := by
  by_cases hn : code < 0
  · exact vDecode_neg a b c d f code w hn h
  obtain ⟨K, rfl⟩ := Int.eq_ofNat_of_zero_le (show 0 ≤ code by omega)
  have hK := fits_nat hf
  rcases (valid_kind h).1 with rfl | rfl | rfl | rfl
  · exact vDecode_1 b c d f K w h hK
  · exact vDecode_2 b c d f K w h hK
  · exact vDecode_3 b c d f K w h hK
  · exact vDecode_4 b c d f K w h hK
theorem ResI.ext {t : Nat} {w w0 : World} {r : Option (List Int)} {e : Ending} {w' : World} (h : ResI t w0 r e w') (hE : Ext w w0) : ResI t w r e w' := by
  obtain ⟨A, n, c, he, hO, hb⟩ := h
  exact ⟨A, n, c, he, hO.more hE.size, hE.trans hb⟩

set_option maxHeartbeats 1000000 in
theorem sDecodeVote_any (a b c d f code : Int) (w : World) (hf : Fits code) :
    Calls Tryz.prog 16 #[.agg #[.int .i64 a, .int .i64 b, .int .i64 c, .int .i64 d, .int .i64 f], .int .i64 code] w fun e w' => ResI 3 w (decR a b c d f code) e w' := by
  have hE := (Ext.refl w).alloc (.cells #[.int .i64 a, .int .i64 b, .int .i64 c, .int .i64 d, .int .i64 f] 25)
  cases h : validCt a b c d f
  · have hr : decR a b c d f code = none := by simp [decR, decG, h]
    rw [hr]; clear hr
    go_enter Tryz.func16, Tryz.ntmps16
    go_wp2_with fail
    refine (vContest_any _ _ _ _ _ _).mono ?_
    rintro e w1 ⟨he, hb⟩
    rw [h] at he; subst he
    go_wp2
    go_ret2
    exact ⟨_, _, _, rfl, OwnI.nil _ _ _, hE.trans hb⟩
  · have H := Lib.hid h
    clear h
    go_enter Tryz.func16, Tryz.ntmps16
    go_wp2_with fail
    refine (vContest_any _ _ _ _ _ _).mono ?_
    rintro e w1 ⟨he, hb⟩
    rw [H.out] at he; subst he
    have Bz := (Blk.new w 25 _).ext hb
    replace hE := hE.trans hb
    clear hb
    have C := Bz.cells
    go_wp2_with fail
    refine (vDecode_any a b c d f code _ hf H.out).mono ?_
    rintro e w2 ⟨A, n, k, rfl, hO, hb⟩
    go_wp2
    go_ret2
    exact ⟨_, _, _, rfl, hO.more hE.size, hE.trans hb⟩

end Go.Proofs.YtnekpofaflpmdaaGreatDoor
