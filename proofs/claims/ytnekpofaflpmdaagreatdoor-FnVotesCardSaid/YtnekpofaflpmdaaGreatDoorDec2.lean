/- Contracts for DecodeVote: the program's. -/
import Derived.Test.YtnekpofaflpmdaaGreatDoorProg
import Derived.Test.YtnekpofaflpmdaaGreatDoorDec
namespace Go.Proofs.YtnekpofaflpmdaaGreatDoor
open Go.RowKit


set_option maxRecDepth 100000 in
set_option maxHeartbeats 2000000 in
theorem voteOf_1 (b c d f : Int) (A : Option Addr) (n k : Nat) (D : List Int) (w : World) (ha : RdI w A D) (hl : D.length = n) (hn : n ≤ 1000) (hr : ∀ x ∈ D, 0 ≤ x ∧ x ≤ 1000000) :
    Calls Tryz.prog 43 #[.agg #[.int .i64 1, .int .i64 b, .int .i64 c, .int .i64 d, .int .i64 f], .slice A n k] w fun e w' => ∃ A' m c', e = .returned (.slice A' m c') ∧ OwnI w' w.heap.size 3 A' m c' (voteV 1 D) ∧ m ≤ n ∧ Ext w w' := by
  subst hl
  have HR := Lib.hid hr
  clear hr
  have hE := (Ext.refl w).alloc (.cells #[.int .i64 1, .int .i64 b, .int .i64 c, .int .i64 d, .int .i64 f] 25)
  have Bz := Blk.new w 25 #[.int .i64 1, .int .i64 b, .int .i64 c, .int .i64 d, .int .i64 f]
  go_enter Tryz.func43, Tryz.ntmps43
  go_wp2
  go_loopw [5, 11] (fun v i wr => ∃ (j m : Nat) (A' : Option Addr) (c' : Nat), j ≤ D.length ∧ i = .int .i64 j ∧ v = .slice A' m c' ∧ m ≤ j ∧ OwnI wr (w.heap.size + 1) 3 A' m c' (voteV 1 (D.take j)) ∧ Ext w wr ∧ Blk wr w.heap.size 25 #[.int .i64 1, .int .i64 b, .int .i64 c, .int .i64 d, .int .i64 f]) (fun _ i _ => D.length - (intOf i).toNat)
  case atStart => exact ⟨0, 0, _, 0, Nat.zero_le _, rfl, rfl, Nat.le_refl _, (ownI_lit [] rfl (by simp) (by simp) (Nat.zero_le _)), hE.alloc _, Bz.alloc _⟩
  case round =>
    clear hE Bz
    obtain ⟨j, m, A', c', hj, rfl, rfl, hm, hO, hE, Bz⟩ := hrel
    have hsz : w.heap.size + 1 ≤ wr.heap.size := Bz.lt
    have C := Bz.cells
    by_cases hlt : j < D.length
    · obtain ⟨ad, rfl, hc⟩ := (RdI.ext ha hE).at_ hlt
      obtain ⟨r0, r1⟩ := HR.out D[j] (List.getElem_mem hlt)
      have HS := Lib.hid (posL_take hlt)
      by_cases hx : D[j] = 1
      · have HX := Lib.hid hx
        rw [hx] at hc
        clear hx r0 r1
        go_wp2_with (at_builtin; refine wpList_app1 intSl rfl _ _ rfl hO rfl rfl (by omega) hsz ?_; intro A2 c2 w2 hO2 hb2)
        go_roundw
        case rel =>
          refine ⟨j + 1, m + 1, A2, c2, by omega, by go_num, rfl, by omega, ?_, hE.then hb2 (Nat.le_succ _), Bz.below hb2 (by omega)⟩
          show OwnI _ _ _ _ _ _ (posL 0 (D.take (j + 1)))
          rw [HS.out, if_pos HX.out]; exact hO2
        case measure => simp [intOf]; omega
      · have hb1 : (D[j] == 1) = false := by simp [hx]
        have HX := Lib.hid hx
        clear hx
        go_wp2
        go_roundw
        case rel =>
          refine ⟨j + 1, m, A', c', by omega, by go_num, rfl, by omega, ?_, hE, Bz⟩
          show OwnI _ _ _ _ _ _ (posL 0 (D.take (j + 1)))
          rw [HS.out, if_neg HX.out, List.append_nil]; exact hO
        case measure => simp [intOf]; omega
    · obtain rfl : j = D.length := by omega
      rw [List.take_length] at hO
      go_wp2
      go_ret
      exact ⟨_, _, _, rfl, hO.more (Nat.le_succ _), hm, hE⟩

set_option maxRecDepth 100000 in
set_option maxHeartbeats 2000000 in
theorem voteOf_2 (b c d f : Int) (A : Option Addr) (n k : Nat) (D : List Int) (w : World) (ha : RdI w A D) (hl : D.length = n) (hn : n ≤ 1000) (hr : ∀ x ∈ D, 0 ≤ x ∧ x ≤ 1000000) :
    Calls Tryz.prog 43 #[.agg #[.int .i64 2, .int .i64 b, .int .i64 c, .int .i64 d, .int .i64 f], .slice A n k] w fun e w' => ∃ A' m c', e = .returned (.slice A' m c') ∧ OwnI w' w.heap.size 3 A' m c' (voteV 2 D) ∧ m ≤ n ∧ Ext w w' := by
  subst hl
  have HR := Lib.hid hr
  clear hr
  have hE := (Ext.refl w).alloc (.cells #[.int .i64 2, .int .i64 b, .int .i64 c, .int .i64 d, .int .i64 f] 25)
  have Bz := Blk.new w 25 #[.int .i64 2, .int .i64 b, .int .i64 c, .int .i64 d, .int .i64 f]
  go_enter Tryz.func43, Tryz.ntmps43
  go_wp2
  go_loopw [5, 11] (fun v i wr => ∃ (j m : Nat) (A' : Option Addr) (c' : Nat), j ≤ D.length ∧ i = .int .i64 j ∧ v = .slice A' m c' ∧ m ≤ j ∧ OwnI wr (w.heap.size + 1) 3 A' m c' (voteV 2 (D.take j)) ∧ Ext w wr ∧ Blk wr w.heap.size 25 #[.int .i64 2, .int .i64 b, .int .i64 c, .int .i64 d, .int .i64 f]) (fun _ i _ => D.length - (intOf i).toNat)
  case atStart => exact ⟨0, 0, _, 0, Nat.zero_le _, rfl, rfl, Nat.le_refl _, (ownI_lit [] rfl (by simp) (by simp) (Nat.zero_le _)), hE.alloc _, Bz.alloc _⟩
  case round =>
    clear hE Bz
    obtain ⟨j, m, A', c', hj, rfl, rfl, hm, hO, hE, Bz⟩ := hrel
    have hsz : w.heap.size + 1 ≤ wr.heap.size := Bz.lt
    have C := Bz.cells
    by_cases hlt : j < D.length
    · obtain ⟨ad, rfl, hc⟩ := (RdI.ext ha hE).at_ hlt
      obtain ⟨r0, r1⟩ := HR.out D[j] (List.getElem_mem hlt)
      have HS := Lib.hid (List.take_succ_eq_append_getElem hlt)
      generalize D[j] = x at *
      go_wp2_with (at_builtin; refine wpList_app1 intSl rfl _ _ rfl hO rfl rfl (by omega) hsz ?_; intro A2 c2 w2 hO2 hb2)
      go_roundw
      case rel =>
        refine ⟨j + 1, m + 1, A2, c2, by omega, by go_num, rfl, by omega, ?_, hE.then hb2 (Nat.le_succ _), Bz.below hb2 (by omega)⟩
        show OwnI _ _ _ _ _ _ (D.take (j + 1))
        rw [HS.out]; exact hO2
      case measure => simp [intOf]; omega
    · obtain rfl : j = D.length := by omega
      rw [List.take_length] at hO
      go_wp2
      go_ret
      exact ⟨_, _, _, rfl, hO.more (Nat.le_succ _), hm, hE⟩

set_option maxRecDepth 100000 in
set_option maxHeartbeats 2000000 in
theorem voteOf_3 (b c d f : Int) (A : Option Addr) (n k : Nat) (D : List Int) (w : World) (ha : RdI w A D) (hl : D.length = n) (hn : n ≤ 1000) (hr : ∀ x ∈ D, 0 ≤ x ∧ x ≤ 1000000) :
    Calls Tryz.prog 43 #[.agg #[.int .i64 3, .int .i64 b, .int .i64 c, .int .i64 d, .int .i64 f], .slice A n k] w fun e w' => ∃ A' m c', e = .returned (.slice A' m c') ∧ OwnI w' w.heap.size 3 A' m c' (voteV 3 D) ∧ m ≤ n ∧ Ext w w' := by
  subst hl
  have HR := Lib.hid hr
  clear hr
  have hE := (Ext.refl w).alloc (.cells #[.int .i64 3, .int .i64 b, .int .i64 c, .int .i64 d, .int .i64 f] 25)
  have Bz := Blk.new w 25 #[.int .i64 3, .int .i64 b, .int .i64 c, .int .i64 d, .int .i64 f]
  go_enter Tryz.func43, Tryz.ntmps43
  go_wp2
  go_loopw [5, 11] (fun v i wr => ∃ (j m : Nat) (A' : Option Addr) (c' : Nat), j ≤ D.length ∧ i = .int .i64 j ∧ v = .slice A' m c' ∧ m ≤ j ∧ OwnI wr (w.heap.size + 1) 3 A' m c' (voteV 3 (D.take j)) ∧ Ext w wr ∧ Blk wr w.heap.size 25 #[.int .i64 3, .int .i64 b, .int .i64 c, .int .i64 d, .int .i64 f]) (fun _ i _ => D.length - (intOf i).toNat)
  case atStart => exact ⟨0, 0, _, 0, Nat.zero_le _, rfl, rfl, Nat.le_refl _, (ownI_lit [] rfl (by simp) (by simp) (Nat.zero_le _)), hE.alloc _, Bz.alloc _⟩
  case round =>
    clear hE Bz
    obtain ⟨j, m, A', c', hj, rfl, rfl, hm, hO, hE, Bz⟩ := hrel
    have hsz : w.heap.size + 1 ≤ wr.heap.size := Bz.lt
    have C := Bz.cells
    by_cases hlt : j < D.length
    · obtain ⟨ad, rfl, hc⟩ := (RdI.ext ha hE).at_ hlt
      obtain ⟨r0, r1⟩ := HR.out D[j] (List.getElem_mem hlt)
      have HS := Lib.hid (mapm1_take hlt)
      generalize D[j] = x at *
      go_wp2_with (at_builtin; refine wpList_app1 intSl rfl _ _ rfl hO rfl rfl (by omega) hsz ?_; intro A2 c2 w2 hO2 hb2)
      go_roundw
      case rel =>
        refine ⟨j + 1, m + 1, A2, c2, by omega, by go_num, rfl, by omega, ?_, hE.then hb2 (Nat.le_succ _), Bz.below hb2 (by omega)⟩
        show OwnI _ _ _ _ _ _ ((D.take (j + 1)).map (fun x => x - 1))
        rw [HS.out]; exact hO2
      case measure => simp [intOf]; omega
    · obtain rfl : j = D.length := by omega
      rw [List.take_length] at hO
      go_wp2
      go_ret
      exact ⟨_, _, _, rfl, hO.more (Nat.le_succ _), hm, hE⟩

set_option maxRecDepth 100000 in
set_option maxHeartbeats 2000000 in
theorem voteOf_4 (b c d f : Int) (A : Option Addr) (n k : Nat) (D : List Int) (w : World) (ha : RdI w A D) (hl : D.length = n) (hn : n ≤ 1000) (hr : ∀ x ∈ D, 0 ≤ x ∧ x ≤ 1000000) :
    Calls Tryz.prog 43 #[.agg #[.int .i64 4, .int .i64 b, .int .i64 c, .int .i64 d, .int .i64 f], .slice A n k] w fun e w' => ∃ A' m c', e = .returned (.slice A' m c') ∧ OwnI w' w.heap.size 3 A' m c' (voteV 4 D) ∧ m ≤ n ∧ Ext w w' := by
  subst hl
  have HR := Lib.hid hr
  clear hr
  have hE := (Ext.refl w).alloc (.cells #[.int .i64 4, .int .i64 b, .int .i64 c, .int .i64 d, .int .i64 f] 25)
  have Bz := Blk.new w 25 #[.int .i64 4, .int .i64 b, .int .i64 c, .int .i64 d, .int .i64 f]
  go_enter Tryz.func43, Tryz.ntmps43
  go_wp2
  go_loopw [5, 11] (fun v i wr => ∃ (j m : Nat) (A' : Option Addr) (c' : Nat), j ≤ D.length ∧ i = .int .i64 j ∧ v = .slice A' m c' ∧ m ≤ j ∧ OwnI wr (w.heap.size + 1) 3 A' m c' (voteV 4 (D.take j)) ∧ Ext w wr ∧ Blk wr w.heap.size 25 #[.int .i64 4, .int .i64 b, .int .i64 c, .int .i64 d, .int .i64 f]) (fun _ i _ => D.length - (intOf i).toNat)
  case atStart => exact ⟨0, 0, _, 0, Nat.zero_le _, rfl, rfl, Nat.le_refl _, (ownI_lit [] rfl (by simp) (by simp) (Nat.zero_le _)), hE.alloc _, Bz.alloc _⟩
  case round =>
    clear hE Bz
    obtain ⟨j, m, A', c', hj, rfl, rfl, hm, hO, hE, Bz⟩ := hrel
    have hsz : w.heap.size + 1 ≤ wr.heap.size := Bz.lt
    have C := Bz.cells
    by_cases hlt : j < D.length
    · obtain ⟨ad, rfl, hc⟩ := (RdI.ext ha hE).at_ hlt
      obtain ⟨r0, r1⟩ := HR.out D[j] (List.getElem_mem hlt)
      have HS := Lib.hid (List.take_succ_eq_append_getElem hlt)
      generalize D[j] = x at *
      go_wp2_with (at_builtin; refine wpList_app1 intSl rfl _ _ rfl hO rfl rfl (by omega) hsz ?_; intro A2 c2 w2 hO2 hb2)
      go_roundw
      case rel =>
        refine ⟨j + 1, m + 1, A2, c2, by omega, by go_num, rfl, by omega, ?_, hE.then hb2 (Nat.le_succ _), Bz.below hb2 (by omega)⟩
        show OwnI _ _ _ _ _ _ (D.take (j + 1))
        rw [HS.out]; exact hO2
      case measure => simp [intOf]; omega
    · obtain rfl : j = D.length := by omega
      rw [List.take_length] at hO
      go_wp2
      go_ret
      exact ⟨_, _, _, rfl, hO.more (Nat.le_succ _), hm, hE⟩

set_option maxHeartbeats 2000000 in
theorem decode_neg (a b c d f code : Int) (w : World) (hn : code < 0) (_h : validCt a b c d f = true) :
    Calls Tryz.prog 23 #[.agg #[.int .i64 a, .int .i64 b, .int .i64 c, .int .i64 d, .int .i64 f], .int .i64 code] w fun e w' => ResI 3 w (decR a b c d f code) e w' := by
  have hr : decR a b c d f code = none := by
    have h0 : decide (0 ≤ code) = false := decide_eq_false (by omega)
    simp [decR, decG, h0]
  rw [hr]; clear hr
  go_enter Tryz.func23, Tryz.ntmps23
  go_wp2
  go_ret2
  exact ⟨_, _, _, rfl, OwnI.nil _ _ _, (Ext.refl w).alloc _⟩

set_option maxRecDepth 100000 in
set_option maxHeartbeats 4000000 in
theorem decode_1 (b c d f : Int) (K : Nat) (w : World) (h : validCt 1 b c d f = true) (hK : K ≤ 9223372036854775807) :
    Calls Tryz.prog 23 #[.agg #[.int .i64 1, .int .i64 b, .int .i64 c, .int .i64 d, .int .i64 f], .int .i64 K] w fun e w' => ResI 3 w (decR 1 b c d f K) e w' := by
  obtain ⟨_, h2, h3, h4, h5, _⟩ := valid_kind h
  have hbase := base_bd h
  have HH := Lib.hid h
  clear h
  have hE := (Ext.refl w).alloc (.cells #[.int .i64 1, .int .i64 b, .int .i64 c, .int .i64 d, .int .i64 f] 25)
  have Bz := Blk.new w 25 #[.int .i64 1, .int .i64 b, .int .i64 c, .int .i64 d, .int .i64 f]
  have C := Bz.cells
  obtain ⟨V, hV⟩ : ∃ V, decV 1 b f K = V := ⟨_, rfl⟩
  have HV := Lib.hid hV
  clear hV
  obtain ⟨BN, rfl⟩ := Int.eq_ofNat_of_zero_le h2
  obtain ⟨q, hq⟩ := Int.eq_ofNat_of_zero_le (show 0 ≤ baseV 1 BN f by omega)
  have HQ := Lib.hid hq
  rw [hq] at hbase
  have hDV : digsV 1 BN f K = digsN q K := by unfold digsV; rw [hq, Int.toNat_natCast]; simp
  clear hq
  have HV2 : Hid (voteV 1 (digsN q K) = V) := Lib.hid (by have h := HV.out; rw [decV, hDV] at h; exact h)
  clear hDV
  have h0 : ((q : Int) == 0) = false := by simp; omega
  go_enter Tryz.func23, Tryz.ntmps23
  go_wp2
  go_loopw [6, 7] (fun v n wr => ∃ (j k : Nat) (A : Option Addr) (c0 : Nat) (l : List Int), v = .slice A j c0 ∧ n = .int .i64 k ∧ k ≤ 9223372036854775807 ∧ j ≤ 64 ∧ Hid (k * 2 ^ j ≤ 9223372036854775808) ∧ Hid (l ++ digsN q k = digsN q K) ∧ OwnI wr (w.heap.size + 1) 3 A j c0 l ∧ Ext w wr ∧ Blk wr w.heap.size 25 #[.int .i64 1, .int .i64 BN, .int .i64 c, .int .i64 d, .int .i64 f]) (fun _ n _ => (intOf n).toNat)
  case atStart => exact ⟨0, K, _, 0, [], rfl, rfl, hK, by omega, (by show K * 2 ^ 0 ≤ _; rw [Nat.pow_zero]; omega), rfl, ownI_lit [] rfl (by simp) (by simp) (Nat.zero_le _), hE.alloc _, Bz.alloc _⟩
  case round =>
    clear hE Bz C
    obtain ⟨j, k, A', c', l, rfl, rfl, hk, hj, HP, HI, hO, hE, Bz⟩ := hrel
    have C := Bz.cells
    by_cases hk0 : k = 0
    · subst hk0
      have hl0 := HI.out
      rw [digsN_zero, List.append_nil] at hl0
      rw [hl0] at hO
      have HRNG := Lib.hid (digsN_rng (b := q) (n := K) (by omega))
      clear hl0 HI HP
      replace HRNG : Hid (∀ x ∈ digsN q K, 0 ≤ x ∧ x ≤ 1000000) := Lib.hid (fun x hx => by have := HRNG.out x hx; omega)
      generalize digsN q K = D at *
      go_wp2_with fail
      refine wp_loop_rounds 1 ?_
      rw [rounds_succ]
      have hsw := hE.size
      go_wp2_with fail
      refine (voteOf_1 _ _ _ _ _ _ _ _ _ hO.rd hO.len (by omega) HRNG.out).mono ?_
      rintro e w5 ⟨A5, n5, c5, rfl, hO5, hn5, hb⟩
      rw [HV2.out] at hO5
      replace hE := hE.trans hb
      replace Bz := Bz.ext hb
      have hO : OwnI w5 w.heap.size 3 A5 n5 c5 V := hO5.more hsw
      clear hb C hO5 HRNG hsw
      have hlen := hO.len
      have hcap := hO.cap
      have HLEN := Lib.hid hlen
      clear hlen
      have Cz := Bz.cells
      cases hv : voteB 1 (BN : Int) c d f V
      · have hr : decR 1 (BN : Int) c d f K = none := by
          unfold decR decG
          rw [Int.toNat_natCast, HV.out, hv]
          simp
        have HR := Lib.hid hr
        clear hr
        go_wp2_with fail
        refine (isVote_any _ _ _ _ _ _ _ _ V _ HH.out hO.rd HLEN.out (by omega) hcap).mono ?_
        rintro e w3 ⟨he, hb⟩
        rw [hv] at he; subst he
        clear hv
        go_wp2
        go_ret2
        rw [HR.out]
        exact ⟨_, _, _, rfl, OwnI.nil _ _ _, hE.trans hb⟩
      · have HVV := Lib.hid hv
        clear hv
        by_cases hc : codeV 1 (BN : Int) f V = (K : Int)
        · have hr : decR 1 (BN : Int) c d f K = some V := by
            unfold decR decG
            rw [Int.toNat_natCast, HV.out, HVV.out, HH.out]
            simp [hc]
          have HR := Lib.hid hr
          have hne : (codeV 1 (BN : Int) f V != (K : Int)) = false := by simp [hc]
          clear hr hc
          go_wp2_with fail
          refine (isVote_any _ _ _ _ _ _ _ _ V _ HH.out hO.rd HLEN.out (by omega) hcap).mono ?_
          rintro e w3 ⟨he, hb⟩
          rw [HVV.out] at he; subst he
          replace hE := hE.trans hb
          replace hO := hO.ext hb
          replace Bz := Bz.ext hb
          clear Cz hb
          have Cz := Bz.cells
          go_wp2_with fail
          refine (code_any _ BN _ _ _ _ _ _ V _ HH.out HVV.out hO.rd HLEN.out).mono ?_
          rintro e w4 ⟨rfl, hb⟩
          go_wp2
          go_ret2
          rw [HR.out]
          exact ⟨_, _, _, rfl, hO.ext hb, hE.trans hb⟩
        · have hr : decR 1 (BN : Int) c d f K = none := by
            unfold decR decG
            rw [Int.toNat_natCast, HV.out]
            simp [hc]
          have HR := Lib.hid hr
          have hne : (codeV 1 (BN : Int) f V != (K : Int)) = true := by simp [hc]
          clear hr hc
          go_wp2_with fail
          refine (isVote_any _ _ _ _ _ _ _ _ V _ HH.out hO.rd HLEN.out (by omega) hcap).mono ?_
          rintro e w3 ⟨he, hb⟩
          rw [HVV.out] at he; subst he
          replace hE := hE.trans hb
          replace hO := hO.ext hb
          replace Bz := Bz.ext hb
          clear Cz hb
          have Cz := Bz.cells
          go_wp2_with fail
          refine (code_any _ BN _ _ _ _ _ _ V _ HH.out HVV.out hO.rd HLEN.out).mono ?_
          rintro e w4 ⟨rfl, hb⟩
          go_wp2
          go_ret2
          rw [HR.out]
          exact ⟨_, _, _, rfl, OwnI.nil _ _ _, hE.trans hb⟩
    · have hj2 : j ≤ 63 := digs_few (by omega) HP.out
      have HD : Hid (k / q < k) := Nat.div_lt_self (by omega) (by omega)
      have hkq : k / q ≤ 9223372036854775807 := Nat.le_trans (Nat.div_le_self _ _) hk
      have HS := Lib.hid (digsN_step (b := q) (by omega) hk0)
      have hq1 : 0 ≤ (k : Int) / q ∧ (k : Int) / q ≤ 9223372036854775807 := ⟨by rw [← Int.natCast_ediv]; exact Int.natCast_nonneg _, by omega⟩
      have HP2 := Lib.hid (digs_half (b := q) (by omega) HP.out)
      have hkz : (0 : Int) < k := by omega
      have hj64 : (j : Int) < 64 := by omega
      clear hk0
      go_wp2_with fail
      refine (base_any _ _ _ _ _ _ HH.out).mono ?_
      rintro e w2 ⟨he, hb⟩
      rw [HQ.out] at he; subst he
      replace hO := hO.ext hb
      replace Bz := Bz.ext hb
      replace hE := hE.trans hb
      clear hb C
      have hsz : w.heap.size + 1 ≤ w2.heap.size := Bz.lt
      go_wp2_with (at_builtin; refine wpList_app1 intSl rfl _ _ rfl hO rfl rfl (by omega) hsz ?_; intro A2 c2 w3 hO2 hb2; replace Bz := Bz.below hb2 (by omega); have C2 := Bz.cells)
      refine (base_any _ _ _ _ _ _ HH.out).mono ?_
      rintro e w4 ⟨he, hb⟩
      rw [HQ.out] at he; subst he
      go_wp2
      go_roundw
      case rel =>
        refine ⟨j + 1, k / q, A2, c2, _, rfl, by go_num, hkq, by omega, HP2.out, ?_, hO2.ext hb, (hE.then hb2 (Nat.le_succ _)).trans hb, Bz.ext hb⟩
        rw [Hid, List.append_assoc, ← HI.out, HS.out]
        simp
      case measure =>
        have h1 := HD.out
        simp only [intOf]
        rw [← Int.natCast_ediv]
        omega

set_option maxRecDepth 100000 in
set_option maxHeartbeats 4000000 in
theorem decode_2 (b c d f : Int) (K : Nat) (w : World) (h : validCt 2 b c d f = true) (hK : K ≤ 9223372036854775807) :
    Calls Tryz.prog 23 #[.agg #[.int .i64 2, .int .i64 b, .int .i64 c, .int .i64 d, .int .i64 f], .int .i64 K] w fun e w' => ResI 3 w (decR 2 b c d f K) e w' := by
  obtain ⟨_, h2, h3, h4, h5, _⟩ := valid_kind h
  have hbase := base_bd h
  have HH := Lib.hid h
  clear h
  have hE := (Ext.refl w).alloc (.cells #[.int .i64 2, .int .i64 b, .int .i64 c, .int .i64 d, .int .i64 f] 25)
  have Bz := Blk.new w 25 #[.int .i64 2, .int .i64 b, .int .i64 c, .int .i64 d, .int .i64 f]
  have C := Bz.cells
  obtain ⟨V, hV⟩ : ∃ V, decV 2 b f K = V := ⟨_, rfl⟩
  have HV := Lib.hid hV
  clear hV
  obtain ⟨BN, rfl⟩ := Int.eq_ofNat_of_zero_le h2
  obtain ⟨q, hq⟩ := Int.eq_ofNat_of_zero_le (show 0 ≤ baseV 2 BN f by omega)
  have HQ := Lib.hid hq
  rw [hq] at hbase
  have hDV : digsV 2 BN f K = padL BN (digsN q K) := by unfold digsV; rw [hq, Int.toNat_natCast]; simp
  clear hq
  have HV2 : Hid (voteV 2 (padL BN (digsN q K)) = V) := Lib.hid (by have h := HV.out; rw [decV, hDV] at h; exact h)
  clear hDV
  have h0 : ((q : Int) == 0) = false := by simp; omega
  go_enter Tryz.func23, Tryz.ntmps23
  go_wp2
  go_loopw [6, 7] (fun v n wr => ∃ (j k : Nat) (A : Option Addr) (c0 : Nat) (l : List Int), v = .slice A j c0 ∧ n = .int .i64 k ∧ k ≤ 9223372036854775807 ∧ j ≤ 64 ∧ Hid (k * 2 ^ j ≤ 9223372036854775808) ∧ Hid (l ++ digsN q k = digsN q K) ∧ OwnI wr (w.heap.size + 1) 3 A j c0 l ∧ Ext w wr ∧ Blk wr w.heap.size 25 #[.int .i64 2, .int .i64 BN, .int .i64 c, .int .i64 d, .int .i64 f]) (fun _ n _ => (intOf n).toNat)
  case atStart => exact ⟨0, K, _, 0, [], rfl, rfl, hK, by omega, (by show K * 2 ^ 0 ≤ _; rw [Nat.pow_zero]; omega), rfl, ownI_lit [] rfl (by simp) (by simp) (Nat.zero_le _), hE.alloc _, Bz.alloc _⟩
  case round =>
    clear hE Bz C
    obtain ⟨j, k, A', c', l, rfl, rfl, hk, hj, HP, HI, hO, hE, Bz⟩ := hrel
    have C := Bz.cells
    by_cases hk0 : k = 0
    · subst hk0
      have hl0 := HI.out
      rw [digsN_zero, List.append_nil] at hl0
      rw [hl0] at hO
      have HRNG := Lib.hid (digsN_rng (b := q) (n := K) (by omega))
      clear hl0 HI HP
      replace HRNG : Hid (∀ x ∈ padL BN (digsN q K), 0 ≤ x ∧ x ≤ 1000000) := Lib.hid (fun x hx => by
        rcases List.mem_append.1 hx with hx | hx
        · have := HRNG.out x hx; omega
        · have := List.eq_of_mem_replicate hx; omega)
      generalize digsN q K = D at *
      obtain ⟨wo, rfl⟩ : ∃ wo : World, wo = wr := ⟨_, rfl⟩
      go_wp2_with fail
      go_loopw [6] (fun v wr => ∃ (m : Nat) (A' : Option Addr) (c' : Nat) (l : List Int), v = .slice A' m c' ∧ m ≤ 100 ∧ OwnI wr (w.heap.size + 1) 3 A' m c' l ∧ Hid (padL BN l = padL BN D) ∧ Ext w wr ∧ Blk wr w.heap.size 25 #[.int .i64 2, .int .i64 BN, .int .i64 c, .int .i64 d, .int .i64 f]) (fun v _ => BN - lenV v)
      case atStart => exact ⟨j, A', c', D, rfl, by omega, hO, rfl, hE, Bz⟩
      case round =>
        clear hO hE Bz C
        obtain ⟨m, A', c', l, rfl, hm, hO, HL, hE, Bz⟩ := hrel
        have hsz : w.heap.size + 1 ≤ wr.heap.size := Bz.lt
        have HLL := Lib.hid hO.len
        have C := Bz.cells
        by_cases hlt : (m : Int) < BN
        · go_wp2_with (at_builtin; refine wpList_app1 intSl rfl _ _ rfl hO rfl rfl (by omega) hsz ?_; intro A2 c2 w2 hO2 hb2)
          go_roundw
          case rel =>
            (repeat apply Exists.intro)
            refine ⟨⟨m + 1, A2, c2, _, rfl, by omega, hO2, ?_, hE.then hb2 (Nat.le_succ _), Bz.below hb2 (by omega)⟩, rfl⟩
            rw [Hid, padL_step (by rw [HLL.out]; omega)]; exact HL.out
          case measure => simp [lenV]; omega
        · have hl : padL BN l = l := padL_end (by rw [HLL.out]; omega)
          have h3 := HL.out
          rw [hl] at h3
          rw [h3] at hO
          clear hl h3 hsz HLL
          have hsw := hE.size
          go_wp2_with fail
          refine (voteOf_2 _ _ _ _ _ _ _ _ _ hO.rd hO.len (by omega) HRNG.out).mono ?_
          rintro e w5 ⟨A5, n5, c5, rfl, hO5, hn5, hb⟩
          rw [HV2.out] at hO5
          replace hE := hE.trans hb
          replace Bz := Bz.ext hb
          have hO : OwnI w5 w.heap.size 3 A5 n5 c5 V := hO5.more hsw
          clear hb C hO5 HRNG hsw
          have hlen := hO.len
          have hcap := hO.cap
          have HLEN := Lib.hid hlen
          clear hlen
          have Cz := Bz.cells
          cases hv : voteB 2 (BN : Int) c d f V
          · have hr : decR 2 (BN : Int) c d f K = none := by
              unfold decR decG
              rw [Int.toNat_natCast, HV.out, hv]
              simp
            have HR := Lib.hid hr
            clear hr
            go_wp2_with fail
            refine (isVote_any _ _ _ _ _ _ _ _ V _ HH.out hO.rd HLEN.out (by omega) hcap).mono ?_
            rintro e w3 ⟨he, hb⟩
            rw [hv] at he; subst he
            clear hv
            go_wp2
            go_ret2
            rw [HR.out]
            exact ⟨_, _, _, rfl, OwnI.nil _ _ _, hE.trans hb⟩
          · have HVV := Lib.hid hv
            clear hv
            by_cases hc : codeV 2 (BN : Int) f V = (K : Int)
            · have hr : decR 2 (BN : Int) c d f K = some V := by
                unfold decR decG
                rw [Int.toNat_natCast, HV.out, HVV.out, HH.out]
                simp [hc]
              have HR := Lib.hid hr
              have hne : (codeV 2 (BN : Int) f V != (K : Int)) = false := by simp [hc]
              clear hr hc
              go_wp2_with fail
              refine (isVote_any _ _ _ _ _ _ _ _ V _ HH.out hO.rd HLEN.out (by omega) hcap).mono ?_
              rintro e w3 ⟨he, hb⟩
              rw [HVV.out] at he; subst he
              replace hE := hE.trans hb
              replace hO := hO.ext hb
              replace Bz := Bz.ext hb
              clear Cz hb
              have Cz := Bz.cells
              go_wp2_with fail
              refine (code_any _ BN _ _ _ _ _ _ V _ HH.out HVV.out hO.rd HLEN.out).mono ?_
              rintro e w4 ⟨rfl, hb⟩
              go_wp2
              go_ret2
              rw [HR.out]
              exact ⟨_, _, _, rfl, hO.ext hb, hE.trans hb⟩
            · have hr : decR 2 (BN : Int) c d f K = none := by
                unfold decR decG
                rw [Int.toNat_natCast, HV.out]
                simp [hc]
              have HR := Lib.hid hr
              have hne : (codeV 2 (BN : Int) f V != (K : Int)) = true := by simp [hc]
              clear hr hc
              go_wp2_with fail
              refine (isVote_any _ _ _ _ _ _ _ _ V _ HH.out hO.rd HLEN.out (by omega) hcap).mono ?_
              rintro e w3 ⟨he, hb⟩
              rw [HVV.out] at he; subst he
              replace hE := hE.trans hb
              replace hO := hO.ext hb
              replace Bz := Bz.ext hb
              clear Cz hb
              have Cz := Bz.cells
              go_wp2_with fail
              refine (code_any _ BN _ _ _ _ _ _ V _ HH.out HVV.out hO.rd HLEN.out).mono ?_
              rintro e w4 ⟨rfl, hb⟩
              go_wp2
              go_ret2
              rw [HR.out]
              exact ⟨_, _, _, rfl, OwnI.nil _ _ _, hE.trans hb⟩
    · have hj2 : j ≤ 63 := digs_few (by omega) HP.out
      have HD : Hid (k / q < k) := Nat.div_lt_self (by omega) (by omega)
      have hkq : k / q ≤ 9223372036854775807 := Nat.le_trans (Nat.div_le_self _ _) hk
      have HS := Lib.hid (digsN_step (b := q) (by omega) hk0)
      have hq1 : 0 ≤ (k : Int) / q ∧ (k : Int) / q ≤ 9223372036854775807 := ⟨by rw [← Int.natCast_ediv]; exact Int.natCast_nonneg _, by omega⟩
      have HP2 := Lib.hid (digs_half (b := q) (by omega) HP.out)
      have hkz : (0 : Int) < k := by omega
      have hj64 : (j : Int) < 64 := by omega
      clear hk0
      go_wp2_with fail
      refine (base_any _ _ _ _ _ _ HH.out).mono ?_
      rintro e w2 ⟨he, hb⟩
      rw [HQ.out] at he; subst he
      replace hO := hO.ext hb
      replace Bz := Bz.ext hb
      replace hE := hE.trans hb
      clear hb C
      have hsz : w.heap.size + 1 ≤ w2.heap.size := Bz.lt
      go_wp2_with (at_builtin; refine wpList_app1 intSl rfl _ _ rfl hO rfl rfl (by omega) hsz ?_; intro A2 c2 w3 hO2 hb2; replace Bz := Bz.below hb2 (by omega); have C2 := Bz.cells)
      refine (base_any _ _ _ _ _ _ HH.out).mono ?_
      rintro e w4 ⟨he, hb⟩
      rw [HQ.out] at he; subst he
      go_wp2
      go_roundw
      case rel =>
        refine ⟨j + 1, k / q, A2, c2, _, rfl, by go_num, hkq, by omega, HP2.out, ?_, hO2.ext hb, (hE.then hb2 (Nat.le_succ _)).trans hb, Bz.ext hb⟩
        rw [Hid, List.append_assoc, ← HI.out, HS.out]
        simp
      case measure =>
        have h1 := HD.out
        simp only [intOf]
        rw [← Int.natCast_ediv]
        omega

set_option maxRecDepth 100000 in
set_option maxHeartbeats 4000000 in
theorem decode_3 (b c d f : Int) (K : Nat) (w : World) (h : validCt 3 b c d f = true) (hK : K ≤ 9223372036854775807) :
    Calls Tryz.prog 23 #[.agg #[.int .i64 3, .int .i64 b, .int .i64 c, .int .i64 d, .int .i64 f], .int .i64 K] w fun e w' => ResI 3 w (decR 3 b c d f K) e w' := by
  obtain ⟨_, h2, h3, h4, h5, _⟩ := valid_kind h
  have hbase := base_bd h
  have HH := Lib.hid h
  clear h
  have hE := (Ext.refl w).alloc (.cells #[.int .i64 3, .int .i64 b, .int .i64 c, .int .i64 d, .int .i64 f] 25)
  have Bz := Blk.new w 25 #[.int .i64 3, .int .i64 b, .int .i64 c, .int .i64 d, .int .i64 f]
  have C := Bz.cells
  obtain ⟨V, hV⟩ : ∃ V, decV 3 b f K = V := ⟨_, rfl⟩
  have HV := Lib.hid hV
  clear hV
  obtain ⟨BN, rfl⟩ := Int.eq_ofNat_of_zero_le h2
  obtain ⟨q, hq⟩ := Int.eq_ofNat_of_zero_le (show 0 ≤ baseV 3 BN f by omega)
  have HQ := Lib.hid hq
  rw [hq] at hbase
  have hDV : digsV 3 BN f K = digsN q K := by unfold digsV; rw [hq, Int.toNat_natCast]; simp
  clear hq
  have HV2 : Hid (voteV 3 (digsN q K) = V) := Lib.hid (by have h := HV.out; rw [decV, hDV] at h; exact h)
  clear hDV
  have h0 : ((q : Int) == 0) = false := by simp; omega
  go_enter Tryz.func23, Tryz.ntmps23
  go_wp2
  go_loopw [6, 7] (fun v n wr => ∃ (j k : Nat) (A : Option Addr) (c0 : Nat) (l : List Int), v = .slice A j c0 ∧ n = .int .i64 k ∧ k ≤ 9223372036854775807 ∧ j ≤ 64 ∧ Hid (k * 2 ^ j ≤ 9223372036854775808) ∧ Hid (l ++ digsN q k = digsN q K) ∧ OwnI wr (w.heap.size + 1) 3 A j c0 l ∧ Ext w wr ∧ Blk wr w.heap.size 25 #[.int .i64 3, .int .i64 BN, .int .i64 c, .int .i64 d, .int .i64 f]) (fun _ n _ => (intOf n).toNat)
  case atStart => exact ⟨0, K, _, 0, [], rfl, rfl, hK, by omega, (by show K * 2 ^ 0 ≤ _; rw [Nat.pow_zero]; omega), rfl, ownI_lit [] rfl (by simp) (by simp) (Nat.zero_le _), hE.alloc _, Bz.alloc _⟩
  case round =>
    clear hE Bz C
    obtain ⟨j, k, A', c', l, rfl, rfl, hk, hj, HP, HI, hO, hE, Bz⟩ := hrel
    have C := Bz.cells
    by_cases hk0 : k = 0
    · subst hk0
      have hl0 := HI.out
      rw [digsN_zero, List.append_nil] at hl0
      rw [hl0] at hO
      have HRNG := Lib.hid (digsN_rng (b := q) (n := K) (by omega))
      clear hl0 HI HP
      replace HRNG : Hid (∀ x ∈ digsN q K, 0 ≤ x ∧ x ≤ 1000000) := Lib.hid (fun x hx => by have := HRNG.out x hx; omega)
      generalize digsN q K = D at *
      go_wp2_with fail
      refine wp_loop_rounds 1 ?_
      rw [rounds_succ]
      have hsw := hE.size
      go_wp2_with fail
      refine (voteOf_3 _ _ _ _ _ _ _ _ _ hO.rd hO.len (by omega) HRNG.out).mono ?_
      rintro e w5 ⟨A5, n5, c5, rfl, hO5, hn5, hb⟩
      rw [HV2.out] at hO5
      replace hE := hE.trans hb
      replace Bz := Bz.ext hb
      have hO : OwnI w5 w.heap.size 3 A5 n5 c5 V := hO5.more hsw
      clear hb C hO5 HRNG hsw
      have hlen := hO.len
      have hcap := hO.cap
      have HLEN := Lib.hid hlen
      clear hlen
      have Cz := Bz.cells
      cases hv : voteB 3 (BN : Int) c d f V
      · have hr : decR 3 (BN : Int) c d f K = none := by
          unfold decR decG
          rw [Int.toNat_natCast, HV.out, hv]
          simp
        have HR := Lib.hid hr
        clear hr
        go_wp2_with fail
        refine (isVote_any _ _ _ _ _ _ _ _ V _ HH.out hO.rd HLEN.out (by omega) hcap).mono ?_
        rintro e w3 ⟨he, hb⟩
        rw [hv] at he; subst he
        clear hv
        go_wp2
        go_ret2
        rw [HR.out]
        exact ⟨_, _, _, rfl, OwnI.nil _ _ _, hE.trans hb⟩
      · have HVV := Lib.hid hv
        clear hv
        by_cases hc : codeV 3 (BN : Int) f V = (K : Int)
        · have hr : decR 3 (BN : Int) c d f K = some V := by
            unfold decR decG
            rw [Int.toNat_natCast, HV.out, HVV.out, HH.out]
            simp [hc]
          have HR := Lib.hid hr
          have hne : (codeV 3 (BN : Int) f V != (K : Int)) = false := by simp [hc]
          clear hr hc
          go_wp2_with fail
          refine (isVote_any _ _ _ _ _ _ _ _ V _ HH.out hO.rd HLEN.out (by omega) hcap).mono ?_
          rintro e w3 ⟨he, hb⟩
          rw [HVV.out] at he; subst he
          replace hE := hE.trans hb
          replace hO := hO.ext hb
          replace Bz := Bz.ext hb
          clear Cz hb
          have Cz := Bz.cells
          go_wp2_with fail
          refine (code_any _ BN _ _ _ _ _ _ V _ HH.out HVV.out hO.rd HLEN.out).mono ?_
          rintro e w4 ⟨rfl, hb⟩
          go_wp2
          go_ret2
          rw [HR.out]
          exact ⟨_, _, _, rfl, hO.ext hb, hE.trans hb⟩
        · have hr : decR 3 (BN : Int) c d f K = none := by
            unfold decR decG
            rw [Int.toNat_natCast, HV.out]
            simp [hc]
          have HR := Lib.hid hr
          have hne : (codeV 3 (BN : Int) f V != (K : Int)) = true := by simp [hc]
          clear hr hc
          go_wp2_with fail
          refine (isVote_any _ _ _ _ _ _ _ _ V _ HH.out hO.rd HLEN.out (by omega) hcap).mono ?_
          rintro e w3 ⟨he, hb⟩
          rw [HVV.out] at he; subst he
          replace hE := hE.trans hb
          replace hO := hO.ext hb
          replace Bz := Bz.ext hb
          clear Cz hb
          have Cz := Bz.cells
          go_wp2_with fail
          refine (code_any _ BN _ _ _ _ _ _ V _ HH.out HVV.out hO.rd HLEN.out).mono ?_
          rintro e w4 ⟨rfl, hb⟩
          go_wp2
          go_ret2
          rw [HR.out]
          exact ⟨_, _, _, rfl, OwnI.nil _ _ _, hE.trans hb⟩
    · have hj2 : j ≤ 63 := digs_few (by omega) HP.out
      have HD : Hid (k / q < k) := Nat.div_lt_self (by omega) (by omega)
      have hkq : k / q ≤ 9223372036854775807 := Nat.le_trans (Nat.div_le_self _ _) hk
      have HS := Lib.hid (digsN_step (b := q) (by omega) hk0)
      have hq1 : 0 ≤ (k : Int) / q ∧ (k : Int) / q ≤ 9223372036854775807 := ⟨by rw [← Int.natCast_ediv]; exact Int.natCast_nonneg _, by omega⟩
      have HP2 := Lib.hid (digs_half (b := q) (by omega) HP.out)
      have hkz : (0 : Int) < k := by omega
      have hj64 : (j : Int) < 64 := by omega
      clear hk0
      go_wp2_with fail
      refine (base_any _ _ _ _ _ _ HH.out).mono ?_
      rintro e w2 ⟨he, hb⟩
      rw [HQ.out] at he; subst he
      replace hO := hO.ext hb
      replace Bz := Bz.ext hb
      replace hE := hE.trans hb
      clear hb C
      have hsz : w.heap.size + 1 ≤ w2.heap.size := Bz.lt
      go_wp2_with (at_builtin; refine wpList_app1 intSl rfl _ _ rfl hO rfl rfl (by omega) hsz ?_; intro A2 c2 w3 hO2 hb2; replace Bz := Bz.below hb2 (by omega); have C2 := Bz.cells)
      refine (base_any _ _ _ _ _ _ HH.out).mono ?_
      rintro e w4 ⟨he, hb⟩
      rw [HQ.out] at he; subst he
      go_wp2
      go_roundw
      case rel =>
        refine ⟨j + 1, k / q, A2, c2, _, rfl, by go_num, hkq, by omega, HP2.out, ?_, hO2.ext hb, (hE.then hb2 (Nat.le_succ _)).trans hb, Bz.ext hb⟩
        rw [Hid, List.append_assoc, ← HI.out, HS.out]
        simp
      case measure =>
        have h1 := HD.out
        simp only [intOf]
        rw [← Int.natCast_ediv]
        omega

set_option maxRecDepth 100000 in
set_option maxHeartbeats 4000000 in
theorem decode_4 (b c d f : Int) (K : Nat) (w : World) (h : validCt 4 b c d f = true) (hK : K ≤ 9223372036854775807) :
    Calls Tryz.prog 23 #[.agg #[.int .i64 4, .int .i64 b, .int .i64 c, .int .i64 d, .int .i64 f], .int .i64 K] w fun e w' => ResI 3 w (decR 4 b c d f K) e w' := by
  obtain ⟨_, h2, h3, h4, h5, _⟩ := valid_kind h
  have hbase := base_bd h
  have HH := Lib.hid h
  clear h
  have hE := (Ext.refl w).alloc (.cells #[.int .i64 4, .int .i64 b, .int .i64 c, .int .i64 d, .int .i64 f] 25)
  have Bz := Blk.new w 25 #[.int .i64 4, .int .i64 b, .int .i64 c, .int .i64 d, .int .i64 f]
  have C := Bz.cells
  obtain ⟨V, hV⟩ : ∃ V, decV 4 b f K = V := ⟨_, rfl⟩
  have HV := Lib.hid hV
  clear hV
  obtain ⟨BN, rfl⟩ := Int.eq_ofNat_of_zero_le h2
  obtain ⟨q, hq⟩ := Int.eq_ofNat_of_zero_le (show 0 ≤ baseV 4 BN f by omega)
  have HQ := Lib.hid hq
  rw [hq] at hbase
  have hDV : digsV 4 BN f K = digsN q K := by unfold digsV; rw [hq, Int.toNat_natCast]; simp
  clear hq
  have HV2 : Hid (voteV 4 (digsN q K) = V) := Lib.hid (by have h := HV.out; rw [decV, hDV] at h; exact h)
  clear hDV
  have h0 : ((q : Int) == 0) = false := by simp; omega
  go_enter Tryz.func23, Tryz.ntmps23
  go_wp2
  go_loopw [6, 7] (fun v n wr => ∃ (j k : Nat) (A : Option Addr) (c0 : Nat) (l : List Int), v = .slice A j c0 ∧ n = .int .i64 k ∧ k ≤ 9223372036854775807 ∧ j ≤ 64 ∧ Hid (k * 2 ^ j ≤ 9223372036854775808) ∧ Hid (l ++ digsN q k = digsN q K) ∧ OwnI wr (w.heap.size + 1) 3 A j c0 l ∧ Ext w wr ∧ Blk wr w.heap.size 25 #[.int .i64 4, .int .i64 BN, .int .i64 c, .int .i64 d, .int .i64 f]) (fun _ n _ => (intOf n).toNat)
  case atStart => exact ⟨0, K, _, 0, [], rfl, rfl, hK, by omega, (by show K * 2 ^ 0 ≤ _; rw [Nat.pow_zero]; omega), rfl, ownI_lit [] rfl (by simp) (by simp) (Nat.zero_le _), hE.alloc _, Bz.alloc _⟩
  case round =>
    clear hE Bz C
    obtain ⟨j, k, A', c', l, rfl, rfl, hk, hj, HP, HI, hO, hE, Bz⟩ := hrel
    have C := Bz.cells
    by_cases hk0 : k = 0
    · subst hk0
      have hl0 := HI.out
      rw [digsN_zero, List.append_nil] at hl0
      rw [hl0] at hO
      have HRNG := Lib.hid (digsN_rng (b := q) (n := K) (by omega))
      clear hl0 HI HP
      replace HRNG : Hid (∀ x ∈ digsN q K, 0 ≤ x ∧ x ≤ 1000000) := Lib.hid (fun x hx => by have := HRNG.out x hx; omega)
      generalize digsN q K = D at *
      go_wp2_with fail
      refine wp_loop_rounds 1 ?_
      rw [rounds_succ]
      have hsw := hE.size
      go_wp2_with fail
      refine (voteOf_4 _ _ _ _ _ _ _ _ _ hO.rd hO.len (by omega) HRNG.out).mono ?_
      rintro e w5 ⟨A5, n5, c5, rfl, hO5, hn5, hb⟩
      rw [HV2.out] at hO5
      replace hE := hE.trans hb
      replace Bz := Bz.ext hb
      have hO : OwnI w5 w.heap.size 3 A5 n5 c5 V := hO5.more hsw
      clear hb C hO5 HRNG hsw
      have hlen := hO.len
      have hcap := hO.cap
      have HLEN := Lib.hid hlen
      clear hlen
      have Cz := Bz.cells
      cases hv : voteB 4 (BN : Int) c d f V
      · have hr : decR 4 (BN : Int) c d f K = none := by
          unfold decR decG
          rw [Int.toNat_natCast, HV.out, hv]
          simp
        have HR := Lib.hid hr
        clear hr
        go_wp2_with fail
        refine (isVote_any _ _ _ _ _ _ _ _ V _ HH.out hO.rd HLEN.out (by omega) hcap).mono ?_
        rintro e w3 ⟨he, hb⟩
        rw [hv] at he; subst he
        clear hv
        go_wp2
        go_ret2
        rw [HR.out]
        exact ⟨_, _, _, rfl, OwnI.nil _ _ _, hE.trans hb⟩
      · have HVV := Lib.hid hv
        clear hv
        by_cases hc : codeV 4 (BN : Int) f V = (K : Int)
        · have hr : decR 4 (BN : Int) c d f K = some V := by
            unfold decR decG
            rw [Int.toNat_natCast, HV.out, HVV.out, HH.out]
            simp [hc]
          have HR := Lib.hid hr
          have hne : (codeV 4 (BN : Int) f V != (K : Int)) = false := by simp [hc]
          clear hr hc
          go_wp2_with fail
          refine (isVote_any _ _ _ _ _ _ _ _ V _ HH.out hO.rd HLEN.out (by omega) hcap).mono ?_
          rintro e w3 ⟨he, hb⟩
          rw [HVV.out] at he; subst he
          replace hE := hE.trans hb
          replace hO := hO.ext hb
          replace Bz := Bz.ext hb
          clear Cz hb
          have Cz := Bz.cells
          go_wp2_with fail
          refine (code_any _ BN _ _ _ _ _ _ V _ HH.out HVV.out hO.rd HLEN.out).mono ?_
          rintro e w4 ⟨rfl, hb⟩
          go_wp2
          go_ret2
          rw [HR.out]
          exact ⟨_, _, _, rfl, hO.ext hb, hE.trans hb⟩
        · have hr : decR 4 (BN : Int) c d f K = none := by
            unfold decR decG
            rw [Int.toNat_natCast, HV.out]
            simp [hc]
          have HR := Lib.hid hr
          have hne : (codeV 4 (BN : Int) f V != (K : Int)) = true := by simp [hc]
          clear hr hc
          go_wp2_with fail
          refine (isVote_any _ _ _ _ _ _ _ _ V _ HH.out hO.rd HLEN.out (by omega) hcap).mono ?_
          rintro e w3 ⟨he, hb⟩
          rw [HVV.out] at he; subst he
          replace hE := hE.trans hb
          replace hO := hO.ext hb
          replace Bz := Bz.ext hb
          clear Cz hb
          have Cz := Bz.cells
          go_wp2_with fail
          refine (code_any _ BN _ _ _ _ _ _ V _ HH.out HVV.out hO.rd HLEN.out).mono ?_
          rintro e w4 ⟨rfl, hb⟩
          go_wp2
          go_ret2
          rw [HR.out]
          exact ⟨_, _, _, rfl, OwnI.nil _ _ _, hE.trans hb⟩
    · have hj2 : j ≤ 63 := digs_few (by omega) HP.out
      have HD : Hid (k / q < k) := Nat.div_lt_self (by omega) (by omega)
      have hkq : k / q ≤ 9223372036854775807 := Nat.le_trans (Nat.div_le_self _ _) hk
      have HS := Lib.hid (digsN_step (b := q) (by omega) hk0)
      have hq1 : 0 ≤ (k : Int) / q ∧ (k : Int) / q ≤ 9223372036854775807 := ⟨by rw [← Int.natCast_ediv]; exact Int.natCast_nonneg _, by omega⟩
      have HP2 := Lib.hid (digs_half (b := q) (by omega) HP.out)
      have hkz : (0 : Int) < k := by omega
      have hj64 : (j : Int) < 64 := by omega
      clear hk0
      go_wp2_with fail
      refine (base_any _ _ _ _ _ _ HH.out).mono ?_
      rintro e w2 ⟨he, hb⟩
      rw [HQ.out] at he; subst he
      replace hO := hO.ext hb
      replace Bz := Bz.ext hb
      replace hE := hE.trans hb
      clear hb C
      have hsz : w.heap.size + 1 ≤ w2.heap.size := Bz.lt
      go_wp2_with (at_builtin; refine wpList_app1 intSl rfl _ _ rfl hO rfl rfl (by omega) hsz ?_; intro A2 c2 w3 hO2 hb2; replace Bz := Bz.below hb2 (by omega); have C2 := Bz.cells)
      refine (base_any _ _ _ _ _ _ HH.out).mono ?_
      rintro e w4 ⟨he, hb⟩
      rw [HQ.out] at he; subst he
      go_wp2
      go_roundw
      case rel =>
        refine ⟨j + 1, k / q, A2, c2, _, rfl, by go_num, hkq, by omega, HP2.out, ?_, hO2.ext hb, (hE.then hb2 (Nat.le_succ _)).trans hb, Bz.ext hb⟩
        rw [Hid, List.append_assoc, ← HI.out, HS.out]
        simp
      case measure =>
        have h1 := HD.out
        simp only [intOf]
        rw [← Int.natCast_ediv]
        omega

theorem decode_any (a b c d f code : Int) (w : World) (hf : Fits code) (h : validCt a b c d f = true) :
    Calls Tryz.prog 23 #[.agg #[.int .i64 a, .int .i64 b, .int .i64 c, .int .i64 d, .int .i64 f], .int .i64 code] w fun e w' => ResI 3 w (decR a b c d f code) e w' := by
  by_cases hn : code < 0
  · exact decode_neg a b c d f code w hn h
  obtain ⟨K, rfl⟩ := Int.eq_ofNat_of_zero_le (show 0 ≤ code by omega)
  have hK := fits_nat hf
  rcases (valid_kind h).1 with rfl | rfl | rfl | rfl
  · exact decode_1 b c d f K w h hK
  · exact decode_2 b c d f K w h hK
  · exact decode_3 b c d f K w h hK
  · exact decode_4 b c d f K w h hK

set_option maxHeartbeats 1000000 in
theorem iDecodeVote_any (a b c d f code : Int) (w : World) (hf : Fits code) :
    Calls Tryz.prog 8 #[.agg #[.int .i64 a, .int .i64 b, .int .i64 c, .int .i64 d, .int .i64 f], .int .i64 code] w fun e w' => ResI 3 w (decR a b c d f code) e w' := by
  have hE := (Ext.refl w).alloc (.cells #[.int .i64 a, .int .i64 b, .int .i64 c, .int .i64 d, .int .i64 f] 25)
  cases h : validCt a b c d f
  · have hr : decR a b c d f code = none := by simp [decR, decG, h]
    rw [hr]; clear hr
    go_enter Tryz.func8, Tryz.ntmps8
    go_wp2_with fail
    refine (IsValidContest_any _ _ _ _ _ _).mono ?_
    rintro e w1 ⟨he, hb⟩
    rw [h] at he; subst he
    go_wp2
    go_ret2
    exact ⟨_, _, _, rfl, OwnI.nil _ _ _, hE.trans hb⟩
  · have H := Lib.hid h
    clear h
    go_enter Tryz.func8, Tryz.ntmps8
    go_wp2_with fail
    refine (IsValidContest_any _ _ _ _ _ _).mono ?_
    rintro e w1 ⟨he, hb⟩
    rw [H.out] at he; subst he
    have Bz := (Blk.new w 25 _).ext hb
    replace hE := hE.trans hb
    clear hb
    have C := Bz.cells
    go_wp2_with fail
    refine (decode_any a b c d f code _ hf H.out).mono ?_
    rintro e w2 ⟨A, n, k, rfl, hO, hb⟩
    go_wp2
    go_ret2
    exact ⟨_, _, _, rfl, hO.more hE.size, hE.trans hb⟩
end Go.Proofs.YtnekpofaflpmdaaGreatDoor
