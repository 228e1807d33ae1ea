/- Contracts for CountVotes, all kinds: the program's and the reference's. -/
import Derived.Test.YticimniegecfeaaProg
import Derived.Test.YticimniegecfeaaCnt
namespace Go.Proofs.Yticimniegecfeaa
open Go.RowKit


set_option maxRecDepth 100000 in
set_option maxHeartbeats 4000000 in
theorem iCount1 (o c d : Nat) (p : Int) (w : World) (ho : o ≤ 8) (hd : d ≤ o) (hcd : c ≤ d) (hv : validCt 1 o c d p = true) :
    Calls Try.prog 85 #[.agg #[.int .i64 1, .int .i64 o, .int .i64 c, .int .i64 d, .int .i64 p]] w fun e w' => e = .returned (.tuple #[.int .i64 (sumF (binW o) c (d + 1)), .bool true]) ∧ Ext w w' := by
  have hE := (Ext.refl w).alloc (.cells #[.int .i64 1, .int .i64 o, .int .i64 c, .int .i64 d, .int .i64 p] 94)
  have HV := Lib.hid hv
  clear hv
  go_enter Try.func85, Try.ntmps85
  go_wp2_with fail
  refine (IsValidContest_any _ _ _ _ _ _).mono ?_
  rintro e w1 ⟨he, hb⟩
  rw [HV.out] at he; subst he
  have C := ((Blk.new w 94 #[.int .i64 1, .int .i64 o, .int .i64 c, .int .i64 d, .int .i64 p]).ext hb).cells
  replace hE := hE.trans hb
  clear hb
  go_wp2
  go_loop [4, 5] (fun q i => ∃ k : Nat, c ≤ k ∧ k ≤ d + 1 ∧ i = .int .i64 k ∧ q = .int .i64 (sumF (binW o) c k)) (fun _ i => d + 1 - (intOf i).toNat)
  case atStart => exact ⟨c, Nat.le_refl _, by omega, rfl, by rw [sumF_low _ _ _ (Nat.le_refl _)]⟩
  case round =>
    obtain ⟨k, hck, hk, rfl, rfl⟩ := hrel
    by_cases hkd : k ≤ d
    · have hsum := sumF_bd (W := (binW o)) (M := 1000000000) c k (fun i hi => by have := binW_bd ho (show i ≤ o by omega); omega) (by omega)
      have hsm : (k : Int) * 1000000000 ≤ 10 * 1000000000 := by omega
      have hst : sumF (binW o) c (k + 1) = sumF (binW o) c k + if c ≤ k then binW o k else 0 := rfl
      rw [if_pos hck] at hst
      have HST := Lib.hid hst
      clear hst
      generalize sumF (binW o) c k = q at *
      have hq1 : 0 ≤ q := hsum.1
      have hq2 : q ≤ 10000000000 := by omega
      clear hsum hsm
      go_wp2
      go_loop [6, 25] (fun v i => ∃ t : Nat, t ≤ k ∧ i = .int .i64 t ∧ v = .int .i64 (binW o t)) (fun _ i => k - (intOf i).toNat)
      case atStart => exact ⟨0, Nat.zero_le _, rfl, rfl⟩
      case round =>
        obtain ⟨t, ht, rfl, rfl⟩ := hrel
        have hb1 := binW_bd ho (show t ≤ o by omega)
        by_cases htk : t < k
        · have hw : binW o (t + 1) = binW o t * ((o : Int) - t) / (t + 1) := rfl
          have HW := Lib.hid hw
          clear hw
          have hm := binW_mid ho (show t < o by omega)
          have hz : (((t : Int) + 1) == 0) = false := by simp; omega
          generalize binW o t = x at *
          go_wp2
          go_round
          case rel => exact ⟨t + 1, by omega, by go_num, by rw [HW.out]⟩
          case measure => simp [intOf]; omega
        · obtain rfl : t = k := by omega
          generalize binW o t = x at *
          go_wp2
          go_round
          case rel => exact ⟨t + 1, by omega, by omega, by go_num, by rw [HST.out]⟩
          case measure => simp [intOf]; omega
    · obtain rfl : k = d + 1 := by omega
      go_wp2
      go_ret2
      exact ⟨rfl, hE⟩

set_option maxRecDepth 100000 in
set_option maxHeartbeats 4000000 in
theorem iCount3 (o c d : Nat) (p : Int) (w : World) (ho : o ≤ 8) (hd : d ≤ o) (hcd : c ≤ d) (hv : validCt 3 o c d p = true) :
    Calls Try.prog 85 #[.agg #[.int .i64 3, .int .i64 o, .int .i64 c, .int .i64 d, .int .i64 p]] w fun e w' => e = .returned (.tuple #[.int .i64 (sumF (rkW o) c (d + 1)), .bool true]) ∧ Ext w w' := by
  have hE := (Ext.refl w).alloc (.cells #[.int .i64 3, .int .i64 o, .int .i64 c, .int .i64 d, .int .i64 p] 94)
  have HV := Lib.hid hv
  clear hv
  go_enter Try.func85, Try.ntmps85
  go_wp2_with fail
  refine (IsValidContest_any _ _ _ _ _ _).mono ?_
  rintro e w1 ⟨he, hb⟩
  rw [HV.out] at he; subst he
  have C := ((Blk.new w 94 #[.int .i64 3, .int .i64 o, .int .i64 c, .int .i64 d, .int .i64 p]).ext hb).cells
  replace hE := hE.trans hb
  clear hb
  go_wp2
  go_loop [4, 5] (fun q i => ∃ k : Nat, c ≤ k ∧ k ≤ d + 1 ∧ i = .int .i64 k ∧ q = .int .i64 (sumF (rkW o) c k)) (fun _ i => d + 1 - (intOf i).toNat)
  case atStart => exact ⟨c, Nat.le_refl _, by omega, rfl, by rw [sumF_low _ _ _ (Nat.le_refl _)]⟩
  case round =>
    obtain ⟨k, hck, hk, rfl, rfl⟩ := hrel
    by_cases hkd : k ≤ d
    · have hsum := sumF_bd (W := (rkW o)) (M := 1000000000) c k (fun i hi => by have := rkW_bd ho (show i ≤ o + 1 by omega); omega) (by omega)
      have hsm : (k : Int) * 1000000000 ≤ 10 * 1000000000 := by omega
      have hst : sumF (rkW o) c (k + 1) = sumF (rkW o) c k + if c ≤ k then rkW o k else 0 := rfl
      rw [if_pos hck] at hst
      have HST := Lib.hid hst
      clear hst
      generalize sumF (rkW o) c k = q at *
      have hq1 : 0 ≤ q := hsum.1
      have hq2 : q ≤ 10000000000 := by omega
      clear hsum hsm
      go_wp2
      go_loop [6, 25] (fun v i => ∃ t : Nat, t ≤ k ∧ i = .int .i64 t ∧ v = .int .i64 (rkW o t)) (fun _ i => k - (intOf i).toNat)
      case atStart => exact ⟨0, Nat.zero_le _, rfl, rfl⟩
      case round =>
        obtain ⟨t, ht, rfl, rfl⟩ := hrel
        have hb1 := rkW_bd ho (show t ≤ o + 1 by omega)
        by_cases htk : t < k
        · have hw : rkW o (t + 1) = rkW o t * ((o : Int) - t) := rfl
          have HW := Lib.hid hw
          clear hw
          have hm1 : 0 ≤ rkW o t * ((o : Int) - t) := Int.mul_nonneg hb1.1 (by omega)
          have hm2 : rkW o t * ((o : Int) - t) ≤ 100000 * 8 := Int.mul_le_mul hb1.2 (by omega) (by omega) (by omega)
          generalize rkW o t = x at *
          go_wp2
          go_round
          case rel => exact ⟨t + 1, by omega, by go_num, by rw [HW.out]⟩
          case measure => simp [intOf]; omega
        · obtain rfl : t = k := by omega
          generalize rkW o t = x at *
          go_wp2
          go_round
          case rel => exact ⟨t + 1, by omega, by omega, by go_num, by rw [HST.out]⟩
          case measure => simp [intOf]; omega
    · obtain rfl : k = d + 1 := by omega
      go_wp2
      go_ret2
      exact ⟨rfl, hE⟩

set_option maxRecDepth 100000 in
set_option maxHeartbeats 4000000 in
theorem iCount4 (o c d : Nat) (p : Int) (w : World) (hd : d ≤ 5) (hcd : c ≤ d) (hv : validCt 4 o c d p = true) :
    Calls Try.prog 85 #[.agg #[.int .i64 4, .int .i64 o, .int .i64 c, .int .i64 d, .int .i64 p]] w fun e w' => e = .returned (.tuple #[.int .i64 (sumF wrW c (d + 1)), .bool true]) ∧ Ext w w' := by
  have hE := (Ext.refl w).alloc (.cells #[.int .i64 4, .int .i64 o, .int .i64 c, .int .i64 d, .int .i64 p] 94)
  have HV := Lib.hid hv
  clear hv
  go_enter Try.func85, Try.ntmps85
  go_wp2_with fail
  refine (IsValidContest_any _ _ _ _ _ _).mono ?_
  rintro e w1 ⟨he, hb⟩
  rw [HV.out] at he; subst he
  have C := ((Blk.new w 94 #[.int .i64 4, .int .i64 o, .int .i64 c, .int .i64 d, .int .i64 p]).ext hb).cells
  replace hE := hE.trans hb
  clear hb
  go_wp2
  go_loop [4, 5] (fun q i => ∃ k : Nat, c ≤ k ∧ k ≤ d + 1 ∧ i = .int .i64 k ∧ q = .int .i64 (sumF wrW c k)) (fun _ i => d + 1 - (intOf i).toNat)
  case atStart => exact ⟨c, Nat.le_refl _, by omega, rfl, by rw [sumF_low _ _ _ (Nat.le_refl _)]⟩
  case round =>
    obtain ⟨k, hck, hk, rfl, rfl⟩ := hrel
    by_cases hkd : k ≤ d
    · have hsum := sumF_bd (W := wrW) (M := 1000000000) c k (fun i hi => by have := wrW_bd (show i ≤ 6 by omega); omega) (by omega)
      have hsm : (k : Int) * 1000000000 ≤ 10 * 1000000000 := by omega
      have hst : sumF wrW c (k + 1) = sumF wrW c k + if c ≤ k then wrW k else 0 := rfl
      rw [if_pos hck] at hst
      have HST := Lib.hid hst
      clear hst
      generalize sumF wrW c k = q at *
      have hq1 : 0 ≤ q := hsum.1
      have hq2 : q ≤ 10000000000 := by omega
      clear hsum hsm
      go_wp2
      go_loop [6, 25] (fun v i => ∃ t : Nat, t ≤ k ∧ i = .int .i64 t ∧ v = .int .i64 (wrW t)) (fun _ i => k - (intOf i).toNat)
      case atStart => exact ⟨0, Nat.zero_le _, rfl, rfl⟩
      case round =>
        obtain ⟨t, ht, rfl, rfl⟩ := hrel
        have hb1 := wrW_bd (show t ≤ 6 by omega)
        by_cases htk : t < k
        · have hw : wrW (t + 1) = wrW t * 26 := rfl
          have HW := Lib.hid hw
          clear hw
          generalize wrW t = x at *
          go_wp2
          go_round
          case rel => exact ⟨t + 1, by omega, by go_num, by rw [HW.out]⟩
          case measure => simp [intOf]; omega
        · obtain rfl : t = k := by omega
          generalize wrW t = x at *
          go_wp2
          go_round
          case rel => exact ⟨t + 1, by omega, by omega, by go_num, by rw [HST.out]⟩
          case measure => simp [intOf]; omega
    · obtain rfl : k = d + 1 := by omega
      go_wp2
      go_ret2
      exact ⟨rfl, hE⟩

noncomputable def cvVal (a b c d f : Int) : Int := if validCt a b c d f then cntV a b.toNat c.toNat d.toNat f.toNat else 0
theorem valid_more {a : Int} {b c d f : Nat} (h : validCt a b c d f = true) : c ≤ d ∧ b ≤ 8 ∧ f ≤ 5 ∧ (a = 1 → d ≤ b) ∧ (a = 2 → d ≤ b * f) ∧ (a = 3 → d ≤ b) ∧ (a = 4 → d ≤ 5) := by
  obtain ⟨_, h2, h3, h4, h5, _⟩ := valid_kind h
  rw [validCt_iff] at h
  obtain ⟨g1, g2, g3⟩ := h
  refine ⟨by omega, by omega, by omega, fun e => ?_, fun e => ?_, fun e => ?_, fun e => ?_⟩
  · subst e; omega
  · subst e
    have hm : (b : Int) * f ≤ 8 * 5 := Int.mul_le_mul h3 h5 (by omega) (by omega)
    have hm0 : 0 ≤ (b : Int) * f := Int.mul_nonneg (by omega) (by omega)
    have hw : wrap64 ((b : Int) * f) = (b : Int) * f := by simp only [wrap64]; omega
    rw [hw] at g3
    have hc : ((b * f : Nat) : Int) = (b : Int) * f := Int.natCast_mul _ _
    omega
  · subst e; omega
  · subst e; omega
set_option maxHeartbeats 1000000 in
theorem vCount_any (a : Int) (b c d f : Nat) (w : World) (h : validCt a b c d f = true) :
    Calls Try.prog 185 #[.agg #[.int .i64 a, .int .i64 b, .int .i64 c, .int .i64 d, .int .i64 f]] w fun e w' => e = .returned (.int .i64 (cntV a b c d f)) ∧ Ext w w' := by
  obtain ⟨h0, _⟩ := valid_kind h
  obtain ⟨h1, h2, h3, h4, h5, h6, h7⟩ := valid_more h
  rcases h0 with rfl | rfl | rfl | rfl
  · exact vCount1 b c d f w h2 h1 (by have := h4 rfl; omega)
  · exact vCount2 b c d f w h2 h3 h1 (h5 rfl)
  · exact vCount3 b c d f w h2 (h6 rfl)
  · exact vCount4 b c d f w (h7 rfl)
set_option maxHeartbeats 1000000 in
theorem sCountVotes_any (a b c d f : Int) (w : World) :
    Calls Try.prog 86 #[.agg #[.int .i64 a, .int .i64 b, .int .i64 c, .int .i64 d, .int .i64 f]] w fun e w' => e = .returned (.tuple #[.int .i64 (cvVal a b c d f), .bool (validCt a b c d f)]) ∧ Ext w w' := by
  have hE := (Ext.refl w).alloc (.cells #[.int .i64 a, .int .i64 b, .int .i64 c, .int .i64 d, .int .i64 f] 94)
  cases h : validCt a b c d f
  · have hv : cvVal a b c d f = 0 := by simp [cvVal, h]
    rw [hv]; clear hv
    go_enter Try.func86, Try.ntmps86
    go_wp2_with fail
    refine (vContest_any _ _ _ _ _ _).mono ?_
    rintro e w1 ⟨he, hb⟩
    rw [h] at he; subst he
    go_wp2
    go_ret2
    exact ⟨rfl, hE.trans hb⟩
  · have hv : cvVal a b c d f = cntV a b.toNat c.toNat d.toNat f.toNat := by simp [cvVal, h]
    rw [hv]; clear hv
    obtain ⟨_, q2, _, q4, _, q6, _, q8, _⟩ := valid_kind h
    obtain ⟨B, rfl⟩ := Int.eq_ofNat_of_zero_le q2
    obtain ⟨F, rfl⟩ := Int.eq_ofNat_of_zero_le q4
    obtain ⟨CC, rfl⟩ := Int.eq_ofNat_of_zero_le q6
    obtain ⟨D, rfl⟩ := Int.eq_ofNat_of_zero_le q8
    simp only [Int.toNat_natCast]
    have H := Lib.hid h
    clear h q2 q4 q6 q8
    go_enter Try.func86, Try.ntmps86
    go_wp2_with fail
    refine (vContest_any _ _ _ _ _ _).mono ?_
    rintro e w1 ⟨he, hb⟩
    rw [H.out] at he; subst he
    have C := ((Blk.new w 94 _).ext hb).cells
    have E := hE.trans hb
    clear hb
    go_wp2_with fail
    refine (vCount_any a B CC D F _ H.out).mono ?_
    rintro e w2 ⟨rfl, hb⟩
    go_wp2
    go_ret2
    exact ⟨rfl, E.trans hb⟩
set_option maxHeartbeats 1000000 in
theorem iCountVotes_any (a b c d f : Int) (w : World) :
    Calls Try.prog 85 #[.agg #[.int .i64 a, .int .i64 b, .int .i64 c, .int .i64 d, .int .i64 f]] w fun e w' => e = .returned (.tuple #[.int .i64 (cvVal a b c d f), .bool (validCt a b c d f)]) ∧ Ext w w' := by
  have hE := (Ext.refl w).alloc (.cells #[.int .i64 a, .int .i64 b, .int .i64 c, .int .i64 d, .int .i64 f] 94)
  cases h : validCt a b c d f
  · have hv : cvVal a b c d f = 0 := by simp [cvVal, h]
    rw [hv]; clear hv
    go_enter Try.func85, Try.ntmps85
    go_wp2_with fail
    refine (IsValidContest_any _ _ _ _ _ _).mono ?_
    rintro e w1 ⟨he, hb⟩
    rw [h] at he; subst he
    go_wp2
    go_ret2
    exact ⟨rfl, hE.trans hb⟩
  · have hv : cvVal a b c d f = cntV a b.toNat c.toNat d.toNat f.toNat := by simp [cvVal, h]
    rw [hv]; clear hv
    obtain ⟨q1, q2, _, q4, _, q6, _, q8, _⟩ := valid_kind h
    obtain ⟨B, rfl⟩ := Int.eq_ofNat_of_zero_le q2
    obtain ⟨F, rfl⟩ := Int.eq_ofNat_of_zero_le q4
    obtain ⟨CC, rfl⟩ := Int.eq_ofNat_of_zero_le q6
    obtain ⟨D, rfl⟩ := Int.eq_ofNat_of_zero_le q8
    simp only [Int.toNat_natCast]
    obtain ⟨h1, h2, h3, h4, h5, h6, h7⟩ := valid_more h
    clear q2 q4 q6 q8
    rcases q1 with rfl | rfl | rfl | rfl
    · have he : cntV 1 B CC D F = sumF (binW B) CC (D + 1) := by
        have hd := h4 rfl
        show sumF (fun i => (scoresAt 1 B).getD i 0) CC (D + 1) = _
        exact (sumF_congr CC _ fun i hi => bin_scores h2 (by omega)).symm
      rw [he]
      exact iCount1 B CC D F w h2 (h4 rfl) h1 h
    · have hd := h5 rfl
      have H := Lib.hid h
      clear h h4 h5 h6 h7
      have hcv : cntV 2 B CC D F = sumF (fun i => (scoresAt F B).getD i 0) CC (D + 1) := rfl
      rw [hcv]
      clear hcv
      go_enter Try.func85, Try.ntmps85
      go_wp2_with fail
      refine (IsValidContest_any _ _ _ _ _ _).mono ?_
      rintro e w1 ⟨he, hb⟩
      rw [H.out] at he; subst he
      have C := ((Blk.new w 94 _).ext hb).cells
      have E := hE.trans hb
      clear hb
      go_wp2_with fail
      refine (countSums_any _ B CC D F _ h2 h3 hd).mono ?_
      rintro e w2 ⟨rfl, hb⟩
      go_wp2
      go_ret2
      exact ⟨rfl, E.trans hb⟩
    · exact iCount3 B CC D F w h2 (h6 rfl) h1 h
    · exact iCount4 B CC D F w (h7 rfl) h1 h
end Go.Proofs.Yticimniegecfeaa
