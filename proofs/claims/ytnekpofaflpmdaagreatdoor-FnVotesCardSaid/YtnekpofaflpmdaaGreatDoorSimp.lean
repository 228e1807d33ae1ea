/- Contracts for SimplestVote: the program's and the reference's. -/
import Derived.Test.YtnekpofaflpmdaaGreatDoorProg
import Derived.Test.YtnekpofaflpmdaaGreatDoorCon
import Derived.Test.YtnekpofaflpmdaaGreatDoorEq
namespace Go.Proofs.YtnekpofaflpmdaaGreatDoor
open Go.RowKit

theorem ct_iota_succ (j : Nat) : iota 0 j ++ [(j : Int)] = iota 0 (j + 1) := by rw [iota_succ]; simp
def dn (c : Int) (j : Nat) : List Int := (List.range j).map fun i : Nat => c - 1 - i
theorem dn_succ (c : Int) (j : Nat) : dn c j ++ [c - 1 - j] = dn c (j + 1) := by simp [dn, List.range_succ]
theorem dn_length (c : Int) (j : Nat) : (dn c j).length = j := by simp [dn]
theorem ones_succ (j : Nat) : List.replicate j (1 : Int) ++ [1] = List.replicate (j + 1) 1 := by rw [List.replicate_succ']
def grR (f c : Int) : Nat → Int
  | 0 => c
  | j + 1 => grR f c j - (if grR f c j < f then grR f c j else f)
def grL (f c : Int) : Nat → List Int
  | 0 => []
  | j + 1 => grL f c j ++ [if grR f c j < f then grR f c j else f]
theorem grL_length (f c : Int) : ∀ j, (grL f c j).length = j
  | 0 => rfl
  | j + 1 => by simp [grL, grL_length f c j]
theorem grR_bd {f c : Int} (hc : 0 ≤ c) (hf : 1 ≤ f) : ∀ j, 0 ≤ grR f c j ∧ grR f c j ≤ c
  | 0 => ⟨hc, Int.le_refl _⟩
  | j + 1 => by
    have := grR_bd hc hf j
    rw [grR]
    split <;> omega
/-- The simplest vote of a valid contest. -/
def simpL (a b c f : Int) : List Int := if a = 1 then iota 0 c.toNat else if a = 3 then dn c c.toNat else if a = 4 then List.replicate c.toNat 1 else grL f c b.toNat
def simpR (a b c d f : Int) : Option (List Int) := if validCt a b c d f then some (simpL a b c f) else none
theorem simpR_bd (a b c d f : Int) : ((simpR a b c d f).getD []).length ≤ 100000 := by
  unfold simpR
  split
  · rename_i h
    rw [validCt_iff] at h
    simp only [Option.getD_some, simpL]
    split
    · rw [iota_length]; omega
    · split
      · rw [dn_length]; omega
      · split
        · rw [List.length_replicate]; omega
        · rw [grL_length]; omega
  · simp
theorem wrap_bf {b f : Int} (hb : 1 ≤ b ∧ b ≤ 8) (hf : 1 ≤ f ∧ f ≤ 5) : wrap64 (b * f) ≤ 40 := by
  have h1 : b * f ≤ 8 * 5 := Int.mul_le_mul hb.2 hf.2 (by omega) (by omega)
  have h0 : 0 ≤ b * f := Int.mul_nonneg (by omega) (by omega)
  unfold wrap64
  omega

set_option maxHeartbeats 400000 in
theorem l1Least_any (x y : Int) (w : World) : Calls Tryz.prog 83 #[.int .i64 x, .int .i64 y] w fun e w' => e = .returned (.int .i64 (if x < y then x else y)) ∧ w = w' := by
  by_cases h : x < y
  · rw [if_pos h]
    go_enter Tryz.func83, Tryz.ntmps83
    go_wp2
    go_ret
    exact ⟨rfl, rfl⟩
  · rw [if_neg h]
    go_enter Tryz.func83, Tryz.ntmps83
    go_wp2
    go_ret
    exact ⟨rfl, rfl⟩



set_option maxHeartbeats 2000000 in
theorem iSimplestVote_any (a b c d f : Int) (w : World) :
    Calls Tryz.prog 11 #[.agg #[.int .i64 a, .int .i64 b, .int .i64 c, .int .i64 d, .int .i64 f]] w fun e w' => ResI 3 w (simpR a b c d f) e w' := by
  cases h : validCt a b c d f
  · have hr : simpR a b c d f = none := by simp [simpR, h]
    rw [hr]; clear hr
    go_enter Tryz.func11, Tryz.ntmps11
    go_wp2_with fail
    refine (IsValidContest_any _ _ _ _ _ _).mono ?_
    rintro e w1 ⟨rfl, hb⟩
    go_wp2_with fail
    go_ret2
    exact ⟨_, _, _, rfl, OwnI.nil _ _ _, ((Ext.refl w).alloc _).trans hb⟩
  · have hr : simpR a b c d f = some (simpL a b c f) := by simp [simpR, h]
    rw [hr]; clear hr
    have H := Lib.hid h
    rw [validCt_iff] at h
    obtain ⟨h0, h1, ⟨rfl | rfl, hb1, hb2, hd, rfl⟩ | ⟨rfl, hb1, hb2, hf1, hf2, hd⟩ | ⟨rfl, rfl, hd, rfl⟩⟩ := h
    · obtain ⟨N, rfl⟩ := Int.eq_ofNat_of_zero_le (show 0 ≤ c by omega)
      have hs : simpL 1 b N 0 = iota 0 N := by simp [simpL]
      rw [hs]; clear hs
      go_enter Tryz.func11, Tryz.ntmps11
      go_wp2_with fail
      refine (IsValidContest_any _ _ _ _ _ _).mono ?_
      rintro e w1 ⟨he, hb⟩
      rw [H.out] at he; subst he
      have B := (Blk.new w 25 #[.int .i64 1, .int .i64 b, .int .i64 N, .int .i64 d, .int .i64 0]).ext hb
      have E := ((Ext.refl w).alloc (.cells #[.int .i64 1, .int .i64 b, .int .i64 N, .int .i64 d, .int .i64 0] 25)).trans hb
      clear hb
      have C := (B.ext ((Ext.refl w1).alloc (.cells #[] 3))).cells
      go_wp2_with fail
      go_loopw [4, 37] (fun v i wr => ∃ (j : Nat) (A' : Option Addr) (c' : Nat), j ≤ N ∧ i = .int .i64 j ∧ v = .slice A' j c' ∧ OwnI wr w1.heap.size 3 A' j c' (iota 0 j) ∧ Ext w1 wr) (fun v i _ => N - (intOf i).toNat)
      case atStart => exact ⟨0, _, _, Nat.zero_le _, rfl, rfl, ownI_lit [] rfl rfl (Nat.le_refl _) (Nat.zero_le _), (Ext.refl _).alloc _⟩
      case round =>
        obtain ⟨j, A', c', hj, rfl, rfl, hO, hE⟩ := hrel
        have hsz := hE.size
        have C := (B.ext hE).cells
        by_cases hlt : j < N
        · go_wp2_with (at_builtin; refine wpList_app1 intSl rfl _ _ rfl hO rfl rfl (by omega) hsz ?_; intro A2 c2 w2 hO2 hbB)
          rw [ct_iota_succ] at hO2
          go_roundw
          case rel => exact ⟨j + 1, A2, c2, by omega, by go_num, rfl, hO2, hE.then hbB (Nat.le_refl _)⟩
          case measure => simp [intOf]; omega
        · obtain rfl : j = N := by omega
          go_wp2_with fail
          go_ret2
          exact ⟨_, _, _, rfl, hO.more E.size, E.trans hE⟩
    · obtain ⟨N, rfl⟩ := Int.eq_ofNat_of_zero_le (show 0 ≤ c by omega)
      have hs : simpL 3 b N 0 = dn N N := by simp [simpL]
      rw [hs]; clear hs
      go_enter Tryz.func11, Tryz.ntmps11
      go_wp2_with fail
      refine (IsValidContest_any _ _ _ _ _ _).mono ?_
      rintro e w1 ⟨he, hb⟩
      rw [H.out] at he; subst he
      have B := (Blk.new w 25 #[.int .i64 3, .int .i64 b, .int .i64 N, .int .i64 d, .int .i64 0]).ext hb
      have E := ((Ext.refl w).alloc (.cells #[.int .i64 3, .int .i64 b, .int .i64 N, .int .i64 d, .int .i64 0] 25)).trans hb
      clear hb
      have C := (B.ext ((Ext.refl w1).alloc (.cells #[] 3))).cells
      go_wp2_with fail
      go_loopw [4, 49] (fun v i wr => ∃ (j : Nat) (A' : Option Addr) (c' : Nat), j ≤ N ∧ i = .int .i64 j ∧ v = .slice A' j c' ∧ OwnI wr w1.heap.size 3 A' j c' (dn N j) ∧ Ext w1 wr) (fun v i _ => N - (intOf i).toNat)
      case atStart => exact ⟨0, _, _, Nat.zero_le _, rfl, rfl, ownI_lit [] rfl rfl (Nat.le_refl _) (Nat.zero_le _), (Ext.refl _).alloc _⟩
      case round =>
        obtain ⟨j, A', c', hj, rfl, rfl, hO, hE⟩ := hrel
        have hsz := hE.size
        have C := (B.ext hE).cells
        by_cases hlt : j < N
        · go_wp2_with (at_builtin; refine wpList_app1 intSl rfl _ _ rfl hO rfl rfl (by omega) hsz ?_; intro A2 c2 w2 hO2 hbB)
          rw [dn_succ] at hO2
          go_roundw
          case rel => exact ⟨j + 1, A2, c2, by omega, by go_num, rfl, hO2, hE.then hbB (Nat.le_refl _)⟩
          case measure => simp [intOf]; omega
        · obtain rfl : j = N := by omega
          go_wp2_with fail
          go_ret2
          exact ⟨_, _, _, rfl, hO.more E.size, E.trans hE⟩
    · obtain ⟨N, rfl⟩ := Int.eq_ofNat_of_zero_le (show 0 ≤ b by omega)
      have hs : simpL 2 N c f = grL f c N := by simp [simpL]
      rw [hs]; clear hs
      go_enter Tryz.func11, Tryz.ntmps11
      go_wp2_with fail
      refine (IsValidContest_any _ _ _ _ _ _).mono ?_
      rintro e w1 ⟨he, hb⟩
      rw [H.out] at he; subst he
      have B := (Blk.new w 25 #[.int .i64 2, .int .i64 N, .int .i64 c, .int .i64 d, .int .i64 f]).ext hb
      have E := ((Ext.refl w).alloc (.cells #[.int .i64 2, .int .i64 N, .int .i64 c, .int .i64 d, .int .i64 f] 25)).trans hb
      clear hb
      have C := (B.ext ((Ext.refl w1).alloc (.cells #[] 3))).cells
      go_wp2_with fail
      go_loopw [4, 7, 19] (fun v r i wr => ∃ (j : Nat) (A' : Option Addr) (c' : Nat), j ≤ N ∧ i = .int .i64 j ∧ r = .int .i64 (grR f c j) ∧ v = .slice A' j c' ∧ OwnI wr w1.heap.size 3 A' j c' (grL f c j) ∧ Ext w1 wr) (fun v r i _ => N - (intOf i).toNat)
      case atStart => exact ⟨0, _, _, Nat.zero_le _, rfl, rfl, rfl, ownI_lit [] rfl rfl (Nat.le_refl _) (Nat.zero_le _), (Ext.refl _).alloc _⟩
      case round =>
        obtain ⟨j, A', c', hj, rfl, rfl, rfl, hO, hE⟩ := hrel
        have hsz := hE.size
        have C := (B.ext hE).cells
        by_cases hlt : j < N
        · have hwb := wrap_bf (b := N) ⟨hb1, hb2⟩ ⟨hf1, hf2⟩
          have hg := grR_bd h0 (by omega : 1 ≤ f) j
          have g1 : grR f c (j + 1) = grR f c j - (if grR f c j < f then grR f c j else f) := rfl
          have g2 : grL f c (j + 1) = grL f c j ++ [if grR f c j < f then grR f c j else f] := rfl
          have hmb : 0 ≤ (if grR f c j < f then grR f c j else f) ∧ (if grR f c j < f then grR f c j else f) ≤ grR f c j := by split <;> omega
          have hmin : (if f < grR f c j then f else grR f c j) = (if grR f c j < f then grR f c j else f) := by split <;> split <;> omega
          have hgl := grL_length f c j
          generalize hmv : (if grR f c j < f then grR f c j else f) = mv at *
          have HM := Lib.hid hmv
          clear hmv
          generalize grR f c j = rv at *
          generalize grL f c j = gv at *
          have HG1 := Lib.hid g1
          have HG2 := Lib.hid g2
          clear g1 g2
          go_wp2_with (at_builtin; refine wpList_app1 intSl rfl _ _ rfl hO rfl rfl (by omega) hsz ?_; intro A2 c2 w2 hO2 hbB)
          go_roundw
          case rel => exact ⟨j + 1, A2, c2, by omega, by go_num, by rw [HG1.out], rfl, by rw [HG2.out]; exact hO2, hE.then hbB (Nat.le_refl _)⟩
          case measure => simp [intOf]; omega
        · obtain rfl : j = N := by omega
          go_wp2_with fail
          go_ret2
          exact ⟨_, _, _, rfl, hO.more E.size, E.trans hE⟩
    · obtain ⟨N, rfl⟩ := Int.eq_ofNat_of_zero_le (show 0 ≤ c by omega)
      have hs : simpL 4 0 N 0 = List.replicate N 1 := by simp [simpL]
      rw [hs]; clear hs
      go_enter Tryz.func11, Tryz.ntmps11
      go_wp2_with fail
      refine (IsValidContest_any _ _ _ _ _ _).mono ?_
      rintro e w1 ⟨he, hb⟩
      rw [H.out] at he; subst he
      have B := (Blk.new w 25 #[.int .i64 4, .int .i64 0, .int .i64 N, .int .i64 d, .int .i64 0]).ext hb
      have E := ((Ext.refl w).alloc (.cells #[.int .i64 4, .int .i64 0, .int .i64 N, .int .i64 d, .int .i64 0] 25)).trans hb
      clear hb
      have C := (B.ext ((Ext.refl w1).alloc (.cells #[] 3))).cells
      go_wp2_with fail
      go_loopw [4, 65] (fun v i wr => ∃ (j : Nat) (A' : Option Addr) (c' : Nat), j ≤ N ∧ i = .int .i64 j ∧ v = .slice A' j c' ∧ OwnI wr w1.heap.size 3 A' j c' (List.replicate j 1) ∧ Ext w1 wr) (fun v i _ => N - (intOf i).toNat)
      case atStart => exact ⟨0, _, _, Nat.zero_le _, rfl, rfl, ownI_lit [] rfl rfl (Nat.le_refl _) (Nat.zero_le _), (Ext.refl _).alloc _⟩
      case round =>
        obtain ⟨j, A', c', hj, rfl, rfl, hO, hE⟩ := hrel
        have hsz := hE.size
        have C := (B.ext hE).cells
        by_cases hlt : j < N
        · go_wp2_with (at_builtin; refine wpList_app1 intSl rfl _ _ rfl hO rfl rfl (by omega) hsz ?_; intro A2 c2 w2 hO2 hbB)
          rw [ones_succ] at hO2
          go_roundw
          case rel => exact ⟨j + 1, A2, c2, by omega, by go_num, rfl, hO2, hE.then hbB (Nat.le_refl _)⟩
          case measure => simp [intOf]; omega
        · obtain rfl : j = N := by omega
          go_wp2_with fail
          go_ret2
          exact ⟨_, _, _, rfl, hO.more E.size, E.trans hE⟩
end Go.Proofs.YtnekpofaflpmdaaGreatDoor
