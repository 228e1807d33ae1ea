/- Contracts for the laws' own functions on lists of lists: comparisons, marks. -/
import Derived.Test.YteohpelbkmdlmaaProg
import Derived.Test.YteohpelbkmdlmaaMem
namespace Go.Proofs.Yteohpelbkmdlmaa
open Go.RowKit

set_option maxHeartbeats 1000000 in
theorem eqIntSS_same {A B : Option Addr} {n m c d : Nat} {ls : List (List Int)} {w : World} (ha : RdSS w A ls) (hb : RdSS w B ls) (hl : ls.length = n) (hk : ls.length = m) (hn : n ≤ maxLen) (hm : m ≤ maxLen) :
    Calls Try.prog 38 #[.slice A n c, .slice B m d] w fun e w' => e = .returned (.bool true) ∧ Ext w w' := by
  unfold maxLen at hn hm
  subst hl
  have hne' : ((ls.length : Int) != (m : Int)) = false := by simp [hk]
  have HE := Lib.hid hk
  clear hk
  go_enter Try.func38, Try.ntmps38
  go_wp2
  go_loopw [5] (fun i wr => ∃ j : Nat, j ≤ ls.length ∧ i = .int .i64 j ∧ Ext w wr) (fun i _ => ls.length - (intOf i).toNat)
  case atStart => exact ⟨0, Nat.zero_le _, rfl, Ext.refl _⟩
  case round =>
    obtain ⟨j, hj, rfl, hE⟩ := hrel
    by_cases hlt : j < ls.length
    · have hlt' : j < m := by rw [← HE.out]; exact hlt
      obtain ⟨ad, rfl, A1, n1, c1, hca, hra, hn1, hc1, hc2⟩ := (ha.ext hE).at_ hlt
      obtain ⟨bd, rfl, B1, m1, d1, hcb, hrb, hm1, hd1, hd2⟩ := (hb.ext hE).at_ hlt
      generalize ls[j] = l at *
      go_wp2
      go_quiet ((go_at_call 23; exact Calls.quiet_of ((eqIntS_any _ _ _ _ _ _ l l _ (hra.ext ((Ext.refl wr).drewN _)) (hrb.ext ((Ext.refl wr).drewN _)) hn1 hm1 (by omega) (by omega)))))
      go_wp2
      go_roundw
      case rel => exact ⟨j + 1, by omega, by go_num, hE.drewN _⟩
      case measure => simp [intOf]; omega
    · obtain rfl : j = ls.length := by omega
      go_wp2
      go_ret
      exact ⟨rfl, hE⟩

set_option maxHeartbeats 1000000 in
theorem heldIntSS_any {A : Option Addr} {base n c : Nat} {P : List Nat} {ls : List (List Int)} {k : Int} {w : World} (ha : OwnII w base A n c P (markS k ls)) (hk : 0 ≤ k) (hn : k + tot ls ≤ 1000000000) :
    Calls Try.prog 40 #[.slice A n c, .int .i64 k] w fun e w' => e = .returned (.int .i64 (k + tot ls)) ∧ Ext w w' := by
  have hl := ha.len
  rw [markS_length] at hl
  have hmx := ha.le
  unfold maxLen at hmx
  subst hl
  go_enter Try.func40, Try.ntmps40
  go_wp2
  go_loopw [1, 5] (fun q i wr => ∃ j : Nat, j ≤ ls.length ∧ i = .int .i64 j ∧ q = .int .i64 (k + tot (ls.take j)) ∧ Ext w wr) (fun _ i _ => ls.length - (intOf i).toNat)
  case atStart => exact ⟨0, Nat.zero_le _, rfl, by simp [tot], Ext.refl _⟩
  case round =>
    obtain ⟨j, hj, rfl, rfl, hE⟩ := hrel
    by_cases hlt : j < ls.length
    · obtain ⟨ad, rfl, A1, n1, c1, hca, hra, hn1, hc1, hc2⟩ := (ha.ext hE).rd.at_ (k := j) (by rw [markS_length]; exact hlt)
      rw [markS_get hlt] at hra hn1
      rw [iota_length] at hn1
      have ht := tot_take hlt
      have ht2 := tot_at hlt
      subst hn1
      generalize ls[j].length = x at *
      generalize tot (ls.take j) = y at *
      have HT := Lib.hid ht
      clear ht
      go_wp2_with fail
      refine (heldIntS_any hra (by omega) (by omega)).mono ?_
      rintro e w1 ⟨rfl, hb⟩
      go_wp2
      go_roundw
      case rel => exact ⟨j + 1, by omega, by go_num, by rw [HT.out]; push_cast; rw [Int.add_assoc], hE.trans hb⟩
      case measure => simp [intOf]; omega
    · obtain rfl : j = ls.length := by omega
      rw [List.take_length]
      go_wp2
      go_ret
      exact ⟨rfl, hE⟩

set_option maxHeartbeats 1000000 in
theorem markIntSS_any {A : Option Addr} {base n c : Nat} {P : List Nat} {ls : List (List Int)} {k : Int} {w : World} (ha : OwnII w base A n c P ls) (hk : 0 ≤ k) (hn : k + tot ls ≤ 1000000000) :
    Calls Try.prog 39 #[.slice A n c, .int .i64 k] w fun e w' => e = .returned (.int .i64 (k + tot ls)) ∧ OwnII w' base A n c P (markS k ls) ∧ Only P w w' := by
  have hl := ha.len
  have hmx := ha.le
  unfold maxLen at hmx
  subst hl
  go_enter Try.func39, Try.ntmps39
  go_wp2
  go_loopw [1, 5] (fun q i wr => ∃ j : Nat, j ≤ ls.length ∧ i = .int .i64 j ∧ q = .int .i64 (k + tot (ls.take j)) ∧ OwnII wr base A ls.length c P (markS k (ls.take j) ++ ls.drop j) ∧ Only P w wr) (fun _ i _ => ls.length - (intOf i).toNat)
  case atStart => exact ⟨0, Nat.zero_le _, rfl, by simp [tot], by simpa [markS] using ha, Only.refl _ _⟩
  case round =>
    obtain ⟨j, hj, rfl, rfl, hO, hE⟩ := hrel
    by_cases hlt : j < ls.length
    · have hjl : j < (markS k (ls.take j) ++ ls.drop j).length := by rw [List.length_append, markS_length, List.length_take, List.length_drop]; omega
      obtain ⟨g, B, m, d, rfl, hca, hra, hsub, hset⟩ := hO.row hjl
      rw [markS_mid hlt] at hra
      have hlen := hra.len
      have hms := @markS_set ls k j hlt
      have ht := tot_take hlt
      have ht2 := tot_at hlt
      rw [hlen] at hms ht ht2
      have HMS := Lib.hid hms
      clear hms
      have HL := Lib.hid hlen
      clear hlen
      have HT := Lib.hid ht
      clear ht
      go_wp2_with fail
      refine (markIntS_any hra (by omega) (by omega)).mono ?_
      rintro e w1 ⟨rfl, hm, hk2⟩
      have hO2 := hset w1 _ hm hk2
      rw [HMS.out] at hO2
      clear hset
      go_wp2
      go_roundw
      case rel => exact ⟨j + 1, by omega, by go_num, by rw [HT.out]; push_cast; rw [Int.add_assoc], hO2, hE.thenOnly (hk2.mono hsub)⟩
      case measure => simp [intOf]; omega
    · obtain rfl : j = ls.length := by omega
      rw [List.take_length, List.drop_eq_nil_of_le (Nat.le_refl _), List.append_nil] at hO
      rw [List.take_length]
      go_wp2
      go_ret
      exact ⟨rfl, hO, hE⟩
end Go.Proofs.Yteohpelbkmdlmaa
