/- The laws' own comparisons of drawn lists; the guard on great codes. -/
import Derived.Test.YtnekpofaflpmdaaGreatDoorProg
import Derived.Test.YtnekpofaflpmdaaGreatDoorMem
namespace Go.Proofs.YtnekpofaflpmdaaGreatDoor
open Go.RowKit

set_option maxHeartbeats 400000 in
theorem sameInts_any (A B : Option Addr) (n m c d : Nat) (l k : List Int) (w : World) (ha : RdI w A l) (hb : RdI w B k) (hl : l.length = n) (hk : k.length = m) (hn : n ≤ maxLen) (hm : m ≤ maxLen) :
    Calls Tryz.prog 12 #[.slice A n c, .slice B m d] w fun e w' => e = .returned (.bool (decide (l = k))) ∧ ∃ N, w' = w.drewN N := by
  unfold maxLen at hn hm
  subst hl hk
  by_cases hne : l.length = k.length
  · have hne' : ((l.length : Int) != (k.length : Int)) = false := by simp [hne]
    have HE := Lib.hid hne
    clear hne
    go_enter Tryz.func12, Tryz.ntmps12
    go_wp2
    go_loopw [13] (fun i wr => ∃ j N : Nat, j ≤ l.length ∧ i = .int .i64 j ∧ wr = w.drewN N ∧ Hid (l.take j = k.take j)) (fun i _ => l.length - (intOf i).toNat)
    case atStart => exact ⟨0, 0, Nat.zero_le _, rfl, rfl, rfl⟩
    case round =>
      obtain ⟨j, N, hj, rfl, rfl, HT⟩ := hrel
      by_cases hlt : j < l.length
      · have hlt' : j < k.length := by rw [← HE.out]; exact hlt
        obtain ⟨ad, rfl, hca⟩ := ha.at_ hlt
        obtain ⟨bd, rfl, hcb⟩ := hb.at_ hlt'
        by_cases he : l[j] = k[j]
        · have he' : (l[j] != k[j]) = false := by simp [he]
          have HQ := Lib.hid he
          clear he
          go_wp2
          go_quiet (fail)
          go_wp2
          go_roundw
          case rel =>
            refine ⟨j + 1, _, by omega, by go_num, rfl, ?_⟩
            show l.take (j + 1) = k.take (j + 1)
            rw [List.take_succ_eq_append_getElem hlt, List.take_succ_eq_append_getElem hlt', HT.out, HQ.out]
          case measure => simp [intOf]; omega
        · have he' : (l[j] != k[j]) = true := by simp [he]
          go_wp2
          go_quiet (fail)
          go_wp2
          go_ret
          exact ⟨ret_bool (by symm; simp; rintro rfl; exact he rfl), _, World.drewN_drewN _ _ _⟩
      · obtain rfl : j = l.length := by omega
        have hf : decide (l = k) = true := by
          have h1 := HT.out
          rw [List.take_length, HE.out, List.take_length] at h1
          simpa using h1
        have HF := Lib.hid hf
        clear hf
        go_wp2
        go_ret
        exact ⟨ret_bool HF.out.symm, _, rfl⟩
  · have hne' : ((l.length : Int) != (k.length : Int)) = true := by simp; omega
    go_enter Tryz.func12, Tryz.ntmps12
    go_wp2
    go_ret
    exact ⟨ret_bool (by symm; simp; rintro rfl; exact hne rfl), 0, rfl⟩
theorem sameInts_same {A B : Option Addr} {n m c d : Nat} {l : List Int} {w : World} (ha : RdI w A l) (hb : RdI w B l) (hl : l.length = n) (hk : l.length = m) (hn : n ≤ maxLen) (hm : m ≤ maxLen) :
    Calls Tryz.prog 12 #[.slice A n c, .slice B m d] w fun e w' => e = .returned (.bool true) ∧ Ext w w' :=
  (sameInts_any A B n m c d l l w ha hb hl hk hn hm).mono fun e w' h => by
    obtain ⟨h1, N, h2⟩ := h
    exact ⟨by rw [h1, decide_eq_true rfl], by rw [h2]; exact (Ext.refl w).drewN N⟩
theorem big_any (A B : Option Addr) (n m c d : Nat) (w : World) (hn : n ≤ maxLen) (hm : m ≤ maxLen) :
    Calls Tryz.prog 4 #[.slice A n c, .slice B m d] w fun e w' => e = .returned (.bool (decide (1048576 < n + m))) ∧ w = w' := by
  unfold maxLen at hn hm
  by_cases h1 : (1048576 : Int) < n
  · go_enter Tryz.func4, Tryz.ntmps4
    go_wp2
    go_ret
    exact ⟨ret_bool (by symm; exact decide_eq_true (by omega)), rfl⟩
  by_cases h2 : (1048576 : Int) - n < m
  · go_enter Tryz.func4, Tryz.ntmps4
    go_wp2
    go_ret
    exact ⟨ret_bool (by symm; exact decide_eq_true (by omega)), rfl⟩
  · go_enter Tryz.func4, Tryz.ntmps4
    go_wp2
    go_ret
    exact ⟨ret_bool (by symm; exact decide_eq_false (by omega)), rfl⟩
end Go.Proofs.YtnekpofaflpmdaaGreatDoor
