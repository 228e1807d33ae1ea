/- Contract for yPoints of the reference. -/
import Derived.Test.YtnhdohjlbchniaaGreatProg
import Derived.Test.YtnhdohjlbchniaaGreatDiff
namespace Go.Proofs.YtnhdohjlbchniaaGreat
open Go.RowKit

set_option maxHeartbeats 400000 in
theorem yPoints_any (A : Option Addr) (n c : Nat) (l : List Int) (w : World) (ha : RdI w A l) (hl : l.length = n) (hn : n ≤ c) (hc : c ≤ maxLen) :
    Calls Tryz.prog 36 #[.slice A n c] w fun e w' => e = .returned (.bool (diffB l)) ∧ w = w' := by
  unfold maxLen at hc
  subst hl
  go_enter Tryz.func36, Tryz.ntmps36
  go_wp2
  go_loop [7] (fun i => ∃ j : Nat, j ≤ l.length ∧ i = .int .i64 j ∧ Hid ((l.take j).Nodup)) (fun i => l.length - (intOf i).toNat)
  case atStart => exact ⟨0, Nat.zero_le _, rfl, by simp [Hid]⟩
  case round =>
    obtain ⟨j, hj, rfl, HI⟩ := hrel
    by_cases hlt : j < l.length
    · have ht := ha.take j
      obtain ⟨ad, rfl, hcell⟩ := ha.at_ hlt
      cases hx : memB (l.take j) l[j]
      · have HX := Lib.hid hx
        go_wp2_with fail
        refine (l1Has_any _ _ _ (l.take j) _ _ ht (by rw [List.length_take]; omega) (by unfold maxLen; omega)).mono ?_
        rintro e w1 ⟨rfl, rfl⟩
        go_wp2
        go_round
        case rel => exact ⟨j + 1, by omega, by go_num, nodup_take hlt HI.out HX.out⟩
        case measure => simp [intOf]; omega
      · have HX := Lib.hid hx
        go_wp2_with fail
        refine (l1Has_any _ _ _ (l.take j) _ _ ht (by rw [List.length_take]; omega) (by unfold maxLen; omega)).mono ?_
        rintro e w1 ⟨rfl, rfl⟩
        go_wp2
        go_ret
        exact ⟨ret_bool (not_nodup hlt HX.out).symm, rfl⟩
    · obtain rfl : j = l.length := by omega
      go_wp2
      go_ret
      have h := HI.out
      rw [List.take_length] at h
      exact ⟨ret_bool (by symm; unfold diffB; exact decide_eq_true h), rfl⟩
end Go.Proofs.YtnhdohjlbchniaaGreat
