/- Contracts for membership, and for 'all elements are different'. -/
import Derived.Test.YtnekpofaflpmdaaGreatDoorProg
import Derived.Test.YtnekpofaflpmdaaGreatDoorNum
namespace Go.Proofs.YtnekpofaflpmdaaGreatDoor
open Go.RowKit

def memB (l : List Int) (x : Int) : Bool := l.contains x
theorem memB_iff {l : List Int} {x : Int} : memB l x = true ↔ x ∈ l := by unfold memB; rw [List.contains_iff_mem]
theorem memB_iff' {l : List Int} {x : Int} : memB l x = false ↔ ¬ x ∈ l := by rw [← memB_iff]; simp
def diffB (l : List Int) : Bool := decide l.Nodup

theorem contains_take_hit {l : List Int} {x : Int} {k : Nat} (hk : k < l.length) (hx : l[k] = x) : memB l x = true := by
  rw [memB_iff]; subst hx; exact List.getElem_mem hk
theorem not_mem_take {l : List Int} {x : Int} {k : Nat} (hk : k < l.length) (h : ¬ x ∈ l.take k) (hx : ¬ l[k] = x) : ¬ x ∈ l.take (k + 1) := by
  rw [List.take_succ_eq_append_getElem hk, List.mem_append, List.mem_singleton]
  rintro (h1 | h1)
  · exact h h1
  · exact hx h1.symm
theorem nodup_take {l : List Int} {k : Nat} (hk : k < l.length) (h : (l.take k).Nodup) (hx : memB (l.take k) l[k] = false) : (l.take (k + 1)).Nodup := by
  rw [List.take_succ_eq_append_getElem hk, List.nodup_append]
  refine ⟨h, by simp, ?_⟩
  intro a ha b hb e
  rw [List.mem_singleton] at hb
  subst hb; subst e
  have : memB (l.take k) l[k] = true := by rw [memB_iff]; exact ha
  rw [hx] at this; cases this
theorem not_nodup {l : List Int} {k : Nat} (hk : k < l.length) (hx : memB (l.take k) l[k] = true) : diffB l = false := by
  unfold diffB
  rw [decide_eq_false_iff_not]
  intro h
  have h1 : (l.take (k + 1)).Nodup := h.sublist (List.take_sublist _ _)
  rw [List.take_succ_eq_append_getElem hk, List.nodup_append] at h1
  exact h1.2.2 _ (memB_iff.1 hx) _ (List.mem_singleton.2 rfl) rfl

set_option maxHeartbeats 400000 in
theorem l1Has_any (A : Option Addr) (n c : Nat) (l : List Int) (x : Int) (w : World) (ha : RdI w A l) (hl : l.length = n) (hn : n ≤ maxLen) :
    Calls Tryz.prog 56 #[.slice A n c, .int .i64 x] w fun e w' => e = .returned (.bool (memB l x)) ∧ w = w' := by
  unfold maxLen at hn
  subst hl
  go_enter Tryz.func56, Tryz.ntmps56
  go_wp2
  go_loop [9] (fun i => ∃ j : Nat, j ≤ l.length ∧ i = .int .i64 j ∧ Hid (¬ x ∈ l.take j)) (fun i => l.length - (intOf i).toNat)
  case atStart => exact ⟨0, Nat.zero_le _, rfl, by simp [Hid]⟩
  case round =>
    obtain ⟨j, hj, rfl, HI⟩ := hrel
    by_cases hlt : j < l.length
    · obtain ⟨ad, rfl, hc⟩ := ha.at_ hlt
      by_cases hx : l[j] = x
      · have hb : (l[j] == x) = true := by simp [hx]
        have HX := Lib.hid hx
        clear hx
        go_wp2
        go_ret
        exact ⟨ret_bool (contains_take_hit hlt HX.out).symm, rfl⟩
      · have hb : (l[j] == x) = false := by simp [hx]
        have HX := Lib.hid hx
        clear hx
        go_wp2
        go_round
        case rel => exact ⟨j + 1, by omega, by go_num, not_mem_take hlt HI.out HX.out⟩
        case measure => simp [intOf]; omega
    · obtain rfl : j = l.length := by omega
      go_wp2
      go_ret
      have h := HI.out
      rw [List.take_length] at h
      exact ⟨ret_bool (memB_iff'.2 h).symm, rfl⟩

set_option maxHeartbeats 400000 in
theorem Index_any (A : Option Addr) (n c : Nat) (l : List Int) (x : Int) (w : World) (ha : RdI w A l) (hl : l.length = n) (hn : n ≤ maxLen) :
    Calls Tryz.prog 96 #[.slice A n c, .int .i64 x] w fun e w' => e = .returned (.int .i64 (idxOf (fun y => x == y) l)) ∧ w = w' := by
  unfold maxLen at hn
  subst hl
  go_enter Tryz.func96, Tryz.ntmps96
  go_wp2
  go_loop [8] (fun i => ∃ j : Nat, j ≤ l.length ∧ i = .int .i64 j ∧ Hid (∀ i, (hi : i < l.length) → i < j → (x == l[i]) = false)) (fun i => l.length - (intOf i).toNat)
  case atStart => exact ⟨0, Nat.zero_le _, rfl, fun i _ h => absurd h (by omega)⟩
  case round =>
    obtain ⟨j, hj, rfl, HI⟩ := hrel
    by_cases hlt : j < l.length
    · obtain ⟨ad, rfl, hc⟩ := ha.at_ hlt
      cases hx : (x == l[j])
      · have HX := Lib.hid hx
        go_wp2
        go_round
        case rel =>
          refine ⟨j + 1, by omega, by go_num, fun i hi hij => ?_⟩
          by_cases e : i = j
          · subst e; exact HX.out
          · exact HI.out i hi (by omega)
        case measure => simp [intOf]; omega
      · have HX := Lib.hid hx
        go_wp2
        go_ret
        exact ⟨ret_int (findIdx_hit (p := fun y => x == y) hlt HX.out (fun i hi => HI.out i hi)).symm, rfl⟩
    · obtain rfl : j = l.length := by omega
      go_wp2
      go_ret
      exact ⟨ret_int (findIdx_miss (p := fun y => x == y) (fun i hi => HI.out i hi hi)).symm, rfl⟩

theorem any_eq_contains (l : List Int) (x : Int) : (l.any fun y => x == y) = memB l x := by
  unfold memB; rw [List.contains_eq_any_beq]

theorem Contains_any (A : Option Addr) (n c : Nat) (l : List Int) (x : Int) (w : World) (ha : RdI w A l) (hl : l.length = n) (hn : n ≤ maxLen) :
    Calls Tryz.prog 82 #[.slice A n c, .int .i64 x] w fun e w' => e = .returned (.bool (memB l x)) ∧ w = w' := by
  go_enter Tryz.func82, Tryz.ntmps82
  go_wp2_with fail
  refine (Index_any _ _ _ l _ _ ha hl hn).mono ?_
  rintro e w1 ⟨rfl, rfl⟩
  go_wp2
  go_ret
  exact ⟨ret_bool (by rw [idxOf_neg, any_eq_contains]), rfl⟩

set_option maxHeartbeats 400000 in
theorem vDifferent_any (A : Option Addr) (n c : Nat) (l : List Int) (w : World) (ha : RdI w A l) (hl : l.length = n) (hn : n ≤ c) (hc : c ≤ maxLen) :
    Calls Tryz.prog 66 #[.slice A n c] w fun e w' => e = .returned (.bool (diffB l)) ∧ w = w' := by
  unfold maxLen at hc
  subst hl
  go_enter Tryz.func66, Tryz.ntmps66
  go_wp2
  go_loop [7] (fun i => ∃ j : Nat, j ≤ l.length ∧ i = .int .i64 j ∧ Hid ((l.take j).Nodup)) (fun i => l.length - (intOf i).toNat)
  case atStart => exact ⟨0, Nat.zero_le _, rfl, by simp [Hid]⟩
  case round =>
    obtain ⟨j, hj, rfl, HI⟩ := hrel
    by_cases hlt : j < l.length
    · have ht := ha.take j
      obtain ⟨ad, rfl, hcell⟩ := ha.at_ hlt
      cases hx : memB (l.take j) l[j]
      · have HX := Lib.hid hx
        go_wp2_with fail
        refine (l1Has_any _ _ _ (l.take j) _ _ ht (by rw [List.length_take]; omega) (by unfold maxLen; omega)).mono ?_
        rintro e w1 ⟨rfl, rfl⟩
        go_wp2
        go_round
        case rel => exact ⟨j + 1, by omega, by go_num, nodup_take hlt HI.out HX.out⟩
        case measure => simp [intOf]; omega
      · have HX := Lib.hid hx
        go_wp2_with fail
        refine (l1Has_any _ _ _ (l.take j) _ _ ht (by rw [List.length_take]; omega) (by unfold maxLen; omega)).mono ?_
        rintro e w1 ⟨rfl, rfl⟩
        go_wp2
        go_ret
        exact ⟨ret_bool (not_nodup hlt HX.out).symm, rfl⟩
    · obtain rfl : j = l.length := by omega
      go_wp2
      go_ret
      have h := HI.out
      rw [List.take_length] at h
      exact ⟨ret_bool (by symm; unfold diffB; exact decide_eq_true h), rfl⟩

set_option maxHeartbeats 400000 in
theorem areDifferent_any (A : Option Addr) (n c : Nat) (l : List Int) (w : World) (ha : RdI w A l) (hl : l.length = n) (hn : n ≤ c) (hc : c ≤ maxLen) :
    Calls Tryz.prog 53 #[.slice A n c] w fun e w' => e = .returned (.bool (diffB l)) ∧ w = w' := by
  unfold maxLen at hc
  subst hl
  go_enter Tryz.func53, Tryz.ntmps53
  go_wp2
  go_loop [7] (fun i => ∃ j : Nat, j ≤ l.length ∧ i = .int .i64 j ∧ Hid ((l.take j).Nodup)) (fun i => l.length - (intOf i).toNat)
  case atStart => exact ⟨0, Nat.zero_le _, rfl, by simp [Hid]⟩
  case round =>
    obtain ⟨j, hj, rfl, HI⟩ := hrel
    by_cases hlt : j < l.length
    · have ht := ha.take j
      obtain ⟨ad, rfl, hcell⟩ := ha.at_ hlt
      cases hx : memB (l.take j) l[j]
      · have HX := Lib.hid hx
        go_wp2_with fail
        refine (Contains_any _ _ _ (l.take j) _ _ ht (by rw [List.length_take]; omega) (by unfold maxLen; omega)).mono ?_
        rintro e w1 ⟨rfl, rfl⟩
        go_wp2
        go_round
        case rel => exact ⟨j + 1, by omega, by go_num, nodup_take hlt HI.out HX.out⟩
        case measure => simp [intOf]; omega
      · have HX := Lib.hid hx
        go_wp2_with fail
        refine (Contains_any _ _ _ (l.take j) _ _ ht (by rw [List.length_take]; omega) (by unfold maxLen; omega)).mono ?_
        rintro e w1 ⟨rfl, rfl⟩
        go_wp2
        go_ret
        exact ⟨ret_bool (not_nodup hlt HX.out).symm, rfl⟩
    · obtain rfl : j = l.length := by omega
      go_wp2
      go_ret
      have h := HI.out
      rw [List.take_length] at h
      exact ⟨ret_bool (by symm; unfold diffB; exact decide_eq_true h), rfl⟩


def permB (l : List Int) : Bool := decide (l.length ≤ 24) && (allR l 0 (l.length - 1) && diffB l)


end Go.Proofs.YtnekpofaflpmdaaGreatDoor
