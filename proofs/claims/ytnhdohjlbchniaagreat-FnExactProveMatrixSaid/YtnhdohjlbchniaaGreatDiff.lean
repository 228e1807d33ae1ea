/- Contracts for membership, and for 'all elements are different'. -/
import Derived.Test.YtnhdohjlbchniaaGreatProg
import Derived.Test.YtnhdohjlbchniaaGreatNum
namespace Go.Proofs.YtnhdohjlbchniaaGreat
open Go.RowKit

def memB (l : List Int) (x : Int) : Bool := l.contains x
theorem memB_iff {l : List Int} {x : Int} : memB l x = true ↔ x ∈ l := by unfold memB; rw [List.contains_iff_mem]
theorem memB_iff' {l : List Int} {x : Int} : memB l x = false ↔ ¬ x ∈ l := by rw [← memB_iff]; simp
def diffB (l : List Int) : Bool := decide l.Nodup

theorem contains_take_hit {l : List Int} {x : Int} {k : Nat} (hk : k < l.length) (hx : l[k] = x) : memB l x = true := by
  rw [memB_iff]; subst hx; exact List.getElem_mem hk
theorem not_mem_take {l : List Int} {x : Int} {k : Nat} (hk : k < l.length) (h : ¬ x ∈ l.take k) (hx : ¬ l[k] = x) : ¬ x ∈ l.take (k + 1) := by
  rw [List.take_succ_eq_append_getElem hk, List.mem_append, List.mem_singleton]
  rintro (h1 | h1)
  · exact h h1
  · exact hx h1.symm
theorem nodup_take {l : List Int} {k : Nat} (hk : k < l.length) (h : (l.take k).Nodup) (hx : memB (l.take k) l[k] = false) : (l.take (k + 1)).Nodup := by
  rw [List.take_succ_eq_append_getElem hk, List.nodup_append]
  refine ⟨h, by simp, ?_⟩
  intro a ha b hb e
  rw [List.mem_singleton] at hb
  subst hb; subst e
  have : memB (l.take k) l[k] = true := by rw [memB_iff]; exact ha
  rw [hx] at this; cases this
theorem not_nodup {l : List Int} {k : Nat} (hk : k < l.length) (hx : memB (l.take k) l[k] = true) : diffB l = false := by
  unfold diffB
  rw [decide_eq_false_iff_not]
  intro h
  have h1 : (l.take (k + 1)).Nodup := h.sublist (List.take_sublist _ _)
  rw [List.take_succ_eq_append_getElem hk, List.nodup_append] at h1
  exact h1.2.2 _ (memB_iff.1 hx) _ (List.mem_singleton.2 rfl) rfl

set_option maxHeartbeats 400000 in
theorem l1Has_any (A : Option Addr) (n c : Nat) (l : List Int) (x : Int) (w : World) (ha : RdI w A l) (hl : l.length = n) (hn : n ≤ maxLen) :
    Calls Tryz.prog 76 #[.slice A n c, .int .i64 x] w fun e w' => e = .returned (.bool (memB l x)) ∧ w = w' := by
  unfold maxLen at hn
  subst hl
  go_enter Tryz.func76, Tryz.ntmps76
  go_wp2
  go_loop [9] (fun i => ∃ j : Nat, j ≤ l.length ∧ i = .int .i64 j ∧ Hid (¬ x ∈ l.take j)) (fun i => l.length - (intOf i).toNat)
  case atStart => exact ⟨0, Nat.zero_le _, rfl, by simp [Hid]⟩
  case round =>
    obtain ⟨j, hj, rfl, HI⟩ := hrel
    by_cases hlt : j < l.length
    · obtain ⟨ad, rfl, hc⟩ := ha.at_ hlt
      by_cases hx : l[j] = x
      · have hb : (l[j] == x) = true := by simp [hx]
        have HX := Lib.hid hx
        clear hx
        go_wp2
        go_ret
        exact ⟨ret_bool (contains_take_hit hlt HX.out).symm, rfl⟩
      · have hb : (l[j] == x) = false := by simp [hx]
        have HX := Lib.hid hx
        clear hx
        go_wp2
        go_round
        case rel => exact ⟨j + 1, by omega, by go_num, not_mem_take hlt HI.out HX.out⟩
        case measure => simp [intOf]; omega
    · obtain rfl : j = l.length := by omega
      go_wp2
      go_ret
      have h := HI.out
      rw [List.take_length] at h
      exact ⟨ret_bool (memB_iff'.2 h).symm, rfl⟩

set_option maxHeartbeats 400000 in
theorem Index_any (A : Option Addr) (n c : Nat) (l : List Int) (x : Int) (w : World) (ha : RdI w A l) (hl : l.length = n) (hn : n ≤ maxLen) :
    Calls Tryz.prog 118 #[.slice A n c, .int .i64 x] w fun e w' => e = .returned (.int .i64 (idxOf (fun y => x == y) l)) ∧ w = w' := by
  unfold maxLen at hn
  subst hl
  go_enter Tryz.func118, Tryz.ntmps118
  go_wp2
  go_loop [8] (fun i => ∃ j : Nat, j ≤ l.length ∧ i = .int .i64 j ∧ Hid (∀ i, (hi : i < l.length) → i < j → (x == l[i]) = false)) (fun i => l.length - (intOf i).toNat)
  case atStart => exact ⟨0, Nat.zero_le _, rfl, fun i _ h => absurd h (by omega)⟩
  case round =>
    obtain ⟨j, hj, rfl, HI⟩ := hrel
    by_cases hlt : j < l.length
    · obtain ⟨ad, rfl, hc⟩ := ha.at_ hlt
      cases hx : (x == l[j])
      · have HX := Lib.hid hx
        go_wp2
        go_round
        case rel =>
          refine ⟨j + 1, by omega, by go_num, fun i hi hij => ?_⟩
          by_cases e : i = j
          · subst e; exact HX.out
          · exact HI.out i hi (by omega)
        case measure => simp [intOf]; omega
      · have HX := Lib.hid hx
        go_wp2
        go_ret
        exact ⟨ret_int (findIdx_hit (p := fun y => x == y) hlt HX.out (fun i hi => HI.out i hi)).symm, rfl⟩
    · obtain rfl : j = l.length := by omega
      go_wp2
      go_ret
      exact ⟨ret_int (findIdx_miss (p := fun y => x == y) (fun i hi => HI.out i hi hi)).symm, rfl⟩

theorem any_eq_contains (l : List Int) (x : Int) : (l.any fun y => x == y) = memB l x := by
  unfold memB; rw [List.contains_eq_any_beq]

theorem Contains_any (A : Option Addr) (n c : Nat) (l : List Int) (x : Int) (w : World) (ha : RdI w A l) (hl : l.length = n) (hn : n ≤ maxLen) :
    Calls Tryz.prog 109 #[.slice A n c, .int .i64 x] w fun e w' => e = .returned (.bool (memB l x)) ∧ w = w' := by
  go_enter Tryz.func109, Tryz.ntmps109
  go_wp2_with fail
  refine (Index_any _ _ _ l _ _ ha hl hn).mono ?_
  rintro e w1 ⟨rfl, rfl⟩
  go_wp2
  go_ret
  exact ⟨ret_bool (by rw [idxOf_neg, any_eq_contains]), rfl⟩


set_option maxHeartbeats 400000 in
theorem areDifferent_any (A : Option Addr) (n c : Nat) (l : List Int) (w : World) (ha : RdI w A l) (hl : l.length = n) (hn : n ≤ c) (hc : c ≤ maxLen) :
    Calls Tryz.prog 92 #[.slice A n c] w fun e w' => e = .returned (.bool (diffB l)) ∧ w = w' := by
  unfold maxLen at hc
  subst hl
  go_enter Tryz.func92, Tryz.ntmps92
  go_wp2
  go_loop [7] (fun i => ∃ j : Nat, j ≤ l.length ∧ i = .int .i64 j ∧ Hid ((l.take j).Nodup)) (fun i => l.length - (intOf i).toNat)
  case atStart => exact ⟨0, Nat.zero_le _, rfl, by simp [Hid]⟩
  case round =>
    obtain ⟨j, hj, rfl, HI⟩ := hrel
    by_cases hlt : j < l.length
    · have ht := ha.take j
      obtain ⟨ad, rfl, hcell⟩ := ha.at_ hlt
      cases hx : memB (l.take j) l[j]
      · have HX := Lib.hid hx
        go_wp2_with fail
        refine (Contains_any _ _ _ (l.take j) _ _ ht (by rw [List.length_take]; omega) (by unfold maxLen; omega)).mono ?_
        rintro e w1 ⟨rfl, rfl⟩
        go_wp2
        go_round
        case rel => exact ⟨j + 1, by omega, by go_num, nodup_take hlt HI.out HX.out⟩
        case measure => simp [intOf]; omega
      · have HX := Lib.hid hx
        go_wp2_with fail
        refine (Contains_any _ _ _ (l.take j) _ _ ht (by rw [List.length_take]; omega) (by unfold maxLen; omega)).mono ?_
        rintro e w1 ⟨rfl, rfl⟩
        go_wp2
        go_ret
        exact ⟨ret_bool (not_nodup hlt HX.out).symm, rfl⟩
    · obtain rfl : j = l.length := by omega
      go_wp2
      go_ret
      have h := HI.out
      rw [List.take_length] at h
      exact ⟨ret_bool (by symm; unfold diffB; exact decide_eq_true h), rfl⟩


def permB (l : List Int) : Bool := decide (l.length ≤ 24) && (allR l 0 (l.length - 1) && diffB l)


set_option maxHeartbeats 400000 in
theorem iIsPermutation_b (A : Option Addr) (n c : Nat) (l : List Int) (w : World) (ha : RdI w A l) (hl : l.length = n) (hn : n ≤ c) (hc : c ≤ maxLen) :
    Calls Tryz.prog 55 #[.slice A n c] w fun e w' => e = .returned (.bool (permB l)) ∧ Ext w w' := by
  have hc' := hc
  unfold maxLen at hc'
  have hf1 : n ≤ 24 → ∀ w1 g, Blk w1 g 25 #[.slice A n c] → Answers 91 #[.pointer (some ⟨g, 0, none⟩)] w1 l (fun x => inR x 0 ((n : Int) - 1)) := by
    intro h1 w1 g hB
    refine ⟨fun args w => by kernel_rfl, fun x hx w2 h2 => ?_⟩
    have C := (hB.ext h2).cells
    go_enter Tryz.func91, Tryz.ntmps91
    go_wp2_with fail
    refine (within_any _ _ _ _).mono ?_
    rintro e w3 ⟨rfl, rfl⟩
    go_wp2
    go_ret
    exact ⟨rfl, Ext.refl _⟩
  have B0 := Blk.new w 25 #[.slice A n c]
  have E0 := (Ext.refl w).alloc (.cells #[.slice A n c] 25)
  by_cases h1 : n ≤ 24
  · have d1 : decide (l.length ≤ 24) = true := by simp [hl, h1]
    have hR : permB l = (allR l 0 ((n : Int) - 1) && diffB l) := by rw [permB, d1, hl, Bool.true_and]
    clear d1
    have HL := Lib.hid hl
    clear hl
    cases h2 : allR l 0 ((n : Int) - 1)
    · rw [h2, Bool.false_and] at hR
      have HR := Lib.hid hR
      clear hR
      go_enter Tryz.func55, Tryz.ntmps55
      go_wp2_with fail
      refine (areAll_any _ _ _ l _ _ _ _ (ha.ext E0) HL.out (by unfold maxLen; omega) (hf1 h1 _ _ B0)).mono ?_
      rintro e w1 ⟨he, hb⟩
      rw [show (l.all fun x => inR x 0 ((n : Int) - 1)) = false from h2] at he
      subst he
      go_wp2
      go_ret
      exact ⟨ret_bool (by rw [HR.out]), E0.trans hb⟩
    · rw [h2, Bool.true_and] at hR
      have HR := Lib.hid hR
      clear hR
      go_enter Tryz.func55, Tryz.ntmps55
      go_wp2_with fail
      refine (areAll_any _ _ _ l _ _ _ _ (ha.ext E0) HL.out (by unfold maxLen; omega) (hf1 h1 _ _ B0)).mono ?_
      rintro e w1 ⟨he, hb⟩
      rw [show (l.all fun x => inR x 0 ((n : Int) - 1)) = true from h2] at he
      subst he
      have C := (B0.ext hb).cells
      have E := E0.trans hb
      clear hb B0 E0 hf1
      go_wp2_with fail
      refine (areDifferent_any _ _ _ l _ (ha.ext E) HL.out hn hc).mono ?_
      rintro e w2 ⟨rfl, rfl⟩
      go_wp2
      go_ret
      exact ⟨ret_bool (by rw [HR.out]), E⟩
  · have hR : permB l = false := by simp [permB, hl, h1]
    have HR := Lib.hid hR
    clear hR hl
    go_enter Tryz.func55, Tryz.ntmps55
    go_wp2
    go_ret
    exact ⟨ret_bool (by rw [HR.out]), E0⟩
end Go.Proofs.YtnhdohjlbchniaaGreat
