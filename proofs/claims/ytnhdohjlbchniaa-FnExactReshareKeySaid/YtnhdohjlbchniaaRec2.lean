/- Contracts for RecoverShare: the program's and the reference's. (Printed by tools/gen_rec2.py.) -/
import Derived.Test.YtnhdohjlbchniaaProg
import Derived.Test.YtnhdohjlbchniaaRec
import Derived.Test.YtnhdohjlbchniaaDiff
namespace Go.Proofs.Ytnhdohjlbchniaa
open Go.RowKit

theorem nodup_le : ∀ {l m : List Int}, l.Nodup → (∀ x ∈ l, x ∈ m) → l.length ≤ m.length
  | [], _, _, _ => Nat.zero_le _
  | x :: l, m, hd, hs => by
    have hx : x ∈ m := hs x (by simp)
    have hl := List.length_erase_of_mem hx
    have hp := List.length_pos_of_mem hx
    have hd2 := List.nodup_cons.1 hd
    have ih := nodup_le (l := l) (m := m.erase x) hd2.2 fun y hy => (List.mem_erase_of_ne (a := y) (b := x) (fun e => hd2.1 (by rw [← e]; exact hy))).2 (hs y (by simp [hy]))
    simp
    omega
theorem trustees_le {l : List Int} (h1 : allR l 1 7 = true) (h2 : diffB l = true) : l.length ≤ 7 := by
  have hd : l.Nodup := by unfold diffB at h2; exact of_decide_eq_true h2
  refine nodup_le (m := [1, 2, 3, 4, 5, 6, 7]) hd fun x hx => ?_
  have := allR_iff.1 h1 x hx
  have h : x = 1 ∨ x = 2 ∨ x = 3 ∨ x = 4 ∨ x = 5 ∨ x = 6 ∨ x = 7 := by omega
  simpa using h
theorem els_rg {p q : Int} {l : List Int} (hp : p ≤ 2000000000) (h : l.all (elB p q) = true) : ∀ y ∈ l, 0 ≤ y ∧ y ≤ 3000000000 := fun y hy => by
  have h1 := elB_iff.1 (List.all_eq_true.1 h y hy)
  omega
/-- The guards of RecoverShare. -/
noncomputable def rsG (p q g : Int) (cs is ss : List Int) : Bool := (decide (7 < q) && grpB p q g) && ((inR cs.length 1 7 && cs.all (elB p q)) && ((allR is 1 7 && diffB is) && (decide (ss.length = is.length) && allR ss 0 (q - 1))))
noncomputable def rsB (p q g : Int) (cs : List Int) (i : Int) (is ss : List Int) : Bool := rsG p q g cs is ss && inR i 1 7
noncomputable def rsV (p q g : Int) (cs : List Int) (i : Int) (is ss : List Int) : Int := if rsB p q g cs i is ss then rcV p q g cs i is ss else 0
noncomputable def rsK (p q g : Int) (cs : List Int) (i : Int) (is ss : List Int) : Bool := rsB p q g cs i is ss && rcK p q g cs is ss
set_option maxHeartbeats 400000 in
theorem yPts_any (A : Option Addr) (n c : Nat) (l : List Int) (w : World) (ha : RdI w A l) (hl : l.length = n) (hn : n ≤ c) (hc : c ≤ maxLen) :
    Calls Try.prog 32 #[.slice A n c] w fun e w' => e = .returned (.bool (diffB l)) ∧ w = w' := by
  unfold maxLen at hc
  subst hl
  go_enter Try.func32, Try.ntmps32
  go_wp2
  go_loop [7] (fun i => ∃ j : Nat, j ≤ l.length ∧ i = .int .i64 j ∧ Hid ((l.take j).Nodup)) (fun i => l.length - (intOf i).toNat)
  case atStart => exact ⟨0, Nat.zero_le _, rfl, by simp [Hid]⟩
  case round =>
    obtain ⟨j, hj, rfl, HI⟩ := hrel
    by_cases hlt : j < l.length
    · have ht := ha.take j
      obtain ⟨ad, rfl, hcell⟩ := ha.at_ hlt
      cases hx : memB (l.take j) l[j]
      · have HX := Lib.hid hx
        go_wp2_with fail
        refine (l1Has_any _ _ _ (l.take j) _ _ ht (by rw [List.length_take]; omega) (by unfold maxLen; omega)).mono ?_
        rintro e w1 ⟨rfl, rfl⟩
        go_wp2
        go_round
        case rel => exact ⟨j + 1, by omega, by go_num, nodup_take hlt HI.out HX.out⟩
        case measure => simp [intOf]; omega
      · have HX := Lib.hid hx
        go_wp2_with fail
        refine (l1Has_any _ _ _ (l.take j) _ _ ht (by rw [List.length_take]; omega) (by unfold maxLen; omega)).mono ?_
        rintro e w1 ⟨rfl, rfl⟩
        go_wp2
        go_ret
        exact ⟨ret_bool (not_nodup hlt HX.out).symm, rfl⟩
    · obtain rfl : j = l.length := by omega
      go_wp2
      go_ret
      have h := HI.out
      rw [List.take_length] at h
      exact ⟨ret_bool (by symm; unfold diffB; exact decide_eq_true h), rfl⟩
theorem isTrustee_any (x : Int) (w : World) : Calls Try.prog 79 #[.int .i64 x] w fun e w' => e = .returned (.bool (inR x 1 7)) ∧ w = w' := by
  go_enter Try.func79, Try.ntmps79
  go_wp2_with fail
  refine (within_any _ _ _ _).mono ?_
  rintro e w1 ⟨rfl, rfl⟩
  go_wp2
  go_ret
  exact ⟨rfl, rfl⟩
theorem isTrustee_ans (w : World) (l : List Int) : Answers 79 #[] w l (fun x => inR x 1 7) :=
  ⟨fun args w => by kernel_rfl, fun x _ w2 _ => (isTrustee_any x w2).mono fun e w3 ⟨h1, h2⟩ => ⟨h1, h2 ▸ Ext.refl _⟩⟩
set_option maxHeartbeats 400000 in
theorem areTrustees_any (A : Option Addr) (n c : Nat) (l : List Int) (w : World) (ha : RdI w A l) (hl : l.length = n) (hn : n ≤ c) (hc : c ≤ maxLen) :
    Calls Try.prog 43 #[.slice A n c] w fun e w' => e = .returned (.bool (allR l 1 7 && diffB l)) ∧ Ext w w' := by
  have hf : ∀ args w, (callFunc 79 args).run Try.prog w = .ok (.enter 79 args) w := fun args w => by kernel_rfl
  cases h : allR l 1 7
  · have H := Lib.hid (show l.all (fun x => inR x 1 7) = false from h)
    clear h
    go_enter Try.func43, Try.ntmps43
    go_wp2_with fail
    refine (areAll_any _ _ _ l _ _ _ _ ha hl (by unfold maxLen at *; omega) (isTrustee_ans _ l)).mono ?_
    rintro e w1 ⟨he, hE⟩
    rw [H.out] at he; subst he
    go_wp2
    go_ret
    exact ⟨rfl, hE⟩
  · have H := Lib.hid (show l.all (fun x => inR x 1 7) = true from h)
    clear h
    go_enter Try.func43, Try.ntmps43
    go_wp2_with fail
    refine (areAll_any _ _ _ l _ _ _ _ ha hl (by unfold maxLen at *; omega) (isTrustee_ans _ l)).mono ?_
    rintro e w1 ⟨he, hE⟩
    rw [H.out] at he; subst he
    go_wp2_with fail
    refine (areDifferent_any _ _ _ l _ (ha.ext hE) hl hn hc).mono ?_
    rintro e w2 ⟨rfl, rfl⟩
    go_wp2
    go_ret
    exact ⟨rfl, hE⟩
set_option maxHeartbeats 400000 in
theorem isSharing_any (p q g : Int) (w : World) : Calls Try.prog 41 #[.agg #[.int .i64 p, .int .i64 q, .int .i64 g]] w fun e w' => e = .returned (.bool (decide (7 < q) && grpB p q g)) ∧ Ext w w' := by
  have E := (Ext.refl w).alloc (.cells #[.int .i64 p, .int .i64 q, .int .i64 g] 31)
  have B := Blk.new w 31 #[.int .i64 p, .int .i64 q, .int .i64 g]
  have C := B.cells
  by_cases h : 7 < q
  · rw [decide_eq_true h, Bool.true_and]
    go_enter Try.func41, Try.ntmps41
    go_wp2_with fail
    refine (IsValidGroup_any p q g _).mono ?_
    rintro e w1 ⟨rfl, hE⟩
    go_wp2
    go_ret
    exact ⟨rfl, E.trans hE⟩
  · rw [decide_eq_false h, Bool.false_and]
    go_enter Try.func41, Try.ntmps41
    go_wp2
    go_ret
    exact ⟨rfl, E⟩
set_option maxHeartbeats 400000 in
theorem sGroup_any (p q g : Int) (w : World) : Calls Try.prog 28 #[.agg #[.int .i64 p, .int .i64 q, .int .i64 g]] w fun e w' => e = .returned (.bool (decide (7 < q) && grpB p q g)) ∧ Ext w w' := by
  have E := (Ext.refl w).alloc (.cells #[.int .i64 p, .int .i64 q, .int .i64 g] 31)
  have B := Blk.new w 31 #[.int .i64 p, .int .i64 q, .int .i64 g]
  have C := B.cells
  cases hg : grpB p q g
  · have H := Lib.hid hg
    rw [Bool.and_false]
    clear hg
    go_enter Try.func28, Try.ntmps28
    go_wp2_with fail
    refine (l2Good_any p q g _).mono ?_
    rintro e w1 ⟨he, hE⟩
    rw [H.out] at he; subst he
    go_wp2
    go_ret
    exact ⟨rfl, E.trans hE⟩
  · have H := Lib.hid hg
    rw [Bool.and_true]
    clear hg C
    by_cases h : 7 < q
    · rw [decide_eq_true h]
      go_enter Try.func28, Try.ntmps28
      go_wp2_with fail
      refine (l2Good_any p q g _).mono ?_
      rintro e w1 ⟨he, hE⟩
      rw [H.out] at he; subst he
      have C := (B.ext hE).cells
      go_wp2
      go_ret
      exact ⟨rfl, E.trans hE⟩
    · rw [decide_eq_false h]
      go_enter Try.func28, Try.ntmps28
      go_wp2_with fail
      refine (l2Good_any p q g _).mono ?_
      rintro e w1 ⟨he, hE⟩
      rw [H.out] at he; subst he
      have C := (B.ext hE).cells
      go_wp2
      go_ret
      exact ⟨ret_bool (decide_eq_false (by omega)), E.trans hE⟩
set_option maxHeartbeats 400000 in
theorem areCommits_any (p q g : Int) (A : Option Addr) (n c : Nat) (l : List Int) (w : World) (h : GrpB p q) (ha : RdI w A l) (hl : l.length = n) (hn : n ≤ maxLen) : Calls Try.prog 42 #[.agg #[.int .i64 p, .int .i64 q, .int .i64 g], .slice A n c] w fun e w' => e = .returned (.bool (inR n 1 7 && l.all (elB p q))) ∧ Ext w w' := by
  have E := (Ext.refl w).alloc (.cells #[.int .i64 p, .int .i64 q, .int .i64 g] 31)
  have B := Blk.new w 31 #[.int .i64 p, .int .i64 q, .int .i64 g]
  have C := B.cells
  cases h1 : inR (n : Int) 1 7
  · have H := Lib.hid h1
    rw [Bool.false_and]
    clear h1
    go_enter Try.func42, Try.ntmps42
    go_wp2_with fail
    refine (within_any _ _ _ _).mono ?_
    rintro e w1 ⟨he, rfl⟩
    rw [H.out] at he; subst he
    go_wp2
    go_ret
    exact ⟨rfl, E⟩
  · have H := Lib.hid h1
    rw [Bool.true_and]
    clear h1
    go_enter Try.func42, Try.ntmps42
    go_wp2_with fail
    refine (within_any _ _ _ _).mono ?_
    rintro e w1 ⟨he, rfl⟩
    rw [H.out] at he; subst he
    go_wp2_with fail
    refine (hasAll_any p q g A n c l _ h (ha.ext E) hl hn).mono ?_
    rintro e w2 ⟨rfl, hE⟩
    go_wp2
    go_ret
    exact ⟨rfl, E.trans hE⟩
set_option maxHeartbeats 400000 in
theorem sCommits_any (p q g : Int) (A : Option Addr) (n c : Nat) (l : List Int) (w : World) (h : GrpB p q) (ha : RdI w A l) (hl : l.length = n) (hn : n ≤ maxLen) : Calls Try.prog 29 #[.agg #[.int .i64 p, .int .i64 q, .int .i64 g], .slice A n c] w fun e w' => e = .returned (.bool (inR n 1 7 && l.all (elB p q))) ∧ Ext w w' := by
  have E := (Ext.refl w).alloc (.cells #[.int .i64 p, .int .i64 q, .int .i64 g] 31)
  have B := Blk.new w 31 #[.int .i64 p, .int .i64 q, .int .i64 g]
  have C := B.cells
  cases h1 : inR (n : Int) 1 7
  · have H := Lib.hid h1
    rw [Bool.false_and]
    clear h1
    go_enter Try.func29, Try.ntmps29
    go_wp2_with fail
    refine (l1In_any _ _ _ _).mono ?_
    rintro e w1 ⟨he, rfl⟩
    rw [H.out] at he; subst he
    go_wp2
    go_ret
    exact ⟨rfl, E⟩
  · have H := Lib.hid h1
    rw [Bool.true_and]
    clear h1
    go_enter Try.func29, Try.ntmps29
    go_wp2_with fail
    refine (l1In_any _ _ _ _).mono ?_
    rintro e w1 ⟨he, rfl⟩
    rw [H.out] at he; subst he
    go_wp2_with fail
    refine (gIs_any p q g A n c l _ h (ha.ext E) hl hn).mono ?_
    rintro e w2 ⟨rfl, hE⟩
    go_wp2
    go_ret
    exact ⟨rfl, E.trans hE⟩
end Go.Proofs.Ytnhdohjlbchniaa
