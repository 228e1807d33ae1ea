/- Contracts for IsPermutation, ApplyPermutation, ComposePermutations: the program's and the reference's. -/
import Derived.Test.YteohpelbkmdlmaaProg
import Derived.Test.YteohpelbkmdlmaaApply
namespace Go.Proofs.Yteohpelbkmdlmaa
open Go.RowKit

theorem iIsPermutation_any (A : Option Addr) (n c : Nat) (l : List Int) (w : World) (ha : RdI w A l) (hl : l.length = n) (_hn : n ≤ 1048576) (hc : n ≤ c ∧ c ≤ maxLen) :
    Calls Try.prog 121 #[.slice A n c] w fun e w' => e = .returned (.bool (permB l)) ∧ Ext w w' := iIsPermutation_b A n c l w ha hl hc.1 hc.2

def applyR (p l : List Int) : Option (List Int) := if permB p && decide (p.length = l.length) then some (applyL p l) else none
theorem applyR_bd (p l : List Int) : ((applyR p l).getD []).length ≤ 100000 := by
  unfold applyR
  split
  · rename_i h
    simp only [Bool.and_eq_true] at h
    have := (permB_parts h.1).1
    simp only [Option.getD_some, applyL_length]; omega
  · simp



def composeR (p q : List Int) : Option (List Int) := if permB p && (permB q && decide (p.length = q.length)) then some (applyL q p) else none
theorem composeR_bd (p l : List Int) : ((composeR p l).getD []).length ≤ 100000 := by
  unfold composeR
  split
  · rename_i h
    simp only [Bool.and_eq_true] at h
    have := (permB_parts h.2.1).1
    simp only [Option.getD_some, applyL_length]; omega
  · simp

set_option maxHeartbeats 1000000 in
theorem sComposePermutations_any (A : Option Addr) (n c : Nat) (p : List Int) (B : Option Addr) (m d : Nat) (q : List Int) (w : World) (ha : RdI w A p) (hp : p.length = n) (hn : n ≤ 1048576) (hc : n ≤ c ∧ c ≤ maxLen) (hb : RdI w B q) (hq : q.length = m) (hm : m ≤ 1048576) (hd : m ≤ d ∧ d ≤ maxLen) :
    Calls Try.prog 103 #[.slice A n c, .slice B m d] w fun e w' => ResI 3 w (composeR p q) e w' := by
  cases h1 : permB p
  · have hr : composeR p q = none := by simp [composeR, h1]
    rw [hr]; clear hr
    go_enter Try.func103, Try.ntmps103
    go_wp2_with fail
    refine (mGood_any _ _ _ p _ ha hp hc.1 hc.2).mono ?_
    rintro e w1 ⟨rfl, rfl⟩
    go_wp2
    go_ret2
    exact ⟨_, _, _, rfl, OwnI.nil _ _ _, Ext.refl _⟩
  cases h3 : permB q
  · have hr : composeR p q = none := by simp [composeR, h3]
    rw [hr]; clear hr
    go_enter Try.func103, Try.ntmps103
    go_wp2_with fail
    refine (mGood_any _ _ _ p _ ha hp hc.1 hc.2).mono ?_
    rintro e w1 ⟨rfl, rfl⟩
    go_wp2_with fail
    refine (mGood_any _ _ _ q _ hb hq hd.1 hd.2).mono ?_
    rintro e w1 ⟨rfl, rfl⟩
    go_wp2
    go_ret2
    exact ⟨_, _, _, rfl, OwnI.nil _ _ _, Ext.refl _⟩
  by_cases h2 : n = m
  · have hr : composeR p q = some (applyL q p) := by simp [composeR, h1, h3, hp, hq, h2]
    have hR : allR q 0 (n - 1) = true := by rw [h2, ← hq]; exact (permB_parts h3).2.1
    have hne : ((n : Int) != (m : Int)) = false := by simp [h2]
    rw [hr]; clear hr h2
    have HP := Lib.hid hp
    have HQ := Lib.hid hq
    clear hp hq
    go_enter Try.func103, Try.ntmps103
    go_wp2_with fail
    refine (mGood_any _ _ _ p _ ha HP.out hc.1 hc.2).mono ?_
    rintro e w1 ⟨rfl, rfl⟩
    go_wp2_with fail
    refine (mGood_any _ _ _ q _ hb HQ.out hd.1 hd.2).mono ?_
    rintro e w1 ⟨rfl, rfl⟩
    go_wp2_with fail
    refine (mApply_any _ _ _ _ _ _ q p _ hb ha HQ.out HP.out (by omega) (by unfold maxLen; omega) hR).mono ?_
    rintro e w1 ⟨A', c', rfl, hO, hE⟩
    go_wp2
    go_ret2
    exact ⟨_, _, _, rfl, hO, hE⟩
  · have hr : composeR p q = none := by simp [composeR, hp, hq, h2]
    have hne : ((n : Int) != (m : Int)) = true := by rw [bne_iff_ne]; omega
    rw [hr]; clear hr
    go_enter Try.func103, Try.ntmps103
    go_wp2_with fail
    refine (mGood_any _ _ _ p _ ha hp hc.1 hc.2).mono ?_
    rintro e w1 ⟨rfl, rfl⟩
    go_wp2_with fail
    refine (mGood_any _ _ _ q _ hb hq hd.1 hd.2).mono ?_
    rintro e w1 ⟨rfl, rfl⟩
    go_wp2
    go_ret2
    exact ⟨_, _, _, rfl, OwnI.nil _ _ _, Ext.refl _⟩

set_option maxHeartbeats 1000000 in
theorem iComposePermutations_any (A : Option Addr) (n c : Nat) (p : List Int) (B : Option Addr) (m d : Nat) (q : List Int) (w : World) (ha : RdI w A p) (hp : p.length = n) (hn : n ≤ 1048576) (hc : n ≤ c ∧ c ≤ maxLen) (hb : RdI w B q) (hq : q.length = m) (hm : m ≤ 1048576) (hd : m ≤ d ∧ d ≤ maxLen) :
    Calls Try.prog 102 #[.slice A n c, .slice B m d] w fun e w' => ResI 3 w (composeR p q) e w' := by
  cases h1 : permB p
  · have hr : composeR p q = none := by simp [composeR, h1]
    rw [hr]; clear hr
    go_enter Try.func102, Try.ntmps102
    go_wp2_with fail
    refine (iIsPermutation_b _ _ _ p _ ha hp hc.1 hc.2).mono ?_
    rintro e w1 ⟨he, hE⟩
    rw [h1] at he; subst he
    go_wp2
    go_ret2
    exact ⟨_, _, _, rfl, OwnI.nil _ _ _, hE⟩
  cases h3 : permB q
  · have hr : composeR p q = none := by simp [composeR, h3]
    rw [hr]; clear hr
    go_enter Try.func102, Try.ntmps102
    go_wp2_with fail
    refine (iIsPermutation_b _ _ _ p _ ha hp hc.1 hc.2).mono ?_
    rintro e w1 ⟨he, hE⟩
    rw [h1] at he; subst he
    go_wp2_with fail
    refine (iIsPermutation_b _ _ _ q _ (hb.ext hE) hq hd.1 hd.2).mono ?_
    rintro e w2 ⟨he, hE2⟩
    rw [h3] at he; subst he
    go_wp2
    go_ret2
    exact ⟨_, _, _, rfl, OwnI.nil _ _ _, hE.trans hE2⟩
  by_cases h2 : n = m
  · have hr : composeR p q = some (applyL q p) := by simp [composeR, h1, h3, hp, hq, h2]
    have hR : allR q 0 (n - 1) = true := by rw [h2, ← hq]; exact (permB_parts h3).2.1
    have hn2 := (permB_parts h3).1
    have hne : ((n : Int) != (m : Int)) = false := by simp [h2]
    rw [hr]; clear hr h2
    rw [hq] at hn2
    have HP := Lib.hid hp
    have HQ := Lib.hid hq
    clear hp hq
    go_enter Try.func102, Try.ntmps102
    go_wp2_with fail
    refine (iIsPermutation_b _ _ _ p _ ha HP.out hc.1 hc.2).mono ?_
    rintro e w1 ⟨he, hE⟩
    rw [h1] at he; subst he
    go_wp2_with fail
    refine (iIsPermutation_b _ _ _ q _ (hb.ext hE) HQ.out hd.1 hd.2).mono ?_
    rintro e w2 ⟨he, hE2⟩
    rw [h3] at he; subst he
    replace hE := hE.trans hE2
    clear hE2
    go_wp2_with fail
    refine (at_any _ _ _ _ _ _ q p _ (hb.ext hE) (ha.ext hE) HQ.out HP.out (by omega) (by unfold maxLen; omega) hR).mono ?_
    rintro e w3 ⟨A', c', rfl, hO, hE3⟩
    go_wp2
    go_ret2
    exact ⟨_, _, _, rfl, hO.more hE.size, hE.trans hE3⟩
  · have hr : composeR p q = none := by simp [composeR, hp, hq, h2]
    have hne : ((n : Int) != (m : Int)) = true := by rw [bne_iff_ne]; omega
    rw [hr]; clear hr
    go_enter Try.func102, Try.ntmps102
    go_wp2_with fail
    refine (iIsPermutation_b _ _ _ p _ ha hp hc.1 hc.2).mono ?_
    rintro e w1 ⟨he, hE⟩
    rw [h1] at he; subst he
    go_wp2_with fail
    refine (iIsPermutation_b _ _ _ q _ (hb.ext hE) hq hd.1 hd.2).mono ?_
    rintro e w2 ⟨he, hE2⟩
    rw [h3] at he; subst he
    go_wp2
    go_ret2
    exact ⟨_, _, _, rfl, OwnI.nil _ _ _, hE.trans hE2⟩
end Go.Proofs.Yteohpelbkmdlmaa
