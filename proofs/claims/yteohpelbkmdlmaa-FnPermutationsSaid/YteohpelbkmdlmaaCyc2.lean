/- Contracts for CyclesOf and SignOf: the program's and the reference's. -/
import Derived.Test.YteohpelbkmdlmaaProg
import Derived.Test.YteohpelbkmdlmaaCyc
namespace Go.Proofs.Yteohpelbkmdlmaa
open Go.RowKit

theorem permB_R {p : List Int} {n : Nat} (h : permB p = true) (hl : p.length = n) : n ≤ 24 ∧ allR p 0 (n - 1) = true := by
  subst hl
  exact ⟨(permB_parts h).1, (permB_parts h).2.1⟩

set_option maxHeartbeats 1000000 in
theorem sCyclesOf_any (A : Option Addr) (n c : Nat) (p : List Int) (w : World) (ha : RdI w A p) (hl : p.length = n) (_hn : n ≤ 1048576) (hc : n ≤ c ∧ c ≤ maxLen) :
    Calls Try.prog 41 #[.slice A n c] w fun e w' => ResSS w (cycR p) e w' := by
  cases h : permB p
  · have hr : cycR p = none := by simp [cycR, h]
    rw [hr]; clear hr
    go_enter Try.func41, Try.ntmps41
    go_wp2_with fail
    refine (mGood_any _ _ _ p _ ha hl hc.1 hc.2).mono ?_
    rintro e w1 ⟨he, rfl⟩
    rw [h] at he; subst he
    go_wp2
    go_ret2
    exact ⟨_, _, _, _, rfl, OwnII.nil _ _, Ext.refl _⟩
  · have hr : cycR p = some (cycAt p n).1 := by simp [cycR, h, hl]
    rw [hr]; clear hr
    obtain ⟨h24, hR⟩ := permB_R h hl
    have H := Lib.hid h
    have HR := Lib.hid hR
    clear h hR
    go_enter Try.func41, Try.ntmps41
    go_wp2_with fail
    refine (mGood_any _ _ _ p _ ha hl hc.1 hc.2).mono ?_
    rintro e w1 ⟨he, rfl⟩
    rw [H.out] at he; subst he
    go_wp2_with fail
    refine (mCycles_any _ _ _ p _ ha hl h24 HR.out).mono ?_
    rintro e w2 ⟨A', n', c', P, rfl, hO, hE⟩
    go_wp2
    go_ret2
    exact ⟨_, _, _, _, rfl, hO, hE⟩

set_option maxHeartbeats 1000000 in
theorem iCyclesOf_any (A : Option Addr) (n c : Nat) (p : List Int) (w : World) (ha : RdI w A p) (hl : p.length = n) (_hn : n ≤ 1048576) (hc : n ≤ c ∧ c ≤ maxLen) :
    Calls Try.prog 42 #[.slice A n c] w fun e w' => ResSS w (cycR p) e w' := by
  cases h : permB p
  · have hr : cycR p = none := by simp [cycR, h]
    rw [hr]; clear hr
    go_enter Try.func42, Try.ntmps42
    go_wp2_with fail
    refine (iIsPermutation_b _ _ _ p _ ha hl hc.1 hc.2).mono ?_
    rintro e w1 ⟨he, hE⟩
    rw [h] at he; subst he
    go_wp2
    go_ret2
    exact ⟨_, _, _, _, rfl, OwnII.nil _ _, hE⟩
  · have hr : cycR p = some (cycAt p n).1 := by simp [cycR, h, hl]
    rw [hr]; clear hr
    obtain ⟨h24, hR⟩ := permB_R h hl
    have H := Lib.hid h
    have HR := Lib.hid hR
    clear h hR
    go_enter Try.func42, Try.ntmps42
    go_wp2_with fail
    refine (iIsPermutation_b _ _ _ p _ ha hl hc.1 hc.2).mono ?_
    rintro e w1 ⟨he, hE1⟩
    rw [H.out] at he; subst he
    go_wp2_with fail
    refine (cycles_any _ _ _ p _ (ha.ext hE1) hl h24 HR.out).mono ?_
    rintro e w2 ⟨A', n', c', P, rfl, hO, hE⟩
    go_wp2
    go_ret2
    exact ⟨_, _, _, _, rfl, hO.more hE1.size, hE1.trans hE⟩

theorem sgn_test {p : List Int} {n : Nat} (hl : p.length = n) : (cycAt p n).1.length ≤ n ∧ (((n : Int) - (cycAt p n).1.length) % 2 == 1) = sgnB p ∧ 1 - 2 * (((n : Int) - (cycAt p n).1.length) % 2) = if sgnB p then -1 else 1 := by
  subst hl
  have h := (cycAt_facts p p.length).2.2
  refine ⟨h, ?_, ?_⟩
  · unfold sgnB
    rw [Bool.eq_iff_iff, beq_iff_eq, decide_eq_true_eq]
    omega
  · unfold sgnB
    by_cases hh : (p.length - (cycAt p p.length).1.length) % 2 = 1
    · rw [decide_eq_true hh, if_pos rfl]; omega
    · rw [decide_eq_false hh]; simp only [Bool.false_eq_true, if_false]; omega

set_option maxHeartbeats 1000000 in
theorem sSignOf_any (A : Option Addr) (n c : Nat) (p : List Int) (w : World) (ha : RdI w A p) (hl : p.length = n) (_hn : n ≤ 1048576) (hc : n ≤ c ∧ c ≤ maxLen) :
    Calls Try.prog 29 #[.slice A n c] w fun e w' => e = .returned (.tuple #[.int .i64 (sgnVal p), .bool (permB p)]) ∧ Ext w w' := by
  cases h : permB p
  · have hr : sgnVal p = 0 := by simp [sgnVal, h]
    rw [hr]; clear hr
    go_enter Try.func29, Try.ntmps29
    go_wp2_with fail
    refine (mGood_any _ _ _ p _ ha hl hc.1 hc.2).mono ?_
    rintro e w1 ⟨he, rfl⟩
    rw [h] at he; subst he
    go_wp2
    go_ret2
    exact ⟨rfl, Ext.refl _⟩
  · have hr : sgnVal p = if sgnB p then -1 else 1 := by simp [sgnVal, h]
    rw [hr]; clear hr
    obtain ⟨h24, hR⟩ := permB_R h hl
    obtain ⟨hm, ht, _⟩ := sgn_test hl
    have H := Lib.hid h
    have HR := Lib.hid hR
    clear h hR
    cases hs : sgnB p
    · rw [hs] at ht
      go_enter Try.func29, Try.ntmps29
      go_wp2_with fail
      refine (mGood_any _ _ _ p _ ha hl hc.1 hc.2).mono ?_
      rintro e w1 ⟨he, rfl⟩
      rw [H.out] at he; subst he
      go_wp2_with fail
      refine (mCycles_any _ _ _ p _ ha hl h24 HR.out).mono ?_
      rintro e w2 ⟨A', n', c', P, rfl, hO, hE⟩
      have hn' := hO.len
      subst hn'
      clear hl
      generalize (cycAt p n).1.length = m at *
      go_wp2
      go_ret2
      exact ⟨rfl, hE⟩
    · rw [hs] at ht
      go_enter Try.func29, Try.ntmps29
      go_wp2_with fail
      refine (mGood_any _ _ _ p _ ha hl hc.1 hc.2).mono ?_
      rintro e w1 ⟨he, rfl⟩
      rw [H.out] at he; subst he
      go_wp2_with fail
      refine (mCycles_any _ _ _ p _ ha hl h24 HR.out).mono ?_
      rintro e w2 ⟨A', n', c', P, rfl, hO, hE⟩
      have hn' := hO.len
      subst hn'
      clear hl
      generalize (cycAt p n).1.length = m at *
      go_wp2
      go_ret2
      exact ⟨rfl, hE⟩

set_option maxHeartbeats 1000000 in
theorem iSignOf_any (A : Option Addr) (n c : Nat) (p : List Int) (w : World) (ha : RdI w A p) (hl : p.length = n) (_hn : n ≤ 1048576) (hc : n ≤ c ∧ c ≤ maxLen) :
    Calls Try.prog 31 #[.slice A n c] w fun e w' => e = .returned (.tuple #[.int .i64 (sgnVal p), .bool (permB p)]) ∧ Ext w w' := by
  cases h : permB p
  · have hr : sgnVal p = 0 := by simp [sgnVal, h]
    rw [hr]; clear hr
    go_enter Try.func31, Try.ntmps31
    go_wp2_with fail
    refine (iIsPermutation_b _ _ _ p _ ha hl hc.1 hc.2).mono ?_
    rintro e w1 ⟨he, hE⟩
    rw [h] at he; subst he
    go_wp2
    go_ret2
    exact ⟨rfl, hE⟩
  · have hr : sgnVal p = if sgnB p then -1 else 1 := by simp [sgnVal, h]
    rw [hr]; clear hr
    obtain ⟨h24, hR⟩ := permB_R h hl
    obtain ⟨hm, _, ht⟩ := sgn_test hl
    generalize hv : (if sgnB p then (-1 : Int) else 1) = V at ht ⊢
    clear hv
    have H := Lib.hid h
    have HR := Lib.hid hR
    have HT := Lib.hid ht
    clear h hR ht
    go_enter Try.func31, Try.ntmps31
    go_wp2_with fail
    refine (iIsPermutation_b _ _ _ p _ ha hl hc.1 hc.2).mono ?_
    rintro e w1 ⟨he, hE1⟩
    rw [H.out] at he; subst he
    go_wp2_with fail
    refine (cycles_any _ _ _ p _ (ha.ext hE1) hl h24 HR.out).mono ?_
    rintro e w2 ⟨A', n', c', P, rfl, hO, hE⟩
    have hn' := hO.len
    subst hn'
    clear hl
    generalize (cycAt p n).1.length = m at *
    have hm0 : 0 ≤ (n : Int) - m := by omega
    go_wp2
    go_ret2
    exact ⟨by rw [← HT.out]; rfl, hE1.trans hE⟩
end Go.Proofs.Yteohpelbkmdlmaa
