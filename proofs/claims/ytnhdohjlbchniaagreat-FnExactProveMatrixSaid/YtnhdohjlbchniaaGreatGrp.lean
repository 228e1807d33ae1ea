/- Contracts for groups: whether a group is valid; the reference's test and the program's. -/
import Derived.Test.YtnhdohjlbchniaaGreatProg
import Derived.Test.YtnhdohjlbchniaaGreatNum
namespace Go.Proofs.YtnhdohjlbchniaaGreat
open Go.RowKit

/-- Whether (p, q, g) is a group. -/
noncomputable def grpB (p q g : Int) : Bool := inR p 3 2000000000 && (inR q 2 (p - 1) && (decide ((p - 1) % q = 0) && (inR g 2 (p - 1) && (decide (powM g q p = 1) && (primeB q && primeB p)))))
structure GrpIn (p q g : Int) : Prop where
  p3 : 3 ≤ p
  p9 : p ≤ 2000000000
  q2 : 2 ≤ q
  qp : q ≤ p - 1
  qd : (p - 1) % q = 0
  g2 : 2 ≤ g
  gp : g ≤ p - 1
  gq : powM g q p = 1
  hq : primeB q = true
  hp : primeB p = true
theorem grpB_in {p q g : Int} (h : grpB p q g = true) : GrpIn p q g := by
  simp only [grpB, Bool.and_eq_true, decide_eq_true_eq] at h
  obtain ⟨h1, h2, h3, h4, h5, h6, h7⟩ := h
  have a1 := inR_iff.1 h1
  have a2 := inR_iff.1 h2
  have a4 := inR_iff.1 h4
  exact ⟨a1.1, a1.2, a2.1, a2.2, h3, a4.1, a4.2, h5, h6, h7⟩
theorem fieldB_prime {n : Int} (h1 : 2 ≤ n) (h2 : n ≤ 2000000000) : fieldB n = primeB n := by
  unfold fieldB
  rw [inR_iff.2 ⟨h1, h2⟩, Bool.true_and]

set_option maxHeartbeats 2000000 in
theorem l2Good_any (p q g : Int) (w : World) : Calls Tryz.prog 37 #[.agg #[.int .i64 p, .int .i64 q, .int .i64 g]] w fun e w' => e = .returned (.bool (grpB p q g)) ∧ Ext w w' := by
  have hE := (Ext.refl w).alloc (.cells #[.int .i64 p, .int .i64 q, .int .i64 g] 33)
  cases h1 : inR p 3 2000000000
  · go_enter Tryz.func37, Tryz.ntmps37
    go_wp2_with fail
    refine (l1In_any _ _ _ _).mono ?_
    rintro e w1 ⟨he, rfl⟩
    rw [h1] at he; subst he
    go_wp2
    go_ret
    exact ⟨ret_bool (by simp [grpB, h1]), hE⟩
  have b1 := inR_iff.1 h1
  cases h2 : inR q 2 (p - 1)
  · go_enter Tryz.func37, Tryz.ntmps37
    go_wp2_with fail
    refine (l1In_any _ _ _ _).mono ?_
    rintro e w1 ⟨he, rfl⟩
    rw [h1] at he; subst he
    go_wp2_with fail
    refine (l1In_any _ _ _ _).mono ?_
    rintro e w1 ⟨he, rfl⟩
    rw [h2] at he; subst he
    go_wp2
    go_ret
    exact ⟨ret_bool (by simp [grpB, h1, h2]), hE⟩
  have b2 := inR_iff.1 h2
  have hq0 : (q == 0) = false := by simp; omega
  by_cases h3 : (p - 1) % q = 0
  case neg =>
    have hz : ((p - 1) % q == 0) = false := by simp [h3]
    go_enter Tryz.func37, Tryz.ntmps37
    go_wp2_with fail
    refine (l1In_any _ _ _ _).mono ?_
    rintro e w1 ⟨he, rfl⟩
    rw [h1] at he; subst he
    go_wp2_with fail
    refine (l1In_any _ _ _ _).mono ?_
    rintro e w1 ⟨he, rfl⟩
    rw [h2] at he; subst he
    go_wp2
    go_ret
    exact ⟨ret_bool (by simp [grpB, h1, h2, h3]), hE⟩
  have hz : ((p - 1) % q == 0) = true := by simp [h3]
  cases h4 : inR g 2 (p - 1)
  · go_enter Tryz.func37, Tryz.ntmps37
    go_wp2_with fail
    refine (l1In_any _ _ _ _).mono ?_
    rintro e w1 ⟨he, rfl⟩
    rw [h1] at he; subst he
    go_wp2_with fail
    refine (l1In_any _ _ _ _).mono ?_
    rintro e w1 ⟨he, rfl⟩
    rw [h2] at he; subst he
    go_wp2_with fail
    refine (l1In_any _ _ _ _).mono ?_
    rintro e w1 ⟨he, rfl⟩
    rw [h4] at he; subst he
    go_wp2
    go_ret
    exact ⟨ret_bool (by simp [grpB, h1, h2, h3, h4]), hE⟩
  have b4 := inR_iff.1 h4
  by_cases h5 : powM g q p = 1
  case neg =>
    have hy : (powM g q p == 1) = false := by simp [h5]
    go_enter Tryz.func37, Tryz.ntmps37
    go_wp2_with fail
    refine (l1In_any _ _ _ _).mono ?_
    rintro e w1 ⟨he, rfl⟩
    rw [h1] at he; subst he
    go_wp2_with fail
    refine (l1In_any _ _ _ _).mono ?_
    rintro e w1 ⟨he, rfl⟩
    rw [h2] at he; subst he
    go_wp2_with fail
    refine (l1In_any _ _ _ _).mono ?_
    rintro e w1 ⟨he, rfl⟩
    rw [h4] at he; subst he
    go_wp2_with fail
    refine (nPower_any g q p _ (by omega) (by omega) (by omega) (by omega) (by omega) (by omega)).mono ?_
    rintro e w1 ⟨rfl, rfl⟩
    go_wp2
    go_ret
    exact ⟨ret_bool (by simp [grpB, h1, h2, h3, h4, h5]), hE⟩
  have hy : (powM g q p == 1) = true := by simp [h5]
  cases h6 : primeB q
  · go_enter Tryz.func37, Tryz.ntmps37
    go_wp2_with fail
    refine (l1In_any _ _ _ _).mono ?_
    rintro e w1 ⟨he, rfl⟩
    rw [h1] at he; subst he
    go_wp2_with fail
    refine (l1In_any _ _ _ _).mono ?_
    rintro e w1 ⟨he, rfl⟩
    rw [h2] at he; subst he
    go_wp2_with fail
    refine (l1In_any _ _ _ _).mono ?_
    rintro e w1 ⟨he, rfl⟩
    rw [h4] at he; subst he
    go_wp2_with fail
    refine (nPower_any g q p _ (by omega) (by omega) (by omega) (by omega) (by omega) (by omega)).mono ?_
    rintro e w1 ⟨rfl, rfl⟩
    go_wp2_with fail
    refine (nPrime_any _ _ (by omega)).mono ?_
    rintro e w1 ⟨he, rfl⟩
    rw [h6] at he; subst he
    go_wp2
    go_ret
    exact ⟨ret_bool (by simp [grpB, h1, h2, h3, h4, h5, h6]), hE⟩
  cases h7 : primeB p
  · go_enter Tryz.func37, Tryz.ntmps37
    go_wp2_with fail
    refine (l1In_any _ _ _ _).mono ?_
    rintro e w1 ⟨he, rfl⟩
    rw [h1] at he; subst he
    go_wp2_with fail
    refine (l1In_any _ _ _ _).mono ?_
    rintro e w1 ⟨he, rfl⟩
    rw [h2] at he; subst he
    go_wp2_with fail
    refine (l1In_any _ _ _ _).mono ?_
    rintro e w1 ⟨he, rfl⟩
    rw [h4] at he; subst he
    go_wp2_with fail
    refine (nPower_any g q p _ (by omega) (by omega) (by omega) (by omega) (by omega) (by omega)).mono ?_
    rintro e w1 ⟨rfl, rfl⟩
    go_wp2_with fail
    refine (nPrime_any _ _ (by omega)).mono ?_
    rintro e w1 ⟨he, rfl⟩
    rw [h6] at he; subst he
    go_wp2_with fail
    refine (nPrime_any _ _ (by omega)).mono ?_
    rintro e w1 ⟨he, rfl⟩
    rw [h7] at he; subst he
    go_wp2
    go_ret
    exact ⟨ret_bool (by simp [grpB, h1, h2, h3, h4, h5, h6, h7]), hE⟩
  go_enter Tryz.func37, Tryz.ntmps37
  go_wp2_with fail
  refine (l1In_any _ _ _ _).mono ?_
  rintro e w1 ⟨he, rfl⟩
  rw [h1] at he; subst he
  go_wp2_with fail
  refine (l1In_any _ _ _ _).mono ?_
  rintro e w1 ⟨he, rfl⟩
  rw [h2] at he; subst he
  go_wp2_with fail
  refine (l1In_any _ _ _ _).mono ?_
  rintro e w1 ⟨he, rfl⟩
  rw [h4] at he; subst he
  go_wp2_with fail
  refine (nPower_any g q p _ (by omega) (by omega) (by omega) (by omega) (by omega) (by omega)).mono ?_
  rintro e w1 ⟨rfl, rfl⟩
  go_wp2_with fail
  refine (nPrime_any _ _ (by omega)).mono ?_
  rintro e w1 ⟨he, rfl⟩
  rw [h6] at he; subst he
  go_wp2_with fail
  refine (nPrime_any _ _ (by omega)).mono ?_
  rintro e w1 ⟨he, rfl⟩
  rw [h7] at he; subst he
  go_wp2
  go_ret
  exact ⟨ret_bool (by simp [grpB, h1, h2, h3, h4, h5, h6, h7]), hE⟩

set_option maxHeartbeats 2000000 in
theorem IsValidGroup_any (p q g : Int) (w : World) : Calls Tryz.prog 51 #[.agg #[.int .i64 p, .int .i64 q, .int .i64 g]] w fun e w' => e = .returned (.bool (grpB p q g)) ∧ Ext w w' := by
  have hE := (Ext.refl w).alloc (.cells #[.int .i64 p, .int .i64 q, .int .i64 g] 33)
  cases h1 : inR p 3 2000000000
  · go_enter Tryz.func51, Tryz.ntmps51
    go_wp2_with fail
    refine (within_any _ _ _ _).mono ?_
    rintro e w1 ⟨he, rfl⟩
    rw [h1] at he; subst he
    go_wp2
    go_ret
    exact ⟨ret_bool (by simp [grpB, h1]), hE⟩
  have b1 := inR_iff.1 h1
  cases h2 : inR q 2 (p - 1)
  · go_enter Tryz.func51, Tryz.ntmps51
    go_wp2_with fail
    refine (within_any _ _ _ _).mono ?_
    rintro e w1 ⟨he, rfl⟩
    rw [h1] at he; subst he
    go_wp2_with fail
    refine (within_any _ _ _ _).mono ?_
    rintro e w1 ⟨he, rfl⟩
    rw [h2] at he; subst he
    go_wp2
    go_ret
    exact ⟨ret_bool (by simp [grpB, h1, h2]), hE⟩
  have b2 := inR_iff.1 h2
  have hq0 : (q == 0) = false := by simp; omega
  by_cases h3 : (p - 1) % q = 0
  case neg =>
    have hz : ((p - 1) % q == 0) = false := by simp [h3]
    go_enter Tryz.func51, Tryz.ntmps51
    go_wp2_with fail
    refine (within_any _ _ _ _).mono ?_
    rintro e w1 ⟨he, rfl⟩
    rw [h1] at he; subst he
    go_wp2_with fail
    refine (within_any _ _ _ _).mono ?_
    rintro e w1 ⟨he, rfl⟩
    rw [h2] at he; subst he
    go_wp2
    go_ret
    exact ⟨ret_bool (by simp [grpB, h1, h2, h3]), hE⟩
  have hz : ((p - 1) % q == 0) = true := by simp [h3]
  cases h4 : inR g 2 (p - 1)
  · go_enter Tryz.func51, Tryz.ntmps51
    go_wp2_with fail
    refine (within_any _ _ _ _).mono ?_
    rintro e w1 ⟨he, rfl⟩
    rw [h1] at he; subst he
    go_wp2_with fail
    refine (within_any _ _ _ _).mono ?_
    rintro e w1 ⟨he, rfl⟩
    rw [h2] at he; subst he
    go_wp2_with fail
    refine (within_any _ _ _ _).mono ?_
    rintro e w1 ⟨he, rfl⟩
    rw [h4] at he; subst he
    go_wp2
    go_ret
    exact ⟨ret_bool (by simp [grpB, h1, h2, h3, h4]), hE⟩
  have b4 := inR_iff.1 h4
  cases h5 : primeB p
  · go_enter Tryz.func51, Tryz.ntmps51
    go_wp2_with fail
    refine (within_any _ _ _ _).mono ?_
    rintro e w1 ⟨he, rfl⟩
    rw [h1] at he; subst he
    go_wp2_with fail
    refine (within_any _ _ _ _).mono ?_
    rintro e w1 ⟨he, rfl⟩
    rw [h2] at he; subst he
    go_wp2_with fail
    refine (within_any _ _ _ _).mono ?_
    rintro e w1 ⟨he, rfl⟩
    rw [h4] at he; subst he
    go_wp2_with fail
    refine (isPrime_any _ _).mono ?_
    rintro e w1 ⟨he, rfl⟩
    rw [fieldB_prime (by omega) (by omega), h5] at he; subst he
    go_wp2
    go_ret
    exact ⟨ret_bool (by simp [grpB, h1, h2, h3, h4, h5]), hE⟩
  cases h6 : primeB q
  · go_enter Tryz.func51, Tryz.ntmps51
    go_wp2_with fail
    refine (within_any _ _ _ _).mono ?_
    rintro e w1 ⟨he, rfl⟩
    rw [h1] at he; subst he
    go_wp2_with fail
    refine (within_any _ _ _ _).mono ?_
    rintro e w1 ⟨he, rfl⟩
    rw [h2] at he; subst he
    go_wp2_with fail
    refine (within_any _ _ _ _).mono ?_
    rintro e w1 ⟨he, rfl⟩
    rw [h4] at he; subst he
    go_wp2_with fail
    refine (isPrime_any _ _).mono ?_
    rintro e w1 ⟨he, rfl⟩
    rw [fieldB_prime (by omega) (by omega), h5] at he; subst he
    go_wp2_with fail
    refine (isPrime_any _ _).mono ?_
    rintro e w1 ⟨he, rfl⟩
    rw [fieldB_prime (by omega) (by omega), h6] at he; subst he
    go_wp2
    go_ret
    exact ⟨ret_bool (by simp [grpB, h1, h2, h3, h4, h5, h6]), hE⟩
  by_cases h7 : powM g q p = 1
  case neg =>
    have hy : (powM g q p == 1) = false := by simp [h7]
    go_enter Tryz.func51, Tryz.ntmps51
    go_wp2_with fail
    refine (within_any _ _ _ _).mono ?_
    rintro e w1 ⟨he, rfl⟩
    rw [h1] at he; subst he
    go_wp2_with fail
    refine (within_any _ _ _ _).mono ?_
    rintro e w1 ⟨he, rfl⟩
    rw [h2] at he; subst he
    go_wp2_with fail
    refine (within_any _ _ _ _).mono ?_
    rintro e w1 ⟨he, rfl⟩
    rw [h4] at he; subst he
    go_wp2_with fail
    refine (isPrime_any _ _).mono ?_
    rintro e w1 ⟨he, rfl⟩
    rw [fieldB_prime (by omega) (by omega), h5] at he; subst he
    go_wp2_with fail
    refine (isPrime_any _ _).mono ?_
    rintro e w1 ⟨he, rfl⟩
    rw [fieldB_prime (by omega) (by omega), h6] at he; subst he
    go_wp2_with fail
    refine (power_any g q p _ (by omega) (by omega) (by omega) (by omega) (by omega) (by omega)).mono ?_
    rintro e w1 ⟨rfl, rfl⟩
    go_wp2
    go_ret
    exact ⟨ret_bool (by simp [grpB, h1, h2, h3, h4, h5, h6, h7]), hE⟩
  have hy : (powM g q p == 1) = true := by simp [h7]
  go_enter Tryz.func51, Tryz.ntmps51
  go_wp2_with fail
  refine (within_any _ _ _ _).mono ?_
  rintro e w1 ⟨he, rfl⟩
  rw [h1] at he; subst he
  go_wp2_with fail
  refine (within_any _ _ _ _).mono ?_
  rintro e w1 ⟨he, rfl⟩
  rw [h2] at he; subst he
  go_wp2_with fail
  refine (within_any _ _ _ _).mono ?_
  rintro e w1 ⟨he, rfl⟩
  rw [h4] at he; subst he
  go_wp2_with fail
  refine (isPrime_any _ _).mono ?_
  rintro e w1 ⟨he, rfl⟩
  rw [fieldB_prime (by omega) (by omega), h5] at he; subst he
  go_wp2_with fail
  refine (isPrime_any _ _).mono ?_
  rintro e w1 ⟨he, rfl⟩
  rw [fieldB_prime (by omega) (by omega), h6] at he; subst he
  go_wp2_with fail
  refine (power_any g q p _ (by omega) (by omega) (by omega) (by omega) (by omega) (by omega)).mono ?_
  rintro e w1 ⟨rfl, rfl⟩
  go_wp2
  go_ret
  exact ⟨ret_bool (by simp [grpB, h1, h2, h3, h4, h5, h6, h7]), hE⟩
end Go.Proofs.YtnhdohjlbchniaaGreat
