/- Contracts for TargetProduct: the program's and the reference's. -/
import Derived.Test.YteohpelbkmdlmaaProg
import Derived.Test.YteohpelbkmdlmaaNum
import Derived.Test.YteohpelbkmdlmaaEq
namespace Go.Proofs.Yteohpelbkmdlmaa
open Go.RowKit

def tgPow (q x : Int) : Nat → Int
  | 0 => 1
  | k + 1 => tgPow q x k * x % q
def tgOut (q x y z : Int) : Nat → Int
  | 0 => 1
  | k + 1 => tgOut q x y z k * ((y * ((k : Int) + 1) + tgPow q x (k + 1) - z) % q) % q

theorem emod_bd (a : Int) {q : Int} (hq : 0 < q) : 0 ≤ a % q ∧ a % q < q := ⟨Int.emod_nonneg a (by omega), Int.emod_lt_of_pos a hq⟩
theorem tgPow_bd {q x : Int} (hq : 2 ≤ q) (k : Nat) : 0 ≤ tgPow q x k ∧ tgPow q x k < q := by
  cases k with
  | zero => simp only [tgPow]; omega
  | succ k => exact emod_bd _ (by omega)
theorem tgOut_bd {q x y z : Int} (hq : 2 ≤ q) (k : Nat) : 0 ≤ tgOut q x y z k ∧ tgOut q x y z k < q := by
  cases k with
  | zero => simp only [tgOut]; omega
  | succ k => exact emod_bd _ (by omega)
theorem mul_bd4 {a b q : Int} (hq : q ≤ 2000000000) (ha : 0 ≤ a ∧ a < q) (hb : 0 ≤ b ∧ b < q) : 0 ≤ a * b ∧ a * b ≤ 4000000000000000000 :=
  ⟨Int.mul_nonneg ha.1 hb.1, Int.le_trans (Int.mul_le_mul (show a ≤ 2000000000 by omega) (show b ≤ 2000000000 by omega) hb.1 (by omega)) (by decide)⟩

theorem mul_bd {a b A B : Int} (ha0 : 0 ≤ a) (ha : a ≤ A) (hb0 : 0 ≤ b) (hb : b ≤ B) : 0 ≤ a * b ∧ a * b ≤ A * B :=
  ⟨Int.mul_nonneg ha0 hb0, Int.mul_le_mul ha hb hb0 (by omega)⟩
theorem emod_le_self {a q : Int} (ha : 0 ≤ a) (hq : 0 < q) : a % q ≤ a := by
  have h1 := Int.emod_add_mul_ediv a q
  have h2 := Int.ediv_nonneg ha (show 0 ≤ q by omega)
  have h3 := Int.mul_nonneg (show 0 ≤ q by omega) h2
  omega
theorem tg_a (y k p z q : Int) : (y * (k + 1) % q + p - z) % q = (y * (k + 1) + p - z) % q := by
  rw [Int.add_sub_assoc, Int.emod_add_emod, Int.add_sub_assoc]
theorem tg_b (y k p z q : Int) : (y * ((k + 1) % q) + p - z) % q = (y * (k + 1) + p - z) % q := by
  rw [Int.add_sub_assoc, ← Int.emod_add_emod, Int.mul_emod, Int.emod_emod_of_dvd _ (Int.dvd_refl q), ← Int.mul_emod, Int.emod_add_emod, Int.add_sub_assoc]
structure TgIn (q n x y z : Int) : Prop where
  q2 : 2 ≤ q
  q9 : q ≤ 2000000000
  n1 : 1 ≤ n
  n12 : n ≤ 12
  x0 : 0 ≤ x
  xq : x < q
  y0 : 0 ≤ y
  yq : y < q
  z0 : 0 ≤ z
  zq : z < q

set_option maxHeartbeats 1000000 in
theorem targetProduct_any (q n x y z : Int) (w : World) (h : TgIn q n x y z) :
    Calls Try.prog 158 #[.int .i64 q, .int .i64 n, .int .i64 x, .int .i64 y, .int .i64 z] w fun e w' => e = .returned (.int .i64 (tgOut q x y z n.toNat)) ∧ w = w' := by
  obtain ⟨h1, h2, h3, h4, h5, h6, h7, h8, h9, h10⟩ := h
  obtain ⟨N, rfl⟩ := Int.eq_ofNat_of_zero_le (show 0 ≤ n by omega)
  have hq0 : (q == 0) = false := by simp; omega
  go_enter Try.func158, Try.ntmps158
  go_wp2
  go_loop [11, 12, 13] (fun o p i => ∃ k : Nat, k ≤ N ∧ i = .int .i64 (k + 1) ∧ o = .int .i64 (tgOut q x y z k) ∧ p = .int .i64 (tgPow q x k)) (fun _ _ i => N + 1 - (intOf i).toNat)
  case atStart => exact ⟨0, Nat.zero_le _, rfl, rfl, rfl⟩
  case round =>
    obtain ⟨k, hk, rfl, rfl, rfl⟩ := hrel
    by_cases hlt : k < N
    · have b1 := tgPow_bd (x := x) h1 k
      have b2 := tgOut_bd (x := x) (y := y) (z := z) h1 k
      have b3 := mul_bd4 h2 b1 ⟨h5, h6⟩
      have b4 := tgPow_bd (x := x) h1 (k + 1)
      have e4 : tgPow q x (k + 1) = tgPow q x k * x % q := rfl
      rw [e4] at b4
      clear e4
      have b5 : 0 ≤ y * ((k : Int) + 1) ∧ y * ((k : Int) + 1) ≤ 2000000000 * 13 := mul_bd h7 (by omega) (by omega) (by omega)
      have b6 := emod_bd (y * ((k : Int) + 1)) (q := q) (by omega)
      have b7 := emod_bd (y * ((k : Int) + 1) % q + tgPow q x k * x % q - z) (q := q) (by omega)
      have b8 := mul_bd4 h2 b2 b7
      go_wp2_with fail
      refine (mod_any _ _ _ (by omega) (by omega) (by omega) (by omega)).mono ?_
      rintro e w1 ⟨rfl, rfl⟩
      go_wp2
      go_round
      case rel => exact ⟨k + 1, by omega, by go_num, by rw [tgOut]; congr 3; exact tg_a y k (tgPow q x k * x % q) z q, rfl⟩
      case measure => simp [intOf]; omega
    · obtain rfl : k = N := by omega
      go_wp2
      go_ret
      exact ⟨rfl, rfl⟩

set_option maxHeartbeats 1000000 in
theorem vTarget_any (q n x y z : Int) (w : World) (h : TgIn q n x y z) :
    Calls Try.prog 161 #[.int .i64 q, .int .i64 n, .int .i64 x, .int .i64 y, .int .i64 z] w fun e w' => e = .returned (.int .i64 (tgOut q x y z n.toNat)) ∧ w = w' := by
  obtain ⟨h1, h2, h3, h4, h5, h6, h7, h8, h9, h10⟩ := h
  obtain ⟨N, rfl⟩ := Int.eq_ofNat_of_zero_le (show 0 ≤ n by omega)
  have hq0 : (q == 0) = false := by simp; omega
  go_enter Try.func161, Try.ntmps161
  go_wp2
  go_loop [11, 12, 13] (fun o p i => ∃ k : Nat, k ≤ N ∧ i = .int .i64 (k + 1) ∧ o = .int .i64 (tgOut q x y z k) ∧ p = .int .i64 (tgPow q x k)) (fun _ _ i => N + 1 - (intOf i).toNat)
  case atStart => exact ⟨0, Nat.zero_le _, rfl, by rw [Int.emod_eq_of_lt (by omega) (by omega)]; rfl, rfl⟩
  case round =>
    obtain ⟨k, hk, rfl, rfl, rfl⟩ := hrel
    by_cases hlt : k < N
    · have b1 := tgPow_bd (x := x) h1 k
      have b2 := tgOut_bd (x := x) (y := y) (z := z) h1 k
      have b3 := mul_bd4 h2 b1 ⟨h5, h6⟩
      have b4 := tgPow_bd (x := x) h1 (k + 1)
      have e4 : tgPow q x (k + 1) = tgPow q x k * x % q := rfl
      rw [e4] at b4
      clear e4
      have b5 : 0 ≤ y * ((k : Int) + 1) ∧ y * ((k : Int) + 1) ≤ 2000000000 * 13 := mul_bd h7 (by omega) (by omega) (by omega)
      have b6 := emod_bd ((k : Int) + 1) (q := q) (by omega)
      have b6' : ((k : Int) + 1) % q ≤ k + 1 := emod_le_self (by omega) (by omega)
      have b6'' : 0 ≤ y * (((k : Int) + 1) % q) ∧ y * (((k : Int) + 1) % q) ≤ 2000000000 * 13 := mul_bd h7 (by omega) b6.1 (by omega)
      have b7 := emod_bd (y * (((k : Int) + 1) % q) + tgPow q x k * x % q - z) (q := q) (by omega)
      have b8 := mul_bd4 h2 b2 b7
      go_wp2_with fail
      refine (nMod_any _ _ _ (by omega) (by omega) (by omega) (by omega)).mono ?_
      rintro e w1 ⟨rfl, rfl⟩
      go_wp2
      go_round
      case rel => exact ⟨k + 1, by omega, by go_num, by rw [tgOut]; congr 3; exact tg_b y k (tgPow q x k * x % q) z q, rfl⟩
      case measure => simp [intOf]; omega
    · obtain rfl : k = N := by omega
      go_wp2
      go_ret
      exact ⟨rfl, rfl⟩

noncomputable def tgGood (q n x y z : Int) : Bool := fieldB q && inR n 1 12 && allR [x, y, z] 0 (q - 1)
theorem tgGood_in {q n x y z : Int} (h : tgGood q n x y z = true) : TgIn q n x y z := by
  simp only [tgGood, fieldB, Bool.and_eq_true] at h
  obtain ⟨⟨⟨h1, _⟩, h3⟩, h4⟩ := h
  have h1 := inR_iff.1 h1
  have h3 := inR_iff.1 h3
  have h4 := allR_iff.1 h4
  have hx := h4 x (by simp)
  have hy := h4 y (by simp)
  have hz := h4 z (by simp)
  exact ⟨h1.1, h1.2, h3.1, h3.2, hx.1, by omega, hy.1, by omega, hz.1, by omega⟩
noncomputable def tgVal (q n x y z : Int) : Int := if tgGood q n x y z then tgOut q x y z n.toNat else 0

theorem fieldB_bd {q : Int} (h : fieldB q = true) : 2 ≤ q ∧ q ≤ 2000000000 := by
  simp only [fieldB, Bool.and_eq_true] at h
  exact inR_iff.1 h.1

set_option maxHeartbeats 1000000 in
theorem sTargetProduct_any (q n x y z : Int) (w : World) :
    Calls Try.prog 69 #[.int .i64 q, .int .i64 n, .int .i64 x, .int .i64 y, .int .i64 z] w fun e w' =>
      e = .returned (.tuple #[.int .i64 (tgVal q n x y z), .bool (tgGood q n x y z)]) ∧ Ext w w' := by
  cases h1 : fieldB q
  · have h0 : tgGood q n x y z = false := by simp [tgGood, h1]
    have hv : tgVal q n x y z = 0 := by simp [tgVal, h0]
    rw [h0, hv]
    clear h0 hv
    go_enter Try.func69, Try.ntmps69
    go_wp2_with fail
    refine (yModulus_any _ _).mono ?_
    rintro e w1 ⟨rfl, rfl⟩
    go_wp2
    go_ret2
    exact ⟨rfl, Ext.refl _⟩
  have hq := fieldB_bd h1
  cases h2 : inR n 1 12
  · have h0 : tgGood q n x y z = false := by simp [tgGood, h2]
    have hv : tgVal q n x y z = 0 := by simp [tgVal, h0]
    rw [h0, hv]
    clear h0 hv
    go_enter Try.func69, Try.ntmps69
    go_wp2_with fail
    refine (yModulus_any _ _).mono ?_
    rintro e w1 ⟨rfl, rfl⟩
    go_wp2_with fail
    refine (l1In_any _ _ _ _).mono ?_
    rintro e w1 ⟨rfl, rfl⟩
    go_wp2
    go_ret2
    exact ⟨rfl, Ext.refl _⟩
  cases h3 : allR [x, y, z] 0 (q - 1)
  · have h0 : tgGood q n x y z = false := by simp [tgGood, h3]
    have hv : tgVal q n x y z = 0 := by simp [tgVal, h0]
    rw [h0, hv]
    clear h0 hv
    go_enter Try.func69, Try.ntmps69
    go_wp2_with fail
    refine (yModulus_any _ _).mono ?_
    rintro e w1 ⟨rfl, rfl⟩
    go_wp2_with fail
    refine (l1In_any _ _ _ _).mono ?_
    rintro e w1 ⟨rfl, rfl⟩
    go_wp2_with fail
    have hO := ownI_lit (w := w) (base := w.heap.size) (e := 3) [x, y, z] rfl rfl (Nat.le_refl _) (by unfold maxLen; simp)
    refine (l1All_any _ _ _ [x, y, z] _ _ _ hO.rd rfl (by unfold maxLen; simp)).mono ?_
    rintro e w1 ⟨rfl, rfl⟩
    go_wp2
    go_ret2
    exact ⟨rfl, (Ext.refl _).alloc _⟩
  · have h0 : tgGood q n x y z = true := by simp [tgGood, h1, h2, h3]
    have hv : tgVal q n x y z = tgOut q x y z n.toNat := by simp [tgVal, h0]
    have hi := tgGood_in h0
    rw [h0, hv]
    clear h0 hv
    go_enter Try.func69, Try.ntmps69
    go_wp2_with fail
    refine (yModulus_any _ _).mono ?_
    rintro e w1 ⟨rfl, rfl⟩
    go_wp2_with fail
    refine (l1In_any _ _ _ _).mono ?_
    rintro e w1 ⟨rfl, rfl⟩
    go_wp2_with fail
    have hO := ownI_lit (w := w) (base := w.heap.size) (e := 3) [x, y, z] rfl rfl (Nat.le_refl _) (by unfold maxLen; simp)
    refine (l1All_any _ _ _ [x, y, z] _ _ _ hO.rd rfl (by unfold maxLen; simp)).mono ?_
    rintro e w1 ⟨rfl, rfl⟩
    go_wp2_with fail
    refine (vTarget_any _ _ _ _ _ _ hi).mono ?_
    rintro e w1 ⟨rfl, rfl⟩
    go_wp2
    go_ret2
    exact ⟨rfl, (Ext.refl _).alloc _⟩

set_option maxHeartbeats 1000000 in
theorem iTargetProduct_any (q n x y z : Int) (w : World) :
    Calls Try.prog 68 #[.int .i64 q, .int .i64 n, .int .i64 x, .int .i64 y, .int .i64 z] w fun e w' =>
      e = .returned (.tuple #[.int .i64 (tgVal q n x y z), .bool (tgGood q n x y z)]) ∧ Ext w w' := by
  cases h1 : fieldB q
  · have h0 : tgGood q n x y z = false := by simp [tgGood, h1]
    have hv : tgVal q n x y z = 0 := by simp [tgVal, h0]
    rw [h0, hv]
    clear h0 hv
    go_enter Try.func68, Try.ntmps68
    go_wp2_with fail
    refine (isField_any _ _).mono ?_
    rintro e w1 ⟨rfl, rfl⟩
    go_wp2
    go_ret2
    exact ⟨rfl, Ext.refl _⟩
  have hq := fieldB_bd h1
  cases h2 : inR n 1 12
  · have h0 : tgGood q n x y z = false := by simp [tgGood, h2]
    have hv : tgVal q n x y z = 0 := by simp [tgVal, h0]
    rw [h0, hv]
    clear h0 hv
    go_enter Try.func68, Try.ntmps68
    go_wp2_with fail
    refine (isField_any _ _).mono ?_
    rintro e w1 ⟨rfl, rfl⟩
    go_wp2_with fail
    refine (within_any _ _ _ _).mono ?_
    rintro e w1 ⟨rfl, rfl⟩
    go_wp2
    go_ret2
    exact ⟨rfl, Ext.refl _⟩
  cases h3 : allR [x, y, z] 0 (q - 1)
  · have h0 : tgGood q n x y z = false := by simp [tgGood, h3]
    have hv : tgVal q n x y z = 0 := by simp [tgVal, h0]
    rw [h0, hv]
    clear h0 hv
    go_enter Try.func68, Try.ntmps68
    go_wp2_with fail
    refine (isField_any _ _).mono ?_
    rintro e w1 ⟨rfl, rfl⟩
    go_wp2_with fail
    refine (within_any _ _ _ _).mono ?_
    rintro e w1 ⟨rfl, rfl⟩
    go_wp2_with fail
    have hO := ownI_lit (w := w) (base := w.heap.size) (e := 3) [x, y, z] rfl rfl (Nat.le_refl _) (by unfold maxLen; simp)
    refine (areBelow_any _ _ _ [x, y, z] _ _ hO.rd rfl (by unfold maxLen; simp) (by omega) (by omega)).mono ?_
    rintro e w1 ⟨rfl, hb⟩
    go_wp2
    go_ret2
    exact ⟨rfl, ((Ext.refl _).alloc _).trans hb⟩
  · have h0 : tgGood q n x y z = true := by simp [tgGood, h1, h2, h3]
    have hv : tgVal q n x y z = tgOut q x y z n.toNat := by simp [tgVal, h0]
    have hi := tgGood_in h0
    rw [h0, hv]
    clear h0 hv
    go_enter Try.func68, Try.ntmps68
    go_wp2_with fail
    refine (isField_any _ _).mono ?_
    rintro e w1 ⟨rfl, rfl⟩
    go_wp2_with fail
    refine (within_any _ _ _ _).mono ?_
    rintro e w1 ⟨rfl, rfl⟩
    go_wp2_with fail
    have hO := ownI_lit (w := w) (base := w.heap.size) (e := 3) [x, y, z] rfl rfl (Nat.le_refl _) (by unfold maxLen; simp)
    refine (areBelow_any _ _ _ [x, y, z] _ _ hO.rd rfl (by unfold maxLen; simp) (by omega) (by omega)).mono ?_
    rintro e w1 ⟨rfl, hb⟩
    go_wp2_with fail
    refine (targetProduct_any _ _ _ _ _ _ hi).mono ?_
    rintro e w2 ⟨rfl, rfl⟩
    go_wp2
    go_ret2
    exact ⟨rfl, ((Ext.refl _).alloc _).trans hb⟩
end Go.Proofs.Yteohpelbkmdlmaa
