/- Contracts for the numbers of chapter 1: moduli, residues, primes, powers, lists of residues. -/
import Derived.Test.YtnekpofaflpmdaaGreatDoorProg
import Derived.Test.YtnekpofaflpmdaaGreatDoorFun
import Derived.Test.YtnekpofaflpmdaaGreatDoorArith
namespace Go.Proofs.YtnekpofaflpmdaaGreatDoor
open Go.RowKit


theorem tmod_neg {n m : Int} (hn : n < 0) (_hm : 0 < m) : n.tmod m = -((-n) % m) := by
  have h1 : n = -(-n) := by omega
  conv => lhs; rw [h1, Int.neg_tmod]
  rw [Int.tmod_eq_emod_of_nonneg (by omega)]
theorem mod_neg {n m : Int} (hn : n < 0) (hm : 0 < m) : (n.tmod m + m) % m = n % m := by
  rw [tmod_neg hn hm, Int.add_emod_right]
  have h1 := Int.emod_add_mul_ediv (-n) m
  have h2 : -((-n) % m) = n + ((-n) / m) * m := by
    have : m * ((-n) / m) = ((-n) / m) * m := Int.mul_comm _ _
    omega
  rw [h2, Int.add_mul_emod_self_right]
theorem mod_nonneg {n m : Int} : (n % m + m) % m = n % m := by
  rw [Int.add_emod_right, Int.emod_emod_of_dvd _ (Int.dvd_refl m)]



theorem natmul_bd (a b : Nat) (ha : (a : Int) ≤ 3000000000) (hb : (b : Int) ≤ 3000000000) : 0 ≤ (a : Int) * b ∧ (a : Int) * b ≤ 9000000000000000000 :=
  ⟨Int.mul_nonneg (by omega) (by omega), Int.le_trans (Int.mul_le_mul ha hb (by omega) (by omega)) (by decide)⟩
theorem toNat_i64 (a : Nat) (ha : a < 9223372036854775808) : (BitVec.ofInt 64 (a : Int)).toNat = a := by
  rw [BitVec.ofInt_natCast, BitVec.toNat_ofNat]; exact Nat.mod_eq_of_lt (by omega)
theorem bit_one (k : Nat) (hk : (k : Int) ≤ 9000000000000000000) : bits .and .i64 (k : Int) 1 = ((k % 2 : Nat) : Int) := by
  have h1 : (1 : Int) = ((1 : Nat) : Int) := rfl
  have hx : k &&& 1 < 2 ^ 63 := Nat.and_lt_two_pow _ (by omega)
  rw [h1]
  show IntKind.i64.wrap ((BitVec.ofInt 64 (k : Int) &&& BitVec.ofInt 64 ((1 : Nat) : Int)).toNat : Int) = _
  rw [BitVec.toNat_and, toNat_i64 k (by omega), toNat_i64 1 (by omega), IntKind.wrap_i64, Nat.and_one_is_mod]
  omega





def allR (l : List Int) (lo hi : Int) : Bool := l.all fun x => inR x lo hi
theorem allR_iff {l : List Int} {lo hi : Int} : allR l lo hi = true ↔ ∀ x ∈ l, lo ≤ x ∧ x ≤ hi := by
  unfold allR
  rw [List.all_eq_true]
  exact ⟨fun h x hx => inR_iff.1 (h x hx), fun h x hx => inR_iff.2 (h x hx)⟩
theorem allR_take {l : List Int} {lo hi : Int} {k : Nat} (hk : k < l.length) (h : allR (l.take k) lo hi = true) (hx : inR l[k] lo hi = true) : allR (l.take (k + 1)) lo hi = true := by
  unfold allR at *
  rw [List.take_succ_eq_append_getElem hk, List.all_append, h]
  simp [hx]
theorem allR_false {l : List Int} {lo hi : Int} {k : Nat} (hk : k < l.length) (hx : inR l[k] lo hi = false) : allR l lo hi = false := by
  unfold allR
  rw [List.all_eq_false]
  exact ⟨l[k], List.getElem_mem hk, by simp [hx]⟩

set_option maxHeartbeats 400000 in
theorem l1All_any (A : Option Addr) (n c : Nat) (l : List Int) (lo hi : Int) (w : World) (ha : RdI w A l) (hl : l.length = n) (hn : n ≤ maxLen) :
    Calls Tryz.prog 64 #[.slice A n c, .int .i64 lo, .int .i64 hi] w fun e w' => e = .returned (.bool (allR l lo hi)) ∧ w = w' := by
  unfold maxLen at hn
  subst hl
  go_enter Tryz.func64, Tryz.ntmps64
  go_wp2
  go_loop [11] (fun i => ∃ j : Nat, j ≤ l.length ∧ i = .int .i64 j ∧ Hid (allR (l.take j) lo hi = true)) (fun i => l.length - (intOf i).toNat)
  case atStart => exact ⟨0, Nat.zero_le _, rfl, rfl⟩
  case round =>
    obtain ⟨j, hj, rfl, HI⟩ := hrel
    by_cases hlt : j < l.length
    · obtain ⟨ad, rfl, hc⟩ := ha.at_ hlt
      cases hx : inR l[j] lo hi
      · go_wp2_with fail
        refine (l1In_any _ _ _ _).mono ?_
        rintro e w1 ⟨rfl, rfl⟩
        go_wp2
        go_ret
        exact ⟨ret_bool (allR_false hlt hx).symm, rfl⟩
      · go_wp2_with fail
        refine (l1In_any _ _ _ _).mono ?_
        rintro e w1 ⟨rfl, rfl⟩
        go_wp2
        go_round
        case rel => exact ⟨j + 1, by omega, by go_num, allR_take hlt HI.out hx⟩
        case measure => simp [intOf]; omega
    · obtain rfl : j = l.length := by omega
      go_wp2
      go_ret
      have h := HI.out
      rw [List.take_length] at h
      exact ⟨ret_bool h.symm, rfl⟩

end Go.Proofs.YtnekpofaflpmdaaGreatDoor
