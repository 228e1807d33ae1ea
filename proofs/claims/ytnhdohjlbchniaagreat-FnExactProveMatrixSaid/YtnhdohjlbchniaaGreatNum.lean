/- Contracts for the numbers of chapter 1: moduli, residues, primes, powers, lists of residues. -/
import Derived.Test.YtnhdohjlbchniaaGreatProg
import Derived.Test.YtnhdohjlbchniaaGreatFun
import Derived.Test.YtnhdohjlbchniaaGreatArith
namespace Go.Proofs.YtnhdohjlbchniaaGreat
open Go.RowKit

theorem isModulus_any (m : Int) (w : World) : Calls Tryz.prog 105 #[.int .i64 m] w fun e w' => e = .returned (.bool (inR m 2 2000000000)) ∧ w = w' := by
  go_enter Tryz.func105, Tryz.ntmps105
  go_wp2_with fail
  refine (within_any _ _ _ _).mono ?_
  rintro e w1 ⟨rfl, rfl⟩
  go_wp2
  go_ret
  exact ⟨rfl, rfl⟩

theorem tmod_neg {n m : Int} (hn : n < 0) (_hm : 0 < m) : n.tmod m = -((-n) % m) := by
  have h1 : n = -(-n) := by omega
  conv => lhs; rw [h1, Int.neg_tmod]
  rw [Int.tmod_eq_emod_of_nonneg (by omega)]
theorem mod_neg {n m : Int} (hn : n < 0) (hm : 0 < m) : (n.tmod m + m) % m = n % m := by
  rw [tmod_neg hn hm, Int.add_emod_right]
  have h1 := Int.emod_add_mul_ediv (-n) m
  have h2 : -((-n) % m) = n + ((-n) / m) * m := by
    have : m * ((-n) / m) = ((-n) / m) * m := Int.mul_comm _ _
    omega
  rw [h2, Int.add_mul_emod_self_right]
theorem mod_nonneg {n m : Int} : (n % m + m) % m = n % m := by
  rw [Int.add_emod_right, Int.emod_emod_of_dvd _ (Int.dvd_refl m)]

set_option maxHeartbeats 400000 in
theorem mod_any (n m : Int) (w : World) (hm : 0 < m) (hm2 : m ≤ 4000000000) (hn : -9000000000000000000 ≤ n) (hn2 : n ≤ 9000000000000000000) :
    Calls Tryz.prog 98 #[.int .i64 n, .int .i64 m] w fun e w' => e = .returned (.int .i64 (n % m)) ∧ w = w' := by
  have h0 : (m == 0) = false := by simp; omega
  by_cases hs : 0 ≤ n
  · have b1 := Int.emod_lt_of_pos n hm
    have b2 := Int.emod_nonneg n (show m ≠ 0 by omega)
    go_enter Tryz.func98, Tryz.ntmps98
    go_wp2
    go_ret
    exact ⟨ret_int mod_nonneg, rfl⟩
  · have hneg : n < 0 := by omega
    have b3 := tmod_neg hneg hm
    have b1 := Int.emod_lt_of_pos (-n) hm
    have b2 := Int.emod_nonneg (-n) (show m ≠ 0 by omega)
    have b4 : -m < n.tmod m ∧ n.tmod m ≤ 0 := by omega
    clear b1 b2 b3 hs
    go_enter Tryz.func98, Tryz.ntmps98
    go_wp2
    go_ret
    exact ⟨ret_int (mod_neg hneg hm), rfl⟩

set_option maxHeartbeats 400000 in
theorem nMod_any (n m : Int) (w : World) (hm : 0 < m) (hm2 : m ≤ 4000000000) (hn : -9000000000000000000 ≤ n) (hn2 : n ≤ 9000000000000000000) :
    Calls Tryz.prog 84 #[.int .i64 n, .int .i64 m] w fun e w' => e = .returned (.int .i64 (n % m)) ∧ w = w' := by
  have h0 : (m == 0) = false := by simp; omega
  by_cases hs : 0 ≤ n
  · have b1 := Int.emod_lt_of_pos n hm
    have b2 := Int.emod_nonneg n (show m ≠ 0 by omega)
    go_enter Tryz.func84, Tryz.ntmps84
    go_wp2
    go_ret
    exact ⟨ret_int mod_nonneg, rfl⟩
  · have hneg : n < 0 := by omega
    have b3 := tmod_neg hneg hm
    have b1 := Int.emod_lt_of_pos (-n) hm
    have b2 := Int.emod_nonneg (-n) (show m ≠ 0 by omega)
    have b4 : -m < n.tmod m ∧ n.tmod m ≤ 0 := by omega
    clear b1 b2 b3 hs
    go_enter Tryz.func84, Tryz.ntmps84
    go_wp2
    go_ret
    exact ⟨ret_int (mod_neg hneg hm), rfl⟩

theorem natmul_bd (a b : Nat) (ha : (a : Int) ≤ 3000000000) (hb : (b : Int) ≤ 3000000000) : 0 ≤ (a : Int) * b ∧ (a : Int) * b ≤ 9000000000000000000 :=
  ⟨Int.mul_nonneg (by omega) (by omega), Int.le_trans (Int.mul_le_mul ha hb (by omega) (by omega)) (by decide)⟩
theorem toNat_i64 (a : Nat) (ha : a < 9223372036854775808) : (BitVec.ofInt 64 (a : Int)).toNat = a := by
  rw [BitVec.ofInt_natCast, BitVec.toNat_ofNat]; exact Nat.mod_eq_of_lt (by omega)
theorem bit_one (k : Nat) (hk : (k : Int) ≤ 9000000000000000000) : bits .and .i64 (k : Int) 1 = ((k % 2 : Nat) : Int) := by
  have h1 : (1 : Int) = ((1 : Nat) : Int) := rfl
  have hx : k &&& 1 < 2 ^ 63 := Nat.and_lt_two_pow _ (by omega)
  rw [h1]
  show IntKind.i64.wrap ((BitVec.ofInt 64 (k : Int) &&& BitVec.ofInt 64 ((1 : Nat) : Int)).toNat : Int) = _
  rw [BitVec.toNat_and, toNat_i64 k (by omega), toNat_i64 1 (by omega), IntKind.wrap_i64, Nat.and_one_is_mod]
  omega

set_option maxHeartbeats 1000000 in
theorem power_any (a e m : Int) (w : World) (ha : 0 ≤ a) (ha2 : a ≤ 3000000000) (he : 0 ≤ e) (he2 : e ≤ 9000000000000000000) (hm : 0 < m) (hm2 : m ≤ 2000000000) :
    Calls Tryz.prog 88 #[.int .i64 a, .int .i64 e, .int .i64 m] w fun e' w' => e' = .returned (.int .i64 (powM a e m)) ∧ w = w' := by
  obtain ⟨x, rfl⟩ := Int.eq_ofNat_of_zero_le ha
  obtain ⟨y, rfl⟩ := Int.eq_ofNat_of_zero_le he
  obtain ⟨z, rfl⟩ := Int.eq_ofNat_of_zero_le (show 0 ≤ m by omega)
  have h0 : ((z : Int) == 0) = false := by simp; omega
  have hz : 0 < z := by omega
  have h1 := Nat.mod_lt 1 hz
  go_enter Tryz.func88, Tryz.ntmps88
  go_wp2
  go_loop [0, 1, 7] (fun u v o => ∃ b k q : Nat, (b : Int) ≤ 3000000000 ∧ (k : Int) ≤ 9000000000000000000 ∧ q < z ∧ Hid (q * b ^ k % z = x ^ y % z) ∧ u = .int .i64 b ∧ v = .int .i64 k ∧ o = .int .i64 q) (fun _ v _ => (intOf v).toNat)
  case atStart => exact ⟨x, y, 1 % z, ha2, he2, h1, (by rw [Hid, Nat.mul_mod, Nat.mod_mod, ← Nat.mul_mod, Nat.one_mul]), rfl, rfl, by go_num⟩
  case round =>
    obtain ⟨b, k, q, hb, hk, hq, HI, rfl, rfl, rfl⟩ := hrel
    by_cases hk0 : k = 0
    · subst hk0
      go_wp2
      go_ret
      have h2 := HI.out
      rw [Nat.pow_zero, Nat.mul_one, Nat.mod_eq_of_lt hq] at h2
      exact ⟨ret_int (by rw [h2]; simp [powM]), rfl⟩
    · have hbb := natmul_bd b b hb hb
      have hqb := natmul_bd q b (show (q : Int) ≤ 3000000000 by omega) hb
      rcases Nat.mod_two_eq_zero_or_one k with hpar | hpar
      · have hbit : (bits .and .i64 (k : Int) 1 == 1) = false := by rw [bit_one k hk]; simp [hpar]
        have HP := Lib.hid hpar
        clear hpar
        go_wp2
        go_round
        case rel => exact ⟨b * b % z, k / 2, q, by have := Nat.mod_lt (b * b) hz; omega, by omega, hq, (pow_half_even q b z k HP.out).trans HI.out, by go_num, by go_num, rfl⟩
        case measure => simp [intOf]; omega
      · have hbit : (bits .and .i64 (k : Int) 1 == 1) = true := by rw [bit_one k hk]; simp [hpar]
        have HP := Lib.hid hpar
        clear hpar
        go_wp2
        go_round
        case rel => exact ⟨b * b % z, k / 2, q * b % z, by have := Nat.mod_lt (b * b) hz; omega, by omega, Nat.mod_lt _ hz, (pow_half_odd q b z k HP.out).trans HI.out, by go_num, by go_num, by go_num⟩
        case measure => simp [intOf]; omega
set_option maxHeartbeats 1000000 in
theorem nPower_any (a e m : Int) (w : World) (ha : 0 ≤ a) (ha2 : a ≤ 3000000000) (he : 0 ≤ e) (he2 : e ≤ 9000000000000000000) (hm : 0 < m) (hm2 : m ≤ 2000000000) :
    Calls Tryz.prog 77 #[.int .i64 a, .int .i64 e, .int .i64 m] w fun e' w' => e' = .returned (.int .i64 (powM a e m)) ∧ w = w' := by
  obtain ⟨x, rfl⟩ := Int.eq_ofNat_of_zero_le ha
  obtain ⟨y, rfl⟩ := Int.eq_ofNat_of_zero_le he
  obtain ⟨z, rfl⟩ := Int.eq_ofNat_of_zero_le (show 0 ≤ m by omega)
  have h0 : ((z : Int) == 0) = false := by simp; omega
  have hz : 0 < z := by omega
  have h1 := Nat.mod_lt 1 hz
  go_enter Tryz.func77, Tryz.ntmps77
  go_wp2
  go_loop [0, 1, 7] (fun u v o => ∃ b k q : Nat, (b : Int) ≤ 3000000000 ∧ (k : Int) ≤ 9000000000000000000 ∧ q < z ∧ Hid (q * b ^ k % z = x ^ y % z) ∧ u = .int .i64 b ∧ v = .int .i64 k ∧ o = .int .i64 q) (fun _ v _ => (intOf v).toNat)
  case atStart => exact ⟨x, y, 1 % z, ha2, he2, h1, (by rw [Hid, Nat.mul_mod, Nat.mod_mod, ← Nat.mul_mod, Nat.one_mul]), rfl, rfl, by go_num⟩
  case round =>
    obtain ⟨b, k, q, hb, hk, hq, HI, rfl, rfl, rfl⟩ := hrel
    by_cases hk0 : k = 0
    · subst hk0
      go_wp2
      go_ret
      have h2 := HI.out
      rw [Nat.pow_zero, Nat.mul_one, Nat.mod_eq_of_lt hq] at h2
      exact ⟨ret_int (by rw [h2]; simp [powM]), rfl⟩
    · have hbb := natmul_bd b b hb hb
      have hqb := natmul_bd q b (show (q : Int) ≤ 3000000000 by omega) hb
      rcases Nat.mod_two_eq_zero_or_one k with hpar | hpar
      · have hbit : ((k : Int) % 2 == 1) = false := by simp; omega
        have HP := Lib.hid hpar
        clear hpar
        go_wp2
        go_round
        case rel => exact ⟨b * b % z, k / 2, q, by have := Nat.mod_lt (b * b) hz; omega, by omega, hq, (pow_half_even q b z k HP.out).trans HI.out, by go_num, by go_num, rfl⟩
        case measure => simp [intOf]; omega
      · have hbit : ((k : Int) % 2 == 1) = true := by simp; omega
        have HP := Lib.hid hpar
        clear hpar
        go_wp2
        go_round
        case rel => exact ⟨b * b % z, k / 2, q * b % z, by have := Nat.mod_lt (b * b) hz; omega, by omega, Nat.mod_lt _ hz, (pow_half_odd q b z k HP.out).trans HI.out, by go_num, by go_num, by go_num⟩
        case measure => simp [intOf]; omega

set_option maxHeartbeats 1000000 in
theorem nPrime_any (n : Int) (w : World) (hn : n ≤ 2000000000) : Calls Tryz.prog 78 #[.int .i64 n] w fun e w' => e = .returned (.bool (primeB n)) ∧ w = w' := by
  by_cases h2 : n < 2
  · have hp : primeB n = false := primeB_iff'.2 (fun h => by have := h.1; omega)
    go_enter Tryz.func78, Tryz.ntmps78
    go_wp2
    go_ret
    exact ⟨ret_bool hp.symm, rfl⟩
  obtain ⟨x, rfl⟩ := Int.eq_ofNat_of_zero_le (show 0 ≤ n by omega)
  have h3 : 2 ≤ x := by omega
  go_enter Tryz.func78, Tryz.ntmps78
  go_wp2
  go_loop [3] (fun u => ∃ d : Nat, 2 ≤ d ∧ d ≤ x + 2 ∧ (d : Int) ≤ 100000 ∧ Hid (∀ e, 2 ≤ e → e < d → ¬ e ∣ x) ∧ u = .int .i64 d) (fun u => x + 2 - (intOf u).toNat)
  case atStart => exact ⟨2, by omega, by omega, by omega, fun e h1 h2 => absurd h2 (by omega), rfl⟩
  case round =>
    obtain ⟨d, hd2, hdx, hd5, HI, rfl⟩ := hrel
    have hdd := natmul_bd d d (by omega) (by omega)
    by_cases hc : (d : Int) * d ≤ x
    · have hdn : d * d ≤ x := by rw [← Int.natCast_mul] at hc; omega
      have hlx : d < x := Nat.lt_of_lt_of_le (by have : d * 2 ≤ d * d := Nat.mul_le_mul (Nat.le_refl _) hd2
                                                 omega : d < d * d) hdn
      have hd4 : (d : Int) + 1 ≤ 100000 := by
        refine Int.not_lt.1 fun hh => ?_
        have : 99999 * 99999 ≤ d * d := Nat.mul_le_mul (by omega) (by omega)
        omega
      have HDN := Lib.hid hdn
      clear hdn
      by_cases hz : x % d = 0
      · have hb : ((x : Int) % d == 0) = true := by rw [beq_iff_eq]; omega
        have HZ := Lib.hid hz
        clear hz
        go_wp2
        go_ret
        have hp : primeB (x : Int) = false := primeB_iff'.2 (by rw [Int.toNat_natCast]; exact not_prime_of_div hd2 HDN.out HZ.out)
        exact ⟨ret_bool hp.symm, rfl⟩
      · have hb : ((x : Int) % d == 0) = false := by rw [beq_eq_false_iff_ne]; omega
        have HZ := Lib.hid hz
        clear hz
        go_wp2
        go_round
        case rel => exact ⟨d + 1, by omega, by omega, by omega, trial_step HI.out HZ.out, by go_num⟩
        case measure => simp [intOf]; omega
    · have HC := Lib.hid hc
      go_wp2
      go_ret
      have hp : primeB (x : Int) = true := primeB_iff.2 (by
        rw [Int.toNat_natCast]
        refine prime_of_trial h3 (d := d) ?_ HI.out
        have h9 := HC.out
        rw [← Int.natCast_mul] at h9; omega)
      exact ⟨ret_bool hp.symm, rfl⟩

noncomputable def fieldB (n : Int) : Bool := inR n 2 2000000000 && primeB n
set_option maxHeartbeats 1000000 in
theorem isPrime_any (n : Int) (w : World) : Calls Tryz.prog 87 #[.int .i64 n] w fun e w' => e = .returned (.bool (fieldB n)) ∧ w = w' := by
  cases hr : inR n 2 2000000000
  · have hf : fieldB n = false := by rw [fieldB, hr]; rfl
    have HF := Lib.hid hf
    clear hf
    go_enter Tryz.func87, Tryz.ntmps87
    go_wp2_with fail
    refine (isModulus_any _ _).mono ?_
    rintro e w1 ⟨rfl, rfl⟩
    go_wp2
    go_ret
    exact ⟨ret_bool HF.out.symm, rfl⟩
  · obtain ⟨h2, hn⟩ := inR_iff.1 hr
    obtain ⟨x, rfl⟩ := Int.eq_ofNat_of_zero_le (show 0 ≤ n by omega)
    have h3 : 2 ≤ x := by omega
    have hf : fieldB x = primeB x := by rw [fieldB, hr]; rfl
    have HF := Lib.hid hf
    clear hf
    have h5 : x = 2 ∨ (x ≠ 2 ∧ x % 2 = 0) ∨ x % 2 = 1 := by omega
    rcases h5 with rfl | ⟨h5, h6⟩ | h5
    · go_enter Tryz.func87, Tryz.ntmps87
      go_wp2_with fail
      refine (isModulus_any _ _).mono ?_
      rintro e w1 ⟨rfl, rfl⟩
      go_wp2
      refine wp_loop_rounds 1 ?_
      rw [rounds_succ]
      go_wp2
      go_ret
      have hp : primeB ((2 : Nat) : Int) = true := primeB_iff.2 (by rw [Int.toNat_natCast]; exact prime_of_trial (d := 2) (by omega) (by omega) (fun e h1 h2 => absurd h2 (by omega)))
      exact ⟨ret_bool (by rw [HF.out, hp]), rfl⟩
    · have hb : ((x : Int) % 2 == 0) = true := by rw [beq_iff_eq]; omega
      have hb2 : ((x : Int) != 2) = true := by rw [bne_iff_ne]; omega
      have H6 := Lib.hid h6
      clear h6
      go_enter Tryz.func87, Tryz.ntmps87
      go_wp2_with fail
      refine (isModulus_any _ _).mono ?_
      rintro e w1 ⟨rfl, rfl⟩
      go_wp2
      go_ret
      have hp : primeB (x : Int) = false := primeB_iff'.2 (by rw [Int.toNat_natCast]; exact not_prime_of_div (d := 2) (by omega) (by have := H6.out; omega) H6.out)
      exact ⟨ret_bool (by rw [HF.out, hp]), rfl⟩
    · have hb : ((x : Int) % 2 == 0) = false := by rw [beq_eq_false_iff_ne]; omega
      have H5 := Lib.hid h5
      clear h5
      go_enter Tryz.func87, Tryz.ntmps87
      go_wp2_with fail
      refine (isModulus_any _ _).mono ?_
      rintro e w1 ⟨rfl, rfl⟩
      go_wp2
      go_loop [3] (fun u => ∃ d : Nat, 3 ≤ d ∧ d ≤ x + 3 ∧ (d : Int) ≤ 100000 ∧ Hid (d % 2 = 1) ∧ Hid (∀ e, 2 ≤ e → e < d → ¬ e ∣ x) ∧ u = .int .i64 d) (fun u => x + 3 - (intOf u).toNat)
      case atStart =>
        refine ⟨3, by omega, by omega, by omega, rfl, fun e h1 h2 hdv => ?_, rfl⟩
        have : e = 2 := by omega
        subst this
        have h7 := Nat.mod_eq_zero_of_dvd hdv
        have h8 := H5.out
        omega
      case round =>
        obtain ⟨d, hd2, hdx, hd5, HO, HI, rfl⟩ := hrel
        have hdd := natmul_bd d d (by omega) (by omega)
        by_cases hc : (d : Int) * d ≤ x
        · have hdn : d * d ≤ x := by rw [← Int.natCast_mul] at hc; omega
          have hlx : d < x := Nat.lt_of_lt_of_le (by have : d * 2 ≤ d * d := Nat.mul_le_mul (Nat.le_refl _) (by omega)
                                                     omega : d < d * d) hdn
          have hd4 : (d : Int) + 2 ≤ 100000 := by
            refine Int.not_lt.1 fun hh => ?_
            have : 99998 * 99998 ≤ d * d := Nat.mul_le_mul (by omega) (by omega)
            omega
          have HDN := Lib.hid hdn
          clear hdn
          by_cases hz : x % d = 0
          · have hb : ((x : Int) % d == 0) = true := by rw [beq_iff_eq]; omega
            have HZ := Lib.hid hz
            clear hz
            go_wp2
            go_ret
            have hp : primeB (x : Int) = false := primeB_iff'.2 (by rw [Int.toNat_natCast]; exact not_prime_of_div (by omega) HDN.out HZ.out)
            exact ⟨ret_bool (by rw [HF.out, hp]), rfl⟩
          · have hb : ((x : Int) % d == 0) = false := by rw [beq_eq_false_iff_ne]; omega
            have HZ := Lib.hid hz
            clear hz
            go_wp2
            go_round
            case rel => exact ⟨d + 2, by omega, by omega, by omega, (by show (d + 2) % 2 = 1; have := HO.out; omega), trial_step2 HI.out HZ.out HO.out H5.out, by go_num⟩
            case measure => simp [intOf]; omega
        · have HC := Lib.hid hc
          go_wp2
          go_ret
          have hp : primeB (x : Int) = true := primeB_iff.2 (by
            rw [Int.toNat_natCast]
            refine prime_of_trial h3 (d := d) ?_ HI.out
            have h9 := HC.out
            rw [← Int.natCast_mul] at h9; omega)
          exact ⟨ret_bool (by rw [HF.out, hp]), rfl⟩


def allR (l : List Int) (lo hi : Int) : Bool := l.all fun x => inR x lo hi
theorem allR_iff {l : List Int} {lo hi : Int} : allR l lo hi = true ↔ ∀ x ∈ l, lo ≤ x ∧ x ≤ hi := by
  unfold allR
  rw [List.all_eq_true]
  exact ⟨fun h x hx => inR_iff.1 (h x hx), fun h x hx => inR_iff.2 (h x hx)⟩
theorem allR_take {l : List Int} {lo hi : Int} {k : Nat} (hk : k < l.length) (h : allR (l.take k) lo hi = true) (hx : inR l[k] lo hi = true) : allR (l.take (k + 1)) lo hi = true := by
  unfold allR at *
  rw [List.take_succ_eq_append_getElem hk, List.all_append, h]
  simp [hx]
theorem allR_false {l : List Int} {lo hi : Int} {k : Nat} (hk : k < l.length) (hx : inR l[k] lo hi = false) : allR l lo hi = false := by
  unfold allR
  rw [List.all_eq_false]
  exact ⟨l[k], List.getElem_mem hk, by simp [hx]⟩

set_option maxHeartbeats 400000 in
theorem l1All_any (A : Option Addr) (n c : Nat) (l : List Int) (lo hi : Int) (w : World) (ha : RdI w A l) (hl : l.length = n) (hn : n ≤ maxLen) :
    Calls Tryz.prog 35 #[.slice A n c, .int .i64 lo, .int .i64 hi] w fun e w' => e = .returned (.bool (allR l lo hi)) ∧ w = w' := by
  unfold maxLen at hn
  subst hl
  go_enter Tryz.func35, Tryz.ntmps35
  go_wp2
  go_loop [11] (fun i => ∃ j : Nat, j ≤ l.length ∧ i = .int .i64 j ∧ Hid (allR (l.take j) lo hi = true)) (fun i => l.length - (intOf i).toNat)
  case atStart => exact ⟨0, Nat.zero_le _, rfl, rfl⟩
  case round =>
    obtain ⟨j, hj, rfl, HI⟩ := hrel
    by_cases hlt : j < l.length
    · obtain ⟨ad, rfl, hc⟩ := ha.at_ hlt
      cases hx : inR l[j] lo hi
      · go_wp2_with fail
        refine (l1In_any _ _ _ _).mono ?_
        rintro e w1 ⟨rfl, rfl⟩
        go_wp2
        go_ret
        exact ⟨ret_bool (allR_false hlt hx).symm, rfl⟩
      · go_wp2_with fail
        refine (l1In_any _ _ _ _).mono ?_
        rintro e w1 ⟨rfl, rfl⟩
        go_wp2
        go_round
        case rel => exact ⟨j + 1, by omega, by go_num, allR_take hlt HI.out hx⟩
        case measure => simp [intOf]; omega
    · obtain rfl : j = l.length := by omega
      go_wp2
      go_ret
      have h := HI.out
      rw [List.take_length] at h
      exact ⟨ret_bool h.symm, rfl⟩

end Go.Proofs.YtnhdohjlbchniaaGreat
