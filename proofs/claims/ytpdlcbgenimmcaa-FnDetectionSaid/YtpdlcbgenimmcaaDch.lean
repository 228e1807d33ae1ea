/- Contracts for the scalar functions of chapter 17: numbers of choices, fractions, the least number of audits. -/
import Derived.Test.YtpdlcbgenimmcaaProg
import Derived.Test.YtpdlcbgenimmcaaBase
import Derived.Test.YtpdlcbgenimmcaaIn
namespace Go.Proofs.Ytpdlcbgenimmcaa
open Go.RowKit

def chooseAt (n : Int) : Nat → Int
  | 0 => 1
  | k + 1 => wrap64 ((wrap64 (chooseAt n k * (n - k))).tdiv (k + 1))

def choose (n k : Int) : Int := if k < 0 ∨ n < k then 0 else chooseAt n k.toNat

theorem choose_table : ∀ n : Fin 25, ∀ k : Fin 25, k.val ≤ n.val → 1 ≤ chooseAt n.val k.val ∧ chooseAt n.val k.val ≤ 3000000 := by decide +kernel
theorem choose_pos {n k : Int} (h0 : 0 ≤ k) (h1 : k ≤ n) (h2 : n ≤ 24) : 1 ≤ choose n k ∧ choose n k ≤ 3000000 := by
  unfold choose
  rw [if_neg (by omega)]
  obtain ⟨N, rfl⟩ := Int.eq_ofNat_of_zero_le (show 0 ≤ n by omega)
  obtain ⟨K, rfl⟩ := Int.eq_ofNat_of_zero_le h0
  exact choose_table ⟨N, by omega⟩ ⟨K, by omega⟩ (by show K ≤ N; omega)
theorem choose_bd {n k : Int} (h2 : n ≤ 24) : 0 ≤ choose n k ∧ choose n k ≤ 3000000 := by
  by_cases h : k < 0 ∨ n < k
  · unfold choose; rw [if_pos h]; omega
  · have := choose_pos (n := n) (k := k) (by omega) (by omega) h2; omega

set_option maxHeartbeats 400000 in
theorem dChoose_any (n k : Int) (w : World) (hn0 : 0 ≤ n) (hn : n ≤ 1000) :
    Calls Try.prog 227 #[.int .i64 n, .int .i64 k] w fun e w' => e = .returned (.int .i64 (choose n k)) ∧ w = w' := by
  by_cases h1 : k < 0
  · have h2 : decide (k < 0) = true := by simp [h1]
    go_enter Try.func227, Try.ntmps227
    go_wp2
    go_ret
    exact ⟨by simp [choose, h1], rfl⟩
  by_cases h2 : n < k
  · go_enter Try.func227, Try.ntmps227
    go_wp2
    go_ret
    exact ⟨by simp [choose, h2], rfl⟩
  obtain ⟨K, rfl⟩ := Int.eq_ofNat_of_zero_le (show 0 ≤ k by omega)
  have h4 : (K : Int) ≤ n := by omega
  go_enter Try.func227, Try.ntmps227
  go_wp2
  go_loop [5, 6] (fun o i => ∃ j : Nat, j ≤ K ∧ i = .int .i64 j ∧ o = .int .i64 (chooseAt n j)) (fun _ i => K - (intOf i).toNat)
  case atStart => exact ⟨0, Nat.zero_le _, rfl, rfl⟩
  case round =>
    obtain ⟨j, hj, rfl, rfl⟩ := hrel
    by_cases hlt : j < K
    · go_wp2
      go_round
      case rel => exact ⟨j + 1, by omega, by go_num, rfl⟩
      case measure => simp [intOf]; omega
    · obtain rfl : j = K := by omega
      go_wp2
      go_ret
      exact ⟨ret_int (by rw [choose, if_neg (by omega), Int.toNat_natCast]), rfl⟩

set_option maxHeartbeats 400000 in
theorem binomial_any (n k : Int) (w : World) (hn0 : 0 ≤ n) (hn : n ≤ 1000) (hk : 0 ≤ k) :
    Calls Try.prog 141 #[.int .i64 n, .int .i64 k] w fun e w' => e = .returned (.int .i64 (choose n k)) ∧ w = w' := by
  by_cases h2 : n < k
  · go_enter Try.func141, Try.ntmps141
    go_wp2
    go_ret
    exact ⟨by simp [choose, h2], rfl⟩
  obtain ⟨K, rfl⟩ := Int.eq_ofNat_of_zero_le hk
  have h4 : (K : Int) ≤ n := by omega
  go_enter Try.func141, Try.ntmps141
  go_wp2
  go_loop [5, 11] (fun o i => ∃ j : Nat, j ≤ K ∧ i = .int .i64 j ∧ o = .int .i64 (chooseAt n j)) (fun _ i => K - (intOf i).toNat)
  case atStart => exact ⟨0, Nat.zero_le _, rfl, rfl⟩
  case round =>
    obtain ⟨j, hj, rfl, rfl⟩ := hrel
    by_cases hlt : j < K
    · go_wp2
      go_round
      case rel => exact ⟨j + 1, by omega, by go_num, rfl⟩
      case measure => simp [intOf]; omega
    · obtain rfl : j = K := by omega
      go_wp2
      go_ret
      exact ⟨ret_int (by rw [choose, if_neg (by omega), Int.toNat_natCast]), rfl⟩

def goodCh (n bad k : Int) : Bool := decide (0 ≤ n ∧ n ≤ 24 ∧ 0 ≤ bad ∧ bad ≤ n ∧ 0 ≤ k ∧ k ≤ n)
theorem goodCh_iff (n bad k : Int) : goodCh n bad k = true ↔ (0 ≤ n ∧ n ≤ 24 ∧ 0 ≤ bad ∧ bad ≤ n ∧ 0 ≤ k ∧ k ≤ n) := by unfold goodCh; exact decide_eq_true_iff

set_option maxHeartbeats 400000 in
theorem dGood_any (n bad k : Int) (w : World) :
    Calls Try.prog 143 #[.int .i64 n, .int .i64 bad, .int .i64 k] w fun e w' => e = .returned (.bool (goodCh n bad k)) ∧ w = w' := by
  go_enter Try.func143, Try.ntmps143
  go_wp2
  all_goals
    go_ret
    refine ⟨ret_bool ?_, rfl⟩
    go_light
    rw [Bool.eq_iff_iff, goodCh_iff]
    simp only [decide_eq_true_eq, Bool.false_eq_true, false_iff]
    omega

set_option maxHeartbeats 400000 in
theorem isChoice_any (n bad k : Int) (w : World) :
    Calls Try.prog 140 #[.int .i64 n, .int .i64 bad, .int .i64 k] w fun e w' => e = .returned (.bool (goodCh n bad k)) ∧ w = w' := by
  go_enter Try.func140, Try.ntmps140
  go_wp2
  all_goals
    go_ret
    refine ⟨ret_bool ?_, rfl⟩
    go_light
    rw [Bool.eq_iff_iff, goodCh_iff]
    simp only [decide_eq_true_eq, Bool.false_eq_true, false_iff]
    omega

theorem div_wrap (x i : Nat) (_hi : (i : Int) ≤ 1000000000000) (hx : Hid ((x : Int) ≤ 1000000000000)) : wrap64 ((x : Int) / i) = (x : Int) / i := by
  have h1 : (x : Int) / i = ((x / i : Nat) : Int) := by simp
  have h2 : x / i ≤ x := Nat.div_le_self _ _
  have h3 := hx.out
  rw [h1]
  generalize x / i = q at h2
  exact IntWalk.wrap64_in _ (by omega)
theorem ediv_bd (x g : Int) (hx : 0 ≤ x ∧ x ≤ 3000000) (hg : 1 ≤ g) : 0 ≤ x / g ∧ x / g ≤ 3000000 :=
  ⟨Int.ediv_nonneg hx.1 (by omega), Int.le_trans (Int.ediv_le_self g hx.1) hx.2⟩
theorem gcd_step {i j g : Nat} (h : Nat.gcd i j = g) : Nat.gcd j (i % j) = g := by
  rw [← h, Nat.gcd_comm i j, Nat.gcd_rec j i, Nat.gcd_comm]

set_option maxHeartbeats 400000 in
theorem nGcd_any (a b : Int) (w : World) (ha0 : 0 ≤ a) (ha : a ≤ 1000000000000) (hb0 : 0 ≤ b) (hb : b ≤ 1000000000000) :
    Calls Try.prog 145 #[.int .i64 a, .int .i64 b] w fun e w' => e = .returned (.int .i64 (Int.gcd a b)) ∧ w = w' := by
  obtain ⟨x, rfl⟩ := Int.eq_ofNat_of_zero_le ha0
  obtain ⟨y, rfl⟩ := Int.eq_ofNat_of_zero_le hb0
  go_enter Try.func145, Try.ntmps145
  go_wp2
  go_loop [0, 1] (fun u v => ∃ i j : Nat, (i : Int) ≤ 1000000000000 ∧ (j : Int) ≤ 1000000000000 ∧ Hid (Nat.gcd i j = Nat.gcd x y) ∧ u = .int .i64 i ∧ v = .int .i64 j) (fun _ v => (intOf v).toNat)
  case atStart => exact ⟨x, y, ha, hb, rfl, rfl, rfl⟩
  case round =>
    obtain ⟨i, j, hi, hj, hg, rfl, rfl⟩ := hrel
    by_cases hlt : j = 0
    · subst hlt
      go_wp2
      go_ret
      exact ⟨ret_int (by rw [← hg.out, Nat.gcd_zero_right]), rfl⟩
    · have h0 : ((j : Int) != 0) = true := by simp [hlt]
      have hm : i % j < j := Nat.mod_lt _ (by omega)
      go_wp2
      go_round
      case rel => exact ⟨j, i % j, hj, by omega, gcd_step hg.out, rfl, by go_num⟩
      case measure => simp [intOf]; omega

set_option maxHeartbeats 400000 in
theorem reduced_any (a b : Int) (w : World) (ha0 : 0 ≤ a) (ha : a ≤ 1000000000000) (hb0 : 0 < b) (hb : b ≤ 1000000000000) :
    Calls Try.prog 142 #[.int .i64 a, .int .i64 b] w fun e w' => e = .returned (.tuple #[.int .i64 (a / Int.gcd a b), .int .i64 (b / Int.gcd a b)]) ∧ ∃ N, w' = w.drewN N := by
  obtain ⟨x, rfl⟩ := Int.eq_ofNat_of_zero_le ha0
  obtain ⟨y, rfl⟩ := Int.eq_ofNat_of_zero_le (show 0 ≤ b by omega)
  have hx := Lib.hid ha
  have hy := Lib.hid hb
  go_enter Try.func142, Try.ntmps142
  go_wp2
  go_loopw [6, 7] (fun u v wr => ∃ i j N : Nat, (i : Int) ≤ 1000000000000 ∧ (j : Int) ≤ 1000000000000 ∧ Hid (Nat.gcd i j = Nat.gcd x y) ∧ u = .int .i64 i ∧ v = .int .i64 j ∧ wr = w.drewN N) (fun _ v _ => (intOf v).toNat)
  case atStart => exact ⟨x, y, 0, ha, hb, rfl, rfl, rfl, rfl⟩
  case round =>
    obtain ⟨i, j, N, hi, hj, hg, rfl, rfl, rfl⟩ := hrel
    by_cases hlt : j = 0
    · subst hlt
      have hpos : 0 < i := by
        have h1 := hg.out
        rw [Nat.gcd_zero_right] at h1
        rw [h1]; exact Nat.gcd_pos_of_pos_right _ (by omega)
      have hne : ((i : Int) == 0) = false := by simp; omega
      go_wp2
      go_quiet (fail)
      go_wp2
      go_ret2
      have q1 := div_wrap x i hi hx
      have q2 := div_wrap y i hi hy
      refine ⟨?_, _, World.drewN_drewN _ _ _⟩
      show Ending.returned (.tuple #[.int .i64 (wrap64 ((x : Int) / i)), .int .i64 (wrap64 ((y : Int) / i))]) = _
      rw [q1, q2, Int.gcd_natCast_natCast, ← hg.out, Nat.gcd_zero_right]
    · have h0 : ((j : Int) != 0) = true := by simp [hlt]
      have hm : i % j < j := Nat.mod_lt _ (by omega)
      go_wp2
      go_quiet (fail)
      go_wp2
      go_roundw
      case rel => exact ⟨j, i % j, _, hj, by omega, gcd_step hg.out, rfl, by go_num, World.drewN_drewN _ _ _⟩
      case measure => simp [intOf]; omega

theorem choose_step : ∀ n : Fin 24, ∀ k : Fin 25, choose n.val k.val ≤ choose (n.val + 1) k.val := by decide +kernel
theorem choose_mono {m n k : Int} (h0 : 0 ≤ m) (h1 : m ≤ n) (h2 : n ≤ 24) (h3 : 0 ≤ k) : choose m k ≤ choose n k := by
  obtain ⟨K, rfl⟩ := Int.eq_ofNat_of_zero_le h3
  obtain ⟨M, rfl⟩ := Int.eq_ofNat_of_zero_le h0
  obtain ⟨N, rfl⟩ := Int.eq_ofNat_of_zero_le (show 0 ≤ n by omega)
  by_cases hK : K ≤ 24
  · have key : ∀ d : Nat, M + d ≤ 24 → choose (M : Int) K ≤ choose ((M + d : Nat) : Int) K := by
      intro d
      induction d with
      | zero => intro _; exact Int.le_refl _
      | succ d ih =>
        intro hd
        have h4 := ih (by omega)
        have h5 := choose_step ⟨M + d, by omega⟩ ⟨K, by omega⟩
        simp only at h5
        have h6 : ((M + (d + 1) : Nat) : Int) = ((M + d : Nat) : Int) + 1 := by omega
        rw [h6]
        exact Int.le_trans h4 h5
    have := key (N - M) (by omega)
    rwa [show M + (N - M) = N by omega] at this
  · unfold choose
    rw [if_pos (by omega), if_pos (by omega)]
    exact Int.le_refl _

/-- What a detection's chance is: numerator and denominator. -/
def chN (n bad k : Int) : Int := choose n k - choose (n - bad) k
def chG (n bad k : Int) : Int := Int.gcd (chN n bad k) (choose n k)

theorem chN_bd {n bad k : Int} (h : 0 ≤ n ∧ n ≤ 24 ∧ 0 ≤ bad ∧ bad ≤ n ∧ 0 ≤ k ∧ k ≤ n) : 0 ≤ chN n bad k ∧ chN n bad k ≤ 3000000 := by
  unfold chN
  have h1 := choose_mono (m := n - bad) (n := n) (k := k) (by omega) (by omega) (by omega) (by omega)
  have h2 := choose_bd (n := n) (k := k) (by omega)
  have h3 := choose_bd (n := n - bad) (k := k) (by omega)
  omega


set_option maxHeartbeats 400000 in
theorem iUndetectedWays_any (n bad k : Int) (w : World) :
    Calls Try.prog 54 #[.int .i64 n, .int .i64 bad, .int .i64 k] w fun e w' =>
      e = .returned (if goodCh n bad k then .tuple #[.int .i64 (choose (n - bad) k), .bool true] else .tuple #[.int .i64 0, .bool false]) ∧ w = w' := by
  go_enter Try.func54, Try.ntmps54
  by_cases h : goodCh n bad k = true
  · have h' := (goodCh_iff n bad k).1 h
    go_wp2_with (first | (go_at_call 140; refine (isChoice_any _ _ _ _).mono ?_; rintro e w1 ⟨rfl, rfl⟩) | (go_at_call 141; refine (binomial_any _ _ _ (by omega) (by omega) (by omega)).mono ?_; rintro e w1 ⟨rfl, rfl⟩))
    go_ret2
    exact ⟨by simp [h], rfl⟩
  · have h' : goodCh n bad k = false := by simpa using h
    go_wp2_with (first | (go_at_call 140; refine (isChoice_any _ _ _ _).mono ?_; rintro e w1 ⟨rfl, rfl⟩))
    go_ret2
    exact ⟨by simp [h], rfl⟩

def chRes (n bad k : Int) : Value := if goodCh n bad k then .tuple #[.int .i64 (chN n bad k / chG n bad k), .int .i64 (choose n k / chG n bad k), .bool true] else .tuple #[.int .i64 0, .int .i64 0, .bool false]

theorem chG_pos {n bad k : Int} (h : 0 ≤ n ∧ n ≤ 24 ∧ 0 ≤ bad ∧ bad ≤ n ∧ 0 ≤ k ∧ k ≤ n) : 1 ≤ chG n bad k ∧ chG n bad k ≤ 3000000 := by
  have h1 := choose_pos (n := n) (k := k) (by omega) (by omega) (by omega)
  unfold chG
  obtain ⟨y, hy⟩ := Int.eq_ofNat_of_zero_le (show 0 ≤ choose n k by omega)
  obtain ⟨x, hx⟩ := Int.eq_ofNat_of_zero_le (chN_bd h).1
  rw [hy] at h1
  rw [hx, hy, Int.gcd_natCast_natCast]
  have h2 := Nat.gcd_pos_of_pos_right x (show 0 < y by omega)
  have h3 := Nat.gcd_le_right x (show 0 < y by omega)
  omega

set_option maxHeartbeats 400000 in
theorem dChance_any (n bad k : Int) (w : World) (h : 0 ≤ n ∧ n ≤ 24 ∧ 0 ≤ bad ∧ bad ≤ n ∧ 0 ≤ k ∧ k ≤ n) :
    Calls Try.prog 144 #[.int .i64 n, .int .i64 bad, .int .i64 k] w fun e w' => e = .returned (.tuple #[.int .i64 (chN n bad k), .int .i64 (choose n k)]) ∧ w = w' := by
  have h1 := choose_bd (n := n) (k := k) (by omega)
  have h2 := choose_bd (n := n - bad) (k := k) (by omega)
  go_enter Try.func144, Try.ntmps144
  go_wp2_with (first | (go_at_call 227; refine (dChoose_any _ _ _ (by omega) (by omega)).mono ?_; rintro e w1 ⟨rfl, rfl⟩))
  go_ret2
  exact ⟨rfl, rfl⟩

set_option maxHeartbeats 400000 in
theorem sDetectionChance_any (n bad k : Int) (w : World) :
    Calls Try.prog 53 #[.int .i64 n, .int .i64 bad, .int .i64 k] w fun e w' => e = .returned (chRes n bad k) ∧ Ext w w' := by
  by_cases h : goodCh n bad k = true
  · have h' := (goodCh_iff n bad k).1 h
    have h1 := choose_bd (n := n) (k := k) (by omega)
    have h2 := chN_bd h'
    have h3 := chG_pos h'
    go_enter Try.func53, Try.ntmps53
    go_wp2_with (first | (go_at_call 143; refine (dGood_any _ _ _ _).mono ?_; rintro e w1 ⟨rfl, rfl⟩) | (go_at_call 144; refine (dChance_any _ _ _ _ h').mono ?_; rintro e w1 ⟨rfl, rfl⟩) | (go_at_call 145; refine (nGcd_any _ _ _ (by omega) (by omega) (by omega) (by omega)).mono ?_; rintro e w1 ⟨rfl, rfl⟩))
    obtain ⟨g, hg⟩ : ∃ g : Int, g = ((chN n bad k).gcd (choose n k) : Int) := ⟨_, rfl⟩
    rw [← hg]
    have h4 : 1 ≤ g ∧ g ≤ 3000000 := by rw [hg]; exact h3
    have HG := Lib.hid hg
    clear hg h3
    have h5 : (g == 0) = false := by simp; omega
    have h6 := ediv_bd (chN n bad k) g h2 h4.1
    have h7 := ediv_bd (choose n k) g h1 h4.1
    have h8 : (if g = 0 then 0 else 1) = 1 := if_neg (by omega)
    go_quiet (fail)
    go_wp2
    go_ret3
    refine ⟨?_, (Ext.refl w).drewN _⟩
    rw [chRes, if_pos h, chG, ← HG.out]
    rfl
  · have h' : goodCh n bad k = false := by simpa using h
    go_enter Try.func53, Try.ntmps53
    go_wp2_with (first | (go_at_call 143; refine (dGood_any _ _ _ _).mono ?_; rintro e w1 ⟨rfl, rfl⟩))
    go_ret3
    exact ⟨by simp [chRes, h], Ext.refl _⟩

set_option maxHeartbeats 400000 in
theorem iDetectionChance_any (n bad k : Int) (w : World) :
    Calls Try.prog 52 #[.int .i64 n, .int .i64 bad, .int .i64 k] w fun e w' => e = .returned (chRes n bad k) ∧ Ext w w' := by
  by_cases h : goodCh n bad k = true
  · have h' := (goodCh_iff n bad k).1 h
    have h0 := choose_pos (n := n) (k := k) (by omega) (by omega) (by omega)
    have h1 := choose_bd (n := n - bad) (k := k) (by omega)
    have h2 := chN_bd h'
    have h3 := chG_pos h'
    go_enter Try.func52, Try.ntmps52
    go_wp2_with (first | (go_at_call 140; refine (isChoice_any _ _ _ _).mono ?_; rintro e w1 ⟨rfl, rfl⟩) | (go_at_call 141; refine (binomial_any _ _ _ (by omega) (by omega) (by omega)).mono ?_; rintro e w1 ⟨rfl, rfl⟩))
    refine (reduced_any (chN n bad k) (choose n k) _ (by omega) (by omega) (by omega) (by omega)).mono ?_
    rintro e w1 ⟨rfl, N, rfl⟩
    go_wp2
    go_ret3
    exact ⟨by rw [chRes, if_pos h]; rfl, (Ext.refl w).drewN _⟩
  · have h' : goodCh n bad k = false := by simpa using h
    go_enter Try.func52, Try.ntmps52
    go_wp2_with (first | (go_at_call 140; refine (isChoice_any _ _ _ _).mono ?_; rintro e w1 ⟨rfl, rfl⟩))
    go_ret3
    exact ⟨by simp [chRes, h], Ext.refl _⟩

def chP (n bad num den : Int) (k : Nat) : Bool := decide (num * choose n k ≤ chN n bad k * den)
def leastK (n bad num den : Int) : Option Nat := (List.range (n.toNat + 1)).find? (chP n bad num den)
def goodLeast (n bad num den : Int) : Bool := decide (0 ≤ n ∧ n ≤ 24 ∧ 0 ≤ bad ∧ bad ≤ n ∧ 1 ≤ den ∧ den ≤ 1000 ∧ 0 ≤ num ∧ num ≤ den)
theorem goodLeast_iff (n bad num den : Int) : goodLeast n bad num den = true ↔ (0 ≤ n ∧ n ≤ 24 ∧ 0 ≤ bad ∧ bad ≤ n ∧ 1 ≤ den ∧ den ≤ 1000 ∧ 0 ≤ num ∧ num ≤ den) := by unfold goodLeast; exact decide_eq_true_iff
def leastRes (n bad num den : Int) : Value :=
  if goodLeast n bad num den then (match leastK n bad num den with | some k => .tuple #[.int .i64 k, .bool true] | none => .tuple #[.int .i64 0, .bool false]) else .tuple #[.int .i64 0, .bool false]

theorem find_hit {p : Nat → Bool} {k m : Nat} (h : ∀ j, j < k → p j = false) (hk : p k = true) (hm : k < m) : (List.range m).find? p = some k := by
  rw [List.find?_eq_some_iff_append]
  refine ⟨hk, List.range k, (List.range (m - (k + 1))).map (· + (k + 1)), ?_, fun a ha => by simp [h a (List.mem_range.1 ha)]⟩
  have h1 : m = k + 1 + (m - (k + 1)) := by omega
  conv => lhs; rw [h1]
  rw [List.range_add, List.range_succ, List.append_assoc]
  congr 1
  simp only [List.cons_append, List.nil_append, List.cons.injEq, true_and]
  apply List.map_congr_left
  intro a _; omega
theorem find_miss {p : Nat → Bool} {m : Nat} (h : ∀ j, j < m → p j = false) : (List.range m).find? p = none := by
  rw [List.find?_eq_none]
  intro x hx
  simp [h x (List.mem_range.1 hx)]

theorem mul_bd {a b A B : Int} (ha0 : 0 ≤ a) (ha : a ≤ A) (hb0 : 0 ≤ b) (hb : b ≤ B) : 0 ≤ a * b ∧ a * b ≤ A * B :=
  ⟨Int.mul_nonneg ha0 hb0, Int.mul_le_mul ha hb hb0 (by omega)⟩


theorem chP_red {n bad num den : Int} {k : Nat} (h : 0 ≤ n ∧ n ≤ 24 ∧ 0 ≤ bad ∧ bad ≤ n ∧ 0 ≤ (k : Int) ∧ (k : Int) ≤ n) :
    chP n bad num den k = true ↔ num * (choose n k / chG n bad k) ≤ chN n bad k / chG n bad k * den := by
  have hg := (chG_pos h).1
  have d1 : chG n bad k ∣ chN n bad k := Int.gcd_dvd_left _ _
  have d2 : chG n bad k ∣ choose n k := Int.gcd_dvd_right _ _
  have e1 := Int.ediv_mul_cancel d1
  have e2 := Int.ediv_mul_cancel d2
  generalize chN n bad k / chG n bad k = x at *
  generalize choose n k / chG n bad k = y at *
  unfold chP
  rw [decide_eq_true_iff, ← e1, ← e2]
  generalize chG n bad k = g at *
  have r1 : num * (y * g) = num * y * g := by rw [Int.mul_assoc]
  have r2 : x * g * den = x * den * g := by rw [Int.mul_assoc, Int.mul_assoc, Int.mul_comm g den]
  rw [r1, r2]
  constructor
  · intro hh; exact Int.le_of_mul_le_mul_right hh (by omega)
  · intro hh; exact Int.mul_le_mul_of_nonneg_right hh (by omega)

set_option maxHeartbeats 1000000 in
theorem sLeastAudits_any (n bad num den : Int) (w : World) :
    Calls Try.prog 57 #[.int .i64 n, .int .i64 bad, .int .i64 num, .int .i64 den] w fun e w' => e = .returned (leastRes n bad num den) ∧ Ext w w' := by
  by_cases h : goodLeast n bad num den = true
  · have h' := (goodLeast_iff n bad num den).1 h
    obtain ⟨h1, h2, h3, h4, h5, h6, h7, h8⟩ := h'
    have g1 : goodCh n bad 0 = true := (goodCh_iff _ _ _).2 ⟨h1, h2, h3, h4, by omega, h1⟩
    have g2 : inR den 1 1000 = true := inR_iff.2 ⟨h5, h6⟩
    have g3 : inR num 0 den = true := inR_iff.2 ⟨h7, h8⟩
    obtain ⟨m, hm⟩ := Int.eq_ofNat_of_zero_le h1
    have HM := Lib.hid hm
    clear hm
    have hr : leastRes n bad num den = (match leastK n bad num den with | some k => .tuple #[.int .i64 k, .bool true] | none => .tuple #[.int .i64 0, .bool false]) := by rw [leastRes, if_pos h]
    have HR := Lib.hid hr
    clear hr h
    go_enter Try.func57, Try.ntmps57
    go_wp2_with (first | (go_at_call 143; refine (dGood_any _ _ _ _).mono ?_; rintro e w1 ⟨rfl, rfl⟩) | (go_at_call 78; refine (l1In_any _ _ _ _).mono ?_; rintro e w1 ⟨rfl, rfl⟩))
    go_loop [10] (fun i => ∃ k : Nat, (k : Int) ≤ n + 1 ∧ i = .int .i64 k ∧ Hid (∀ j, j < k → chP n bad num den j = false)) (fun i => (n + 1 - intOf i).toNat)
    case atStart => exact ⟨0, by omega, rfl, fun j hj => absurd hj (by omega)⟩
    case round =>
      obtain ⟨k, hk, rfl, hp⟩ := hrel
      by_cases hlt : (k : Int) ≤ n
      · have hg : 0 ≤ n ∧ n ≤ 24 ∧ 0 ≤ bad ∧ bad ≤ n ∧ 0 ≤ (k : Int) ∧ (k : Int) ≤ n := ⟨h1, h2, h3, h4, by omega, hlt⟩
        have b1 := chN_bd hg
        have b2 := choose_bd (n := n) (k := k) h2
        have b3 := mul_bd b1.1 b1.2 (show 0 ≤ den by omega) h6
        have b4 := mul_bd h7 (show num ≤ 1000 by omega) b2.1 b2.2
        by_cases hc : num * choose n k ≤ chN n bad k * den
        · have hd : decide (num * choose n k ≤ chN n bad k * den) = true := by simpa using hc
          have HD := Lib.hid hc
          clear hc
          go_wp2_with (first | (go_at_call 144; refine (dChance_any _ _ _ _ hg).mono ?_; rintro e w1 ⟨rfl, rfl⟩))
          go_ret2
          have hf : leastK n bad num den = some k := find_hit hp.out (by simpa [chP] using HD.out) (by omega)
          exact ⟨by rw [HR.out, hf]; rfl, Ext.refl _⟩
        · have hd : decide (num * choose n k ≤ chN n bad k * den) = false := by simpa using hc
          have HD := Lib.hid hc
          clear hc
          go_wp2_with (first | (go_at_call 144; refine (dChance_any _ _ _ _ hg).mono ?_; rintro e w1 ⟨rfl, rfl⟩))
          go_round
          case rel =>
            refine ⟨k + 1, by omega, by go_num, fun j hj => ?_⟩
            by_cases e : j = k
            · subst e; simpa [chP] using HD.out
            · exact hp.out j (by omega)
          case measure => simp [intOf]; omega
      · go_wp2_with fail
        go_ret2
        have hf : leastK n bad num den = none := find_miss fun j hj => hp.out j (by omega)
        exact ⟨by rw [HR.out, hf]; rfl, Ext.refl _⟩
  · have h' : ¬ (0 ≤ n ∧ n ≤ 24 ∧ 0 ≤ bad ∧ bad ≤ n ∧ 1 ≤ den ∧ den ≤ 1000 ∧ 0 ≤ num ∧ num ≤ den) := fun hh => h ((goodLeast_iff n bad num den).2 hh)
    have hr : leastRes n bad num den = .tuple #[.int .i64 0, .bool false] := by rw [leastRes, if_neg h]
    have HR := Lib.hid hr
    clear hr h
    have h2 : goodCh n bad 0 = false ∨ (goodCh n bad 0 = true ∧ inR den 1 1000 = false) ∨ (goodCh n bad 0 = true ∧ inR den 1 1000 = true ∧ inR num 0 den = false) := by
      cases g1 : goodCh n bad 0
      · exact .inl rfl
      · cases g2 : inR den 1 1000
        · exact .inr (.inl ⟨rfl, rfl⟩)
        · refine .inr (.inr ⟨rfl, rfl, ?_⟩)
          have e1 := (goodCh_iff _ _ _).1 g1
          have e2 := inR_iff.1 g2
          rw [inR_iff']; omega
    clear h'
    rcases h2 with g1 | ⟨g1, g2⟩ | ⟨g1, g2, g3⟩
    all_goals
      go_enter Try.func57, Try.ntmps57
      go_wp2_with (first | (go_at_call 143; refine (dGood_any _ _ _ _).mono ?_; rintro e w1 ⟨rfl, rfl⟩) | (go_at_call 78; refine (l1In_any _ _ _ _).mono ?_; rintro e w1 ⟨rfl, rfl⟩))
      go_ret2
      exact ⟨by rw [HR.out]; rfl, Ext.refl _⟩

set_option maxHeartbeats 1000000 in
theorem iLeastAudits_any (n bad num den : Int) (w : World) :
    Calls Try.prog 56 #[.int .i64 n, .int .i64 bad, .int .i64 num, .int .i64 den] w fun e w' => e = .returned (leastRes n bad num den) ∧ Ext w w' := by
  by_cases h : goodLeast n bad num den = true
  · have h' := (goodLeast_iff n bad num den).1 h
    obtain ⟨h1, h2, h3, h4, h5, h6, h7, h8⟩ := h'
    have g1 : goodCh n bad 0 = true := (goodCh_iff _ _ _).2 ⟨h1, h2, h3, h4, by omega, h1⟩
    have g2 : inR den 1 1000 = true := inR_iff.2 ⟨h5, h6⟩
    have g3 : inR num 0 den = true := inR_iff.2 ⟨h7, h8⟩
    obtain ⟨m, hm⟩ := Int.eq_ofNat_of_zero_le h1
    have HM := Lib.hid hm
    clear hm
    have hr : leastRes n bad num den = (match leastK n bad num den with | some k => .tuple #[.int .i64 k, .bool true] | none => .tuple #[.int .i64 0, .bool false]) := by rw [leastRes, if_pos h]
    have HR := Lib.hid hr
    clear hr h
    go_enter Try.func56, Try.ntmps56
    go_wp2_with (first | (go_at_call 140; refine (isChoice_any _ _ _ _).mono ?_; rintro e w1 ⟨rfl, rfl⟩) | (go_at_call 83; refine (within_any _ _ _ _).mono ?_; rintro e w1 ⟨rfl, rfl⟩))
    go_loopw [31] (fun i wr => ∃ k : Nat, (k : Int) ≤ n + 1 ∧ i = .int .i64 k ∧ Hid (∀ j, j < k → chP n bad num den j = false) ∧ Ext w wr) (fun i _ => (n + 1 - intOf i).toNat)
    case atStart => exact ⟨0, by omega, rfl, fun j hj => absurd hj (by omega), Ext.refl _⟩
    case round =>
      obtain ⟨k, hk, rfl, hp, hE⟩ := hrel
      by_cases hlt : (k : Int) < n + 1
      · have hg : 0 ≤ n ∧ n ≤ 24 ∧ 0 ≤ bad ∧ bad ≤ n ∧ 0 ≤ (k : Int) ∧ (k : Int) ≤ n := ⟨h1, h2, h3, h4, by omega, by omega⟩
        have g5 : goodCh n bad k = true := (goodCh_iff _ _ _).2 hg
        have g6 : chRes n bad k = .tuple #[.int .i64 (chN n bad k / chG n bad k), .int .i64 (choose n k / chG n bad k), .bool true] := by rw [chRes, if_pos g5]
        have b0 := chG_pos hg
        have b1 := ediv_bd _ _ (chN_bd hg) b0.1
        have b2 := ediv_bd _ _ (choose_bd (n := n) (k := k) h2) b0.1
        have hcp := chP_red (num := num) (den := den) hg
        obtain ⟨x, hx⟩ : ∃ x, x = chN n bad k / chG n bad k := ⟨_, rfl⟩
        obtain ⟨y, hy⟩ : ∃ y, y = choose n k / chG n bad k := ⟨_, rfl⟩
        rw [← hx, ← hy] at g6
        rw [← hx] at b1
        rw [← hy] at b2
        rw [← hx, ← hy] at hcp
        clear hx hy g5 b0
        have HC := Lib.hid hcp
        have HG := Lib.hid g6
        clear hcp g6
        have b3 := mul_bd b1.1 b1.2 (show 0 ≤ den by omega) h6
        have b4 := mul_bd h7 (show num ≤ 1000 by omega) b2.1 b2.2
        by_cases hc : num * y ≤ x * den
        · have hd : decide (num * y ≤ x * den) = true := by simpa using hc
          have HD := Lib.hid hc
          clear hc
          go_wp2_with (first | (go_at_call 52; refine (iDetectionChance_any _ _ _ _).mono ?_; rw [HG.out]; rintro e w1 ⟨rfl, hb⟩))
          go_ret2
          have hf : leastK n bad num den = some k := find_hit hp.out (HC.out.2 HD.out) (by omega)
          exact ⟨by rw [HR.out, hf]; rfl, hE.trans hb⟩
        · have hd : decide (num * y ≤ x * den) = false := by simpa using hc
          have HD := Lib.hid hc
          clear hc
          go_wp2_with (first | (go_at_call 52; refine (iDetectionChance_any _ _ _ _).mono ?_; rw [HG.out]; rintro e w1 ⟨rfl, hb⟩))
          go_roundw
          case rel =>
            refine ⟨k + 1, by omega, by go_num, fun j hj => ?_, hE.trans hb⟩
            by_cases e : j = k
            · subst e
              rw [← Bool.not_eq_true]
              intro hh
              have q1 := HC.out.1 hh
              have q2 := HD.out
              omega
            · exact hp.out j (by omega)
          case measure => simp [intOf]; omega
      · go_wp2_with fail
        go_ret2
        have hf : leastK n bad num den = none := find_miss fun j hj => hp.out j (by omega)
        exact ⟨by rw [HR.out, hf]; rfl, hE⟩
  · have h' : ¬ (0 ≤ n ∧ n ≤ 24 ∧ 0 ≤ bad ∧ bad ≤ n ∧ 1 ≤ den ∧ den ≤ 1000 ∧ 0 ≤ num ∧ num ≤ den) := fun hh => h ((goodLeast_iff n bad num den).2 hh)
    have hr : leastRes n bad num den = .tuple #[.int .i64 0, .bool false] := by rw [leastRes, if_neg h]
    have HR := Lib.hid hr
    clear hr h
    have h2 : goodCh n bad 0 = false ∨ (goodCh n bad 0 = true ∧ inR den 1 1000 = false) ∨ (goodCh n bad 0 = true ∧ inR den 1 1000 = true ∧ inR num 0 den = false) := by
      cases g1 : goodCh n bad 0
      · exact .inl rfl
      · cases g2 : inR den 1 1000
        · exact .inr (.inl ⟨rfl, rfl⟩)
        · refine .inr (.inr ⟨rfl, rfl, ?_⟩)
          have e1 := (goodCh_iff _ _ _).1 g1
          have e2 := inR_iff.1 g2
          rw [inR_iff']; omega
    clear h'
    rcases h2 with g1 | ⟨g1, g2⟩ | ⟨g1, g2, g3⟩
    all_goals
      go_enter Try.func56, Try.ntmps56
      go_wp2_with (first | (go_at_call 140; refine (isChoice_any _ _ _ _).mono ?_; rintro e w1 ⟨rfl, rfl⟩) | (go_at_call 83; refine (within_any _ _ _ _).mono ?_; rintro e w1 ⟨rfl, rfl⟩))
      go_ret2
      exact ⟨by rw [HR.out]; rfl, Ext.refl _⟩
end Go.Proofs.Ytpdlcbgenimmcaa
