/- Contracts for lists of residues: sums, dots, powers, inverses. -/
import Derived.Test.YtnhdohjlbchniaaGreatProg
import Derived.Test.YtnhdohjlbchniaaGreatEuc
import Derived.Test.YtnhdohjlbchniaaGreatEq
namespace Go.Proofs.YtnhdohjlbchniaaGreat
open Go.RowKit

def sumV (l : List Int) (m : Int) : Nat → Int
  | 0 => 0
  | k + 1 => (sumV l m k + l.getD k 0) % m
def dotV (a b : List Int) (m : Int) : Nat → Int
  | 0 => 0
  | k + 1 => (dotV a b m k + a.getD k 0 * b.getD k 0 % m) % m
theorem sumV_bd (l : List Int) (m : Int) (hm : 0 < m) (k : Nat) : 0 ≤ sumV l m k ∧ sumV l m k < m := by
  cases k with
  | zero => exact ⟨Int.le_refl _, hm⟩
  | succ k => exact ⟨Int.emod_nonneg _ (by omega), Int.emod_lt_of_pos _ hm⟩
theorem dotV_bd (a b : List Int) (m : Int) (hm : 0 < m) (k : Nat) : 0 ≤ dotV a b m k ∧ dotV a b m k < m := by
  cases k with
  | zero => exact ⟨Int.le_refl _, hm⟩
  | succ k => exact ⟨Int.emod_nonneg _ (by omega), Int.emod_lt_of_pos _ hm⟩
theorem sumV_succ (l : List Int) (m : Int) {k : Nat} (hk : k < l.length) : sumV l m (k + 1) = (sumV l m k + l[k]) % m := by
  rw [sumV]; simp [List.getD_eq_getElem?_getD, hk]
theorem dotV_succ (a b : List Int) (m : Int) {k : Nat} (hk : k < a.length) (hk2 : k < b.length) : dotV a b m (k + 1) = (dotV a b m k + a[k] * b[k] % m) % m := by
  rw [dotV]; simp [List.getD_eq_getElem?_getD, hk, hk2]
theorem intmul_bd (a b : Int) (ha : 0 ≤ a) (hb : 0 ≤ b) (ha2 : a ≤ 3000000000) (hb2 : b ≤ 3000000000) : 0 ≤ a * b ∧ a * b ≤ 9000000000000000000 :=
  ⟨Int.mul_nonneg ha hb, Int.le_trans (Int.mul_le_mul ha2 hb2 hb (by omega)) (by decide)⟩

def trmB (l : List Int) (m : Int) : Bool := inR m 2 2000000000 && (decide (l.length ≤ 200) && allR l 0 (m - 1))
theorem trmB_iff {l : List Int} {m : Int} : trmB l m = true ↔ (2 ≤ m ∧ m ≤ 2000000000) ∧ l.length ≤ 200 ∧ ∀ x ∈ l, 0 ≤ x ∧ x ≤ m - 1 := by
  unfold trmB
  rw [Bool.and_eq_true, Bool.and_eq_true, inR_iff, allR_iff, decide_eq_true_iff]

set_option maxHeartbeats 1000000 in
theorem sum_any (A : Option Addr) (n c : Nat) (l : List Int) (m : Int) (w : World) (ha : RdI w A l) (hl : l.length = n) (hn : n ≤ 1000000) (hm : 2 ≤ m) (hm2 : m ≤ 2000000000) (hx : ∀ x ∈ l, 0 ≤ x ∧ x ≤ m - 1) :
    Calls Tryz.prog 73 #[.slice A n c, .int .i64 m] w fun e w' => e = .returned (.int .i64 (sumV l m n)) ∧ w = w' := by
  subst hl
  have HX := Lib.hid hx
  have h0 : (m == 0) = false := by simp; omega
  clear hx
  go_enter Tryz.func73, Tryz.ntmps73
  go_wp2
  go_loop [5, 10] (fun o i => ∃ (j : Nat) (s : Int), j ≤ l.length ∧ i = .int .i64 j ∧ o = .int .i64 s ∧ 0 ≤ s ∧ s < m ∧ Hid (s = sumV l m j)) (fun _ i => l.length - (intOf i).toNat)
  case atStart => exact ⟨0, 0, Nat.zero_le _, rfl, rfl, by omega, by omega, rfl⟩
  case round =>
    obtain ⟨j, s, hj, rfl, rfl, hs1, hs2, HS⟩ := hrel
    by_cases hlt : j < l.length
    · obtain ⟨ad, rfl, hc⟩ := ha.at_ hlt
      have hx := HX.out _ (List.getElem_mem hlt)
      have H1 := Lib.hid (sumV_succ l m hlt)
      generalize l[j] = x at *
      have hb := Int.emod_lt_of_pos (s + x) (show 0 < m by omega)
      have hb2 := Int.emod_nonneg (s + x) (show m ≠ 0 by omega)
      go_wp2
      go_round
      case rel => exact ⟨j + 1, (s + x) % m, by omega, by go_num, rfl, hb2, hb, by rw [Hid, H1.out, HS.out]⟩
      case measure => simp [intOf]; omega
    · obtain rfl : j = l.length := by omega
      go_wp2
      go_ret
      exact ⟨ret_int HS.out, rfl⟩
set_option maxHeartbeats 1000000 in
theorem dot_any (A B : Option Addr) (n c d : Nat) (a b : List Int) (m : Int) (w : World) (ha : RdI w A a) (hb : RdI w B b) (hl : a.length = n) (hl2 : b.length = n) (hn : n ≤ 1000000) (hm : 2 ≤ m) (hm2 : m ≤ 2000000000)
    (hx : ∀ x ∈ a, 0 ≤ x ∧ x ≤ m - 1) (hy : ∀ x ∈ b, 0 ≤ x ∧ x ≤ m - 1) :
    Calls Tryz.prog 74 #[.slice A n c, .slice B n d, .int .i64 m] w fun e w' => e = .returned (.int .i64 (dotV a b m n)) ∧ Ext w w' := by
  subst hl
  have HX := Lib.hid hx
  have HY := Lib.hid hy
  have h0 : (m == 0) = false := by simp; omega
  have HL := Lib.hid hl2
  clear hx hy
  go_enter Tryz.func74, Tryz.ntmps74
  go_wp2
  go_loopw [7, 11] (fun o i wr => ∃ (j N : Nat) (s : Int), j ≤ a.length ∧ i = .int .i64 j ∧ o = .int .i64 s ∧ wr = w.drewN N ∧ 0 ≤ s ∧ s < m ∧ Hid (s = dotV a b m j)) (fun _ i _ => a.length - (intOf i).toNat)
  case atStart => exact ⟨0, 0, 0, Nat.zero_le _, rfl, rfl, rfl, by omega, by omega, rfl⟩
  case round =>
    obtain ⟨j, N, s, hj, rfl, rfl, rfl, hs1, hs2, HS⟩ := hrel
    by_cases hlt : j < a.length
    · have hlt' : j < b.length := by rw [hl2]; exact hlt
      obtain ⟨ad, rfl, hca⟩ := ha.at_ hlt
      obtain ⟨bd, rfl, hcb⟩ := hb.at_ hlt'
      have hx := HX.out _ (List.getElem_mem hlt)
      have hy := HY.out _ (List.getElem_mem hlt')
      have H1 := Lib.hid (dotV_succ a b m hlt hlt')
      generalize a[j] = x at *
      generalize b[j] = y at *
      have hxy := intmul_bd x y hx.1 hy.1 (by omega) (by omega)
      have hp := Int.emod_lt_of_pos (x * y) (show 0 < m by omega)
      have hp2 := Int.emod_nonneg (x * y) (show m ≠ 0 by omega)
      have hq := Int.emod_lt_of_pos (s + x * y % m) (show 0 < m by omega)
      have hq2 := Int.emod_nonneg (s + x * y % m) (show m ≠ 0 by omega)
      go_wp2
      go_quiet (fail)
      go_wp2
      go_roundw
      case rel => exact ⟨j + 1, _, (s + x * y % m) % m, by omega, by go_num, rfl, rfl, hq2, hq, by rw [Hid, H1.out, HS.out]⟩
      case measure => simp [intOf]; omega
    · obtain rfl : j = a.length := by omega
      go_wp2
      go_ret
      exact ⟨ret_int HS.out, (Ext.refl w).drewN _⟩

/-- All have inverses. -/
def InvOK (l : List Int) (m : Int) : Prop := trmB l m = true ∧ ∀ x ∈ l, invV x m ≠ 0
/-- What both lists of inverses are. -/
def InvAll (base : Nat) (l : List Int) (m : Int) (w : World) (e : Ending) (w' : World) : Prop :=
  ∃ A n c p ok, e = .returned (.tuple #[.slice A n c, .bool ok]) ∧ OwnI w' base 3 A n c p ∧ (ok = true ∧ InvOK l m ∧ p = l.map (fun x => invV x m) ∨ ok = false ∧ ¬ InvOK l m ∧ p = []) ∧ Ext w w'
theorem inv_take {l : List Int} {m : Int} {j : Nat} (hj : j < l.length) (h : ∀ x ∈ l.take j, invV x m ≠ 0) (hx : invV l[j] m ≠ 0) : ∀ x ∈ l.take (j + 1), invV x m ≠ 0 := by
  rw [List.take_succ_eq_append_getElem hj]
  intro x hxm
  rw [List.mem_append, List.mem_singleton] at hxm
  rcases hxm with h1 | rfl
  · exact h x h1
  · exact hx
theorem inv_map {l : List Int} {m v : Int} {j : Nat} (hj : j < l.length) (hx : invV l[j] m = v) : (l.take j).map (fun x => invV x m) ++ [v] = (l.take (j + 1)).map (fun x => invV x m) := by
  rw [List.take_succ_eq_append_getElem hj, List.map_append, List.map_cons, List.map_nil, hx]
end Go.Proofs.YtnhdohjlbchniaaGreat
