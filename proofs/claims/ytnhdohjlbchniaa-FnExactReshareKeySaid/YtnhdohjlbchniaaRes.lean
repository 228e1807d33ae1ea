/- Contracts for lists of residues: sums, dots, powers, inverses. -/
import Derived.Test.YtnhdohjlbchniaaProg
import Derived.Test.YtnhdohjlbchniaaEuc
import Derived.Test.YtnhdohjlbchniaaEq
namespace Go.Proofs.Ytnhdohjlbchniaa
open Go.RowKit

def sumV (l : List Int) (m : Int) : Nat → Int
  | 0 => 0
  | k + 1 => (sumV l m k + l.getD k 0) % m
def dotV (a b : List Int) (m : Int) : Nat → Int
  | 0 => 0
  | k + 1 => (dotV a b m k + a.getD k 0 * b.getD k 0 % m) % m
theorem sumV_bd (l : List Int) (m : Int) (hm : 0 < m) (k : Nat) : 0 ≤ sumV l m k ∧ sumV l m k < m := by
  cases k with
  | zero => exact ⟨Int.le_refl _, hm⟩
  | succ k => exact ⟨Int.emod_nonneg _ (by omega), Int.emod_lt_of_pos _ hm⟩
theorem dotV_bd (a b : List Int) (m : Int) (hm : 0 < m) (k : Nat) : 0 ≤ dotV a b m k ∧ dotV a b m k < m := by
  cases k with
  | zero => exact ⟨Int.le_refl _, hm⟩
  | succ k => exact ⟨Int.emod_nonneg _ (by omega), Int.emod_lt_of_pos _ hm⟩
theorem sumV_succ (l : List Int) (m : Int) {k : Nat} (hk : k < l.length) : sumV l m (k + 1) = (sumV l m k + l[k]) % m := by
  rw [sumV]; simp [List.getD_eq_getElem?_getD, hk]
theorem dotV_succ (a b : List Int) (m : Int) {k : Nat} (hk : k < a.length) (hk2 : k < b.length) : dotV a b m (k + 1) = (dotV a b m k + a[k] * b[k] % m) % m := by
  rw [dotV]; simp [List.getD_eq_getElem?_getD, hk, hk2]
theorem intmul_bd (a b : Int) (ha : 0 ≤ a) (hb : 0 ≤ b) (ha2 : a ≤ 3000000000) (hb2 : b ≤ 3000000000) : 0 ≤ a * b ∧ a * b ≤ 9000000000000000000 :=
  ⟨Int.mul_nonneg ha hb, Int.le_trans (Int.mul_le_mul ha2 hb2 hb (by omega)) (by decide)⟩

def trmB (l : List Int) (m : Int) : Bool := inR m 2 2000000000 && (decide (l.length ≤ 200) && allR l 0 (m - 1))
theorem trmB_iff {l : List Int} {m : Int} : trmB l m = true ↔ (2 ≤ m ∧ m ≤ 2000000000) ∧ l.length ≤ 200 ∧ ∀ x ∈ l, 0 ≤ x ∧ x ≤ m - 1 := by
  unfold trmB
  rw [Bool.and_eq_true, Bool.and_eq_true, inR_iff, allR_iff, decide_eq_true_iff]


/-- All have inverses. -/
def InvOK (l : List Int) (m : Int) : Prop := trmB l m = true ∧ ∀ x ∈ l, invV x m ≠ 0
/-- What both lists of inverses are. -/
def InvAll (base : Nat) (l : List Int) (m : Int) (w : World) (e : Ending) (w' : World) : Prop :=
  ∃ A n c p ok, e = .returned (.tuple #[.slice A n c, .bool ok]) ∧ OwnI w' base 3 A n c p ∧ (ok = true ∧ InvOK l m ∧ p = l.map (fun x => invV x m) ∨ ok = false ∧ ¬ InvOK l m ∧ p = []) ∧ Ext w w'
theorem inv_take {l : List Int} {m : Int} {j : Nat} (hj : j < l.length) (h : ∀ x ∈ l.take j, invV x m ≠ 0) (hx : invV l[j] m ≠ 0) : ∀ x ∈ l.take (j + 1), invV x m ≠ 0 := by
  rw [List.take_succ_eq_append_getElem hj]
  intro x hxm
  rw [List.mem_append, List.mem_singleton] at hxm
  rcases hxm with h1 | rfl
  · exact h x h1
  · exact hx
theorem inv_map {l : List Int} {m v : Int} {j : Nat} (hj : j < l.length) (hx : invV l[j] m = v) : (l.take j).map (fun x => invV x m) ++ [v] = (l.take (j + 1)).map (fun x => invV x m) := by
  rw [List.take_succ_eq_append_getElem hj, List.map_append, List.map_cons, List.map_nil, hx]
end Go.Proofs.Ytnhdohjlbchniaa
