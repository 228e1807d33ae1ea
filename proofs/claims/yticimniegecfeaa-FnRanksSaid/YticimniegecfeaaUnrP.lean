/- The permutation of a number, as plain functions. No program in sight. -/
import Derived.Test.YticimniegecfeaaRank
import Derived.Test.YticimniegecfeaaSgn
namespace Go.Proofs.Yticimniegecfeaa

/-- Elements taken out of a list, each at its place in what is left. -/
def pickL : List Nat → List Int → List Int
  | [], _ => []
  | k :: ks, left => left.getD k 0 :: pickL ks (left.eraseIdx k)
def pickR : List Nat → List Int → List Int
  | [], left => left
  | k :: ks, left => pickR ks (left.eraseIdx k)
theorem pickL_snoc (k : Nat) : ∀ (ks : List Nat) (left : List Int), pickL (ks ++ [k]) left = pickL ks left ++ [(pickR ks left).getD k 0]
  | [], _ => rfl
  | x :: ks, left => by simp [pickL, pickR, pickL_snoc k ks]
theorem pickR_snoc (k : Nat) : ∀ (ks : List Nat) (left : List Int), pickR (ks ++ [k]) left = (pickR ks left).eraseIdx k
  | [], _ => rfl
  | x :: ks, left => by simp [pickR, pickR_snoc k ks]
theorem pickL_length : ∀ (ks : List Nat) (left : List Int), (pickL ks left).length = ks.length
  | [], _ => rfl
  | x :: ks, left => by simp [pickL, pickL_length ks]
/-- Digit i of a number below n!. -/
def lessD (n r i : Nat) : Nat := (r / factN (n - 1 - i)) % (n - i)
def lessL (n r : Nat) : List Nat := (List.range n).map (lessD n r)
theorem lessL_length (n r : Nat) : (lessL n r).length = n := by simp [lessL]
theorem lessL_get {n r i : Nat} (h : i < n) : (lessL n r)[i]'(by rw [lessL_length]; exact h) = lessD n r i := by simp [lessL]
theorem lessD_lt {n r i : Nat} (h : i < n) : lessD n r i < n - i := Nat.mod_lt _ (by omega)
theorem pickR_length : ∀ (ks : List Nat) (left : List Int), (∀ i, (h : i < ks.length) → ks[i] < left.length - i) → (pickR ks left).length = left.length - ks.length
  | [], _, _ => rfl
  | k :: ks, left, h => by
    have h0 : k < left.length := h 0 (by simp)
    have h1 : (left.eraseIdx k).length = left.length - 1 := List.length_eraseIdx_of_lt h0
    rw [pickR, pickR_length ks _ (fun i hi => by have := h (i + 1) (by simpa using hi); simp only [List.getElem_cons_succ] at this; omega), h1, List.length_cons]
    omega
theorem pickR_at {n r j : Nat} (hj : j ≤ n) : (pickR ((lessL n r).take j) (iota 0 n)).length = n - j := by
  rw [pickR_length]
  · rw [iota_length, List.length_take, lessL_length]; omega
  · intro i hi
    rw [List.length_take, lessL_length] at hi
    rw [List.getElem_take, lessL_get (by omega), iota_length]
    exact lessD_lt (by omega)
/-- The program's step: what is left of the number, and the next place. -/
theorem less_div {n r j : Nat} (hj : j < n) : (r % factN (n - j)) / factN (n - j - 1) = lessD n r j := by
  obtain ⟨t, ht⟩ : ∃ t, n - j = t + 1 := ⟨n - j - 1, by omega⟩
  unfold lessD
  rw [ht, show n - 1 - j = t by omega, Nat.add_sub_cancel, factN, Nat.mul_comm (t + 1), Nat.mod_mul_right_div_self]
theorem less_mod {n r j : Nat} (hj : j < n) : (r % factN (n - j)) % factN (n - j - 1) = r % factN (n - (j + 1)) := by
  obtain ⟨t, ht⟩ : ∃ t, n - j = t + 1 := ⟨n - j - 1, by omega⟩
  rw [ht, show n - (j + 1) = t by omega, Nat.add_sub_cancel, factN, Nat.mod_mul_left_mod]
/-- The reference's step. -/
theorem less_mod2 {n r i : Nat} (_hi : i < n) : (r / factN (n - 1 - i)) % (n - i) = lessD n r i := rfl
theorem less_div2 {n r i : Nat} (hi : i < n) : (r / factN (n - 1 - i)) / (n - i) = r / factN (n - i) := by
  obtain ⟨t, ht⟩ : ∃ t, n - i = t + 1 := ⟨n - i - 1, by omega⟩
  rw [ht, show n - 1 - i = t by omega, Nat.div_div_eq_div_mul, factN, Nat.mul_comm]
theorem less_end {n r : Nat} : 0 < r / factN n ↔ factN n ≤ r := by
  rw [Nat.div_pos_iff]
  exact ⟨fun h => h.2, fun h => ⟨factN_pos n, h⟩⟩
def unrL (n r : Nat) : List Int := pickL (lessL n r) (iota 0 n)
def unrR (n r : Int) : Option (List Int) := if inR n 0 12 && inR r 0 ((factN n.toNat : Nat) - 1) then some (unrL n.toNat r.toNat) else none
theorem unrR_bd (n r : Int) : ((unrR n r).getD []).length ≤ 100000 := by
  unfold unrR
  split
  · rename_i h
    simp only [Bool.and_eq_true] at h
    have := inR_iff.1 h.1
    rw [Option.getD_some, unrL, pickL_length, lessL_length]; omega
  · simp

/- A number's permutation has that number. -/
theorem rkS_digits (p : List Int) : ∀ j, j ≤ p.length → ∀ i, i < j → rkS p j / factN (p.length - 1 - i) * 0 = 0 := fun _ _ _ _ => by simp
end Go.Proofs.Yticimniegecfeaa
