/- Contracts for PermutationOfMatrix: the program's and the reference's. -/
import Derived.Test.YtnekpofaflpmdaaGreatDoorProg
import Derived.Test.YtnekpofaflpmdaaGreatDoorMat
namespace Go.Proofs.YtnekpofaflpmdaaGreatDoor
open Go.RowKit

theorem unit_zero (n : Nat) : unitL (n + 1) 0 = 1 :: List.replicate n 0 := by simp [unitL, List.replicate_succ]
theorem unit_succ (n K : Nat) : unitL (n + 1) (K + 1) = 0 :: unitL n K := by simp [unitL, List.replicate_succ]
theorem zo_sum : ∀ l : List Int, allR l 0 1 = true → 0 ≤ l.sum
  | [], _ => by simp
  | x :: l, h => by
    rw [allR_iff] at h
    have h1 := h x (by simp)
    have h2 := zo_sum l (allR_iff.2 fun y hy => h y (by simp [hy]))
    rw [List.sum_cons]; omega
theorem zo0 : ∀ l : List Int, allR l 0 1 = true → l.sum = 0 → l = List.replicate l.length 0
  | [], _, _ => rfl
  | x :: l, h, hs => by
    rw [allR_iff] at h
    have h1 := h x (by simp)
    have h' : allR l 0 1 = true := allR_iff.2 fun y hy => h y (by simp [hy])
    have h2 := zo_sum l h'
    rw [List.sum_cons] at hs
    have h3 := zo0 l h' (by omega)
    rw [List.length_cons, List.replicate_succ, ← h3, show x = 0 by omega]
theorem zo1 : ∀ l : List Int, allR l 0 1 = true → l.sum = 1 → ∃ K, K < l.length ∧ l = unitL l.length K
  | [], _, hs => by simp at hs
  | x :: l, h, hs => by
    rw [allR_iff] at h
    have h1 := h x (by simp)
    have h' : allR l 0 1 = true := allR_iff.2 fun y hy => h y (by simp [hy])
    have h2 := zo_sum l h'
    rw [List.sum_cons] at hs
    by_cases e : x = 1
    · have h3 := zo0 l h' (by omega)
      exact ⟨0, by simp, by rw [List.length_cons, unit_zero, ← h3, e]⟩
    · obtain ⟨K, hK, h3⟩ := zo1 l h' (by omega)
      exact ⟨K + 1, by simpa using hK, by rw [List.length_cons, unit_succ, ← h3, show x = 0 by omega]⟩
theorem sum_rep0 (n : Nat) : (List.replicate n (0 : Int)).sum = 0 := by
  induction n with
  | zero => rfl
  | succ n ih => rw [List.replicate_succ, List.sum_cons, ih]; rfl
theorem unit_sum : ∀ (n K : Nat), K < n → (unitL n K).sum = 1
  | 0, _, h => absurd h (by omega)
  | n + 1, 0, _ => by rw [unit_zero, List.sum_cons, sum_rep0]; rfl
  | n + 1, K + 1, h => by rw [unit_succ, List.sum_cons, unit_sum n K (by omega)]; rfl
theorem unit_get {n K i : Nat} (hi : i < n) : (unitL n K)[i]'(by rw [unitL_length]; exact hi) = if K = i then 1 else 0 := by
  simp only [unitL, List.getElem_set]
  split
  · rfl
  · simp
theorem unit_rng (n K : Nat) : allR (unitL n K) 0 1 = true := by
  rw [allR_iff]
  intro x hx
  obtain ⟨i, hi, rfl⟩ := List.getElem_of_mem hx
  rw [unitL_length] at hi
  rw [unit_get hi]
  split <;> omega
theorem unit_idx {n K : Nat} (hK : K < n) : idxOf (fun y => (1 : Int) == y) (unitL n K) = K := by
  refine findIdx_hit (j := K) (by rw [unitL_length]; exact hK) ?_ fun i hi hiK => ?_
  · rw [unit_get hK]; simp
  · rw [unitL_length] at hi
    rw [unit_get hi, if_neg (by omega)]; rfl

def rowOk (n : Nat) (row : List Int) : Bool := decide (row.length = n) && (allR row 0 1 && decide (row.sum = 1))
theorem rowOk_unit {n K : Nat} (hK : K < n) : rowOk n (unitL n K) = true := by
  simp [rowOk, unitL_length, unit_rng, unit_sum n K hK]
theorem unit_of {n : Nat} {row : List Int} (h : rowOk n row = true) : ∃ K, K < n ∧ row = unitL n K ∧ idxOf (fun y => (1 : Int) == y) row = K := by
  simp only [rowOk, Bool.and_eq_true, decide_eq_true_eq] at h
  obtain ⟨h1, h2, h3⟩ := h
  obtain ⟨K, hK, h4⟩ := zo1 row h2 h3
  rw [h1] at hK h4
  exact ⟨K, hK, h4, by rw [h4]; exact unit_idx hK⟩
def pmP (m : List (List Int)) : List Int := m.map fun row => idxOf (fun y => (1 : Int) == y) row
theorem pmP_length (m : List (List Int)) : (pmP m).length = m.length := by simp [pmP]
theorem pmP_take {m : List (List Int)} {j : Nat} (hj : j < m.length) : pmP (m.take (j + 1)) = pmP (m.take j) ++ [idxOf (fun y => (1 : Int) == y) m[j]] := by
  rw [List.take_succ_eq_append_getElem hj, pmP, List.map_append]; rfl
def pmR (m : List (List Int)) : Option (List Int) := if permB (pmP m) && decide (matL (pmP m) = m) then some (pmP m) else none
theorem pmR_bad {m : List (List Int)} {k : Nat} (hk : k < m.length) (h : rowOk m.length m[k] = false) : pmR m = none := by
  unfold pmR
  rw [if_neg]
  intro hh
  simp only [Bool.and_eq_true, decide_eq_true_eq] at hh
  obtain ⟨hp, he⟩ := hh
  have hkp : k < (pmP m).length := by rw [pmP_length]; exact hk
  obtain ⟨K, hK, hKn, _⟩ := permD (permB_parts hp).2.1 hkp
  have h1 : (matL (pmP m))[k]'(by simp [matL]; exact hkp) = unitL m.length K := by simp [matL, hK, pmP_length]
  have h2 : m[k] = unitL m.length K := by
    rw [← h1]
    simp only [he]
  rw [h2, rowOk_unit (by rw [pmP_length] at hKn; exact hKn)] at h
  cases h
theorem pmR_long {m : List (List Int)} (h : 24 < m.length) : pmR m = none := by
  unfold pmR
  have : permB (pmP m) = false := by
    unfold permB
    rw [pmP_length, decide_eq_false (by omega), Bool.false_and]
  rw [this]; rfl
theorem pmR_good {m : List (List Int)} (h : ∀ k, (hk : k < m.length) → rowOk m.length m[k] = true) : matL (pmP m) = m := by
  apply List.ext_getElem (by simp [matL, pmP])
  intro k h1 h2
  obtain ⟨K, hK, h3, h4⟩ := unit_of (h k h2)
  simp only [matL, List.getElem_map, pmP, List.length_map]
  rw [h4]
  exact h3.symm
theorem pmR_bd (m : List (List Int)) : ((pmR m).getD []).length ≤ 100000 := by
  unfold pmR
  split
  · rename_i h
    simp only [Bool.and_eq_true] at h
    have := (permB_parts h.1).1
    rw [Option.getD_some]; omega
  · simp

theorem sum_take {l : List Int} {j : Nat} (hj : j < l.length) : (l.take (j + 1)).sum = (l.take j).sum + l[j] := by
  rw [List.take_succ_eq_append_getElem hj, List.sum_append]; simp
theorem sum_bd {l : List Int} (h : allR l 0 1000000 = true) : ∀ j, j ≤ l.length → 0 ≤ (l.take j).sum ∧ (l.take j).sum ≤ j * 1000000
  | 0, _ => by simp
  | j + 1, hj => by
    have ih := sum_bd h j (by omega)
    have h1 := allR_at h (show j < l.length by omega)
    rw [sum_take (by omega)]
    push_cast
    omega
set_option maxHeartbeats 400000 in
theorem vPlain_any (A : Option Addr) (n c : Nat) (l : List Int) (w : World) (ha : RdI w A l) (hl : l.length = n) (hn : n ≤ 1000000) (h : allR l 0 1000000 = true) :
    Calls Tryz.prog 65 #[.slice A n c] w fun e w' => e = .returned (.int .i64 l.sum) ∧ w = w' := by
  subst hl
  have HR := Lib.hid h
  clear h
  go_enter Tryz.func65, Tryz.ntmps65
  go_wp2
  go_loop [3, 8] (fun o i => ∃ j : Nat, j ≤ l.length ∧ i = .int .i64 j ∧ o = .int .i64 (l.take j).sum) (fun _ i => l.length - (intOf i).toNat)
  case atStart => exact ⟨0, Nat.zero_le _, rfl, rfl⟩
  case round =>
    obtain ⟨j, hj, rfl, rfl⟩ := hrel
    by_cases hlt : j < l.length
    · obtain ⟨ad, rfl, hc⟩ := ha.at_ hlt
      have h1 := sum_bd HR.out j hj
      have h2 := allR_at HR.out hlt
      have hs := sum_take hlt
      generalize l[j] = x at *
      have HS := Lib.hid hs
      clear hs
      generalize (l.take j).sum = s at *
      go_wp2
      go_round
      case rel => exact ⟨j + 1, by omega, by go_num, by rw [HS.out]⟩
      case measure => simp [intOf]; omega
    · obtain rfl : j = l.length := by omega
      rw [List.take_length]
      go_wp2
      go_ret
      exact ⟨rfl, rfl⟩
theorem allR_mono {l : List Int} {a b c d : Int} (h : allR l a b = true) (h1 : c ≤ a) (h2 : b ≤ d) : allR l c d = true := by
  rw [allR_iff] at h ⊢
  intro x hx
  have := h x hx
  omega



end Go.Proofs.YtnekpofaflpmdaaGreatDoor
