/- Numbers of votes, as plain functions. No program in sight. -/
import Derived.Test.YtpfccboighdcbaaGreatVote
namespace Go.Proofs.YtpfccboighdcbaaGreat

def addK (n : Int) (s : Nat) : Nat → List Int → List Int
  | 0, l => l
  | k + 1, l => (addK n s k l).set (s + k) ((addK n s k l).getD (s + k) 0 + n)
theorem addK_length (n : Int) (s : Nat) : ∀ (k : Nat) (l : List Int), (addK n s k l).length = l.length
  | 0, _ => rfl
  | k + 1, l => by rw [addK, List.length_set, addK_length n s k l]
theorem getD_set (l : List Int) (i j : Nat) (x : Int) : (l.set i x).getD j 0 = if i = j ∧ i < l.length then x else l.getD j 0 := by
  simp only [List.getD, List.getElem?_set]
  by_cases h : i = j
  · subst h
    by_cases h2 : i < l.length <;> simp [h2]
  · simp [h]
theorem addK_get (n : Int) (s : Nat) : ∀ (k : Nat) (l : List Int) (i : Nat), (addK n s k l).getD i 0 = l.getD i 0 + if s ≤ i ∧ i < s + k ∧ i < l.length then n else 0
  | 0, l, i => by rw [addK, if_neg (by omega), Int.add_zero]
  | k + 1, l, i => by
    rw [addK, getD_set, addK_length, addK_get n s k l (s + k), addK_get n s k l i]
    by_cases h : s + k = i ∧ s + k < l.length
    · rw [if_pos h, if_neg (by omega), if_pos (by omega), h.1]; omega
    · rw [if_neg h]
      by_cases h2 : s ≤ i ∧ i < s + k ∧ i < l.length
      · rw [if_pos h2, if_pos (by omega)]
      · rw [if_neg h2, if_neg (by omega)]
def rowsAt (ws : List Int) (p : Nat) : Nat → List Int
  | 0 => List.replicate (ws.length + p) 0
  | j + 1 => addK (ws.getD j 0) j (p + 1) (rowsAt ws p j)
theorem rowsAt_length (ws : List Int) (p : Nat) : ∀ j, (rowsAt ws p j).length = ws.length + p
  | 0 => by simp [rowsAt]
  | j + 1 => by rw [rowsAt, addK_length, rowsAt_length ws p j]
theorem rowsAt_bd {ws : List Int} {p : Nat} {M : Int} (hM : 0 ≤ M) (h : ∀ i, 0 ≤ ws.getD i 0 ∧ ws.getD i 0 ≤ M) : ∀ j i, 0 ≤ (rowsAt ws p j).getD i 0 ∧ (rowsAt ws p j).getD i 0 ≤ j * M
  | 0, i => by
    have : (List.replicate (ws.length + p) (0 : Int)).getD i 0 = 0 := by
      simp only [List.getD, List.getElem?_replicate]; split <;> rfl
    rw [rowsAt, this]; simp
  | j + 1, i => by
    have ih := rowsAt_bd (p := p) hM h j i
    have hj := h j
    rw [rowsAt, addK_get]
    have e : ((j + 1 : Nat) : Int) * M = j * M + M := by push_cast; rw [Int.add_mul, Int.one_mul]
    rw [e]
    split <;> omega
def scoresAt (p : Nat) : Nat → List Int
  | 0 => [1]
  | o + 1 => rowsAt (scoresAt p o) p (scoresAt p o).length
theorem scoresAt_length (p : Nat) : ∀ o, (scoresAt p o).length = 1 + o * p
  | 0 => by simp [scoresAt]
  | o + 1 => by rw [scoresAt, rowsAt_length, scoresAt_length p o, Nat.add_mul]; omega
theorem scoresAt_len {p o : Nat} (hp : p ≤ 5) (ho : o ≤ 8) : (scoresAt p o).length ≤ 41 := by
  rw [scoresAt_length]
  have : o * p ≤ 8 * 5 := Nat.mul_le_mul ho hp
  omega
theorem scoresAt_bd {p : Nat} (hp : p ≤ 5) : ∀ o, o ≤ 8 → ∀ i, 0 ≤ (scoresAt p o).getD i 0 ∧ (scoresAt p o).getD i 0 ≤ 41 ^ o
  | 0, _, i => by
    match i with
    | 0 => simp [scoresAt]
    | i + 1 => simp [scoresAt, List.getD]
  | o + 1, h, i => by
    have ih := scoresAt_bd hp o (by omega)
    have h0 : (0 : Int) ≤ 41 ^ o := by have := ih 0; omega
    have h1 := rowsAt_bd (p := p) h0 ih (scoresAt p o).length i
    have hl := scoresAt_len (o := o) hp (by omega)
    have h2 : ((scoresAt p o).length : Int) * 41 ^ o ≤ 41 * 41 ^ o := Int.mul_le_mul_of_nonneg_right (by omega) h0
    rw [scoresAt, Int.pow_succ]
    omega
theorem pow41 {n : Nat} (h : n ≤ 8) : (41 : Int) ^ n ≤ 7984925229121 ∧ 0 ≤ (41 : Int) ^ n := by
  have : n = 0 ∨ n = 1 ∨ n = 2 ∨ n = 3 ∨ n = 4 ∨ n = 5 ∨ n = 6 ∨ n = 7 ∨ n = 8 := by omega
  rcases this with rfl | rfl | rfl | rfl | rfl | rfl | rfl | rfl | rfl <;> decide
/-- The bound that the walks use. -/
theorem cells_bd {p o j : Nat} (hp : p ≤ 5) (ho : o < 8) (hj : j ≤ (scoresAt p o).length) (i : Nat) : 0 ≤ (rowsAt (scoresAt p o) p j).getD i 0 ∧ (rowsAt (scoresAt p o) p j).getD i 0 ≤ 7984925229121 := by
  have h0 := pow41 (n := o) (by omega)
  have h1 := rowsAt_bd (p := p) h0.2 (scoresAt_bd hp o (by omega)) j i
  have hl := scoresAt_len (o := o) hp (by omega)
  have h2 : (j : Int) * 41 ^ o ≤ 41 * 41 ^ o := Int.mul_le_mul_of_nonneg_right (by omega) h0.2
  have h3 := (pow41 (n := o + 1) (by omega)).1
  rw [Int.pow_succ] at h3
  omega

def sumF (W : Nat → Int) (c : Nat) : Nat → Int
  | 0 => 0
  | j + 1 => sumF W c j + if c ≤ j then W j else 0
theorem sumF_low (W : Nat → Int) (c : Nat) : ∀ j, j ≤ c → sumF W c j = 0
  | 0, _ => rfl
  | j + 1, h => by rw [sumF, sumF_low W c j (by omega), if_neg (by omega)]; rfl
theorem sumF_bd {W : Nat → Int} {M : Int} (c : Nat) : ∀ j, (∀ i, i < j → 0 ≤ W i ∧ W i ≤ M) → 0 ≤ M → 0 ≤ sumF W c j ∧ sumF W c j ≤ j * M
  | 0, _, _ => by simp [sumF]
  | j + 1, h, hM => by
    have ih := sumF_bd c j (fun i hi => h i (by omega)) hM
    have hj := h j (by omega)
    have e : ((j + 1 : Nat) : Int) * M = j * M + M := by push_cast; rw [Int.add_mul, Int.one_mul]
    rw [sumF, e]
    split <;> omega
theorem sumF_congr {W W' : Nat → Int} (c : Nat) : ∀ j, (∀ i, i < j → W i = W' i) → sumF W c j = sumF W' c j
  | 0, _ => rfl
  | j + 1, h => by rw [sumF, sumF, sumF_congr c j fun i hi => h i (by omega), h j (by omega)]
theorem sumF_cut {W : Nat → Int} {c m : Nat} : ∀ j, m ≤ j → sumF (fun i => if i < m then W i else 0) c j = sumF W c m
  | 0, h => by obtain rfl : m = 0 := by omega
               rfl
  | j + 1, h => by
    by_cases e : m = j + 1
    · subst e; exact sumF_congr c _ fun i hi => by rw [if_pos hi]
    · rw [sumF, sumF_cut j (by omega), if_neg (show ¬ j < m by omega)]
      split <;> omega

def binW (b : Nat) : Nat → Int
  | 0 => 1
  | i + 1 => binW b i * ((b : Int) - i) / (i + 1)
def rkW (b : Nat) : Nat → Int
  | 0 => 1
  | i + 1 => rkW b i * ((b : Int) - i)
def wrW : Nat → Int
  | 0 => 1
  | i + 1 => wrW i * 26
theorem binW_bd {b i : Nat} (hb : b ≤ 8) (hi : i ≤ b) : 0 ≤ binW b i ∧ binW b i ≤ 100 := by
  have : ∀ b, b < 9 → ∀ i, i < 9 → i ≤ b → 0 ≤ binW b i ∧ binW b i ≤ 100 := by decide
  exact this b (by omega) i (by omega) hi
theorem binW_mid {b i : Nat} (hb : b ≤ 8) (hi : i < b) : 0 ≤ binW b i * ((b : Int) - i) ∧ binW b i * ((b : Int) - i) ≤ 1000 := by
  have : ∀ b, b < 9 → ∀ i, i < 9 → i < b → 0 ≤ binW b i * ((b : Int) - i) ∧ binW b i * ((b : Int) - i) ≤ 1000 := by decide
  exact this b (by omega) i (by omega) hi
theorem rkW_bd {b i : Nat} (hb : b ≤ 8) (hi : i ≤ b + 1) : 0 ≤ rkW b i ∧ rkW b i ≤ 100000 := by
  have : ∀ b, b < 9 → ∀ i, i < 10 → i ≤ b + 1 → 0 ≤ rkW b i ∧ rkW b i ≤ 100000 := by decide
  exact this b (by omega) i (by omega) hi
theorem wrW_bd {i : Nat} (hi : i ≤ 6) : 0 ≤ wrW i ∧ wrW i ≤ 1000000000 := by
  have : ∀ i, i < 7 → 0 ≤ wrW i ∧ wrW i ≤ 1000000000 := by decide
  exact this i (by omega)
theorem bin_scores {b i : Nat} (hb : b ≤ 8) (hi : i ≤ b) : binW b i = (scoresAt 1 b).getD i 0 := by
  have : ∀ b, b < 9 → ∀ i, i < 9 → i ≤ b → binW b i = (scoresAt 1 b).getD i 0 := by decide +kernel
  exact this b (by omega) i (by omega) hi
def cntV (a : Int) (b c d f : Nat) : Int :=
  if a = 1 then sumF (fun i => (scoresAt 1 b).getD i 0) c (d + 1) else if a = 2 then sumF (fun i => (scoresAt f b).getD i 0) c (d + 1) else if a = 3 then sumF (rkW b) c (d + 1) else sumF wrW c (d + 1)
end Go.Proofs.YtpfccboighdcbaaGreat
