/- The digits of a code, and the vote that they tell. No program in sight. -/
import Derived.Test.YtnekpofaflpmdaaGreatDoorCode
namespace Go.Proofs.YtnekpofaflpmdaaGreatDoor

/-- The digits of a number to a base, without leading zeros; s: at most so many. -/
def digF (b : Nat) : Nat → Nat → List Int
  | 0, _ => []
  | s + 1, n => if n = 0 then [] else ((n % b : Nat) : Int) :: digF b s (n / b)
theorem digF_zero (b s : Nat) : digF b s 0 = [] := by cases s <;> simp [digF]
theorem digF_step {b s n : Nat} (hn : n ≠ 0) : digF b (s + 1) n = ((n % b : Nat) : Int) :: digF b s (n / b) := by rw [digF, if_neg hn]
theorem digF_fuel {b : Nat} (hb : 2 ≤ b) : ∀ (s t n : Nat), n ≤ s → n ≤ t → digF b s n = digF b t n
  | 0, t, n, hs, _ => by obtain rfl : n = 0 := by omega
                         rw [digF_zero, digF_zero]
  | s + 1, 0, n, _, ht => by obtain rfl : n = 0 := by omega
                             rw [digF_zero, digF_zero]
  | s + 1, t + 1, n, hs, ht => by
    by_cases hn : n = 0
    · subst hn; rw [digF_zero, digF_zero]
    · have h1 : n / b < n := Nat.div_lt_self (by omega) (by omega)
      rw [digF_step hn, digF_step hn, digF_fuel hb s t (n / b) (by omega) (by omega)]
def digsN (b n : Nat) : List Int := digF b n n
theorem digsN_zero (b : Nat) : digsN b 0 = [] := rfl
theorem digsN_step {b n : Nat} (hb : 2 ≤ b) (hn : n ≠ 0) : digsN b n = ((n % b : Nat) : Int) :: digsN b (n / b) := by
  obtain ⟨m, rfl⟩ : ∃ m, n = m + 1 := ⟨n - 1, by omega⟩
  have h1 : (m + 1) / b < m + 1 := Nat.div_lt_self (by omega) (by omega)
  rw [digsN, digF_step hn, digF_fuel hb m ((m + 1) / b) ((m + 1) / b) (by omega) (Nat.le_refl _)]
  rfl
theorem digsN_rng {b n : Nat} (hb : 2 ≤ b) : ∀ x ∈ digsN b n, 0 ≤ x ∧ x < (b : Int) := by
  have : ∀ s n, ∀ x ∈ digF b s n, 0 ≤ x ∧ x < (b : Int) := by
    intro s
    induction s with
    | zero => intro n x hx; simp [digF] at hx
    | succ s ih =>
      intro n x hx
      rw [digF] at hx
      split at hx
      · simp at hx
      · rcases List.mem_cons.1 hx with rfl | hx
        · have := Nat.mod_lt n (show 0 < b by omega); omega
        · exact ih _ x hx
  exact this n n
theorem mapm1_take {v : List Int} {j : Nat} (hj : j < v.length) : (v.take (j + 1)).map (fun x => x - 1) = (v.take j).map (fun x => x - 1) ++ [v[j] - 1] := by
  rw [List.take_succ_eq_append_getElem hj, List.map_append]; rfl
def lenV : Value → Nat
  | .slice _ n _ => n
  | _ => 0
theorem digs_half {b n k : Nat} (hb : 2 ≤ b) (h : n * 2 ^ k ≤ 9223372036854775808) : n / b * 2 ^ (k + 1) ≤ 9223372036854775808 := by
  have h1 : n / b * 2 ≤ n := Nat.le_trans (Nat.mul_le_mul_left _ hb) (Nat.div_mul_le_self n b)
  rw [Nat.pow_succ, Nat.mul_comm (2 ^ k) 2, ← Nat.mul_assoc]
  exact Nat.le_trans (Nat.mul_le_mul_right _ h1) h
theorem digs_few {n k : Nat} (hn : 0 < n) (h : n * 2 ^ k ≤ 9223372036854775808) : k ≤ 63 := by
  refine Nat.le_of_not_lt fun hk => ?_
  have h1 : 2 ^ 64 ≤ 2 ^ k := Nat.pow_le_pow_right (by omega) hk
  have h2 : 1 * 2 ^ k ≤ n * 2 ^ k := Nat.mul_le_mul_right _ hn
  have h3 : (2 : Nat) ^ 64 = 18446744073709551616 := by decide
  omega

/-- The places of the ones, from i on. -/
def posL : Nat → List Int → List Int
  | _, [] => []
  | i, x :: l => if x = 1 then (i : Int) :: posL (i + 1) l else posL (i + 1) l
theorem posL_snoc (x : Int) : ∀ (l : List Int) (i : Nat), posL i (l ++ [x]) = posL i l ++ (if x = 1 then [((i + l.length : Nat) : Int)] else [])
  | [], i => by simp [posL]
  | y :: l, i => by
    have ih := posL_snoc x l (i + 1)
    rw [List.cons_append, posL, posL, ih, List.length_cons, show i + 1 + l.length = i + (l.length + 1) by omega]
    split <;> simp
theorem posL_le : ∀ (l : List Int) (i : Nat), (posL i l).length ≤ l.length
  | [], _ => Nat.le_refl _
  | x :: l, i => by
    have ih := posL_le l (i + 1)
    rw [posL]
    split <;> simp <;> omega
theorem posL_take {l : List Int} {j : Nat} (hj : j < l.length) : posL 0 (l.take (j + 1)) = posL 0 (l.take j) ++ (if l[j] = 1 then [(j : Int)] else []) := by
  rw [List.take_succ_eq_append_getElem hj, posL_snoc, List.length_take, Nat.min_eq_left (by omega), Nat.zero_add]
def padL (o : Nat) (l : List Int) : List Int := l ++ List.replicate (o - l.length) 0
theorem padL_step {o : Nat} {l : List Int} (h : l.length < o) : padL o (l ++ [0]) = padL o l := by
  unfold padL
  obtain ⟨t, ht⟩ : ∃ t, o - l.length = t + 1 := ⟨o - l.length - 1, by omega⟩
  rw [List.length_append, List.length_singleton, ht, show o - (l.length + 1) = t by omega, List.replicate_succ]
  simp
theorem padL_end {o : Nat} {l : List Int} (h : o ≤ l.length) : padL o l = l := by
  unfold padL
  rw [show o - l.length = 0 by omega]; simp
theorem padL_length (o : Nat) (l : List Int) : (padL o l).length = max l.length o := by simp [padL]; omega

/-- The digits that are looked at: a score's are filled up. -/
def digsV (a b f : Int) (code : Nat) : List Int := if a = 2 then padL b.toNat (digsN (baseV a b f).toNat code) else digsN (baseV a b f).toNat code
/-- The vote of digits. -/
def voteV (a : Int) (l : List Int) : List Int := if a = 1 then posL 0 l else if a = 3 then l.map (fun x => x - 1) else l
theorem voteV_le (a : Int) (l : List Int) : (voteV a l).length ≤ l.length := by
  unfold voteV
  split
  · exact posL_le l 0
  · split <;> simp
def decV (a b f : Int) (code : Nat) : List Int := voteV a (digsV a b f code)
def decG (a b c d f code : Int) : Bool := validCt a b c d f && (decide (0 ≤ code) && (voteB a b c d f (decV a b f code.toNat) && decide (codeV a b f (decV a b f code.toNat) = code)))
def decR (a b c d f code : Int) : Option (List Int) := if decG a b c d f code then some (decV a b f code.toNat) else none
theorem decR_bd (a b c d f code : Int) : ((decR a b c d f code).getD []).length ≤ 100000 := by
  unfold decR
  split
  · rename_i h
    simp only [decG, Bool.and_eq_true] at h
    obtain ⟨_, _, _, _, q5⟩ := vote_parts h.1 h.2.2.1
    rw [Option.getD_some]; omega
  · simp
theorem base_bd {a b c d f : Int} (h : validCt a b c d f = true) : 2 ≤ baseV a b f ∧ baseV a b f ≤ 27 := by
  obtain ⟨h1, h2, h3, h4, h5, h6⟩ := valid_kind h
  rw [validCt_iff] at h
  unfold baseV
  rcases h1 with rfl | rfl | rfl | rfl <;> simp at h ⊢ <;> omega
end Go.Proofs.YtnekpofaflpmdaaGreatDoor
