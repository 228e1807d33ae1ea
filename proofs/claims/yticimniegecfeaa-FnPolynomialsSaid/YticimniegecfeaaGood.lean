/- Lists of lists that are read, and the contract of yGood. -/
import Derived.Test.YticimniegecfeaaProg
import Derived.Test.YticimniegecfeaaNum
namespace Go.Proofs.Yticimniegecfeaa
open Go.RowKit

/-- The cells from A on are slices of numbers that read ls. -/
def RdSS (w : World) (A : Option Addr) (ls : List (List Int)) : Prop :=
  ls = [] ∨ ∃ ad, A = some ad ∧ ∀ k, (h : k < ls.length) → ∃ B n c, w.cell? (ad.add k) = some (.slice B n c) ∧ RdI w B ls[k] ∧ ls[k].length = n ∧ n ≤ c ∧ c ≤ maxLen
theorem RdSS.ext {w w' : World} {A : Option Addr} {ls : List (List Int)} (h : RdSS w A ls) (hE : Ext w w') : RdSS w' A ls := by
  rcases h with h | ⟨ad, hA, hc⟩
  · exact .inl h
  · refine .inr ⟨ad, hA, fun k hk => ?_⟩
    obtain ⟨B, n, c, h1, h2, h3⟩ := hc k hk
    exact ⟨B, n, c, hE.cell h1, h2.ext hE, h3⟩
theorem RdSS.at_ {w : World} {A : Option Addr} {ls : List (List Int)} {k : Nat} (h : RdSS w A ls) (hk : k < ls.length) :
    ∃ ad, A = some ad ∧ ∃ B n c, w.cell? (ad.add k) = some (.slice B n c) ∧ RdI w B ls[k] ∧ ls[k].length = n ∧ n ≤ c ∧ c ≤ maxLen := by
  rcases h with h | ⟨ad, hA, hc⟩
  · subst h; simp at hk
  · exact ⟨ad, hA, hc k hk⟩

noncomputable def goodB (q : Int) (ls : List (List Int)) : Bool := fieldB q && ls.all fun f => decide (f.length ≤ 24) && allR f 0 (q - 1)
theorem fieldB_rng {q : Int} (h : fieldB q = true) : 2 ≤ q ∧ q ≤ 2000000000 := by
  simp only [fieldB, Bool.and_eq_true] at h
  exact inR_iff.1 h.1
theorem goodB_no {q : Int} {ls : List (List Int)} {k : Nat} (hk : k < ls.length) (h : (decide (ls[k].length ≤ 24) && allR ls[k] 0 (q - 1)) = false) : goodB q ls = false := by
  unfold goodB
  have : (ls.all fun f => decide (f.length ≤ 24) && allR f 0 (q - 1)) = false := by
    rw [List.all_eq_false]
    exact ⟨ls[k], List.getElem_mem hk, by rw [h]; simp⟩
  rw [this, Bool.and_false]
theorem goodB_yes {q : Int} {ls : List (List Int)} (h1 : fieldB q = true) (h : ∀ i, (hi : i < ls.length) → (decide (ls[i].length ≤ 24) && allR ls[i] 0 (q - 1)) = true) : goodB q ls = true := by
  unfold goodB
  rw [h1, Bool.true_and, List.all_eq_true]
  intro x hx
  obtain ⟨i, hi, rfl⟩ := List.getElem_of_mem hx
  exact h i hi

set_option maxHeartbeats 1000000 in
theorem yGood_any (q : Int) (A : Option Addr) (n c : Nat) (ls : List (List Int)) (w : World) (ha : RdSS w A ls) (hl : ls.length = n) (hn : n ≤ maxLen) :
    Calls Try.prog 146 #[.int .i64 q, .slice A n c] w fun e w' => e = .returned (.bool (goodB q ls)) ∧ w = w' := by
  unfold maxLen at hn
  subst hl
  cases h1 : fieldB q
  · have h0 : goodB q ls = false := by simp [goodB, h1]
    rw [h0]; clear h0
    go_enter Try.func146, Try.ntmps146
    go_wp2_with fail
    refine (yModulus_any _ _).mono ?_
    rintro e w1 ⟨rfl, rfl⟩
    go_wp2
    go_ret
    exact ⟨rfl, rfl⟩
  have hq := fieldB_rng h1
  go_enter Try.func146, Try.ntmps146
  go_wp2_with fail
  refine (yModulus_any _ _).mono ?_
  rintro e w1 ⟨rfl, rfl⟩
  go_wp2
  go_loop [12] (fun i => ∃ j : Nat, j ≤ ls.length ∧ i = .int .i64 j ∧ Hid (∀ i, (hi : i < ls.length) → i < j → (decide (ls[i].length ≤ 24) && allR ls[i] 0 (q - 1)) = true)) (fun i => ls.length - (intOf i).toNat)
  case atStart => exact ⟨0, Nat.zero_le _, rfl, fun i _ h => absurd h (by omega)⟩
  case round =>
    obtain ⟨j, hj, rfl, HI⟩ := hrel
    by_cases hlt : j < ls.length
    · obtain ⟨ad, rfl, B, m, d, hc, hR, hm, hmd, hd⟩ := ha.at_ hlt
      have hno := @goodB_no q ls j hlt
      generalize hf : ls[j] = f at *
      have HF := Lib.hid hf
      clear hf
      unfold maxLen at hd
      subst hm
      by_cases h24 : 24 < f.length
      · have h0 : goodB q ls = false := hno (by rw [decide_eq_false (by omega)]; rfl)
        have H0 := Lib.hid h0
        clear h0 hno
        have h24' : (24 : Int) < (f.length : Int) := by omega
        go_wp2
        go_ret
        exact ⟨ret_bool H0.out.symm, rfl⟩
      · have h24' : ¬ (24 : Int) < (f.length : Int) := by omega
        cases h2 : allR f 0 (q - 1)
        · have h0 : goodB q ls = false := hno (by rw [h2]; simp)
          have H0 := Lib.hid h0
          clear h0 hno
          go_wp2_with fail
          refine (l1All_any _ _ _ f _ _ _ hR rfl (by unfold maxLen; omega)).mono ?_
          rintro e w1 ⟨rfl, rfl⟩
          go_wp2
          go_ret
          exact ⟨ret_bool H0.out.symm, rfl⟩
        · clear hno
          go_wp2_with fail
          refine (l1All_any _ _ _ f _ _ _ hR rfl (by unfold maxLen; omega)).mono ?_
          rintro e w1 ⟨rfl, rfl⟩
          go_wp2
          go_round
          case rel =>
            refine ⟨j + 1, by omega, by go_num, fun i hi hik => ?_⟩
            by_cases e : i = j
            · subst e; rw [HF.out, h2, decide_eq_true (by omega)]; rfl
            · exact HI.out i hi (by omega)
          case measure => simp [intOf]; omega
    · obtain rfl : j = ls.length := by omega
      have H0 := Lib.hid (goodB_yes h1 fun i hi => HI.out i hi hi)
      go_wp2
      go_ret
      exact ⟨ret_bool H0.out.symm, rfl⟩
end Go.Proofs.Yticimniegecfeaa
