/- Lists of lists that are read, and the contract of yGood. -/
import Derived.Test.YtnhdohjlbchniaaGreatProg
import Derived.Test.YtnhdohjlbchniaaGreatNum
namespace Go.Proofs.YtnhdohjlbchniaaGreat
open Go.RowKit

/-- The cells from A on are slices of numbers that read ls. -/
def RdSS (w : World) (A : Option Addr) (ls : List (List Int)) : Prop :=
  ls = [] ∨ ∃ ad, A = some ad ∧ ∀ k, (h : k < ls.length) → ∃ B n c, w.cell? (ad.add k) = some (.slice B n c) ∧ RdI w B ls[k] ∧ ls[k].length = n ∧ n ≤ c ∧ c ≤ maxLen
theorem RdSS.ext {w w' : World} {A : Option Addr} {ls : List (List Int)} (h : RdSS w A ls) (hE : Ext w w') : RdSS w' A ls := by
  rcases h with h | ⟨ad, hA, hc⟩
  · exact .inl h
  · refine .inr ⟨ad, hA, fun k hk => ?_⟩
    obtain ⟨B, n, c, h1, h2, h3⟩ := hc k hk
    exact ⟨B, n, c, hE.cell h1, h2.ext hE, h3⟩
theorem RdSS.at_ {w : World} {A : Option Addr} {ls : List (List Int)} {k : Nat} (h : RdSS w A ls) (hk : k < ls.length) :
    ∃ ad, A = some ad ∧ ∃ B n c, w.cell? (ad.add k) = some (.slice B n c) ∧ RdI w B ls[k] ∧ ls[k].length = n ∧ n ≤ c ∧ c ≤ maxLen := by
  rcases h with h | ⟨ad, hA, hc⟩
  · subst h; simp at hk
  · exact ⟨ad, hA, hc k hk⟩

noncomputable def goodB (q : Int) (ls : List (List Int)) : Bool := fieldB q && ls.all fun f => decide (f.length ≤ 24) && allR f 0 (q - 1)
theorem fieldB_rng {q : Int} (h : fieldB q = true) : 2 ≤ q ∧ q ≤ 2000000000 := by
  simp only [fieldB, Bool.and_eq_true] at h
  exact inR_iff.1 h.1
theorem goodB_no {q : Int} {ls : List (List Int)} {k : Nat} (hk : k < ls.length) (h : (decide (ls[k].length ≤ 24) && allR ls[k] 0 (q - 1)) = false) : goodB q ls = false := by
  unfold goodB
  have : (ls.all fun f => decide (f.length ≤ 24) && allR f 0 (q - 1)) = false := by
    rw [List.all_eq_false]
    exact ⟨ls[k], List.getElem_mem hk, by rw [h]; simp⟩
  rw [this, Bool.and_false]
theorem goodB_yes {q : Int} {ls : List (List Int)} (h1 : fieldB q = true) (h : ∀ i, (hi : i < ls.length) → (decide (ls[i].length ≤ 24) && allR ls[i] 0 (q - 1)) = true) : goodB q ls = true := by
  unfold goodB
  rw [h1, Bool.true_and, List.all_eq_true]
  intro x hx
  obtain ⟨i, hi, rfl⟩ := List.getElem_of_mem hx
  exact h i hi

end Go.Proofs.YtnhdohjlbchniaaGreat
