/- Lists of lists that are read, and the contract of yGood. -/
import Derived.Test.YtnekpofaflpmdaaGreatDoorProg
import Derived.Test.YtnekpofaflpmdaaGreatDoorNum
namespace Go.Proofs.YtnekpofaflpmdaaGreatDoor
open Go.RowKit

/-- The cells from A on are slices of numbers that read ls. -/
def RdSS (w : World) (A : Option Addr) (ls : List (List Int)) : Prop :=
  ls = [] ∨ ∃ ad, A = some ad ∧ ∀ k, (h : k < ls.length) → ∃ B n c, w.cell? (ad.add k) = some (.slice B n c) ∧ RdI w B ls[k] ∧ ls[k].length = n ∧ n ≤ c ∧ c ≤ maxLen
theorem RdSS.ext {w w' : World} {A : Option Addr} {ls : List (List Int)} (h : RdSS w A ls) (hE : Ext w w') : RdSS w' A ls := by
  rcases h with h | ⟨ad, hA, hc⟩
  · exact .inl h
  · refine .inr ⟨ad, hA, fun k hk => ?_⟩
    obtain ⟨B, n, c, h1, h2, h3⟩ := hc k hk
    exact ⟨B, n, c, hE.cell h1, h2.ext hE, h3⟩
theorem RdSS.at_ {w : World} {A : Option Addr} {ls : List (List Int)} {k : Nat} (h : RdSS w A ls) (hk : k < ls.length) :
    ∃ ad, A = some ad ∧ ∃ B n c, w.cell? (ad.add k) = some (.slice B n c) ∧ RdI w B ls[k] ∧ ls[k].length = n ∧ n ≤ c ∧ c ≤ maxLen := by
  rcases h with h | ⟨ad, hA, hc⟩
  · subst h; simp at hk
  · exact ⟨ad, hA, hc k hk⟩


end Go.Proofs.YtnekpofaflpmdaaGreatDoor
