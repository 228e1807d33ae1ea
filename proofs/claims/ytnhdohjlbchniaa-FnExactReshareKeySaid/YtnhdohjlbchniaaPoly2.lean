/- Contracts for polynomials: the reference's sum. -/
import Derived.Test.YtnhdohjlbchniaaProg
import Derived.Test.YtnhdohjlbchniaaPoly
import Derived.Laws.CopyOwn
namespace Go.Proofs.Ytnhdohjlbchniaa
open Go.RowKit

theorem ownI_cells {w : World} {base e g n : Nat} {l : List Int} (h : OwnI w base e (some ⟨g, 0, none⟩) n n l) : w.heap[g]? = some (.cells (ints l).toArray e (0, 0)) := by
  rcases h.2 with ⟨hv, _⟩ | ⟨g', cap, cur, hv, _, hg, _, _, h3, h4⟩
  · injection hv with hA; cases hA
  · simp only [Value.slice.injEq, Option.some.injEq, Addr.mk.injEq, and_true, true_and] at hv
    obtain ⟨rfl, rfl⟩ := hv
    have e1 : cur.toList = ints l := by rw [← h4, List.take_of_length_le (by rw [Array.length_toList]; omega)]
    rw [hg, ← e1, Array.toArray_toList]
theorem ownI_of_cells {w : World} {base e g n : Nat} {l : List Int} (h : w.heap[g]? = some (.cells (ints l).toArray e (0, 0))) (hb : base ≤ g) (hl : l.length = n) (hn : n ≤ maxLen) : OwnI w base e (some ⟨g, 0, none⟩) n n l := by
  have e1 : (ints l).length = n := by rw [ints_length, hl]
  exact ⟨by rw [e1, Nat.mul_one], .inr ⟨g, n, (ints l).toArray, rfl, hb, h, Nat.le_refl _, hn, by rw [List.size_toArray, e1, Nat.mul_one], by rw [List.take_of_length_le (by rw [Nat.mul_one, e1]; exact Nat.le_refl _)]⟩⟩
theorem rd_pos {w : World} {A : Option Addr} {l : List Int} (h : RdI w A l) (hp : 0 < (ints l).length) : ∃ ad, A = some ad ∧ ∀ j v, (ints l)[j]? = some v → w.cell? (ad.add j) = some v := by
  rcases h with h | ⟨ad, h1, h2⟩
  · rw [h] at hp; simp at hp
  · exact ⟨ad, h1, h2⟩
theorem splice_zeros (f : List Int) (L : Nat) : splice (ints (List.replicate L 0)) 0 (ints f) = ints (f ++ List.replicate (L - f.length) 0) := by
  simp [splice, ints]
theorem good2 {q : Int} {f g : List Int} : goodB q [f, g] = (polyB q f && polyB q g) := by
  unfold goodB polyB
  simp only [List.all_cons, List.all_nil, Bool.and_true]
  cases fieldB q <;> simp

end Go.Proofs.Ytnhdohjlbchniaa
