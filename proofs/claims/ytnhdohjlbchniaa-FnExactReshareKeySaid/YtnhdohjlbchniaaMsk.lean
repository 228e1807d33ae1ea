/- Contracts for RecoverMasked: the program's and the reference's. (Printed by tools/gen_msk.py.) -/
import Derived.Test.YtnhdohjlbchniaaProg
import Derived.Test.YtnhdohjlbchniaaDlG
namespace Go.Proofs.Ytnhdohjlbchniaa
open Go.RowKit

/-- The others' numbers and shares. -/
def mkI (ss : List Int) (i lost : Int) : Nat → List Int × List Int
  | 0 => ([], [])
  | k + 1 => if ((k : Int) + 1 ≠ i ∧ (k : Int) + 1 ≠ lost) then ((mkI ss i lost k).1 ++ [(k : Int) + 1], (mkI ss i lost k).2 ++ [ss.getD k 0]) else mkI ss i lost k
theorem mkI_len (ss : List Int) (i lost : Int) : ∀ k, (mkI ss i lost k).2.length = (mkI ss i lost k).1.length ∧ (mkI ss i lost k).1.length ≤ k
  | 0 => ⟨rfl, Nat.le_refl _⟩
  | k + 1 => by
    have ih := mkI_len ss i lost k
    unfold mkI
    split
    · simp; omega
    · omega
theorem mkI_rg (ss : List Int) (i lost : Int) : ∀ k, ∀ y ∈ (mkI ss i lost k).1, 1 ≤ y ∧ y ≤ k
  | 0, y, hy => by cases hy
  | k + 1, y, hy => by
    have ih := mkI_rg ss i lost k y
    unfold mkI at hy
    split at hy
    · rcases List.mem_append.1 hy with h1 | h1
      · have := ih h1; omega
      · have := List.mem_singleton.1 h1; omega
    · have := ih hy; omega
theorem mkI_nd (ss : List Int) (i lost : Int) : ∀ k, (mkI ss i lost k).1.Nodup
  | 0 => by simp [mkI]
  | k + 1 => by
    have ih := mkI_nd ss i lost k
    have hr := mkI_rg ss i lost k
    unfold mkI
    split
    · refine List.nodup_append.2 ⟨ih, by simp, fun a ha b hb e => ?_⟩
      have := hr a ha
      rw [List.mem_singleton.1 hb] at e
      omega
    · exact ih
theorem mkI_sub (ss : List Int) (i lost : Int) : ∀ k, k ≤ ss.length → ∀ y ∈ (mkI ss i lost k).2, y ∈ ss
  | 0, _, y, hy => by cases hy
  | k + 1, hk, y, hy => by
    have ih := mkI_sub ss i lost k (by omega) y
    have hlt : k < ss.length := by omega
    unfold mkI at hy
    split at hy
    · rcases List.mem_append.1 hy with h1 | h1
      · exact ih h1
      · rw [getD_get hlt] at h1
        rw [List.mem_singleton.1 h1]
        exact List.getElem_mem hlt
    · exact ih hy
noncomputable def mkB (p q g : Int) (cs ss : List Int) (i lost : Int) : Bool := keyG p q g cs ss && (inR i 1 7 && inR lost 0 7)
noncomputable def mkV (p q g : Int) (cs ss : List Int) (i lost : Int) : Int := if mkB p q g cs ss i lost then rcV p q g cs i (mkI ss i lost ss.length).1 (mkI ss i lost ss.length).2 else 0
noncomputable def mkK (p q g : Int) (cs ss : List Int) (i lost : Int) : Bool := mkB p q g cs ss i lost && rcK p q g cs (mkI ss i lost ss.length).1 (mkI ss i lost ss.length).2
theorem keyG_in {p q g : Int} {cs ss : List Int} (h : keyG p q g cs ss = true) : 7 < q ∧ grpB p q g = true ∧ (1 ≤ cs.length ∧ cs.length ≤ 7) ∧ cs.all (elB p q) = true ∧ (cs.length ≤ ss.length ∧ ss.length ≤ 7) ∧ (∀ y ∈ ss, 0 ≤ y ∧ y ≤ q - 1) := by
  simp only [keyG, dlB, Bool.and_eq_true, decide_eq_true_eq] at h
  obtain ⟨⟨h1, h2⟩, ⟨h3, h4⟩, h5, h6⟩ := h
  have h3 := inR_iff.1 h3
  have h5 := inR_iff.1 h5
  exact ⟨h1, h2, by omega, h4, by omega, allR_iff.1 h6⟩
/-- The guards of RecoverShare hold. -/
theorem mk_rs {p q g : Int} {cs ss : List Int} {i lost : Int} (h : keyG p q g cs ss = true) (hi : inR i 1 7 = true) : rsB p q g cs i (mkI ss i lost ss.length).1 (mkI ss i lost ss.length).2 = true := by
  obtain ⟨h1, h2, h3, h4, h5, h6⟩ := keyG_in h
  have l1 := mkI_len ss i lost ss.length
  have r1 := mkI_rg ss i lost ss.length
  have d1 := mkI_nd ss i lost ss.length
  have s1 := mkI_sub ss i lost ss.length (Nat.le_refl _)
  simp only [rsB, rsG, Bool.and_eq_true, decide_eq_true_eq]
  refine ⟨⟨⟨h1, h2⟩, ⟨inR_iff.2 (by omega), h4⟩, ⟨allR_iff.2 fun y hy => ?_, ?_⟩, l1.1, allR_iff.2 fun y hy => h6 y (s1 y hy)⟩, hi⟩
  · have := r1 y hy; omega
  · unfold diffB; exact decide_eq_true d1
end Go.Proofs.Ytnhdohjlbchniaa
