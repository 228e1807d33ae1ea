/- Contracts for the laws' own functions on lists of lists that come in: copies, sizes. -/
import Derived.Test.YtpfccboighdcbaaProg
import Derived.Test.YtpfccboighdcbaaEqSS
namespace Go.Proofs.Ytpfccboighdcbaa
open Go.RowKit

theorem rowsFp_append (a b : List (Option Addr × Nat × Nat)) : rowsFp (a ++ b) = rowsFp a ++ rowsFp b := by simp [rowsFp]
theorem fpI_nodup (A : Option Addr) : (fpI A).Nodup := by cases A <;> simp [fpI]
/-- A row is laid into its cell. -/
theorem OwnII.lay {w : World} {base n c g j : Nat} {P : List Nat} {ls : List (List Int)} {B : Option Addr} {m d : Nat} {l : List Int} (h : OwnII w base (some ⟨g, 0, none⟩) n c P ls) (hj : j < ls.length) (hrow : OwnI w base 3 B m d l) (hap : Apart (fpI B) P) :
    ∃ P', OwnII (w.setCell ⟨g, j, none⟩ (.slice B m d)) base (some ⟨g, 0, none⟩) n c P' (ls.set j l) := by
  obtain ⟨rs, hV, hl, hI, hd, rfl⟩ := h
  have hj' : j < rs.length := by omega
  have hon : Only [g] w (w.setCell ⟨g, j, none⟩ (.slice B m d)) := (Only.refl [g] w).setCell (p := ⟨g, j, none⟩) (by simp) _
  have hA : ∀ {b1 n1 c1 : Nat} {C : Option Addr} {k : List Int}, OwnI w b1 3 C n1 c1 k → OwnI (w.setCell ⟨g, j, none⟩ (.slice B m d)) b1 3 C n1 c1 k := fun hk =>
    hk.only hon (fun b hb hb' => apart_types hV hk.v (by decide) b (by simpa [fpI] using hb') hb)
  refine ⟨_, rs.set j (B, m, d), ?_, by simpa using hl, fun i hi hi' => ?_, ?_, rfl⟩
  · have h1 := hV.set (j := j) (.slice B m d)
    have h2 : (rs.map rowV).set j (.slice B m d) = (rs.set j (B, m, d)).map rowV := by rw [List.map_set]; rfl
    rw [h2] at h1
    exact h1
  · by_cases e : i = j
    · subst e; simpa using hA hrow
    · have := hA (hI i (by simpa using hi) (by simpa using hi'))
      simpa [List.getElem_set_ne (Ne.symm e)] using this
  · have h1 : rs = rs.take j ++ rs[j] :: rs.drop (j + 1) := by rw [← List.drop_eq_getElem_cons hj', List.take_append_drop]
    have h2 : rs.set j (B, m, d) = rs.take j ++ (B, m, d) :: rs.drop (j + 1) := by
      conv => lhs; rw [h1]
      rw [List.set_append_right _ _ (by rw [List.length_take]; omega), List.length_take, Nat.min_eq_left (by omega), Nat.sub_self, List.set_cons_zero]
    have hap' : ∀ b ∈ fpI B, ¬ b ∈ rowsFp rs := fun b hb hb' => hap b hb (List.mem_append_right _ hb')
    rw [h2]
    rw [h1] at hd hap'
    have h3 : ∀ (x : Option Addr × Nat × Nat) (t : List (Option Addr × Nat × Nat)), rowsFp (x :: t) = fpI x.1 ++ rowsFp t := fun _ _ => rfl
    rw [rowsFp_append, h3] at hd hap' ⊢
    simp only [List.nodup_append, List.mem_append, not_or] at hd hap' ⊢
    refine ⟨hd.1, ⟨fpI_nodup B, hd.2.1.2.1, fun b hb b' hb' e => ?_⟩, fun b hb b' hb' e => ?_⟩
    · subst e; exact (hap' b hb).2.2 hb'
    · subst e
      rcases hb' with hb' | hb'
      · exact (hap' b hb').1 hb
      · exact hd.2.2 b hb b (.inr hb') rfl

theorem ownII_pad {w : World} {base n c : Nat} {A : Option Addr} (h : OwnV w base 28 A n c (List.replicate n (.slice none 0 0))) : OwnII w base A n c (fpI A) (List.replicate n []) := by
  have e : ∀ k, rowsFp (List.replicate k (none, 0, 0)) = [] := fun k => by
    induction k with
    | zero => rfl
    | succ k ih => rw [List.replicate_succ]; simp [rowsFp, fpI]
  refine ⟨List.replicate n (none, 0, 0), by simpa [rowV] using h, by simp, fun i hi hi' => ?_, by rw [e]; simp, by rw [e]; simp⟩
  simp only [List.getElem_replicate]
  exact OwnI.nil _ _ _


end Go.Proofs.Ytpfccboighdcbaa
