/- Contracts for slices.IndexFunc and slices.ContainsFunc over pairs of ints. -/
import Derived.Test.YthamimjejlicpaaProg
import Derived.Test.YthamimjejlicpaaFun
import Derived.Test.YthamimjejlicpaaCiph
namespace Go.Proofs.Ythamimjejlicpaa
open Go.RowKit

/-- Called with a pair of l, function f with the captured values cap answers as p says. -/
def AnsC (f : Nat) (cap : Array Value) (w : World) (l : List (Int × Int)) (p : Int × Int → Bool) : Prop :=
  IsFn f ∧ ∀ x ∈ l, ∀ w', Ext w w' → Calls Try.prog f (#[.agg #[.int .i64 x.1, .int .i64 x.2]] ++ cap) w' fun e w'' => e = .returned (.bool (p x)) ∧ Ext w' w''

def idxG {α : Type} (p : α → Bool) (l : List α) : Int := match l.findIdx? p with | some i => (i : Int) | none => -1
theorem idxG_hit {α : Type} {p : α → Bool} {l : List α} {j : Nat} (hj : j < l.length) (hp : p l[j] = true) (h : ∀ i, (hi : i < l.length) → i < j → p l[i] = false) : idxG p l = j := by
  have : l.findIdx? p = some j := by
    rw [List.findIdx?_eq_some_iff_getElem]
    exact ⟨hj, hp, fun i hi => by simp [h i (by omega) hi]⟩
  rw [idxG, this]
theorem idxG_miss {α : Type} {p : α → Bool} {l : List α} (h : ∀ i, (hi : i < l.length) → p l[i] = false) : idxG p l = -1 := by
  have : l.findIdx? p = none := by
    rw [List.findIdx?_eq_none_iff]
    intro x hx
    obtain ⟨i, hi, rfl⟩ := List.getElem_of_mem hx
    simp [h i hi]
  rw [idxG, this]
theorem idxG_neg {α : Type} {p : α → Bool} {l : List α} : decide (0 ≤ idxG p l) = l.any p := by
  unfold idxG
  cases h : l.findIdx? p with
  | none =>
    rw [List.findIdx?_eq_none_iff] at h
    have : l.any p = false := by rw [List.any_eq_false]; intro x hx; simp [h x hx]
    rw [this]; rfl
  | some i =>
    rw [List.findIdx?_eq_some_iff_getElem] at h
    obtain ⟨hi, hp, _⟩ := h
    have : l.any p = true := by rw [List.any_eq_true]; exact ⟨_, List.getElem_mem hi, hp⟩
    rw [this]; simp


end Go.Proofs.Ythamimjejlicpaa
