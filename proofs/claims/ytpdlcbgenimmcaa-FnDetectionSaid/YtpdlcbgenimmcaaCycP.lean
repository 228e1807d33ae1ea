/- Cycles of a list of places, as plain functions. No program in sight. -/
import Derived.Test.YtpdlcbgenimmcaaMem
import Derived.Test.YtpdlcbgenimmcaaApply
namespace Go.Proofs.Ytpdlcbgenimmcaa

theorem cf_set : ∀ (l : List Bool) (k : Nat), l.getD k true = false → (l.set k true).count false + 1 = l.count false
  | [], k, h => by simp at h
  | b :: l, 0, h => by
    have hb : b = false := by simpa using h
    subst hb; simp
  | b :: l, k + 1, h => by
    have := cf_set l k (by simpa using h)
    simp only [List.set_cons_succ, List.count_cons]
    omega
set_option linter.unusedVariables false in
/-- One cycle: from k on, until an element has been seen. -/
def cyc (p : List Int) (seen : List Bool) (k : Nat) (acc : List Int) : List Int × List Bool :=
  if h : seen.getD k true = false then cyc p (seen.set k true) (p.getD k 0).toNat (acc ++ [(k : Int)]) else (acc, seen)
termination_by seen.count false
decreasing_by have := cf_set seen k h; omega
theorem cyc_go {p : List Int} {seen : List Bool} {k : Nat} {acc : List Int} (h : seen.getD k true = false) : cyc p seen k acc = cyc p (seen.set k true) (p.getD k 0).toNat (acc ++ [(k : Int)]) := by
  rw [cyc, dif_pos h]
theorem cyc_stop {p : List Int} {seen : List Bool} {k : Nat} {acc : List Int} (h : seen.getD k true = true) : cyc p seen k acc = (acc, seen) := by
  rw [cyc, dif_neg (by rw [h]; decide)]
theorem cyc_facts (p : List Int) : ∀ (m : Nat) (seen : List Bool) (k : Nat) (acc : List Int), seen.count false = m →
    (cyc p seen k acc).2.length = seen.length ∧ (cyc p seen k acc).1.length + (cyc p seen k acc).2.count false = acc.length + m ∧ acc.length ≤ (cyc p seen k acc).1.length ∧
    (seen.getD k true = false → acc.length < (cyc p seen k acc).1.length)
  | m, seen, k, acc, hm => by
    by_cases h : seen.getD k true = false
    · have hc := cf_set seen k h
      rw [cyc_go h]
      obtain ⟨h1, h2, h3, _⟩ := cyc_facts p ((seen.set k true).count false) (seen.set k true) (p.getD k 0).toNat (acc ++ [(k : Int)]) rfl
      rw [List.length_set] at h1
      rw [List.length_append, List.length_singleton] at h2 h3
      exact ⟨h1, by omega, by omega, fun _ => by omega⟩
    · rw [cyc_stop (by simpa using h)]
      exact ⟨rfl, by rw [hm], Nat.le_refl _, fun h' => absurd h' h⟩
termination_by m => m
decreasing_by omega

/-- The cycles that begin before i, and what has been seen. -/
def cycAt (p : List Int) : Nat → List (List Int) × List Bool
  | 0 => ([], List.replicate p.length false)
  | i + 1 => (if (cyc p (cycAt p i).2 i []).1 = [] then (cycAt p i).1 else (cycAt p i).1 ++ [(cyc p (cycAt p i).2 i []).1], (cyc p (cycAt p i).2 i []).2)
theorem cycAt_facts (p : List Int) : ∀ i, (cycAt p i).2.length = p.length ∧ tot (cycAt p i).1 + (cycAt p i).2.count false = p.length ∧ (cycAt p i).1.length ≤ i
  | 0 => by simp [cycAt, tot]
  | i + 1 => by
    obtain ⟨h1, h2, h3⟩ := cycAt_facts p i
    obtain ⟨k1, k2, _, _⟩ := cyc_facts p _ (cycAt p i).2 i [] rfl
    simp only [List.length_nil, Nat.zero_add] at k2
    refine ⟨k1.trans h1, ?_, ?_⟩
    · simp only [cycAt]
      split
      · rename_i h; rw [h] at k2; simp only [List.length_nil, Nat.zero_add] at k2; omega
      · rw [tot_append]; simp only [tot, List.map_cons, List.map_nil, List.sum_cons, List.sum_nil] at *; omega
    · simp only [cycAt]
      split
      · omega
      · simp; omega
def cycR (p : List Int) : Option (List (List Int)) := if permB p then some (cycAt p p.length).1 else none
theorem cycR_bd (p : List Int) : ((cycR p).getD []).length ≤ 100000 ∧ tot ((cycR p).getD []) ≤ 100000 := by
  unfold cycR
  split
  · rename_i h
    obtain ⟨h24, _⟩ := permB_parts h
    obtain ⟨_, h2, h3⟩ := cycAt_facts p p.length
    rw [Option.getD_some]
    exact ⟨by omega, by omega⟩
  · simp [tot]
def sgnB (p : List Int) : Bool := decide ((p.length - (cycAt p p.length).1.length) % 2 = 1)
def sgnVal (p : List Int) : Int := if permB p then (if sgnB p then -1 else 1) else 0
end Go.Proofs.Ytpdlcbgenimmcaa
