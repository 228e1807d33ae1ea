/- Plain: insertion into an increasing list is sorting; coins give permutations; what SampleAudits answers. No program in sight. -/
import Derived.Test.YtpdlcbgenimmcaaShuf
import Derived.Test.YtpdlcbgenimmcaaSgn
import Derived.Test.YtpdlcbgenimmcaaLab
namespace Go.Proofs.Ytpdlcbgenimmcaa
open Go.RowKit

def putL : List Int → Int → List Int
  | [], n => [n]
  | x :: l, n => if x < n then x :: putL l n else if x = n then x :: l else n :: x :: l
theorem putL_at (n : Int) : ∀ (l : List Int) (k : Nat), (∀ i, (h : i < l.length) → i < k → l[i] < n) → (hk : k ≤ l.length) → ((h : k < l.length) → ¬ l[k] < n) →
    putL l n = if l.getD k (n + 1) = n then l else l.take k ++ n :: l.drop k := by
  intro l
  induction l with
  | nil =>
    intro k _ hk _
    obtain rfl : k = 0 := by simpa using hk
    simp [putL, List.getD]; omega
  | cons x l ih =>
    intro k h1 hk h2
    cases k with
    | zero =>
      have := h2 (by simp)
      simp only [List.getElem_cons_zero] at this
      simp only [putL, if_neg this, List.getD_cons_zero, List.take_zero, List.drop_zero, List.nil_append]
    | succ k =>
      have hx : x < n := by have := h1 0 (by simp) (by omega); simpa using this
      have := ih k (fun i hi hik => by have := h1 (i + 1) (by simpa using hi) (by omega); simpa using this) (by simpa using hk) (fun h => by have := h2 (by simpa using h); simpa using this)
      simp only [putL, if_pos hx, this, List.getD_cons_succ, List.take_succ_cons, List.drop_succ_cons, List.cons_append]
      split <;> rfl
theorem putL_perm (n : Int) : ∀ (l : List Int), n ∉ l → (putL l n).Perm (n :: l)
  | [], _ => .refl _
  | x :: l, h => by
    simp only [List.mem_cons, not_or] at h
    simp only [putL]
    split
    · exact ((putL_perm n l h.2).cons x).trans (List.Perm.swap n x l)
    · rw [if_neg (fun e => h.1 e.symm)]
theorem putL_rise (n : Int) : ∀ (l : List Int), l.Pairwise (· < ·) → n ∉ l → (putL l n).Pairwise (· < ·)
  | [], _, _ => List.pairwise_singleton _ _
  | x :: l, hs, h => by
    have h' := h
    simp only [List.mem_cons, not_or] at h
    rw [List.pairwise_cons] at hs
    simp only [putL]
    split
    · rename_i hx
      refine List.pairwise_cons.2 ⟨fun y hy => ?_, putL_rise n l hs.2 h.2⟩
      rcases List.mem_cons.1 ((putL_perm n l h.2).mem_iff.1 hy) with rfl | hy
      · exact hx
      · exact hs.1 y hy
    · rename_i hx
      rw [if_neg (fun e => h.1 e.symm)]
      refine List.pairwise_cons.2 ⟨fun y hy => ?_, List.pairwise_cons.2 hs⟩
      rcases List.mem_cons.1 hy with rfl | hy
      · omega
      · have := hs.1 y hy; omega
theorem putAll : ∀ (p : List Int) (l : List Int), l.Pairwise (· < ·) → (l ++ p).Nodup → (p.foldl putL l).Pairwise (· < ·) ∧ (p.foldl putL l).Perm (l ++ p)
  | [], l, hs, _ => ⟨hs, by simp⟩
  | x :: p, l, hs, hn => by
    have hx : x ∉ l := fun h => by
      rw [List.nodup_append] at hn
      exact hn.2.2 x h x (List.mem_cons_self ..) rfl
    have hp : (putL l x ++ p).Perm (l ++ x :: p) := ((putL_perm x l hx).append_right p).trans (List.perm_middle.symm)
    have := putAll p (putL l x) (putL_rise x l hs hx) (hp.nodup_iff.2 hn)
    exact ⟨this.1, this.2.trans hp⟩
/-- Insertion of different numbers is sorting. -/
theorem putAll_sort {p : List Int} (hn : p.Nodup) : p.foldl putL [] = p.mergeSort (fun x y => decide (x ≤ y)) := by
  obtain ⟨h1, h2⟩ := putAll p [] List.Pairwise.nil (by simpa using hn)
  refine List.Perm.eq_of_pairwise (le := fun a b => a ≤ b) (fun a b _ _ h1 h2 => by omega) (h1.imp (fun h => by omega)) ?_ ?_
  · have := List.pairwise_mergeSort (le := fun x y : Int => decide (x ≤ y)) (fun a b c h1 h2 => by simp only [decide_eq_true_eq] at *; omega) (fun a b => by simp only [Bool.or_eq_true, decide_eq_true_eq]; omega) p
    exact this.imp (fun h => by simpa using h)
  · exact (by simpa using h2 : (p.foldl putL []).Perm p).trans (List.mergeSort_perm p _).symm
theorem swapL_permA {l : List Int} {i r : Nat} (hi : i < l.length) (hr : r < l.length) : (swapL l i r).Perm l := by
  by_cases h : i = r
  · subst h
    have : swapL l i i = l := by
      unfold swapL
      rw [List.set_set]
      apply List.ext_getElem (by simp)
      intro k g1 g2
      rw [List.getElem_set]
      split
      · rename_i e; subst e; simp [List.getD, g2]
      · rfl
    rw [this]
  · exact swp_perm hi hr h
theorem shufGo_permA (n : Nat) (cs : List Int) : ∀ (k : Nat) (l : List Int), l.length = n → k + cs.length < n → (shufGo n k l cs).Perm l := by
  induction cs with
  | nil => intro k l _ _; exact .refl _
  | cons x cs ih =>
    intro k l hl hk
    rw [List.length_cons] at hk
    have h1 : x.toNat % (n - k) < n - k := Nat.mod_lt _ (by omega)
    have h2 := swapL_permA (l := l) (i := n - 1 - k) (r := x.toNat % (n - k)) (by omega) (by omega)
    exact (ih (k + 1) _ (by rw [swapL_length]; exact hl) (by omega)).trans h2
/-- The coins, the shuffled list, the answer. -/
def auW : ByteArray := ⟨#[97, 117, 100, 105, 116]⟩
def auC (s : Int) (j : Nat) : List Int := (List.range j).map fun i : Nat => hInt (labL auW [s, (i : Int)])
theorem auC_succ (s : Int) (j : Nat) : auC s j ++ [hInt (labL auW [s, (j : Int)])] = auC s (j + 1) := by simp [auC, List.range_succ]
theorem auC_length (s : Int) (j : Nat) : (auC s j).length = j := by simp [auC]
theorem auC_nn (s : Int) (j : Nat) : ∀ x ∈ auC s j, 0 ≤ x := fun x hx => by
  simp only [auC, List.mem_map] at hx
  obtain ⟨i, _, rfl⟩ := hx
  exact (hInt_bd _).1
def auP (s : Int) (n : Nat) : List Int := shufGo n 0 (iota 0 n) (auC s (n - 1))
theorem auP_length (s : Int) (n : Nat) : (auP s n).length = n := by simp [auP, shufGo_length, iota_length]
theorem auP_perm (s : Int) {n : Nat} (h : 1 ≤ n) : (auP s n).Perm (iota 0 n) := shufGo_permA n _ 0 _ (iota_length _ _) (by rw [auC_length]; omega)
theorem iota_nodup (n : Nat) : (iota 0 n).Nodup := by
  rw [List.nodup_iff_pairwise_ne, List.pairwise_iff_getElem]
  intro i j hi hj hij
  rw [iota_get, iota_get]; omega
theorem auP_nodup (s : Int) {n : Nat} (h : 1 ≤ n) : (auP s n).Nodup := (auP_perm s h).nodup_iff.2 (iota_nodup n)
def auG (s n k : Int) : Bool := inR s 0 4611686018427387903 && (inR n 1 24 && inR k 0 n)
def auL (s : Int) (n k : Nat) : List Int := ((auP s n).take k).mergeSort fun x y => decide (x ≤ y)
def auR (s n k : Int) : Option (List Int) := if auG s n k then some (auL s n.toNat k.toNat) else none
theorem auR_bd (s n k : Int) : ((auR s n k).getD []).length ≤ 100000 := by
  unfold auR
  split
  · rename_i h
    simp only [auG, Bool.and_eq_true] at h
    have h2 := inR_iff.1 h.2.1
    rw [Option.getD_some, auL, List.length_mergeSort, List.length_take, auP_length]; omega
  · simp
theorem auL_put (s : Int) {n k : Nat} (h : 1 ≤ n) : ((auP s n).take k).foldl putL [] = auL s n k := putAll_sort ((List.take_sublist _ _).nodup (auP_nodup s h))
theorem auL_length (s : Int) {n k : Nat} (h : k ≤ n) : (auL s n k).length = k := by rw [auL, List.length_mergeSort, List.length_take, auP_length]; omega
theorem auL_rise (s : Int) {n k : Nat} (h : 1 ≤ n) : (auL s n k).Pairwise (· < ·) := by
  rw [← auL_put s h]
  exact (putAll _ [] List.Pairwise.nil (by simpa using (List.take_sublist _ _).nodup (auP_nodup s h))).1
theorem auL_rng (s : Int) {n k : Nat} (h : 1 ≤ n) : ∀ x ∈ auL s n k, 0 ≤ x ∧ x < n := fun x hx => by
  rw [auL, List.mem_mergeSort] at hx
  have := (auP_perm s h).mem_iff.1 (List.mem_of_mem_take hx)
  simp only [iota, List.mem_map, List.mem_range] at this
  obtain ⟨i, hi, rfl⟩ := this
  omega
end Go.Proofs.Ytpdlcbgenimmcaa
