/- Contracts for votes of a contest: whether a list is one; the reference's and the program's. -/
import Derived.Test.YtpfccboighdcbaaProg
import Derived.Test.YtpfccboighdcbaaCon
import Derived.Test.YtpfccboighdcbaaPmat
import Derived.Deep.CutRange
namespace Go.Proofs.Ytpfccboighdcbaa
open Go.RowKit

theorem quietL {P : Program} {f : FuncId} {args : Array Value} {w : World} {n : Nat} {v : Value} (h : Calls P f args (w.drewN n) fun e w' => e = .returned v ∧ w.drewN n = w') :
    Calls P f args (w.drewN n) fun e w'' => e = .returned v ∧ ∃ m, w'' = w.drewN m := h.mono fun _ _ ⟨he, hm⟩ => ⟨he, n, hm.symm⟩

theorem add_succ (a : Addr) (i : Nat) : a.add (i + 1) = ⟨a.block, a.off + (i + 1), none⟩ := by unfold Addr.add; rw [if_neg (by omega)]
theorem adj_lt {l : List Int} (h : ∀ t, (ht : t + 1 < l.length) → l[t] < l[t + 1]) : l.Pairwise (· < ·) := by
  rw [List.pairwise_iff_getElem]
  intro i j hi hj hij
  obtain ⟨d, rfl⟩ : ∃ d, j = i + 1 + d := ⟨j - i - 1, by omega⟩
  clear hij
  induction d with
  | zero => exact h i hj
  | succ d ih => exact Int.lt_trans (ih (by omega)) (h (i + 1 + d) hj)
theorem adj_le {l : List Int} (h : ∀ t, (ht : t + 1 < l.length) → l[t] ≤ l[t + 1]) : l.Pairwise (· ≤ ·) := by
  rw [List.pairwise_iff_getElem]
  intro i j hi hj hij
  obtain ⟨d, rfl⟩ : ∃ d, j = i + 1 + d := ⟨j - i - 1, by omega⟩
  clear hij
  induction d with
  | zero => exact h i hj
  | succ d ih => exact Int.le_trans (ih (by omega)) (h (i + 1 + d) hj)
def sortB (l : List Int) : Bool := decide (l.Pairwise (· ≤ ·))
def risB (l : List Int) (lo hi : Int) : Bool := allR l lo hi && decide (l.Pairwise (· < ·))
theorem sortB_no {l : List Int} {t : Nat} (ht : t + 1 < l.length) (h : l[t + 1] < l[t]) : sortB l = false := by
  unfold sortB
  rw [decide_eq_false]
  intro hp
  have := List.pairwise_iff_getElem.1 hp t (t + 1) (by omega) ht (by omega)
  omega
theorem sortB_yes {l : List Int} (h : ∀ t, (ht : t + 1 < l.length) → l[t] ≤ l[t + 1]) : sortB l = true := decide_eq_true (adj_le h)
theorem risB_no1 {l : List Int} {lo hi : Int} {t : Nat} (ht : t < l.length) (h : inR l[t] lo hi = false) : risB l lo hi = false := by
  unfold risB; rw [allR_false ht h]; rfl
theorem risB_no2 {l : List Int} {lo hi : Int} {t : Nat} (ht : t + 1 < l.length) (h : l[t + 1] ≤ l[t]) : risB l lo hi = false := by
  unfold risB
  rw [decide_eq_false, Bool.and_false]
  intro hp
  have := List.pairwise_iff_getElem.1 hp t (t + 1) (by omega) ht (by omega)
  omega
theorem risB_yes {l : List Int} {lo hi : Int} (h0 : ∀ t, (ht : t < l.length) → inR l[t] lo hi = true) (h : ∀ t, (ht : t + 1 < l.length) → l[t] < l[t + 1]) : risB l lo hi = true := by
  unfold risB
  rw [decide_eq_true (adj_lt h), Bool.and_true, allR_iff]
  intro x hx
  obtain ⟨i, hi, rfl⟩ := List.getElem_of_mem hx
  exact inR_iff.1 (h0 i hi)
theorem ris_sort (l : List Int) (lo hi : Int) : risB l lo hi = (allR l lo hi && (sortB l && diffB l)) := by
  unfold risB sortB diffB
  congr 1
  rw [Bool.eq_iff_iff]
  simp only [Bool.and_eq_true, decide_eq_true_eq]
  constructor
  · intro h
    exact ⟨h.imp fun h => by omega, h.imp fun h => by omega⟩
  · rintro ⟨h1, h2⟩
    rw [List.pairwise_iff_getElem] at h1 ⊢
    intro i j hi hj hij
    have a1 := h1 i j hi hj hij
    have a2 : l[i] ≠ l[j] := fun he => by
      have := (List.getElem_inj h2).1 he
      omega
    omega



/-- Whether a list is a vote of a valid contest. -/
def voteB (a b c d f : Int) (v : List Int) : Bool :=
  if a = 1 then risB v 0 (b - 1) && inR v.length c d
  else if a = 2 then decide ((v.length : Int) = b) && (allR v 0 f && inR v.sum c d)
  else if a = 3 then allR v 0 (b - 1) && (diffB v && inR v.length c d)
  else allR v 1 26 && inR v.length c d
theorem valid_kind {a b c d f : Int} (h : validCt a b c d f = true) : (a = 1 ∨ a = 2 ∨ a = 3 ∨ a = 4) ∧ 0 ≤ b ∧ b ≤ 8 ∧ 0 ≤ f ∧ f ≤ 5 ∧ 0 ≤ c ∧ c ≤ 40 ∧ 0 ≤ d ∧ d ≤ 40 := by
  rw [validCt_iff] at h
  obtain ⟨h1, h2, h3⟩ := h
  rcases h3 with ⟨h3 | h3, _, _, _, _⟩ | ⟨h3, hb1, hb2, hf1, hf2, hd⟩ | ⟨h3, _, _, _⟩
  · refine ⟨.inl h3, ?_⟩; omega
  · refine ⟨.inr (.inr (.inl h3)), ?_⟩; omega
  · refine ⟨.inr (.inl h3), by omega, by omega, by omega, by omega, by omega, ?_⟩
    have hm : b * f ≤ 8 * 5 := Int.mul_le_mul hb2 hf2 (by omega) (by omega)
    have hm0 : 0 ≤ b * f := Int.mul_nonneg (by omega) (by omega)
    have hw : wrap64 (b * f) = b * f := by simp only [wrap64]; omega
    rw [hw] at hd
    omega
  · refine ⟨.inr (.inr (.inr h3)), ?_⟩; omega

end Go.Proofs.Ytpfccboighdcbaa
