/- Contracts for VoteText: the reference's text of a vote. -/
import Derived.Test.YtnekpofaflpmdaaGreatDoorProg
import Derived.Test.YtnekpofaflpmdaaGreatDoorVts
import Derived.Test.YtnekpofaflpmdaaGreatDoorVoteC
namespace Go.Proofs.YtnekpofaflpmdaaGreatDoor
open Go.RowKit
def bsT (l : List UInt8) : ByteArray := ⟨l.toArray⟩
theorem bsT_app (l m : List UInt8) : bsT l ++ bsT m = bsT (l ++ m) := by
  apply ByteArray.ext
  rw [ByteArray.data_append]
  simp [bsT]
theorem vtJ_len (a : Int) : ∀ l : List Int, (vtJ a l).length ≤ 2 * l.length
  | [] => by simp [vtJ]
  | [x] => by by_cases h : a = 4 <;> simp [vtJ, h]
  | x :: y :: l => by
    have ih := vtJ_len a (y :: l)
    by_cases h : a = 4
    · simp [vtJ, h] at ih ⊢; omega
    · simp [vtJ, h] at ih ⊢; omega
theorem bsT_size (l : List UInt8) : (bsT l).size = l.length := by simp [bsT, ByteArray.size]
theorem chrS_size (b : UInt8) : (chrS b).size = 1 := rfl
def vtOK (a : Int) (v : List Int) : Prop := ∀ x ∈ v, if a = 4 then 1 ≤ x ∧ x ≤ 26 else 0 ≤ x ∧ x < 10
theorem ivB_vtOK {a b c d f : Int} {v : List Int} (h : ivB a b c d f v = true) : vtOK a v := by
  simp only [ivB, Bool.and_eq_true] at h
  obtain ⟨h1, h2⟩ := h
  have hk := valid_kind h1
  have mem : ∀ {lo hi : Int}, allR v lo hi = true → ∀ x ∈ v, lo ≤ x ∧ x ≤ hi := by
    intro lo hi h x hx
    obtain ⟨i, hi, rfl⟩ := List.mem_iff_getElem.1 hx
    exact allR_at h hi
  intro x hx
  unfold voteB at h2
  split at h2
  · rename_i h4
    simp only [risB, Bool.and_eq_true] at h2
    have := mem h2.1.1 x hx
    rw [if_neg (by omega)]; omega
  · split at h2
    · rename_i h4
      simp only [Bool.and_eq_true] at h2
      have := mem h2.2.1 x hx
      rw [if_neg (by omega)]; omega
    · split at h2
      · rename_i h4
        simp only [Bool.and_eq_true] at h2
        have := mem h2.1 x hx
        rw [if_neg (by omega)]; omega
      · simp only [Bool.and_eq_true] at h2
        have := mem h2.1 x hx
        rw [if_pos (by omega)]; omega
end Go.Proofs.YtnekpofaflpmdaaGreatDoor
