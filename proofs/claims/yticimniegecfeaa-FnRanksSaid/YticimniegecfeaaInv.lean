/- Contracts for InversePermutation: the program's and the reference's. -/
import Derived.Test.YticimniegecfeaaProg
import Derived.Test.YticimniegecfeaaApply
namespace Go.Proofs.Yticimniegecfeaa
open Go.RowKit

/-- The list with i, i+1, .. at the places that xs names. -/
def invGo (i : Int) (acc : List Int) : List Int → List Int
  | [] => acc
  | x :: xs => invGo (i + 1) (acc.set x.toNat i) xs
theorem invGo_snoc (xs : List Int) (x : Int) : ∀ (i : Int) (acc : List Int), invGo i acc (xs ++ [x]) = (invGo i acc xs).set x.toNat (i + xs.length) := by
  induction xs with
  | nil => intro i acc; simp [invGo]
  | cons y ys ih =>
    intro i acc
    simp only [List.cons_append, invGo, ih, List.length_cons]
    congr 1
    omega
theorem invGo_length (xs : List Int) : ∀ (i : Int) (acc : List Int), (invGo i acc xs).length = acc.length := by
  induction xs with
  | nil => intro i acc; rfl
  | cons y ys ih => intro i acc; simp [invGo, ih]
def invL (p : List Int) : List Int := invGo 0 (List.replicate p.length 0) p
def invAt (p : List Int) (j : Nat) : List Int := invGo 0 (List.replicate p.length 0) (p.take j)
theorem invAt_succ {p : List Int} {j K : Nat} (hj : j < p.length) (hK : p[j] = (K : Int)) : invAt p (j + 1) = (invAt p j).set K j := by
  unfold invAt
  rw [List.take_succ_eq_append_getElem hj, invGo_snoc, hK, Int.toNat_natCast, List.length_take, Nat.min_eq_left (by omega)]
  simp
theorem invAt_length (p : List Int) (j : Nat) : (invAt p j).length = p.length := by simp [invAt, invGo_length]


def invR (p : List Int) : Option (List Int) := if permB p then some (invL p) else none
theorem invR_bd (p : List Int) : ((invR p).getD []).length ≤ 100000 := by
  unfold invR
  split
  · rename_i h
    have := (permB_parts h).1
    simp only [Option.getD_some, invL, invGo_length, List.length_replicate]; omega
  · simp


end Go.Proofs.Yticimniegecfeaa
