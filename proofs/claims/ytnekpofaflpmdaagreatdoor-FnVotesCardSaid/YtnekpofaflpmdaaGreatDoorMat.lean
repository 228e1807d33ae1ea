/- Contracts for MatrixOf: the program's and the reference's. -/
import Derived.Test.YtnekpofaflpmdaaGreatDoorProg
import Derived.Test.YtnekpofaflpmdaaGreatDoorMemX
import Derived.Test.YtnekpofaflpmdaaGreatDoorApplyC
namespace Go.Proofs.YtnekpofaflpmdaaGreatDoor
open Go.RowKit

def unitL (n k : Nat) : List Int := (List.replicate n 0).set k 1
theorem unitL_length (n k : Nat) : (unitL n k).length = n := by simp [unitL]
def matAt (p : List Int) (j : Nat) : List (List Int) := (p.take j).map fun k => unitL p.length k.toNat
theorem matAt_succ {p : List Int} {j K : Nat} (hj : j < p.length) (hK : p[j] = (K : Int)) : matAt p (j + 1) = matAt p j ++ [unitL p.length K] := by
  rw [matAt, List.take_succ_eq_append_getElem hj, List.map_append]
  simp [matAt, hK]
def matL (p : List Int) : List (List Int) := p.map fun k => unitL p.length k.toNat
theorem matAt_all (p : List Int) : matAt p p.length = matL p := by simp [matAt, matL]
theorem matAt_length (p : List Int) (j : Nat) (hj : j ≤ p.length) : (matAt p j).length = j := by simp [matAt]; omega
def matR (p : List Int) : Option (List (List Int)) := if permB p then some (matL p) else none
theorem tot_mat (p : List Int) : tot (matL p) = p.length * p.length := by
  have h : (matL p).map List.length = List.replicate p.length p.length := by
    simp [matL, unitL, List.map_map, Function.comp_def, List.map_const']
  rw [tot, h]; simp
theorem matR_bd (p : List Int) : ((matR p).getD []).length ≤ 100000 ∧ tot ((matR p).getD []) ≤ 100000 := by
  unfold matR
  split
  · rename_i h
    obtain ⟨h24, _⟩ := permB_parts h
    rw [Option.getD_some, tot_mat]
    have : p.length * p.length ≤ 24 * 24 := Nat.mul_le_mul h24 h24
    refine ⟨?_, by omega⟩
    simp [matL]; omega
  · simp [tot]

theorem OwnII.lit0 (w : World) {base : Nat} (h : base ≤ w.heap.size) : OwnII (w.alloc (.cells #[] 26)) base (some ⟨w.heap.size, 0, none⟩) 0 0 [w.heap.size] [] :=
  ⟨[], ⟨rfl, .inr ⟨w.heap.size, 0, #[], rfl, h, heap_alloc_new w _, Nat.le_refl _, Nat.zero_le _, rfl, rfl⟩⟩, rfl, fun i h => absurd h (by simp), by simp [rowsFp], by simp [rowsFp, fpI]⟩
/-- A new row with one 1, beside the rows that are there. -/
theorem matRow {wr w2 : World} {b0 j c' n K : Nat} {A' : Option Addr} {P : List Nat} {ls : List (List Int)} (hII : OwnII wr b0 A' j c' P ls) (hlow : Low P wr.heap.size)
    (hO : OwnI w2 wr.heap.size 3 (some ⟨wr.heap.size, 0, none⟩) n n (List.replicate n 0)) (hE : Ext wr w2) (hb : b0 ≤ wr.heap.size) :
    OwnII (w2.setCell ⟨wr.heap.size, K, none⟩ (.int .i64 1)) b0 A' j c' P ls ∧ OwnI (w2.setCell ⟨wr.heap.size, K, none⟩ (.int .i64 1)) b0 3 (some ⟨wr.heap.size, 0, none⟩) n n (unitL n K) ∧
    Apart (fpI (some (⟨wr.heap.size, 0, none⟩ : Addr))) P ∧ b0 ≤ (w2.setCell ⟨wr.heap.size, K, none⟩ (.int .i64 1)).heap.size ∧ Ext wr (w2.setCell ⟨wr.heap.size, K, none⟩ (.int .i64 1)) := by
  have hE2 : Ext wr (w2.setCell ⟨wr.heap.size, K, none⟩ (.int .i64 1)) := hE.setCell (p := ⟨wr.heap.size, K, none⟩) (Nat.le_refl _) _
  exact ⟨hII.ext hE2, (hO.set (j := K) 1).more hb, Apart.of_high hlow (hO.high), Nat.le_trans hb hE2.size, hE2⟩

end Go.Proofs.YtnekpofaflpmdaaGreatDoor
