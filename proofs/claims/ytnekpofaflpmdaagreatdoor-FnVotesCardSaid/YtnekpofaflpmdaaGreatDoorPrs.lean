/- Contracts for ParseVote: the reference's cut of a text at its commas, and the number of a word. -/
import Derived.Test.YtnekpofaflpmdaaGreatDoorProg
import Derived.Test.YtnekpofaflpmdaaGreatDoorPtp
import Derived.Lib.Strings
namespace Go.Proofs.YtnekpofaflpmdaaGreatDoor
open Go.RowKit
/-- What the loop over a text keeps: the pieces so far, and the piece that is being read. -/
def cutI (L : List UInt8) (f j : Nat) (P : List ByteArray) : Prop := P.map (·.data.toList) ++ rgo ((L.take j).drop f) (L.drop j) = rgo [] L
theorem cutI_zero (L : List UInt8) : cutI L 0 0 [] := by simp [cutI]
theorem cutI_hit {L : List UInt8} {f j : Nat} {P : List ByteArray} {x : ByteArray} (h : cutI L f j P) (hj : j < L.length) (hc : L[j] = 44) (hx : x.data.toList = (L.take j).drop f) : cutI L (j + 1) (j + 1) (P ++ [x]) := by
  unfold cutI at h ⊢
  rw [List.drop_eq_getElem_cons hj, rgo, if_pos hc] at h
  rw [← h, List.map_append, List.append_assoc, List.map_cons, List.map_nil, hx]
  have : (L.take (j + 1)).drop (j + 1) = [] := by simp
  rw [this]; rfl
theorem cutI_miss {L : List UInt8} {f j : Nat} {P : List ByteArray} (h : cutI L f j P) (hj : j < L.length) (hf : f ≤ j) (hc : L[j] ≠ 44) : cutI L f (j + 1) P := by
  unfold cutI at h ⊢
  rw [List.drop_eq_getElem_cons hj, rgo, if_neg hc] at h
  rw [← h, List.take_succ_eq_append_getElem hj, List.drop_append_of_le_length (by simp; omega)]
theorem cutI_end {L : List UInt8} {f : Nat} {P : List ByteArray} {x : ByteArray} (h : cutI L f L.length P) (hx : x.data.toList = L.drop f) : (P ++ [x]).map (·.data.toList) = rgo [] L := by
  unfold cutI at h
  rw [List.drop_length, rgo, List.take_length] at h
  rw [← h, List.map_append, List.map_cons, List.map_nil, hx]
theorem ext_part (s : ByteArray) (f j : Nat) : (s.extract f j).data.toList = (s.data.toList.take j).drop f := by
  rw [Lib.extract_data, List.drop_take]
theorem ext_tail (s : ByteArray) (f : Nat) : (s.extract f s.size).data.toList = s.data.toList.drop f := by
  rw [ext_part, List.take_of_length_le (by simp)]
theorem rgo_len : ∀ l c : List UInt8, (rgo c l).length ≤ l.length + 1
  | [], c => by simp [rgo]
  | x :: l, c => by
    rw [rgo]
    split
    · have := rgo_len l []; simp; omega
    · have := rgo_len l (c ++ [x]); simp; omega
def p10 : Nat → Int
  | 0 => 1
  | n + 1 => 10 * p10 n
theorem p10_le : ∀ j < 6, p10 j ≤ 100000 := by decide
end Go.Proofs.YtnekpofaflpmdaaGreatDoor
