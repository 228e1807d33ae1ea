/- Contract for slices.Delete of one element (split off Unr). -/
import Derived.Test.YtnhdohjlbchniaaProg
import Derived.Test.YtnhdohjlbchniaaLies
import Derived.Shelf.Slices.Delete
import Derived.Lib.OwnBridge
import Derived.ChangeAlike
namespace Go.Proofs.Ytnhdohjlbchniaa
open Go.RowKit

def delRen : Go.Shelf.Ren := ⟨fun | 23 => 121 | x => x, fun | 0 => 0 | 3 => 3 | 4 => 4 | 22 => 24 | x => x, fun x => x⟩
theorem delLays : Go.Proofs.Lays2.n23 Try.prog delRen where
  mixed := by kernel_rfl
  f23 := by kernel_rfl
  t0 := Try.underlying0
  a0 := Try.isAgg0
  z0 := Try.sizeOf0
  v0 := Try.zeroValue0
  t3 := Try.underlying3
  a3 := Try.isAgg3
  z3 := Try.sizeOf3
  v3 := Try.zeroValue3
  t4 := Try.underlying4
  a4 := Try.isAgg4
  z4 := Try.sizeOf4
  v4 := Try.zeroValue4
  t22 := Try.underlying24
  a22 := Try.isAgg24
  z22 := Try.sizeOf24
  v22 := Try.zeroValue24
  i3 := by kernel_rfl

theorem only_putRow {w : World} {g q : Nat} {d : Array Int} : Only [g] w (Go.Sort.putRow (Value.int .i64) (Go.Sort.ahead w q) g 0 d) :=
  ⟨rfl, rfl, rfl, by simp [Go.Sort.putRow, Go.Sort.mapBlock, Go.Sort.ahead], fun k _ hk => by
    simp only [List.mem_singleton] at hk
    simp [Go.Sort.putRow, Go.Sort.mapBlock, Go.Sort.ahead, Array.getElem?_modify, show g ≠ k by omega]⟩
/-- slices.Delete of one element of a slice of the call's own. -/
theorem Delete_own {w : World} {base : Nat} {A : Option Addr} {n c : Nat} {l : List Int} (h : OwnI w base 3 A n c l) (k : Nat) (hk : k < n) :
    Calls Try.prog 121 #[.slice A n c, .int .i64 k, .int .i64 ((k : Int) + 1)] w fun e w' => e = .returned (.slice A (n - 1) c) ∧ OwnI w' base 3 A (n - 1) c (l.eraseIdx k) ∧ Only (fpI A) w w' := by
  have hne : (.slice A n c : Value) ≠ .slice none 0 0 := by
    intro e; injection e with _ e2 _; omega
  obtain ⟨g, cap, hv, hb, hlt, hnc, hcm, hl, hH⟩ := Go.Lib.holds_of_ownsRow (show w.ownsRow base 3 1 (.slice A n c) n (l.map (Value.int .i64)) from h) hne
  injection hv with hA _ hc
  subst hA; subst hc
  have hd := Any.slices_Delete_int delLays g 0 c k (k + 1) l w hH (by omega) (by unfold maxLen at hcm; omega) (by omega) (by omega)
  have e1 : ((k + 1 : Nat) : Int) = (k : Int) + 1 := by push_cast; rfl
  rw [e1, hl] at hd
  refine hd.mono ?_
  rintro e w' ⟨he, q, rfl⟩
  refine ⟨by rw [he]; simp, ?_, only_putRow⟩
  have hy : (l.take k ++ l.drop (k + 1) ++ List.replicate (k + 1 - k) 0).length = n := by simp; omega
  have h2 := Go.Lib.ownsRow_putRow (q := q) (k := n - 1) (ys := l.take k ++ l.drop (k + 1) ++ List.replicate (k + 1 - k) 0) (show w.ownsRow base 3 1 (.slice (some ⟨g, 0, none⟩) n c) n (l.map (Value.int .i64)) from h) hy (by omega)
  have h3 : (l.take k ++ l.drop (k + 1) ++ List.replicate (k + 1 - k) 0).take (n - 1) = l.eraseIdx k := by
    rw [List.take_append_of_le_length (by simp; omega), List.take_of_length_le (by simp; omega), List.eraseIdx_eq_take_drop_succ]
  rw [h3] at h2
  exact h2
end Go.Proofs.Ytnhdohjlbchniaa
