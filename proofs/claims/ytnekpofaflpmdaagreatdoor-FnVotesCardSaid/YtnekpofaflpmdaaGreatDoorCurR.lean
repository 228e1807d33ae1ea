/- Drawn residues, fields, orders of places. -/
import Derived.Test.YtnekpofaflpmdaaGreatDoorProg
import Derived.Test.YtnekpofaflpmdaaGreatDoorBase
import Derived.Test.YtnekpofaflpmdaaGreatDoorMem
import Derived.Test.YtnekpofaflpmdaaGreatDoorCur
namespace Go.Proofs.YtnekpofaflpmdaaGreatDoor
open Go.RowKit

theorem apart_of {B g : Nat} {fp : List Nat} (h : High B fp) (hg : g < B) : Apart fp [g] := fun b hb e => by
  have := h b hb
  simp only [List.mem_singleton] at e
  omega
theorem lLeast_le (x y : Int) (w : World) : Calls Tryz.prog 83 #[.int .i64 x, .int .i64 y] w fun e w' => ∃ r, e = .returned (.int .i64 r) ∧ r ≤ y ∧ r ≤ x ∧ w = w' := by
  by_cases h : x < y
  · go_enter Tryz.func83, Tryz.ntmps83
    go_wp2
    go_ret
    exact ⟨x, rfl, by omega, by omega, rfl⟩
  · go_enter Tryz.func83, Tryz.ntmps83
    go_wp2
    go_ret
    exact ⟨y, rfl, by omega, by omega, rfl⟩

/-- One of a list that has just been laid. -/
theorem among_new {B : Nat} (g k n : Nat) (L : List Int) (cs : Array Value) (w : World) (h : CurS B w g k) (hk : k ≤ 100000000) (hcs : cs = (ints L).toArray) (hl : L.length = n) (hn : 0 < n) (hn2 : n ≤ 1000) (hB : B ≤ w.heap.size) :
    Calls Tryz.prog 32 #[.pointer (some ⟨g, 0, none⟩), .slice (some ⟨w.heap.size, 0, none⟩) n n] (w.alloc (.cells cs 3)) fun e w' => ∃ r : Int, e = .returned (.int .i64 r) ∧ r ∈ L ∧ Only [g] w w' ∧ CurS B w' g (k + 2) := by
  subst hcs
  have hg := h.lt
  have hE := (Ext.refl w).alloc (.cells (ints L).toArray 3)
  have hI : OwnI (w.alloc (.cells (ints L).toArray 3)) w.heap.size 3 (some ⟨w.heap.size, 0, none⟩) n n L := ownI_lit L hl rfl (Nat.le_refl _) (by unfold maxLen; omega)
  refine (among_any g k _ n n L _ (h.ext hE) hk hI.rd hl hn (by omega) (fun a e => by simp only [Option.some.injEq] at e; subst e; show w.heap.size ≠ g; omega)).mono ?_
  rintro e w1 ⟨r, he, hr, hO, hC⟩
  exact ⟨r, he, hr, (hE.toOnly _).thenOnly hO, hC⟩


end Go.Proofs.YtnekpofaflpmdaaGreatDoor
