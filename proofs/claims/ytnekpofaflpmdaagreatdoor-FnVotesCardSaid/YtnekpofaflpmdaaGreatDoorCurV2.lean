/- Drawn contests, spoilt or not. -/
import Derived.Test.YtnekpofaflpmdaaGreatDoorProg
import Derived.Test.YtnekpofaflpmdaaGreatDoorCurV
namespace Go.Proofs.YtnekpofaflpmdaaGreatDoor
open Go.RowKit

set_option maxRecDepth 100000 in
set_option maxHeartbeats 4000000 in
theorem anyContest_any {B : Nat} (g k : Nat) (w : World) (h : CurS B w g k) (hk : k ≤ 90000) (hB : B ≤ w.heap.size) :
    Calls Tryz.prog 28 #[.pointer (some ⟨g, 0, none⟩)] w fun e w' => ∃ a b c d f : Int, e = .returned (.agg #[.int .i64 a, .int .i64 b, .int .i64 c, .int .i64 d, .int .i64 f]) ∧ Only [g] w w' ∧ CurS B w' g (k + 80) := by
  have hg := h.lt
  have hE0 := (Ext.refl w).alloc (.cells #[.int .i64 0, .int .i64 0, .int .i64 0, .int .i64 0, .int .i64 0] 25)
  have B2 := Blk.new w 25 #[.int .i64 0, .int .i64 0, .int .i64 0, .int .i64 0, .int .i64 0]
  have h0 := h.ext hE0
  go_enter Tryz.func28, Tryz.ntmps28
  go_wp2_with fail
  refine (contest_any g k _ h0 (by omega) (by simp; omega)).mono ?_
  rintro e w1 ⟨a, b, c, d, f, rfl, hd0, hd1, hO1, hC1⟩
  have hz1 := (hE0.toOnly [g]).thenOnly hO1
  have hsz : w.heap.size + 1 ≤ w1.heap.size := by have h1 := hO1.size; simp at h1; omega
  have hE1 := (Ext.refl w1).alloc (.cells #[.int .i64 a, .int .i64 b, .int .i64 c, .int .i64 d, .int .i64 f] 25)
  have B3 := Blk.new w1 25 #[.int .i64 a, .int .i64 b, .int .i64 c, .int .i64 d, .int .i64 f]
  have B22 := (B2.only hO1 (by simp <;> omega)).ext hE1
  replace hz1 := hz1.thenOnly (hE1.toOnly [g])
  replace hC1 := hC1.ext hE1
  clear hE0 B2 h h0 hO1 hE1
  go_upto_region 2 with (fail)
  generalize hg3 : w1.heap.size = g3 at *
  generalize hW0 : w1.alloc (.cells #[.int .i64 a, .int .i64 b, .int .i64 c, .int .i64 d, .int .i64 f] 25) = W0 at *
  clear hW0 hg3
  go_upto_block 0 with (refine (pick_any g _ 20 _ hC1 (by omega) (by omega)).mono ?_; rintro e w3 ⟨r, rfl, hr, hO3, hC3⟩)
  replace B22 := B22.only hO3 (by simp <;> omega)
  replace B3 := B3.only hO3 (by simp <;> omega)
  have hz := hz1.thenOnly hO3
  clear hO3 hC1 hz1
  go_cut [3] from 8 to 42 (fun s wx => s = .pointer (some ⟨g3, 0, none⟩) ∧ ∃ a b c d f : Int, Blk wx g3 25 #[.int .i64 a, .int .i64 b, .int .i64 c, .int .i64 d, .int .i64 f] ∧
        Blk wx w.heap.size 25 #[.int .i64 0, .int .i64 0, .int .i64 0, .int .i64 0, .int .i64 0] ∧ Only [g] w wx ∧ CurS B wx g (k + 70))
  case first =>
    have hr' : r = 0 ∨ r = 1 ∨ r = 2 ∨ r = 3 ∨ r = 4 ∨ 5 ≤ r := by omega
    rcases hr' with rfl | rfl | rfl | rfl | rfl | hr5
    · have C3 := B3.cells
      go_wp2_with fail
      refine (among_new g _ 4 [0, 5, 4, 1] _ w3 hC3 (by omega) rfl rfl (by omega) (by omega) (by have := B3.lt; omega)).mono ?_
      rintro e w5 ⟨r1, rfl, hr1, hO5, hC5⟩
      have B5 := B3.only hO5 (by simp <;> omega)
      have C5 := B5.cells
      have F5 := B5.frozen
      have L5 : Below (w.heap.size + 1) w5 (w5.setCell ⟨g3, 0, none⟩ (.int .i64 r1)) := (Below.refl _ _).setCell (by simp; omega) _
      go_wp2
      go_meet
      exact ⟨rfl, r1, b, c, d, f, B5.set_ 0 (.int .i64 r1), (B22.only hO5 (by simp <;> omega)).below L5 (by omega), (hz.thenOnly hO5).thenBelow L5 (by omega), (hC5.below (L5.mono (by omega))).more (by omega)⟩
    · have C3 := B3.cells
      go_wp2_with fail
      refine (among_new g _ 4 [0, 9, -1, 8] _ w3 hC3 (by omega) rfl rfl (by omega) (by omega) (by have := B3.lt; omega)).mono ?_
      rintro e w5 ⟨r1, rfl, hr1, hO5, hC5⟩
      have B5 := B3.only hO5 (by simp <;> omega)
      have C5 := B5.cells
      have F5 := B5.frozen
      have L5 : Below (w.heap.size + 1) w5 (w5.setCell ⟨g3, 1, none⟩ (.int .i64 r1)) := (Below.refl _ _).setCell (by simp; omega) _
      go_wp2
      go_meet
      exact ⟨rfl, a, r1, c, d, f, B5.set_ 1 (.int .i64 r1), (B22.only hO5 (by simp <;> omega)).below L5 (by omega), (hz.thenOnly hO5).thenBelow L5 (by omega), (hC5.below (L5.mono (by omega))).more (by omega)⟩
    · have C3 := B3.cells
      go_wp2_with fail
      refine (among_new g _ 3 [-1, d, d + 1] _ w3 hC3 (by omega) rfl rfl (by omega) (by omega) (by have := B3.lt; omega)).mono ?_
      rintro e w5 ⟨r1, rfl, hr1, hO5, hC5⟩
      have B5 := B3.only hO5 (by simp <;> omega)
      have C5 := B5.cells
      have F5 := B5.frozen
      have L5 : Below (w.heap.size + 1) w5 (w5.setCell ⟨g3, 2, none⟩ (.int .i64 r1)) := (Below.refl _ _).setCell (by simp; omega) _
      go_wp2
      go_meet
      exact ⟨rfl, a, b, r1, d, f, B5.set_ 2 (.int .i64 r1), (B22.only hO5 (by simp <;> omega)).below L5 (by omega), (hz.thenOnly hO5).thenBelow L5 (by omega), (hC5.below (L5.mono (by omega))).more (by omega)⟩
    · have C3 := B3.cells
      go_wp2_with fail
      refine (among_new g _ 7 [0, 5, 6, 40, 41, 8, 9] _ w3 hC3 (by omega) rfl rfl (by omega) (by omega) (by have := B3.lt; omega)).mono ?_
      rintro e w5 ⟨r1, rfl, hr1, hO5, hC5⟩
      have B5 := B3.only hO5 (by simp <;> omega)
      have C5 := B5.cells
      have F5 := B5.frozen
      have L5 : Below (w.heap.size + 1) w5 (w5.setCell ⟨g3, 3, none⟩ (.int .i64 r1)) := (Below.refl _ _).setCell (by simp; omega) _
      go_wp2
      go_meet
      exact ⟨rfl, a, b, c, r1, f, B5.set_ 3 (.int .i64 r1), (B22.only hO5 (by simp <;> omega)).below L5 (by omega), (hz.thenOnly hO5).thenBelow L5 (by omega), (hC5.below (L5.mono (by omega))).more (by omega)⟩
    · have C3 := B3.cells
      go_wp2_with fail
      refine (among_new g _ 4 [0, 5, 6, -1] _ w3 hC3 (by omega) rfl rfl (by omega) (by omega) (by have := B3.lt; omega)).mono ?_
      rintro e w5 ⟨r1, rfl, hr1, hO5, hC5⟩
      have B5 := B3.only hO5 (by simp <;> omega)
      have C5 := B5.cells
      have F5 := B5.frozen
      have L5 : Below (w.heap.size + 1) w5 (w5.setCell ⟨g3, 4, none⟩ (.int .i64 r1)) := (Below.refl _ _).setCell (by simp; omega) _
      go_wp2
      go_meet
      exact ⟨rfl, a, b, c, d, r1, B5.set_ 4 (.int .i64 r1), (B22.only hO5 (by simp <;> omega)).below L5 (by omega), (hz.thenOnly hO5).thenBelow L5 (by omega), (hC5.below (L5.mono (by omega))).more (by omega)⟩
    · have e0 : ((r : Int) == 0) = false := by simp; omega
      have e1 : ((r : Int) == 1) = false := by simp; omega
      have e2 : ((r : Int) == 2) = false := by simp; omega
      have e3 : ((r : Int) == 3) = false := by simp; omega
      have e4 : ((r : Int) == 4) = false := by simp; omega
      go_wp2
      go_meet
      exact ⟨rfl, a, b, c, d, f, B3, B22, hz, hC3.more (by omega)⟩
  case rest =>
    clear B22 B3 hz hC3 hr
    obtain ⟨rfl, a, b, c, d, f, B3, B22, hO, hC⟩ := hcut
    have C3 := B3.cells
    have C22 := B22.cells
    have F22 := B22.frozen
    go_wp2
    have L8 : ∀ (u : World) (i : Nat) (x : Value), Below w.heap.size u (u.setCell ⟨w.heap.size, i, none⟩ x) := fun u i x => (Below.refl _ _).setCell (by simp) _
    have L9 := (((((L8 wc 0 (.int .i64 a)).trans (L8 _ 1 (.int .i64 b))).trans (L8 _ 2 (.int .i64 c))).trans (L8 _ 3 (.int .i64 d))).trans (L8 _ 4 (.int .i64 f)))
    refine ret_five (a := a) (b := b) (c := c) (d := d) (f := f) rfl (((((B22.set_ 0 (.int .i64 a)).set_ 1 (.int .i64 b)).set_ 2 (.int .i64 c)).set_ 3 (.int .i64 d)).set_ 4 (.int .i64 f)) rfl rfl ?_
    exact ⟨a, b, c, d, f, rfl, hO.thenBelow L9 (Nat.le_refl _), (hC.below (L9.mono hB)).more (by omega)⟩

/-- A drawn contest. -/
def DrawnCt (w : World) (e : Ending) (w' : World) : Prop := ∃ a b c d f : Int, e = .returned (.agg #[.int .i64 a, .int .i64 b, .int .i64 c, .int .i64 d, .int .i64 f]) ∧ Ext w w'
end Go.Proofs.YtnekpofaflpmdaaGreatDoor
