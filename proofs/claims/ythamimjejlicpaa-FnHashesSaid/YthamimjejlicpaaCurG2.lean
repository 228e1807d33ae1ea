/- Drawn groups, elements and exponents, spoilt or not. -/
import Derived.Test.YthamimjejlicpaaProg
import Derived.Test.YthamimjejlicpaaCurG
namespace Go.Proofs.Ythamimjejlicpaa
open Go.RowKit

/-- What the numbers of a drawn group keep to. -/
def GrpD (P Q G : Int) : Prop := -7 ≤ P ∧ P ≤ 1100000000 ∧ 0 ≤ Q ∧ Q ≤ 1100000000 ∧ 0 ≤ G ∧ G ≤ 1100000000

set_option maxRecDepth 100000 in
set_option maxHeartbeats 4000000 in
theorem anyGroup_any {B : Nat} (g k : Nat) (w : World) (h : CurS B w g k) (hk : k ≤ 80000) (hB : B ≤ w.heap.size) :
    Calls Try.prog 57 #[.pointer (some ⟨g, 0, none⟩)] w fun e w' => ∃ P Q G : Int, e = .returned (.agg #[.int .i64 P, .int .i64 Q, .int .i64 G]) ∧ GrpD P Q G ∧ Only [g] w w' ∧ CurS B w' g (k + 30) := by
  have hg := h.lt
  have hE0 := (Ext.refl w).alloc (.cells #[.int .i64 0, .int .i64 0, .int .i64 0] 25)
  have B2 := Blk.new w 25 #[.int .i64 0, .int .i64 0, .int .i64 0]
  have h0 := h.ext hE0
  go_enter Try.func57, Try.ntmps57
  go_wp2_with fail
  refine (group_any g k _ h0 (by omega) (by simp; omega)).mono ?_
  rintro e w1 ⟨P, Q, G, rfl, hQ, hQP, hP, hG0, hG, hO1, hC1⟩
  have hz1 := (hE0.toOnly [g]).thenOnly hO1
  have hsz : w.heap.size + 1 ≤ w1.heap.size := by have h1 := hO1.size; simp at h1; omega
  have hE1 := (Ext.refl w1).alloc (.cells #[.int .i64 P, .int .i64 Q, .int .i64 G] 25)
  have B3 := Blk.new w1 25 #[.int .i64 P, .int .i64 Q, .int .i64 G]
  have B22 := (B2.only hO1 (by simp <;> omega)).ext hE1
  replace hz1 := hz1.thenOnly (hE1.toOnly [g])
  replace hC1 := hC1.ext hE1
  clear hE0 B2 h h0 hO1 hE1
  go_upto_region 2 with (fail)
  generalize hg3 : w1.heap.size = g3 at *
  generalize hW0 : w1.alloc (.cells #[.int .i64 P, .int .i64 Q, .int .i64 G] 25) = W0 at *
  clear hW0 hg3
  go_upto_block 0 with (refine (pick_any g _ 24 _ hC1 (by omega) (by omega)).mono ?_; rintro e w3 ⟨r, rfl, hr, hO3, hC3⟩)
  replace B22 := B22.only hO3 (by simp <;> omega)
  replace B3 := B3.only hO3 (by simp <;> omega)
  have hz := hz1.thenOnly hO3
  clear hO3 hC1 hz1
  go_cut [3] from 8 to 42 (fun s wx => s = .pointer (some ⟨g3, 0, none⟩) ∧ ∃ P Q G : Int, GrpD P Q G ∧ Blk wx g3 25 #[.int .i64 P, .int .i64 Q, .int .i64 G] ∧
        Blk wx w.heap.size 25 #[.int .i64 0, .int .i64 0, .int .i64 0] ∧ Only [g] w wx ∧ CurS B wx g (k + 20))
  case first =>
    have hr' : r = 0 ∨ r = 1 ∨ r = 2 ∨ 3 ≤ r := by omega
    rcases hr' with rfl | rfl | rfl | hr5
    · have C3 := B3.cells
      go_wp2_with fail
      refine (among_new g _ 4 [0, P + 2, 4, -7] _ w3 hC3 (by omega) rfl rfl (by omega) (by omega) (by have := B3.lt; omega)).mono ?_
      rintro e w5 ⟨r1, rfl, hr1, hO5, hC5⟩
      have hr2 : -7 ≤ r1 ∧ r1 ≤ 1100000000 ∧ -7 ≤ r1 := by simp only [List.mem_cons, List.not_mem_nil, or_false] at hr1; omega
      have B5 := B3.only hO5 (by simp <;> omega)
      have C5 := B5.cells
      have F5 := B5.frozen
      have L5 : Below (w.heap.size + 1) w5 (w5.setCell ⟨g3, 0, none⟩ (.int .i64 r1)) := (Below.refl _ _).setCell (by simp; omega) _
      clear hr1
      go_wp2
      go_meet
      exact ⟨rfl, r1, Q, G, ⟨by omega, by omega, by omega, by omega, by omega, by omega⟩, B5.set_ 0 (.int .i64 r1), (B22.only hO5 (by simp <;> omega)).below L5 (by omega), (hz.thenOnly hO5).thenBelow L5 (by omega), (hC5.below (L5.mono (by omega))).more (by omega)⟩
    · have C3 := B3.cells
      go_wp2_with fail
      refine (among_new g _ 4 [0, 1, Q + 1, P - 1] _ w3 hC3 (by omega) rfl rfl (by omega) (by omega) (by have := B3.lt; omega)).mono ?_
      rintro e w5 ⟨r1, rfl, hr1, hO5, hC5⟩
      have hr2 : -7 ≤ r1 ∧ r1 ≤ 1100000000 ∧ 0 ≤ r1 := by simp only [List.mem_cons, List.not_mem_nil, or_false] at hr1; omega
      have B5 := B3.only hO5 (by simp <;> omega)
      have C5 := B5.cells
      have F5 := B5.frozen
      have L5 : Below (w.heap.size + 1) w5 (w5.setCell ⟨g3, 1, none⟩ (.int .i64 r1)) := (Below.refl _ _).setCell (by simp; omega) _
      clear hr1
      go_wp2
      go_meet
      exact ⟨rfl, P, r1, G, ⟨by omega, by omega, by omega, by omega, by omega, by omega⟩, B5.set_ 1 (.int .i64 r1), (B22.only hO5 (by simp <;> omega)).below L5 (by omega), (hz.thenOnly hO5).thenBelow L5 (by omega), (hC5.below (L5.mono (by omega))).more (by omega)⟩
    · have C3 := B3.cells
      go_wp2_with fail
      refine (among_new g _ 5 [0, 1, P - 1, P, G + 1] _ w3 hC3 (by omega) rfl rfl (by omega) (by omega) (by have := B3.lt; omega)).mono ?_
      rintro e w5 ⟨r1, rfl, hr1, hO5, hC5⟩
      have hr2 : -7 ≤ r1 ∧ r1 ≤ 1100000000 ∧ 0 ≤ r1 := by simp only [List.mem_cons, List.not_mem_nil, or_false] at hr1; omega
      have B5 := B3.only hO5 (by simp <;> omega)
      have C5 := B5.cells
      have F5 := B5.frozen
      have L5 : Below (w.heap.size + 1) w5 (w5.setCell ⟨g3, 2, none⟩ (.int .i64 r1)) := (Below.refl _ _).setCell (by simp; omega) _
      clear hr1
      go_wp2
      go_meet
      exact ⟨rfl, P, Q, r1, ⟨by omega, by omega, by omega, by omega, by omega, by omega⟩, B5.set_ 2 (.int .i64 r1), (B22.only hO5 (by simp <;> omega)).below L5 (by omega), (hz.thenOnly hO5).thenBelow L5 (by omega), (hC5.below (L5.mono (by omega))).more (by omega)⟩
    · have e0 : ((r : Int) == 0) = false := by simp; omega
      have e1 : ((r : Int) == 1) = false := by simp; omega
      have e2 : ((r : Int) == 2) = false := by simp; omega
      go_wp2
      go_meet
      exact ⟨rfl, P, Q, G, ⟨by omega, by omega, by omega, by omega, by omega, by omega⟩, B3, B22, hz, hC3.more (by omega)⟩
  case rest =>
    clear B22 B3 hz hC3 hr hQ hQP hP hG0 hG
    obtain ⟨rfl, P, Q, G, hD, B3, B22, hO, hC⟩ := hcut
    have C3 := B3.cells
    have C22 := B22.cells
    have F22 := B22.frozen
    go_wp2
    refine ret_three (a := P) (b := Q) (c := G) (((B22.set_ 0 (.int .i64 P)).set_ 1 (.int .i64 Q)).set_ 2 (.int .i64 G)) rfl rfl ?_
    have L9 := below_three (g := w.heap.size) wc (.int .i64 P) (.int .i64 Q) (.int .i64 G)
    exact ⟨P, Q, G, rfl, hD, hO.thenBelow L9 (Nat.le_refl _), (hC.below (L9.mono hB)).more (by omega)⟩




end Go.Proofs.Ythamimjejlicpaa
