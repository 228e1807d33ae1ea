/- Drawn contests. -/
import Derived.Test.YtnekpofaflpmdaaGreatDoorProg
import Derived.Test.YtnekpofaflpmdaaGreatDoorCurR
import Derived.Test.YtnekpofaflpmdaaGreatDoorCon
import Derived.Deep.CutRange
import Derived.Deep.CutBlock
import Derived.RegionTactic
import Derived.ChangeAlike
import Derived.Deep.RegionHeld3
namespace Go.Proofs.YtnekpofaflpmdaaGreatDoor
open Go.RowKit

/-- What a contest under way keeps to. -/
def CtMid (B : Nat) (w : World) (g k g2 g3 : Nat) (m : Value) (wx : World) : Prop := ∃ most a b f : Int, m = .int .i64 most ∧ 0 ≤ most ∧ most ≤ 40 ∧ 0 ≤ b ∧ b ≤ 8 ∧ 0 ≤ f ∧ f ≤ 5 ∧ g2 < g3 ∧ 
  Blk wx g2 25 #[.int .i64 0, .int .i64 0, .int .i64 0, .int .i64 0, .int .i64 0] ∧ Blk wx g3 25 #[.int .i64 a, .int .i64 b, .int .i64 0, .int .i64 0, .int .i64 f] ∧ Only [g] w wx ∧ CurS B wx g (k + 20)

/-- At the return: a struct of five ints that lies in a cell. -/
theorem ret_five {fn : Func} {w : World} {g : Nat} {t : Tmp} {a b c d f : Int} {tm : Array Value} {Q : Ending → World → Prop} {ty : TypeId} (hz : ty = 25)
    (B : Blk w g ty #[.int .i64 a, .int .i64 b, .int .i64 c, .int .i64 d, .int .i64 f])
    (h : fn.results = #[.cell t ty]) (ht : tm.getD t undef = .pointer (some ⟨g, 0, none⟩)) (hQ : Q (.returned (.agg #[.int .i64 a, .int .i64 b, .int .i64 c, .int .i64 d, .int .i64 f])) w) :
    bodyPost Tryz.prog fn Q .ret { tmps := tm, defers := [] } w := by
  subst hz
  have C := B.cells
  refine bodyPost_ret (v := .agg #[.int .i64 a, .int .i64 b, .int .i64 c, .int .i64 d, .int .i64 f]) ?_ rfl hQ
  have ht' : (tm[t]?).getD undef = .pointer (some ⟨g, 0, none⟩) := by simpa using ht
  simp [results, h, ht', go_sem, C]

set_option maxRecDepth 100000 in
set_option maxHeartbeats 4000000 in
theorem contest_any {B : Nat} (g k : Nat) (w : World) (h : CurS B w g k) (hk : k ≤ 100000) (hB : B ≤ w.heap.size) :
    Calls Tryz.prog 54 #[.pointer (some ⟨g, 0, none⟩)] w fun e w' => ∃ a b c d f : Int, e = .returned (.agg #[.int .i64 a, .int .i64 b, .int .i64 c, .int .i64 d, .int .i64 f]) ∧ 0 ≤ d ∧ d ≤ 100 ∧ Only [g] w w' ∧ CurS B w' g (k + 60) := by
  have hg := h.lt
  have hE0 := (Ext.refl w).alloc (.cells #[.int .i64 0, .int .i64 0, .int .i64 0, .int .i64 0, .int .i64 0] 25)
  have B2 := Blk.new w 25 #[.int .i64 0, .int .i64 0, .int .i64 0, .int .i64 0, .int .i64 0]
  have h0 := h.ext hE0
  go_enter Tryz.func54, Tryz.ntmps54
  go_wp2_with fail
  refine (pick_any g k 4 _ h0 (by omega) (by omega)).mono ?_
  rintro e w1 ⟨x, rfl, hx, hO1, hC1⟩
  go_wp2_with fail
  refine (pick_any g _ 5 _ hC1 (by omega) (by omega)).mono ?_
  rintro e w2 ⟨y, rfl, hy, hO2, hC2⟩
  have hx4 : (x : Int) ≤ 3 := by omega
  have hy5 : (y : Int) ≤ 4 := by omega
  have hz2 := (hE0.toOnly [g]).thenOnly (hO1.thenOnly hO2)
  have hsz : w.heap.size + 1 ≤ w2.heap.size := by have h1 := hO1.size; have h2 := hO2.size; simp at h1; omega
  have B22 := (B2.only hO1 (by simp; omega)).only hO2 (by simp; omega)
  have hE3 := (Ext.refl w2).alloc (.cells #[.int .i64 (1 + x), .int .i64 (1 + y), .int .i64 0, .int .i64 0, .int .i64 0] 25)
  have B3 := Blk.new w2 25 #[.int .i64 (1 + x), .int .i64 (1 + y), .int .i64 0, .int .i64 0, .int .i64 0]
  replace B22 := B22.ext hE3
  replace hz2 := hz2.thenOnly (hE3.toOnly [g])
  have hC3 := hC2.ext hE3
  have hlow : w2.heap.size < (w2.alloc (.cells #[.int .i64 (1 + x), .int .i64 (1 + y), .int .i64 0, .int .i64 0, .int .i64 0] 25)).heap.size := by simp
  clear hE0 B2 h h0 hO1 hC1 hO2 hC2 hE3 hx hy
  go_upto_region 2 with (fail)
  generalize hg3 : w2.heap.size = g3 at *
  generalize hW0 : w2.alloc (.cells #[.int .i64 (1 + x), .int .i64 (1 + y), .int .i64 0, .int .i64 0, .int .i64 0] 25) = W0 at *
  clear hW0 hg3
  go_upto_if 13 with (refine (one_any g _ 12 _ hC3 (by omega) (by omega)).mono ?_; rintro e w3 ⟨b, rfl, hO3, hC4⟩)
  replace B22 := B22.only hO3 (by simp; omega)
  replace B3 := B3.only hO3 (by simp; omega)
  replace hz2 := hz2.thenOnly hO3
  clear hO3 hC3 hlow
  go_cut [3] from 14 to 14 (fun s wx => s = .pointer (some ⟨g3, 0, none⟩) ∧ ∃ o : Int, 1 ≤ o ∧ o ≤ 8 ∧ Blk wx g3 25 #[.int .i64 (1 + x), .int .i64 o, .int .i64 0, .int .i64 0, .int .i64 0] ∧
        Blk wx w.heap.size 25 #[.int .i64 0, .int .i64 0, .int .i64 0, .int .i64 0, .int .i64 0] ∧ Only [g] w wx ∧ CurS B wx g (k + 2 + 2 + 2))
  case first =>
    have F3 := B3.frozen
    have C3 := B3.cells
    cases b
    · go_wp2
      go_meet
      exact ⟨rfl, _, by omega, by omega, B3, B22, hz2, hC4⟩
    · have L4 : Below (w.heap.size + 1) w3 (w3.setCell ⟨g3, 1, none⟩ (.int .i64 8)) := (Below.refl _ _).setCell (by simp; omega) _
      go_wp2
      go_meet
      exact ⟨rfl, 8, by omega, by omega, B3.set_ 1 (.int .i64 8), B22.below L4 (by omega), hz2.thenBelow L4 (by omega), hC4.below (L4.mono (by omega))⟩
  case rest =>
  clear B22 B3 hz2 hC4
  obtain ⟨rfl, o, ho1, ho2, B3, B22, hz2, hC4⟩ := hcut
  have C3 := B3.cells
  have F3 := B3.frozen
  go_upto_block 0 with (fail)
  go_cut [4] from 17 to 31 (fun m wx => CtMid B w g k w.heap.size g3 m wx)
  case first =>
    have hx' : x = 0 ∨ x = 1 ∨ x = 2 ∨ x = 3 := by omega
    rcases hx' with rfl | rfl | rfl | rfl
    · go_wp2
      go_meet
      exact ⟨_, _, _, 0, rfl, by omega, by omega, by omega, by omega, by omega, by omega, by omega, B22, B3, hz2, hC4.more (by omega)⟩
    · go_wp2_with fail
      refine (pick_any g _ 5 _ hC4 (by omega) (by omega)).mono ?_
      rintro e w5 ⟨z, rfl, hz, hO5, hC5⟩
      have hz5 : (z : Int) ≤ 4 := by omega
      have hm1 : 0 ≤ o * (1 + (z : Int)) := Int.mul_nonneg (by omega) (by omega)
      have hm2 : o * (1 + (z : Int)) ≤ 8 * 5 := Int.mul_le_mul (by omega) (by omega) (by omega) (by omega)
      have B35 := B3.only hO5 (by simp; omega)
      have C5 := B35.cells
      have F5 := B35.frozen
      have L5 : Below (w.heap.size + 1) w5 (w5.setCell ⟨g3, 4, none⟩ (.int .i64 (1 + z))) := (Below.refl _ _).setCell (by simp; omega) _
      have B36 := B35.set_ 4 (.int .i64 (1 + z))
      go_wp2
      go_meet
      exact ⟨_, _, _, 1 + z, rfl, by omega, by omega, by omega, by omega, by omega, by omega, by omega, (B22.only hO5 (by simp; omega)).below L5 (by omega), B36, (hz2.thenOnly hO5).thenBelow L5 (by omega), (hC5.below (L5.mono (by omega))).more (by omega)⟩
    · go_wp2
      go_meet
      exact ⟨_, _, _, 0, rfl, by omega, by omega, by omega, by omega, by omega, by omega, by omega, B22, B3, hz2, hC4.more (by omega)⟩
    · have L5 := fun w5 : World => (Below.refl (w.heap.size + 1) w5).setCell (p := ⟨g3, 1, none⟩) (by simp; omega) (.int .i64 0)
      go_wp2
      go_meet
      exact ⟨3, _, 0, 0, rfl, by omega, by omega, by omega, by omega, by omega, by omega, by omega, B22.below (L5 _) (by omega), B3.set_ 1 (.int .i64 0), hz2.thenBelow (L5 _) (by omega), (hC4.below ((L5 _).mono (by omega))).more (by omega)⟩
  case rest =>
    clear B22 B3 hz2 hC4 C3 F3
    obtain ⟨most, a, b, f, rfl, hm0, hm1, hb0, hb1, hf0, hf1, hgg, B2, B3, hO, hC⟩ := hcut
    have F3 := B3.frozen
    go_wp2_with fail
    refine (lLeast_le most 3 _).mono ?_
    rintro e w4 ⟨r, rfl, hr1, hr2, rfl⟩
    go_upto_region 13 with (refine (pick_any g _ r _ hC (by omega) (by omega)).mono ?_; rintro e w5 ⟨z, rfl, hz, hO5, hC5⟩; have F5 := (B3.only hO5 (by simp; omega)).frozen; have C5 := (B3.only hO5 (by simp; omega)).cells)
    have hzm : (z : Int) ≤ most ∧ (z : Int) ≤ 3 := by omega
    have L5 : Below (w.heap.size + 1) w5 (w5.setCell ⟨g3, 2, none⟩ (.int .i64 z)) := (Below.refl _ _).setCell (by simp; omega) _
    replace hO := (hO.thenOnly hO5).thenBelow L5 (by omega)
    replace B2 := (B2.only hO5 (by simp; omega)).below L5 (by omega)
    have B4 : Blk (w5.setCell ⟨g3, 2, none⟩ (.int .i64 z)) g3 25 #[.int .i64 a, .int .i64 b, .int .i64 z, .int .i64 0, .int .i64 f] := (B3.only hO5 (by simp; omega)).set_ 2 (.int .i64 z)
    have hC6 := hC5.below (L5.mono (by omega))
    clear hr1 hr2 hz L5 hO5 hC5 B3 hC F3 F5 C5
    generalize w5.setCell ⟨g3, 2, none⟩ (.int .i64 z) = w6 at *
    have C4 := B4.drew.cells
    have F4 := B4.drew.frozen
    have hs1 : IntKind.i64.wrap (most - z) = most - z := by rw [IntKind.wrap_i64]; omega
    have hs2 : IntKind.i64.wrap (most - z + 1) = most - z + 1 := by rw [IntKind.wrap_i64]; omega
    go_region_held3 (fun w' => w'.cell? ⟨g3, 2, none⟩ = some (.int .i64 z) ∧ w'.frozen? ⟨g3, 3, none⟩ = false) (first | exact ⟨C4 2, F4 3⟩ | exact ⟨C5 2, F5 3⟩ | exact ⟨(B5.set_ 3 _).cells 2, (B5.set_ 3 _).frozen 3⟩)
      ((go_at_call 33; refine (pick_any g _ (most - z + 1) _ (hC6.ext ((Ext.refl _).drew)) (by omega) (by omega)).mono ?_; rintro e w7 ⟨v, rfl, hv, hO7, hC7⟩; have hv2 : (v : Int) ≤ 50 := (by omega); have B5 := B4.drew.only hO7 (by simp <;> omega); have C5 := B5.cells; have F5 := B5.frozen; have hs3 : IntKind.i64.wrap ((z : Int) + v) = (z : Int) + v := by rw [IntKind.wrap_i64]; omega))
    have B6 := B5.set_ 3 (.int .i64 ((z : Int) + v))
    have C6 := B6.cells
    have B22 := (B2.drew.only hO7 (by simp; omega)).far (p := ⟨g3, 3, none⟩) (by simp; omega) (.int .i64 ((z : Int) + v))
    have F22 := B22.frozen
    have C22 := B22.cells
    have L7 : Below (w.heap.size + 1) w7 (w7.setCell ⟨g3, 3, none⟩ (.int .i64 ((z : Int) + v))) := (Below.refl _ _).setCell (by simp; omega) _
    replace hO := (((hO.drewN 1)).thenOnly hO7).thenBelow L7 (by omega)
    have hC8 := hC7.below (L7.mono (by omega))
    go_wp2
    have L8 : ∀ (u : World) (i : Nat) (x : Value), Below w.heap.size u (u.setCell ⟨w.heap.size, i, none⟩ x) := fun u i x => (Below.refl _ _).setCell (by simp) _
    have L9 := (((((L8 (w7.setCell ⟨g3, 3, none⟩ (.int .i64 ((z : Int) + v))) 0 (.int .i64 a)).trans (L8 _ 1 (.int .i64 b))).trans (L8 _ 2 (.int .i64 z))).trans (L8 _ 3 (.int .i64 ((z : Int) + v)))).trans (L8 _ 4 (.int .i64 f)))
    refine ret_five (a := a) (b := b) (c := z) (d := (z : Int) + v) (f := f) rfl (((((B22.set_ 0 (.int .i64 a)).set_ 1 (.int .i64 b)).set_ 2 (.int .i64 z)).set_ 3 (.int .i64 ((z : Int) + v))).set_ 4 (.int .i64 f)) rfl rfl ?_
    exact ⟨a, b, z, (z : Int) + v, f, rfl, by omega, by omega, hO.thenBelow L9 (Nat.le_refl _), (hC8.below (L9.mono hB)).more (by omega)⟩
end Go.Proofs.YtnekpofaflpmdaaGreatDoor
