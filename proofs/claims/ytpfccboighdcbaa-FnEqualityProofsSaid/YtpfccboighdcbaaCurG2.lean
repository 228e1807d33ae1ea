/- Drawn groups, elements and exponents, spoilt or not. -/
import Derived.Test.YtpfccboighdcbaaProg
import Derived.Test.YtpfccboighdcbaaCurG
namespace Go.Proofs.Ytpfccboighdcbaa
open Go.RowKit
set_option linter.unusedVariables false
set_option linter.unusedSimpArgs false

/-- What the numbers of a drawn group keep to. -/
def GrpD (P Q G : Int) : Prop := -7 ≤ P ∧ P ≤ 1100000000 ∧ 0 ≤ Q ∧ Q ≤ 1100000000 ∧ 0 ≤ G ∧ G ≤ 1100000000

set_option maxRecDepth 100000 in
set_option maxHeartbeats 4000000 in
theorem anyGroup_any {B : Nat} (g k : Nat) (w : World) (h : CurS B w g k) (hk : k ≤ 80000) (hB : B ≤ w.heap.size) :
    Calls Try.prog 130 #[.pointer (some ⟨g, 0, none⟩)] w fun e w' => ∃ P Q G : Int, e = .returned (.agg #[.int .i64 P, .int .i64 Q, .int .i64 G]) ∧ GrpD P Q G ∧ Only [g] w w' ∧ CurS B w' g (k + 30) := by
  have hg := h.lt
  have hE0 := (Ext.refl w).alloc (.cells #[.int .i64 0, .int .i64 0, .int .i64 0] 38)
  have B2 := Blk.new w 38 #[.int .i64 0, .int .i64 0, .int .i64 0]
  have h0 := h.ext hE0
  go_enter Try.func130, Try.ntmps130
  go_wp2_with fail
  refine (group_any g k _ h0 (by omega) (by simp; omega)).mono ?_
  rintro e w1 ⟨P, Q, G, rfl, hQ, hQP, hP, hG0, hG, hO1, hC1⟩
  have hz1 := (hE0.toOnly [g]).thenOnly hO1
  have hsz : w.heap.size + 1 ≤ w1.heap.size := by have h1 := hO1.size; simp at h1; omega
  have hE1 := (Ext.refl w1).alloc (.cells #[.int .i64 P, .int .i64 Q, .int .i64 G] 38)
  have B3 := Blk.new w1 38 #[.int .i64 P, .int .i64 Q, .int .i64 G]
  have B22 := (B2.only hO1 (by simp <;> omega)).ext hE1
  replace hz1 := hz1.thenOnly (hE1.toOnly [g])
  replace hC1 := hC1.ext hE1
  clear hE0 B2 h h0 hO1 hE1
  go_upto_region 2 with (fail)
  generalize hg3 : w1.heap.size = g3 at *
  generalize hW0 : w1.alloc (.cells #[.int .i64 P, .int .i64 Q, .int .i64 G] 38) = W0 at *
  clear hW0 hg3
  go_upto_block 0 with (refine (pick_any g _ 24 _ hC1 (by omega) (by omega)).mono ?_; rintro e w3 ⟨r, rfl, hr, hO3, hC3⟩)
  replace B22 := B22.only hO3 (by simp <;> omega)
  replace B3 := B3.only hO3 (by simp <;> omega)
  have hz := hz1.thenOnly hO3
  clear hO3 hC1 hz1
  go_cut [3] from 8 to 42 (fun s wx => s = .pointer (some ⟨g3, 0, none⟩) ∧ ∃ P Q G : Int, GrpD P Q G ∧ Blk wx g3 38 #[.int .i64 P, .int .i64 Q, .int .i64 G] ∧
        Blk wx w.heap.size 38 #[.int .i64 0, .int .i64 0, .int .i64 0] ∧ Only [g] w wx ∧ CurS B wx g (k + 20))
  case first =>
    have hr' : r = 0 ∨ r = 1 ∨ r = 2 ∨ 3 ≤ r := by omega
    rcases hr' with rfl | rfl | rfl | hr5
    · have C3 := B3.cells
      go_wp2_with fail
      refine (among_new g _ 4 [0, P + 2, 4, -7] _ w3 hC3 (by omega) rfl rfl (by omega) (by omega) (by have := B3.lt; omega)).mono ?_
      rintro e w5 ⟨r1, rfl, hr1, hO5, hC5⟩
      have hr2 : -7 ≤ r1 ∧ r1 ≤ 1100000000 ∧ -7 ≤ r1 := by simp only [List.mem_cons, List.not_mem_nil, or_false] at hr1; omega
      have B5 := B3.only hO5 (by simp <;> omega)
      have C5 := B5.cells
      have F5 := B5.frozen
      have L5 : Below (w.heap.size + 1) w5 (w5.setCell ⟨g3, 0, none⟩ (.int .i64 r1)) := (Below.refl _ _).setCell (by simp; omega) _
      clear hr1
      go_wp2
      go_meet
      exact ⟨rfl, r1, Q, G, ⟨by omega, by omega, by omega, by omega, by omega, by omega⟩, B5.set_ 0 (.int .i64 r1), (B22.only hO5 (by simp <;> omega)).below L5 (by omega), (hz.thenOnly hO5).thenBelow L5 (by omega), (hC5.below (L5.mono (by omega))).more (by omega)⟩
    · have C3 := B3.cells
      go_wp2_with fail
      refine (among_new g _ 4 [0, 1, Q + 1, P - 1] _ w3 hC3 (by omega) rfl rfl (by omega) (by omega) (by have := B3.lt; omega)).mono ?_
      rintro e w5 ⟨r1, rfl, hr1, hO5, hC5⟩
      have hr2 : -7 ≤ r1 ∧ r1 ≤ 1100000000 ∧ 0 ≤ r1 := by simp only [List.mem_cons, List.not_mem_nil, or_false] at hr1; omega
      have B5 := B3.only hO5 (by simp <;> omega)
      have C5 := B5.cells
      have F5 := B5.frozen
      have L5 : Below (w.heap.size + 1) w5 (w5.setCell ⟨g3, 1, none⟩ (.int .i64 r1)) := (Below.refl _ _).setCell (by simp; omega) _
      clear hr1
      go_wp2
      go_meet
      exact ⟨rfl, P, r1, G, ⟨by omega, by omega, by omega, by omega, by omega, by omega⟩, B5.set_ 1 (.int .i64 r1), (B22.only hO5 (by simp <;> omega)).below L5 (by omega), (hz.thenOnly hO5).thenBelow L5 (by omega), (hC5.below (L5.mono (by omega))).more (by omega)⟩
    · have C3 := B3.cells
      go_wp2_with fail
      refine (among_new g _ 5 [0, 1, P - 1, P, G + 1] _ w3 hC3 (by omega) rfl rfl (by omega) (by omega) (by have := B3.lt; omega)).mono ?_
      rintro e w5 ⟨r1, rfl, hr1, hO5, hC5⟩
      have hr2 : -7 ≤ r1 ∧ r1 ≤ 1100000000 ∧ 0 ≤ r1 := by simp only [List.mem_cons, List.not_mem_nil, or_false] at hr1; omega
      have B5 := B3.only hO5 (by simp <;> omega)
      have C5 := B5.cells
      have F5 := B5.frozen
      have L5 : Below (w.heap.size + 1) w5 (w5.setCell ⟨g3, 2, none⟩ (.int .i64 r1)) := (Below.refl _ _).setCell (by simp; omega) _
      clear hr1
      go_wp2
      go_meet
      exact ⟨rfl, P, Q, r1, ⟨by omega, by omega, by omega, by omega, by omega, by omega⟩, B5.set_ 2 (.int .i64 r1), (B22.only hO5 (by simp <;> omega)).below L5 (by omega), (hz.thenOnly hO5).thenBelow L5 (by omega), (hC5.below (L5.mono (by omega))).more (by omega)⟩
    · have e0 : ((r : Int) == 0) = false := by simp; omega
      have e1 : ((r : Int) == 1) = false := by simp; omega
      have e2 : ((r : Int) == 2) = false := by simp; omega
      go_wp2
      go_meet
      exact ⟨rfl, P, Q, G, ⟨by omega, by omega, by omega, by omega, by omega, by omega⟩, B3, B22, hz, hC3.more (by omega)⟩
  case rest =>
    clear B22 B3 hz hC3 hr hQ hQP hP hG0 hG
    obtain ⟨rfl, P, Q, G, hD, B3, B22, hO, hC⟩ := hcut
    have C3 := B3.cells
    have C22 := B22.cells
    have F22 := B22.frozen
    go_wp2
    refine ret_three (a := P) (b := Q) (c := G) (((B22.set_ 0 (.int .i64 P)).set_ 1 (.int .i64 Q)).set_ 2 (.int .i64 G)) rfl rfl ?_
    have L9 := below_three (g := w.heap.size) wc (.int .i64 P) (.int .i64 Q) (.int .i64 G)
    exact ⟨P, Q, G, rfl, hD, hO.thenBelow L9 (Nat.le_refl _), (hC.below (L9.mono hB)).more (by omega)⟩

set_option maxHeartbeats 2000000 in
theorem expo_any {B : Nat} (g k : Nat) (P Q G : Int) (w : World) (h : CurS B w g k) (hk : k ≤ 1000000) (hB : B ≤ w.heap.size) (hD : GrpD P Q G) :
    Calls Try.prog 136 #[.pointer (some ⟨g, 0, none⟩), .agg #[.int .i64 P, .int .i64 Q, .int .i64 G]] w fun e w' => ∃ r : Int, e = .returned (.int .i64 r) ∧ 0 ≤ r ∧ (2 ≤ Q → r < Q) ∧ r ≤ 4000000000 ∧ Only [g] w w' ∧ CurS B w' g (k + 4) := by
  obtain ⟨d1, d2, d3, d4, d5, d6⟩ := hD
  have hg := h.lt
  have hE0 := (Ext.refl w).alloc (.cells #[.int .i64 P, .int .i64 Q, .int .i64 G] 38)
  have B0 := Blk.new w 38 #[.int .i64 P, .int .i64 Q, .int .i64 G]
  have C := B0.cells
  have h0 := h.ext hE0
  by_cases hq : Q < 2
  · go_enter Try.func136, Try.ntmps136
    go_wp2
    go_ret
    exact ⟨0, rfl, by omega, by omega, by omega, hE0.toOnly [g], h0.more (by omega)⟩
  · have CD := B0.drew.cells
    have hqz : (Q == 0) = false := by simp; omega
    have hqn : ¬ Q = 0 := by omega
    go_enter Try.func136, Try.ntmps136
    go_wp2
    go_region_held3 (fun w' => w'.cell? ⟨w.heap.size, 1, none⟩ = some (.int .i64 Q)) (first | exact CD 1 | exact C2 1 | exact C1 1)
      (first
        | (go_at_call 134; refine (pick_any g _ 60000 _ hC1 (by omega) (by omega)).mono ?_; rintro e w2 ⟨r2, rfl, hr2, hO2, hC2⟩; have hb2 : (r2 : Int) ≤ 60000 := (by omega); have B2 := B1.only hO2 (by simp <;> omega); have C2 := B2.cells; have hs2 : IntKind.i64.wrap ((r1 : Int) * 60000 + r2) = (r1 : Int) * 60000 + r2 := (by rw [IntKind.wrap_i64]; omega); have hs4 : ((r1 : Int) * 60000 + r2).tmod Q = ((r1 : Int) * 60000 + r2) % Q := (Int.tmod_eq_emod_of_nonneg (by omega)); have hs5 : IntKind.i64.wrap (((r1 : Int) * 60000 + r2) % Q) = ((r1 : Int) * 60000 + r2) % Q := (by have h9 := emod_bd (x := (r1 : Int) * 60000 + r2) (q := Q) (by omega); rw [IntKind.wrap_i64]; omega))
        | (go_at_call 134; refine (pick_any g _ 60000 _ (h0.ext ((Ext.refl _).drew)) (by omega) (by omega)).mono ?_; rintro e w1 ⟨r1, rfl, hr1, hO1, hC1⟩; have hb1 : (r1 : Int) ≤ 60000 := (by omega); have B1 := B0.drew.only hO1 (by simp <;> omega); have C1 := B1.cells; have hs1 : IntKind.i64.wrap ((r1 : Int) * 60000) = (r1 : Int) * 60000 := (by rw [IntKind.wrap_i64]; omega)))
    go_wp2
    go_ret
    have h9 := emod_bd (x := (r1 : Int) * 60000 + r2) (q := Q) (by omega)
    exact ⟨_, rfl, h9.1, fun _ => h9.2, by omega, (((hE0.toOnly [g]).drewN 1).thenOnly hO1).thenOnly hO2, hC2.more (by omega)⟩

set_option maxHeartbeats 4000000 in
theorem element_any {B : Nat} (g k : Nat) (P Q G : Int) (w : World) (h : CurS B w g k) (hk : k ≤ 1000000) (hB : B ≤ w.heap.size) (hD : GrpD P Q G) :
    Calls Try.prog 146 #[.pointer (some ⟨g, 0, none⟩), .agg #[.int .i64 P, .int .i64 Q, .int .i64 G]] w fun e w' => ∃ r : Int, e = .returned (.int .i64 r) ∧ -2000000000 ≤ r ∧ r ≤ 2000000000 ∧ Only [g] w w' ∧ CurS B w' g (k + 4) := by
  have hD' := hD
  obtain ⟨d1, d2, d3, d4, d5, d6⟩ := hD
  have hg := h.lt
  have hE0 := (Ext.refl w).alloc (.cells #[.int .i64 P, .int .i64 Q, .int .i64 G] 38)
  have B0 := Blk.new w 38 #[.int .i64 P, .int .i64 Q, .int .i64 G]
  have C := B0.cells
  have h0 := h.ext hE0
  by_cases hp : P < 3
  · go_enter Try.func146, Try.ntmps146
    go_wp2
    go_ret
    exact ⟨1, rfl, by omega, by omega, hE0.toOnly [g], h0.more (by omega)⟩
  by_cases hq : Q < 1
  · go_enter Try.func146, Try.ntmps146
    go_wp2
    go_ret
    exact ⟨1, rfl, by omega, by omega, hE0.toOnly [g], h0.more (by omega)⟩
  have CD := B0.drew.cells
  have hgb : GrpB P Q := ⟨by omega, by omega, by omega, by omega⟩
  have hm := emod_bd (x := G) (q := P) (by omega)
  have hbd := gpw_bd P Q (G % P)
  go_enter Try.func146, Try.ntmps146
  go_wp2
  go_region_held3 (fun w' => w'.cell? ⟨w.heap.size, 0, none⟩ = some (.int .i64 P) ∧ w'.cell? ⟨w.heap.size, 1, none⟩ = some (.int .i64 Q) ∧ w'.cell? ⟨w.heap.size, 2, none⟩ = some (.int .i64 G)) (first | exact ⟨CD 0, CD 1, CD 2⟩ | exact ⟨C1 0, C1 1, C1 2⟩ | exact ⟨C2 0, C2 1, C2 2⟩)
    (first
      | (go_at_call 157; refine (nMod_any G P _ (by omega) (by omega) (by omega) (by omega)).mono ?_; rintro e w1 ⟨rfl, rfl⟩)
      | (go_at_call 136; refine (expo_any g _ P Q G _ (h0.ext ((Ext.refl _).drew)) (by omega) (by simp; omega) hD').mono ?_; rintro e w2 ⟨r, rfl, hr0, hr1, hr2, hO2, hC2⟩; have B1 := B0.drew.only hO2 (by simp <;> omega); have C1 := B1.cells)
      | (go_at_call 93; refine (gExp_any P Q G (G % P) r _ hgb hm.1 (by omega) (by omega) (by omega)).mono ?_; rintro e w3 ⟨rfl, hb3⟩; have C2 := (B1.ext hb3).cells))
  go_wp2
  go_ret
  exact ⟨_, rfl, by have := hbd r (by omega); omega, by have := hbd r (by omega); omega, (((hE0.toOnly [g]).drewN 1).thenOnly hO2).thenOnly (hb3.toOnly [g]), (hC2.ext hb3).more (by omega)⟩

set_option maxHeartbeats 4000000 in
theorem anyElement_any {B : Nat} (g k : Nat) (P Q G : Int) (w : World) (h : CurS B w g k) (hk : k ≤ 900000) (hB : B ≤ w.heap.size) (hD : GrpD P Q G) :
    Calls Try.prog 197 #[.pointer (some ⟨g, 0, none⟩), .agg #[.int .i64 P, .int .i64 Q, .int .i64 G]] w fun e w' => ∃ r : Int, e = .returned (.int .i64 r) ∧ -2000000000 ≤ r ∧ r ≤ 2000000000 ∧ Only [g] w w' ∧ CurS B w' g (k + 8) := by
  have hD' := hD
  obtain ⟨d1, d2, d3, d4, d5, d6⟩ := hD
  have hg := h.lt
  have hE0 := (Ext.refl w).alloc (.cells #[.int .i64 P, .int .i64 Q, .int .i64 G] 38)
  have B0 := Blk.new w 38 #[.int .i64 P, .int .i64 Q, .int .i64 G]
  have h0 := h.ext hE0
  go_enter Try.func197, Try.ntmps197
  go_wp2_with fail
  refine (one_any g _ 20 _ h0 (by omega) (by omega)).mono ?_
  rintro e w1 ⟨b, rfl, hO1, hC1⟩
  have B1 := B0.only hO1 (by simp <;> omega)
  have hO := (hE0.toOnly [g]).thenOnly hO1
  have hsz : w.heap.size + 1 ≤ w1.heap.size := B1.lt
  have C1 := B1.cells
  cases b
  · go_wp2_with fail
    refine (element_any g _ P Q G _ hC1 (by omega) (by omega) hD').mono ?_
    rintro e w2 ⟨r, rfl, hr0, hr1, hO2, hC2⟩
    go_wp2
    go_ret
    exact ⟨r, rfl, hr0, hr1, hO.thenOnly hO2, hC2.more (by omega)⟩
  · go_wp2_with fail
    refine (among_new g _ 6 [0, 1, P - 1, P, -1, 5] _ w1 hC1 (by omega) rfl rfl (by omega) (by omega) (by omega)).mono ?_
    rintro e w2 ⟨r, rfl, hr, hO2, hC2⟩
    have hrb : -2000000000 ≤ r ∧ r ≤ 2000000000 := by simp only [List.mem_cons, List.not_mem_nil, or_false] at hr; omega
    clear hr
    go_wp2
    go_ret
    exact ⟨r, rfl, hrb.1, hrb.2, hO.thenOnly hO2, hC2.more (by omega)⟩

set_option maxHeartbeats 4000000 in
theorem anyExpo_any {B : Nat} (g k : Nat) (P Q G : Int) (w : World) (h : CurS B w g k) (hk : k ≤ 900000) (hB : B ≤ w.heap.size) (hD : GrpD P Q G) :
    Calls Try.prog 65 #[.pointer (some ⟨g, 0, none⟩), .agg #[.int .i64 P, .int .i64 Q, .int .i64 G]] w fun e w' => ∃ r : Int, e = .returned (.int .i64 r) ∧ -5000000000 ≤ r ∧ r ≤ 5000000000 ∧ Only [g] w w' ∧ CurS B w' g (k + 8) := by
  have hD' := hD
  obtain ⟨d1, d2, d3, d4, d5, d6⟩ := hD
  have hg := h.lt
  have hE0 := (Ext.refl w).alloc (.cells #[.int .i64 P, .int .i64 Q, .int .i64 G] 38)
  have B0 := Blk.new w 38 #[.int .i64 P, .int .i64 Q, .int .i64 G]
  have h0 := h.ext hE0
  go_enter Try.func65, Try.ntmps65
  go_wp2_with fail
  refine (one_any g _ 24 _ h0 (by omega) (by omega)).mono ?_
  rintro e w1 ⟨b, rfl, hO1, hC1⟩
  have B1 := B0.only hO1 (by simp <;> omega)
  have hO := (hE0.toOnly [g]).thenOnly hO1
  have hsz : w.heap.size + 1 ≤ w1.heap.size := B1.lt
  have C1 := B1.cells
  cases b
  · go_wp2_with fail
    refine (expo_any g _ P Q G _ hC1 (by omega) (by omega) hD').mono ?_
    rintro e w2 ⟨r, rfl, hr0, hr1, hr2, hO2, hC2⟩
    go_wp2
    go_ret
    exact ⟨r, rfl, by omega, by omega, hO.thenOnly hO2, hC2.more (by omega)⟩
  · go_wp2_with fail
    refine (among_new g _ 3 [Q, -1, Q - 1] _ w1 hC1 (by omega) rfl rfl (by omega) (by omega) (by omega)).mono ?_
    rintro e w2 ⟨r, rfl, hr, hO2, hC2⟩
    have hrb : -5000000000 ≤ r ∧ r ≤ 5000000000 := by simp only [List.mem_cons, List.not_mem_nil, or_false] at hr; omega
    clear hr
    go_wp2
    go_ret
    exact ⟨r, rfl, hrb.1, hrb.2, hO.thenOnly hO2, hC2.more (by omega)⟩
end Go.Proofs.Ytpfccboighdcbaa
