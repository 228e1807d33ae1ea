/- Draws of statements of equal logarithms. (Printed by tools/gen_curs.py.) -/
import Derived.Test.YtpfccboighdcbaaProg
import Derived.Test.YtpfccboighdcbaaCurG2
import Derived.Test.YtpfccboighdcbaaCurL
import Derived.Deep.CutRange
namespace Go.Proofs.Ytpfccboighdcbaa
open Go.RowKit
set_option linter.unusedSimpArgs false
set_option linter.unusedVariables false

set_option maxHeartbeats 4000000 in
theorem element0_any {B : Nat} (g k : Nat) (P Q G : Int) (w : World) (h : CurS B w g k) (hk : k ≤ 1000000) (hB : B ≤ w.heap.size) (hD : GrpD P Q G) :
    Calls Try.prog 146 #[.pointer (some ⟨g, 0, none⟩), .agg #[.int .i64 P, .int .i64 Q, .int .i64 G]] w fun e w' => ∃ r : Int, e = .returned (.int .i64 r) ∧ 0 ≤ r ∧ r ≤ 2000000000 ∧ Only [g] w w' ∧ CurS B w' g (k + 4) := by
  have hD' := hD
  obtain ⟨d1, d2, d3, d4, d5, d6⟩ := hD
  have hg := h.lt
  have hE0 := (Ext.refl w).alloc (.cells #[.int .i64 P, .int .i64 Q, .int .i64 G] 38)
  have B0 := Blk.new w 38 #[.int .i64 P, .int .i64 Q, .int .i64 G]
  have C := B0.cells
  have h0 := h.ext hE0
  by_cases hp : P < 3
  · go_enter Try.func146, Try.ntmps146
    go_wp2
    go_ret
    exact ⟨1, rfl, by omega, by omega, hE0.toOnly [g], h0.more (by omega)⟩
  by_cases hq : Q < 1
  · go_enter Try.func146, Try.ntmps146
    go_wp2
    go_ret
    exact ⟨1, rfl, by omega, by omega, hE0.toOnly [g], h0.more (by omega)⟩
  have CD := B0.drew.cells
  have hgb : GrpB P Q := ⟨by omega, by omega, by omega, by omega⟩
  have hm := emod_bd (x := G) (q := P) (by omega)
  have hbd := gpw_bd P Q (G % P)
  go_enter Try.func146, Try.ntmps146
  go_wp2
  go_region_held3 (fun w' => w'.cell? ⟨w.heap.size, 0, none⟩ = some (.int .i64 P) ∧ w'.cell? ⟨w.heap.size, 1, none⟩ = some (.int .i64 Q) ∧ w'.cell? ⟨w.heap.size, 2, none⟩ = some (.int .i64 G)) (first | exact ⟨CD 0, CD 1, CD 2⟩ | exact ⟨C1 0, C1 1, C1 2⟩ | exact ⟨C2 0, C2 1, C2 2⟩)
    (first
      | (go_at_call 157; refine (nMod_any G P _ (by omega) (by omega) (by omega) (by omega)).mono ?_; rintro e w1 ⟨rfl, rfl⟩)
      | (go_at_call 136; refine (expo_any g _ P Q G _ (h0.ext ((Ext.refl _).drew)) (by omega) (by simp; omega) hD').mono ?_; rintro e w2 ⟨r, rfl, hr0, hr1, hr2, hO2, hC2⟩; have B1 := B0.drew.only hO2 (by simp <;> omega); have C1 := B1.cells)
      | (go_at_call 93; refine (gExp_any P Q G (G % P) r _ hgb hm.1 (by omega) (by omega) (by omega)).mono ?_; rintro e w3 ⟨rfl, hb3⟩; have C2 := (B1.ext hb3).cells))
  go_wp2
  go_ret
  exact ⟨_, rfl, by have := hbd r (by omega); omega, by have := hbd r (by omega); omega, (((hE0.toOnly [g]).drewN 1).thenOnly hO2).thenOnly (hb3.toOnly [g]), (hC2.ext hb3).more (by omega)⟩
theorem Blk.farS {w : World} {g : Nat} {t : TypeId} {cs : Array Value} {p : Addr} {u : Value} (hp : g ≠ p.block) (h : Blk w g t cs) : Blk (w.setCell p u) g t cs := h.far hp u
theorem below_4 {g : Nat} (u : World) (a b c d : Value) : Below g u ((((u.setCell ⟨g, 0, none⟩ a).setCell ⟨g, 1, none⟩ b).setCell ⟨g, 2, none⟩ c).setCell ⟨g, 3, none⟩ d) :=
  ((((Below.refl _ _).setCell (by simp) _).setCell (by simp) _).setCell (by simp) _).setCell (by simp) _
def EqD (B g k : Nat) (w : World) (en : Ending) (w' : World) : Prop := ∃ a b c d x : Int, en = .returned (.tuple #[.agg #[.int .i64 a, .int .i64 b, .int .i64 c, .int .i64 d], .int .i64 x]) ∧ Only [g] w w' ∧ CurS B w' g (k + 40)
set_option maxRecDepth 100000 in
set_option maxHeartbeats 8000000 in
theorem equal_any {B : Nat} (g k : Nat) (P Q G : Int) (w : World) (h : CurS B w g k) (hk : k ≤ 700000) (hB : B ≤ w.heap.size) (hD : GrpD P Q G) :
    Calls Try.prog 131 #[.pointer (some ⟨g, 0, none⟩), .agg #[.int .i64 P, .int .i64 Q, .int .i64 G]] w fun en w' => EqD B g k w en w' := by
  have hg := h.lt
  have E := (((Ext.refl w).alloc (.cells #[.int .i64 P, .int .i64 Q, .int .i64 G] 38)).alloc (.cells #[.int .i64 0, .int .i64 0, .int .i64 0, .int .i64 0] 53))
  have B0 := ((Blk.new w 38 #[.int .i64 P, .int .i64 Q, .int .i64 G]).alloc (.cells #[.int .i64 0, .int .i64 0, .int .i64 0, .int .i64 0] 53))
  have B1 := (Blk.new (w.alloc (.cells #[.int .i64 P, .int .i64 Q, .int .i64 G] 38)) 53 #[.int .i64 0, .int .i64 0, .int .i64 0, .int .i64 0])
  simp only [World.size_alloc] at B1
  have h0 := h.ext E
  have hO0 := E.toOnly [g]
  have CC0 := B0.cells
  have CC1 := B1.cells
  have F1 := B1.frozen
  have CZ := ((((B1.set_ 0 (.int .i64 0)).set_ 1 (.int .i64 0)).set_ 2 (.int .i64 0)).set_ 3 (.int .i64 0)).cells
  have L1 := below_4 (g := w.heap.size + 1) ((w.alloc (.cells #[.int .i64 P, .int .i64 Q, .int .i64 G] 38)).alloc (.cells #[.int .i64 0, .int .i64 0, .int .i64 0, .int .i64 0] 53)) (.int .i64 0) (.int .i64 0) (.int .i64 0) (.int .i64 0)
  have hno : (P < 3 ∨ Q < 1) → Calls Try.prog 131 #[.pointer (some ⟨g, 0, none⟩), .agg #[.int .i64 P, .int .i64 Q, .int .i64 G]] w fun en w' => EqD B g k w en w' := by
    rintro hp
    by_cases hp1 : P < 3
    · have d1 : decide (P < 3) = true := by simp [hp1]
      clear hp
      go_enter Try.func131, Try.ntmps131
      go_wp2
      refine bodyPost_ret (v := .tuple #[.agg #[.int .i64 0, .int .i64 0, .int .i64 0, .int .i64 0], .int .i64 0]) (by simp [results, Try.results131, CZ, go_sem]) rfl ⟨0, 0, 0, 0, 0, rfl, hO0, h0.more (by omega)⟩
    · have d1 : decide (P < 3) = false := by simp; omega
      have hq1 : Q < 1 := by omega
      have d2 : decide (Q < 1) = true := by simp [hq1]
      clear hp
      go_enter Try.func131, Try.ntmps131
      go_wp2
      refine bodyPost_ret (v := .tuple #[.agg #[.int .i64 0, .int .i64 0, .int .i64 0, .int .i64 0], .int .i64 0]) (by simp [results, Try.results131, CZ, go_sem]) rfl ⟨0, 0, 0, 0, 0, rfl, hO0, h0.more (by omega)⟩
  by_cases hp : P < 3 ∨ Q < 1
  · exact hno hp
  clear hno CZ L1
  have hD' := hD
  obtain ⟨d1, d2, d3, d4, d5, d6⟩ := hD
  have hP3 : 3 ≤ P := by omega
  have hQ1 : 1 ≤ Q := by omega
  have hgb : GrpB P Q := ⟨by omega, by omega, by omega, by omega⟩
  have e1 : decide (P < 3) = false := by simp; omega
  have e2 : decide (Q < 1) = false := by simp; omega
  have hsz : ((w.alloc (.cells #[.int .i64 P, .int .i64 Q, .int .i64 G] 38)).alloc (.cells #[.int .i64 0, .int .i64 0, .int .i64 0, .int .i64 0] 53)).heap.size = w.heap.size + 2 := by simp only [World.size_alloc]
  clear hp
  go_enter Try.func131, Try.ntmps131
  go_wp2_with fail
  generalize (w.alloc (.cells #[.int .i64 P, .int .i64 Q, .int .i64 G] 38)).alloc (.cells #[.int .i64 0, .int .i64 0, .int .i64 0, .int .i64 0] 53) = Wb at *
  refine (expo_any g k P Q G _ h0 (by omega) (by omega) hD').mono ?_
  rintro en w1 ⟨x, rfl, hx0, hx1, hx2, hO1, hC1⟩
  have B01 := B0.only hO1 (by simp <;> omega)
  have B11 := B1.only hO1 (by simp <;> omega)
  have hO := hO0.thenOnly hO1
  have hs1 := hO1.size
  clear CC0 CC1 F1 hO0 hO1 h0 h B0 B1
  go_wp2
  have hSB : ∀ V, Blk V w.heap.size 38 #[.int .i64 P, .int .i64 Q, .int .i64 G] → V.cell? ⟨w.heap.size, 0, none⟩ = some (.int .i64 P) ∧ V.cell? ⟨w.heap.size, 1, none⟩ = some (.int .i64 Q) ∧ V.cell? ⟨w.heap.size, 2, none⟩ = some (.int .i64 G) := fun V h => ⟨h.cells 0, h.cells 1, h.cells 2⟩
  go_cut [7] from 20 to 26 (fun s wx => ∃ (gp : Nat) (a c : Int), s = .pointer (some ⟨gp, 0, none⟩) ∧ Blk wx gp 53 #[.int .i64 a, .int .i64 0, .int .i64 c, .int .i64 0] ∧ (0 ≤ a ∧ a ≤ 2000000000) ∧ (0 ≤ c ∧ c ≤ 2000000000) ∧ w1.heap.size ≤ gp ∧ Blk wx w.heap.size 38 #[.int .i64 P, .int .i64 Q, .int .i64 G] ∧ Blk wx (w.heap.size + 1) 53 #[.int .i64 0, .int .i64 0, .int .i64 0, .int .i64 0] ∧ Only [g] w wx ∧ CurS B wx g (k + 12))
  case first =>
    go_region_held3 (fun V => V.cell? ⟨w.heap.size, 0, none⟩ = some (.int .i64 P) ∧ V.cell? ⟨w.heap.size, 1, none⟩ = some (.int .i64 Q) ∧ V.cell? ⟨w.heap.size, 2, none⟩ = some (.int .i64 G)) (exact hSB _ (by repeat (first | with_reducible assumption | with_reducible refine Blk.drew ?_ | with_reducible refine Blk.drewN ?_ _ | with_reducible refine Blk.alloc ?_ _ | with_reducible refine Blk.farS ?_ ?_ | (show _ ≠ _; first | omega | (simp; done) | (simp; omega)))))
      (first
        | (go_at_call 146; first
            | (have hz := hC2; first
                | (refine (element0_any g _ P Q G _ hC2 (by omega) (by omega) hD').mono ?_; rintro en w3 ⟨c, rfl, hc0, hc1, hO3, hC3⟩; have B03 := B02.only hO3 (by simp <;> omega); have B13 := B12.only hO3 (by simp <;> omega); have hO3w := hO2w.thenOnly hO3; have hs3 : w2.heap.size ≤ w3.heap.size := hO3.size; first | (have BN := BN2.only hO3 (by simp <;> omega); have FZ := BN.frozen; have CN := BN.cells) | skip)
                | (refine (element0_any g _ P Q G _ (hC2.ext ((Ext.refl _).alloc _)) (by omega) (by simp; omega) hD').mono ?_; rintro en w3 ⟨c, rfl, hc0, hc1, hO3, hC3⟩; have B03 := (B02.alloc _).only hO3 (by simp <;> omega); have B13 := (B12.alloc _).only hO3 (by simp <;> omega); have hO3w := (hO2w.thenOnly (((Ext.refl _).alloc _).toOnly [g])).thenOnly hO3; have hs3 : w2.heap.size + 1 ≤ w3.heap.size := Nat.le_trans (Nat.le_of_eq (World.size_alloc w2 (.cells #[.int .i64 0, .int .i64 0, .int .i64 0, .int .i64 0] 53)).symm) hO3.size; have BN := (Blk.new w2 53 #[.int .i64 0, .int .i64 0, .int .i64 0, .int .i64 0]).only hO3 (by simp <;> omega); have FZ := BN.frozen; have CN := BN.cells)
                | fail)
            | (refine (element0_any g _ P Q G _ (hC1.ext ((Ext.refl _).drew)) (by omega) (by simp; omega) hD').mono ?_; rintro en w2 ⟨a, rfl, ha0, ha1, hO2, hC2⟩; have B02 := B01.drew.only hO2 (by simp <;> omega); have B12 := B11.drew.only hO2 (by simp <;> omega); have hO2w := (hO.drewN 1).thenOnly hO2; have hs2 : w1.heap.size ≤ w2.heap.size := hO2.size)
            | (refine (element0_any g _ P Q G _ (hC1.ext (((Ext.refl _).alloc _).drew)) (by omega) (by simp; omega) hD').mono ?_; rintro en w2 ⟨a, rfl, ha0, ha1, hO2, hC2⟩; have B02 := (B01.alloc _).drew.only hO2 (by simp <;> omega); have B12 := (B11.alloc _).drew.only hO2 (by simp <;> omega); have hO2w := ((hO.thenOnly (((Ext.refl _).alloc _).toOnly [g])).drewN 1).thenOnly hO2; have hs2 : w1.heap.size + 1 ≤ w2.heap.size := Nat.le_trans (Nat.le_of_eq (World.size_alloc w1 (.cells #[.int .i64 0, .int .i64 0, .int .i64 0, .int .i64 0] 53)).symm) hO2.size; have BN2 := (Blk.new w1 53 #[.int .i64 0, .int .i64 0, .int .i64 0, .int .i64 0]).drew.only hO2 (by simp <;> omega))
            | fail)
        | fail)
    all_goals
      go_wp2
      go_meet
      first
        | exact ⟨_, a, c, rfl, (((BN.set_ 0 (.int .i64 a)).set_ 1 (.int .i64 0)).set_ 2 (.int .i64 c)).set_ 3 (.int .i64 0), ⟨ha0, ha1⟩, ⟨hc0, hc1⟩, (by first | exact Nat.le_refl _ | omega | (simp; done) | (simp; omega)), (by repeat (first | with_reducible assumption | with_reducible refine Blk.drew ?_ | with_reducible refine Blk.drewN ?_ _ | with_reducible refine Blk.alloc ?_ _ | with_reducible refine Blk.farS ?_ ?_ | (show _ ≠ _; first | omega | (simp; done) | (simp; omega)))), (by repeat (first | with_reducible assumption | with_reducible refine Blk.drew ?_ | with_reducible refine Blk.drewN ?_ _ | with_reducible refine Blk.alloc ?_ _ | with_reducible refine Blk.farS ?_ ?_ | (show _ ≠ _; first | omega | (simp; done) | (simp; omega)))), hO3w.thenBelow (below_4 _ _ _ _ _) (by first | exact Nat.le_refl _ | omega | (simp; done) | (simp; omega)), (hC3.below ((below_4 _ _ _ _ _).mono (by first | exact Nat.le_refl _ | omega | (simp; done) | (simp; omega)))).more (by omega)⟩
        | exact ⟨_, a, c, rfl, Blk.new w3 53 #[.int .i64 a, .int .i64 0, .int .i64 c, .int .i64 0], ⟨ha0, ha1⟩, ⟨hc0, hc1⟩, (by first | exact Nat.le_refl _ | omega | (simp; done) | (simp; omega)), (by repeat (first | with_reducible assumption | with_reducible refine Blk.drew ?_ | with_reducible refine Blk.drewN ?_ _ | with_reducible refine Blk.alloc ?_ _ | with_reducible refine Blk.farS ?_ ?_ | (show _ ≠ _; first | omega | (simp; done) | (simp; omega)))), (by repeat (first | with_reducible assumption | with_reducible refine Blk.drew ?_ | with_reducible refine Blk.drewN ?_ _ | with_reducible refine Blk.alloc ?_ _ | with_reducible refine Blk.farS ?_ ?_ | (show _ ≠ _; first | omega | (simp; done) | (simp; omega)))), hO3w.thenOnly (((Ext.refl w3).alloc _).toOnly [g]), (hC3.ext ((Ext.refl w3).alloc _)).more (by omega)⟩
  case' rest =>
    clear B01 B11 hO hC1
    obtain ⟨gp, a, c, rfl, BP, ha, hc, hgp, B01, B11, hO, hC⟩ := hcut
    have z0 := hO.size
    have CP := BP.cells
    have CC0 := B01.cells
    go_wp2_with fail
    refine (gExp_any P Q G a x _ hgb (by omega) (by omega) (by omega) (by omega)).mono ?_
    rintro en w4 ⟨rfl, hb4⟩
    replace hO := hO.thenOnly (hb4.toOnly [g])
    replace hC := hC.ext hb4
    have z4 := hb4.size
    replace B01 := B01.ext hb4
    replace B11 := B11.ext hb4
    replace BP := BP.ext hb4
    clear CP CC0 hb4
    generalize gpw P Q a x = y at *
    have FP := BP.frozen
    have CP := BP.cells
    have CC0 := B01.cells
    have CC1 := (B01.far (p := ⟨gp, 1, none⟩) (by simp <;> omega) (.int .i64 y)).cells
    have CP1 := (BP.set_ 1 (.int .i64 y)).cells
    go_wp2_with fail
    refine (gExp_any P Q G c x _ hgb (by omega) (by omega) (by omega) (by omega)).mono ?_
    rintro en w5 ⟨rfl, hb5⟩
    replace hO := (hO.thenBelow ((Below.refl gp w4).setCell (p := ⟨gp, 1, none⟩) (by simp) (.int .i64 y)) (by omega)).thenOnly (hb5.toOnly [g])
    replace hC := (hC.below ((Below.refl B w4).setCell (p := ⟨gp, 1, none⟩) (by simp; omega) (.int .i64 y))).ext hb5
    have z5 : w4.heap.size ≤ w5.heap.size := Nat.le_trans (by simp) hb5.size
    replace B01 := (B01.far (p := ⟨gp, 1, none⟩) (by simp <;> omega) (.int .i64 y)).ext hb5
    replace B11 := (B11.far (p := ⟨gp, 1, none⟩) (by simp <;> omega) (.int .i64 y)).ext hb5
    replace BP : Blk w5 gp 53 #[.int .i64 a, .int .i64 y, .int .i64 c, .int .i64 0] := (BP.set_ 1 (.int .i64 y)).ext hb5
    clear CP CC0 CC1 CP1 FP hb5
    generalize gpw P Q c x = v at *
    have FP := BP.frozen
    have CP := BP.cells
    have CC0 := B01.cells
    go_wp2_with fail
    replace hO := hO.thenBelow ((Below.refl gp w5).setCell (p := ⟨gp, 3, none⟩) (by simp) (.int .i64 v)) (by omega)
    replace hC := hC.below ((Below.refl B w5).setCell (p := ⟨gp, 3, none⟩) (by simp; omega) (.int .i64 v))
    replace B01 := B01.far (p := ⟨gp, 3, none⟩) (by simp <;> omega) (.int .i64 v)
    replace B11 := B11.far (p := ⟨gp, 3, none⟩) (by simp <;> omega) (.int .i64 v)
    replace BP : Blk (w5.setCell ⟨gp, 3, none⟩ (.int .i64 v)) gp 53 #[.int .i64 a, .int .i64 y, .int .i64 c, .int .i64 v] := BP.set_ 3 (.int .i64 v)
    clear CP CC0 FP
    have zs : (w5.setCell ⟨gp, 3, none⟩ (.int .i64 v)).heap.size = w5.heap.size := by simp
    generalize w5.setCell ⟨gp, 3, none⟩ (.int .i64 v) = w5' at *
    refine (one_any g _ 10 _ hC (by omega) (by omega)).mono ?_
    rintro en w6 ⟨b, rfl, hO6, hC6⟩
    replace hO := hO.thenOnly hO6
    replace B01 := B01.only hO6 (by simp <;> omega)
    replace B11 := B11.only hO6 (by simp <;> omega)
    replace BP := BP.only hO6 (by simp <;> omega)
    have z6 := hO6.size
    clear hC hO6
    cases b
    · have F11 := B11.frozen
      have C11 := B11.cells
      have CP := BP.cells
      have CZ := ((((B11.set_ 0 (.int .i64 a)).set_ 1 (.int .i64 y)).set_ 2 (.int .i64 c)).set_ 3 (.int .i64 v)).cells
      have L1 := below_4 (g := w.heap.size + 1) w6 (.int .i64 a) (.int .i64 y) (.int .i64 c) (.int .i64 v)
      go_wp2
      refine bodyPost_ret (v := .tuple #[.agg #[.int .i64 a, .int .i64 y, .int .i64 c, .int .i64 v], .int .i64 x]) (by simp [results, Try.results131, CZ, go_sem]) rfl ⟨a, y, c, v, x, rfl, hO.thenBelow L1 (by omega), (hC6.below (L1.mono (by omega))).more (by omega)⟩
    · have CC0 := B01.cells
      go_wp2_with fail
      refine (anyElement_any g _ P Q G _ hC6 (by omega) (by omega) hD').mono ?_
      rintro en w7 ⟨r, rfl, hr0, hr1, hO7, hC7⟩
      replace hO := hO.thenOnly hO7
      replace B11 := B11.only hO7 (by simp <;> omega)
      replace BP := BP.only hO7 (by simp <;> omega)
      have z7 := hO7.size
      clear CC0 hC6 hO7 B01
      have FP := BP.frozen
      have BP2 : Blk (w7.setCell ⟨gp, 3, none⟩ (.int .i64 r)) gp 53 #[.int .i64 a, .int .i64 y, .int .i64 c, .int .i64 r] := BP.set_ 3 (.int .i64 r)
      have F11 := (B11.far (p := ⟨gp, 3, none⟩) (by simp <;> omega) (.int .i64 r)).frozen
      have C11 := (B11.far (p := ⟨gp, 3, none⟩) (by simp <;> omega) (.int .i64 r)).cells
      have CP0 := BP.cells
      have CP := BP2.cells
      have CZ := (((((B11.far (p := ⟨gp, 3, none⟩) (by simp <;> omega) (.int .i64 r)).set_ 0 (.int .i64 a)).set_ 1 (.int .i64 y)).set_ 2 (.int .i64 c)).set_ 3 (.int .i64 r)).cells
      have L1 := below_4 (g := w.heap.size + 1) (w7.setCell ⟨gp, 3, none⟩ (.int .i64 r)) (.int .i64 a) (.int .i64 y) (.int .i64 c) (.int .i64 r)
      go_wp2
      refine bodyPost_ret (v := .tuple #[.agg #[.int .i64 a, .int .i64 y, .int .i64 c, .int .i64 r], .int .i64 x]) (by simp [results, Try.results131, CZ, go_sem]) rfl ⟨a, y, c, r, x, rfl, (hO.thenBelow ((Below.refl gp w7).setCell (p := ⟨gp, 3, none⟩) (by simp) (.int .i64 r)) (by omega)).thenBelow L1 (by omega), ((hC7.below ((Below.refl B w7).setCell (p := ⟨gp, 3, none⟩) (by simp; omega) (.int .i64 r))).below (L1.mono (by omega))).more (by omega)⟩
/-- At the return: a group and a statement of equal logarithms that lie in cells, an int. -/
theorem ret_gei {fn : Func} {w : World} {g g2 : Nat} {t u v : Tmp} {a b c x y z r n : Int} {tm : Array Value} {Q : Ending → World → Prop}
    (B : Blk w g 38 #[.int .i64 a, .int .i64 b, .int .i64 c]) (B2 : Blk w g2 53 #[.int .i64 x, .int .i64 y, .int .i64 z, .int .i64 r])
    (h : fn.results = #[.cell t 38, .cell u 53, .tmp v]) (ht : tm.getD t undef = .pointer (some ⟨g, 0, none⟩)) (hu : tm.getD u undef = .pointer (some ⟨g2, 0, none⟩)) (hv : tm.getD v undef = .int .i64 n) (hQ : Q (.returned (.tuple #[.agg #[.int .i64 a, .int .i64 b, .int .i64 c], .agg #[.int .i64 x, .int .i64 y, .int .i64 z, .int .i64 r], .int .i64 n])) w) :
    bodyPost Try.prog fn Q .ret { tmps := tm, defers := [] } w := by
  have C := B.cells
  have C2 := B2.cells
  refine bodyPost_ret (v := .tuple #[.agg #[.int .i64 a, .int .i64 b, .int .i64 c], .agg #[.int .i64 x, .int .i64 y, .int .i64 z, .int .i64 r], .int .i64 n]) ?_ rfl hQ
  have ht' : (tm[t]?).getD undef = .pointer (some ⟨g, 0, none⟩) := by simpa using ht
  have hu' : (tm[u]?).getD undef = .pointer (some ⟨g2, 0, none⟩) := by simpa using hu
  have hv' : (tm[v]?).getD undef = .int .i64 n := by simpa using hv
  simp [results, h, ht', hu', hv', go_sem, C, C2]

def DrawnGEI (w : World) (e : Ending) (w' : World) : Prop := ∃ P Q G a b c d x : Int, e = .returned (.tuple #[.agg #[.int .i64 P, .int .i64 Q, .int .i64 G], .agg #[.int .i64 a, .int .i64 b, .int .i64 c, .int .i64 d], .int .i64 x]) ∧ GrpD P Q G ∧ Ext w w'
set_option maxRecDepth 100000 in
set_option maxHeartbeats 4000000 in
theorem DrawIsTrueEqual_any (A : Option Addr) (n c : Nat) (l : List Int) (w : World) (hR : RdB w A l) (hl : l.length = n) (hn : n ≤ 9223372036854775807) (hx : ∀ x ∈ l, 0 ≤ x ∧ x ≤ 255) :
    Calls Try.prog 63 #[.slice A n c] w fun e w' => DrawnGEI w e w' := by
  have hE0 := ((Ext.refl w).alloc (.cells #[.int .i64 0, .int .i64 0, .int .i64 0] 38)).alloc (.cells #[.int .i64 0, .int .i64 0, .int .i64 0, .int .i64 0] 53)
  have B2 := (Blk.new w 38 #[.int .i64 0, .int .i64 0, .int .i64 0]).alloc (.cells #[.int .i64 0, .int .i64 0, .int .i64 0, .int .i64 0] 53)
  have B3 := Blk.new (w.alloc (.cells #[.int .i64 0, .int .i64 0, .int .i64 0] 38)) 53 #[.int .i64 0, .int .i64 0, .int .i64 0, .int .i64 0]
  have hC := new_cur (c := c) (hR.ext hE0) hl hn hx
  simp only [World.size_alloc] at hC B3
  clear hl hx hR
  replace B2 := B2.alloc (.cells #[.slice A n c, .int .i64 0, .int .u64 0] 112)
  replace B3 := B3.alloc (.cells #[.slice A n c, .int .i64 0, .int .u64 0] 112)
  have hE1 := hE0.alloc (.cells #[.slice A n c, .int .i64 0, .int .u64 0] 112)
  go_enter Try.func63, Try.ntmps63
  go_wp2_with fail
  refine (anyGroup_any (w.heap.size + 1 + 1) 0 _ hC (by omega) (by simp)).mono ?_
  rintro e w1 ⟨P, Q, G, rfl, hD, hO1, hC1⟩
  have hsz1 : w.heap.size + 3 ≤ w1.heap.size := by have := hO1.size; simp at this; omega
  have E := hE1.only hO1 (fun b hb => by simp at hb; omega)
  have B6 := Blk.new w1 38 #[.int .i64 P, .int .i64 Q, .int .i64 G]
  have E6 := (Ext.refl w1).alloc (.cells #[.int .i64 P, .int .i64 Q, .int .i64 G] 38)
  replace B2 := (B2.only hO1 (by simp <;> omega)).ext E6
  replace B3 := (B3.only hO1 (by simp <;> omega)).ext E6
  replace E := E.trans E6
  have hC5 := hC1.ext E6
  clear hE0 hE1 hC hO1 hC1 E6
  go_upto_region 3 with (fail)
  have hs5 : w1.heap.size < (w1.alloc (.cells #[.int .i64 P, .int .i64 Q, .int .i64 G] 38)).heap.size := by simp
  generalize hg6 : w1.heap.size = g6 at *
  generalize hW6 : w1.alloc (.cells #[.int .i64 P, .int .i64 Q, .int .i64 G] 38) = w2 at *
  clear hW6 hg6 w1
  have C6 := B6.cells
  go_wp2_with fail
  refine (equal_any (w.heap.size + 1 + 1) _ P Q G _ hC5 (by omega) (by omega) hD).mono ?_
  rintro e w3 ⟨a, b, c, d, x, rfl, hO3, hC3⟩
  have hsz3 := hO3.size
  have B7 := Blk.new w3 53 #[.int .i64 a, .int .i64 b, .int .i64 c, .int .i64 d]
  have E7 := (Ext.refl w3).alloc (.cells #[.int .i64 a, .int .i64 b, .int .i64 c, .int .i64 d] 53)
  replace B2 := (B2.only hO3 (by simp <;> omega)).ext E7
  replace B3 := (B3.only hO3 (by simp <;> omega)).ext E7
  replace B6 := (B6.only hO3 (by simp <;> omega)).ext E7
  replace E := (E.only hO3 (fun b hb => by simp at hb; omega)).trans E7
  have hC7 := hC3.ext E7
  clear hC5 hO3 hC3 E7 C6
  go_upto_region 4 with (fail)
  have hs7 : w3.heap.size < (w3.alloc (.cells #[.int .i64 a, .int .i64 b, .int .i64 c, .int .i64 d] 53)).heap.size := by simp
  generalize hg7 : w3.heap.size = g7 at *
  generalize hW7 : w3.alloc (.cells #[.int .i64 a, .int .i64 b, .int .i64 c, .int .i64 d] 53) = w4 at *
  clear hW7 hg7 w3
  go_wp2_with fail
  refine (one_any (w.heap.size + 1 + 1) _ 6 _ hC7 (by omega) (by omega)).mono ?_
  rintro e w5 ⟨t, rfl, hO5, hC5⟩
  have hsz5 := hO5.size
  replace B2 := B2.only hO5 (by simp <;> omega)
  replace B3 := B3.only hO5 (by simp <;> omega)
  replace B6 := B6.only hO5 (by simp <;> omega)
  replace B7 := B7.only hO5 (by simp <;> omega)
  replace E := E.only hO5 (fun b hb => by simp at hb; omega)
  clear hC7 hO5
  cases t
  · clear hC5
    have C2 := B2.cells
    have F2 := B2.frozen
    have B30 := ((B3.far (p := ⟨w.heap.size, 0, none⟩) (by simp) (.int .i64 P)).far (p := ⟨w.heap.size, 1, none⟩) (by simp) (.int .i64 Q)).far (p := ⟨w.heap.size, 2, none⟩) (by simp) (.int .i64 G)
    have C3 := B30.cells
    have F3 := B30.frozen
    have hS : ∀ V, Blk V g6 38 #[.int .i64 P, .int .i64 Q, .int .i64 G] → Blk V g7 53 #[.int .i64 a, .int .i64 b, .int .i64 c, .int .i64 d] → V.cell? ⟨g6, 0, none⟩ = some (.int .i64 P) ∧ V.cell? ⟨g6, 1, none⟩ = some (.int .i64 Q) ∧ V.cell? ⟨g6, 2, none⟩ = some (.int .i64 G) ∧ V.cell? ⟨g7, 0, none⟩ = some (.int .i64 a) ∧ V.cell? ⟨g7, 1, none⟩ = some (.int .i64 b) ∧ V.cell? ⟨g7, 2, none⟩ = some (.int .i64 c) ∧ V.cell? ⟨g7, 3, none⟩ = some (.int .i64 d) := fun V h h2 => ⟨h.cells 0, h.cells 1, h.cells 2, h2.cells 0, h2.cells 1, h2.cells 2, h2.cells 3⟩
    go_wp2
    go_region_held3 (fun V => V.cell? ⟨g6, 0, none⟩ = some (.int .i64 P) ∧ V.cell? ⟨g6, 1, none⟩ = some (.int .i64 Q) ∧ V.cell? ⟨g6, 2, none⟩ = some (.int .i64 G) ∧ V.cell? ⟨g7, 0, none⟩ = some (.int .i64 a) ∧ V.cell? ⟨g7, 1, none⟩ = some (.int .i64 b) ∧ V.cell? ⟨g7, 2, none⟩ = some (.int .i64 c) ∧ V.cell? ⟨g7, 3, none⟩ = some (.int .i64 d)) (exact hS _ (by repeat (first | with_reducible assumption | with_reducible refine Blk.drew ?_ | with_reducible refine Blk.drewN ?_ _ | with_reducible refine Blk.alloc ?_ _ | with_reducible refine Blk.farS ?_ ?_ | (show _ ≠ _; first | omega | (simp; done) | (simp; omega)))) (by repeat (first | with_reducible assumption | with_reducible refine Blk.drew ?_ | with_reducible refine Blk.drewN ?_ _ | with_reducible refine Blk.alloc ?_ _ | with_reducible refine Blk.farS ?_ ?_ | (show _ ≠ _; first | omega | (simp; done) | (simp; omega))))) (fail)
    all_goals
      go_wp2
      refine ret_gei (a := P) (b := Q) (c := G) (x := a) (y := b) (z := c) (r := d) (Blk.drew (((((((B2.set_ 0 (.int .i64 P)).set_ 1 (.int .i64 Q)).set_ 2 (.int .i64 G)).far (p := ⟨w.heap.size + 1, 0, none⟩) (by simp) (.int .i64 a)).far (p := ⟨w.heap.size + 1, 1, none⟩) (by simp) (.int .i64 b)).far (p := ⟨w.heap.size + 1, 2, none⟩) (by simp) (.int .i64 c)).far (p := ⟨w.heap.size + 1, 3, none⟩) (by simp) (.int .i64 d))) (Blk.drew ((((B30.set_ 0 (.int .i64 a)).set_ 1 (.int .i64 b)).set_ 2 (.int .i64 c)).set_ 3 (.int .i64 d))) rfl rfl rfl rfl ?_
      exact ⟨P, Q, G, a, b, c, d, _, rfl, hD, Ext.drew ((E.then (below_three (g := w.heap.size) _ (.int .i64 P) (.int .i64 Q) (.int .i64 G)) (Nat.le_refl _)).then (below_4 (g := w.heap.size + 1) _ _ _ _ _) (by omega))⟩
  · have C6 := B6.cells
    go_wp2_with fail
    refine (anyExpo_any (w.heap.size + 1 + 1) _ P Q G _ hC5 (by omega) (by omega) hD).mono ?_
    rintro e w6 ⟨y, rfl, _, _, hO6, hC6⟩
    replace B2 := B2.only hO6 (by simp <;> omega)
    replace B3 := B3.only hO6 (by simp <;> omega)
    replace B6 := B6.only hO6 (by simp <;> omega)
    replace B7 := B7.only hO6 (by simp <;> omega)
    replace E := E.only hO6 (fun b hb => by simp at hb; omega)
    clear C6 hC5 hO6
    have C2 := B2.cells
    have F2 := B2.frozen
    have B30 := ((B3.far (p := ⟨w.heap.size, 0, none⟩) (by simp) (.int .i64 P)).far (p := ⟨w.heap.size, 1, none⟩) (by simp) (.int .i64 Q)).far (p := ⟨w.heap.size, 2, none⟩) (by simp) (.int .i64 G)
    have C3 := B30.cells
    have F3 := B30.frozen
    have hS : ∀ V, Blk V g6 38 #[.int .i64 P, .int .i64 Q, .int .i64 G] → Blk V g7 53 #[.int .i64 a, .int .i64 b, .int .i64 c, .int .i64 d] → V.cell? ⟨g6, 0, none⟩ = some (.int .i64 P) ∧ V.cell? ⟨g6, 1, none⟩ = some (.int .i64 Q) ∧ V.cell? ⟨g6, 2, none⟩ = some (.int .i64 G) ∧ V.cell? ⟨g7, 0, none⟩ = some (.int .i64 a) ∧ V.cell? ⟨g7, 1, none⟩ = some (.int .i64 b) ∧ V.cell? ⟨g7, 2, none⟩ = some (.int .i64 c) ∧ V.cell? ⟨g7, 3, none⟩ = some (.int .i64 d) := fun V h h2 => ⟨h.cells 0, h.cells 1, h.cells 2, h2.cells 0, h2.cells 1, h2.cells 2, h2.cells 3⟩
    go_wp2
    go_region_held3 (fun V => V.cell? ⟨g6, 0, none⟩ = some (.int .i64 P) ∧ V.cell? ⟨g6, 1, none⟩ = some (.int .i64 Q) ∧ V.cell? ⟨g6, 2, none⟩ = some (.int .i64 G) ∧ V.cell? ⟨g7, 0, none⟩ = some (.int .i64 a) ∧ V.cell? ⟨g7, 1, none⟩ = some (.int .i64 b) ∧ V.cell? ⟨g7, 2, none⟩ = some (.int .i64 c) ∧ V.cell? ⟨g7, 3, none⟩ = some (.int .i64 d)) (exact hS _ (by repeat (first | with_reducible assumption | with_reducible refine Blk.drew ?_ | with_reducible refine Blk.drewN ?_ _ | with_reducible refine Blk.alloc ?_ _ | with_reducible refine Blk.farS ?_ ?_ | (show _ ≠ _; first | omega | (simp; done) | (simp; omega)))) (by repeat (first | with_reducible assumption | with_reducible refine Blk.drew ?_ | with_reducible refine Blk.drewN ?_ _ | with_reducible refine Blk.alloc ?_ _ | with_reducible refine Blk.farS ?_ ?_ | (show _ ≠ _; first | omega | (simp; done) | (simp; omega))))) (fail)
    all_goals
      go_wp2
      refine ret_gei (a := P) (b := Q) (c := G) (x := a) (y := b) (z := c) (r := d) (Blk.drew (((((((B2.set_ 0 (.int .i64 P)).set_ 1 (.int .i64 Q)).set_ 2 (.int .i64 G)).far (p := ⟨w.heap.size + 1, 0, none⟩) (by simp) (.int .i64 a)).far (p := ⟨w.heap.size + 1, 1, none⟩) (by simp) (.int .i64 b)).far (p := ⟨w.heap.size + 1, 2, none⟩) (by simp) (.int .i64 c)).far (p := ⟨w.heap.size + 1, 3, none⟩) (by simp) (.int .i64 d))) (Blk.drew ((((B30.set_ 0 (.int .i64 a)).set_ 1 (.int .i64 b)).set_ 2 (.int .i64 c)).set_ 3 (.int .i64 d))) rfl rfl rfl rfl ?_
      exact ⟨P, Q, G, a, b, c, d, _, rfl, hD, Ext.drew ((E.then (below_three (g := w.heap.size) _ (.int .i64 P) (.int .i64 Q) (.int .i64 G)) (Nat.le_refl _)).then (below_4 (g := w.heap.size + 1) _ _ _ _ _) (by omega))⟩

/-- At the return: a group in a cell, a label, a statement of equal logarithms in a cell, two ints. -/
theorem ret_gseii {fn : Func} {w : World} {g g2 : Nat} {t u v t2 v2 : Tmp} {a b c x y z r n m : Int} {s : ByteArray} {tm : Array Value} {Q : Ending → World → Prop}
    (B : Blk w g 38 #[.int .i64 a, .int .i64 b, .int .i64 c]) (B2 : Blk w g2 53 #[.int .i64 x, .int .i64 y, .int .i64 z, .int .i64 r])
    (h : fn.results = #[.cell t 38, .tmp t2, .cell u 53, .tmp v, .tmp v2]) (ht : tm.getD t undef = .pointer (some ⟨g, 0, none⟩)) (ht2 : tm.getD t2 undef = .string s) (hu : tm.getD u undef = .pointer (some ⟨g2, 0, none⟩)) (hv : tm.getD v undef = .int .i64 n) (hv2 : tm.getD v2 undef = .int .i64 m) (hQ : Q (.returned (.tuple #[.agg #[.int .i64 a, .int .i64 b, .int .i64 c], .string s, .agg #[.int .i64 x, .int .i64 y, .int .i64 z, .int .i64 r], .int .i64 n, .int .i64 m])) w) :
    bodyPost Try.prog fn Q .ret { tmps := tm, defers := [] } w := by
  have C := B.cells
  have C2 := B2.cells
  refine bodyPost_ret (v := .tuple #[.agg #[.int .i64 a, .int .i64 b, .int .i64 c], .string s, .agg #[.int .i64 x, .int .i64 y, .int .i64 z, .int .i64 r], .int .i64 n, .int .i64 m]) ?_ rfl hQ
  have ht' : (tm[t]?).getD undef = .pointer (some ⟨g, 0, none⟩) := by simpa using ht
  have hs' : (tm[t2]?).getD undef = .string s := by simpa using ht2
  have hu' : (tm[u]?).getD undef = .pointer (some ⟨g2, 0, none⟩) := by simpa using hu
  have hv' : (tm[v]?).getD undef = .int .i64 n := by simpa using hv
  have hm' : (tm[v2]?).getD undef = .int .i64 m := by simpa using hv2
  simp [results, h, ht', hs', hu', hv', hm', go_sem, C, C2]

def DrawnGSEII (w : World) (e : Ending) (w' : World) : Prop := ∃ (P Q G : Int) (s : ByteArray) (a b c d x y : Int), e = .returned (.tuple #[.agg #[.int .i64 P, .int .i64 Q, .int .i64 G], .string s, .agg #[.int .i64 a, .int .i64 b, .int .i64 c, .int .i64 d], .int .i64 x, .int .i64 y]) ∧ GrpD P Q G ∧ s.size ≤ 100 ∧ Ext w w'
set_option maxRecDepth 100000 in
set_option maxHeartbeats 8000000 in
theorem DrawProveEqual_any (A : Option Addr) (n c : Nat) (l : List Int) (w : World) (hR : RdB w A l) (hl : l.length = n) (hn : n ≤ 9223372036854775807) (hx : ∀ x ∈ l, 0 ≤ x ∧ x ≤ 255) :
    Calls Try.prog 15 #[.slice A n c] w fun e w' => DrawnGSEII w e w' := by
  have hE0 := ((Ext.refl w).alloc (.cells #[.int .i64 0, .int .i64 0, .int .i64 0] 38)).alloc (.cells #[.int .i64 0, .int .i64 0, .int .i64 0, .int .i64 0] 53)
  have B2 := (Blk.new w 38 #[.int .i64 0, .int .i64 0, .int .i64 0]).alloc (.cells #[.int .i64 0, .int .i64 0, .int .i64 0, .int .i64 0] 53)
  have B3 := Blk.new (w.alloc (.cells #[.int .i64 0, .int .i64 0, .int .i64 0] 38)) 53 #[.int .i64 0, .int .i64 0, .int .i64 0, .int .i64 0]
  have hC := new_cur (c := c) (hR.ext hE0) hl hn hx
  simp only [World.size_alloc] at hC B3
  replace B2 := B2.alloc (.cells #[.slice A n c, .int .i64 0, .int .u64 0] 112)
  replace B3 := B3.alloc (.cells #[.slice A n c, .int .i64 0, .int .u64 0] 112)
  have hE1 := hE0.alloc (.cells #[.slice A n c, .int .i64 0, .int .u64 0] 112)
  have hR1 := hR.ext hE1
  go_enter Try.func15, Try.ntmps15
  go_wp2_with fail
  have hsz0 : w.heap.size + 3 = (((w.alloc (.cells #[.int .i64 0, .int .i64 0, .int .i64 0] 38)).alloc (.cells #[.int .i64 0, .int .i64 0, .int .i64 0, .int .i64 0] 53)).alloc (.cells #[.slice A n c, .int .i64 0, .int .u64 0] 112)).heap.size := by simp
  generalize ((w.alloc (.cells #[.int .i64 0, .int .i64 0, .int .i64 0] 38)).alloc (.cells #[.int .i64 0, .int .i64 0, .int .i64 0, .int .i64 0] 53)).alloc (.cells #[.slice A n c, .int .i64 0, .int .u64 0] 112) = w0 at *
  refine (DrawIsTrueEqual_any A n c l _ hR1 hl hn hx).mono ?_
  rintro e w1 ⟨P, Q, G, a, b, c', d, x, rfl, hD, hE2⟩
  have hsz1 := hE2.size
  have E := hE1.trans hE2
  have E6 := ((Ext.refl w1).alloc (.cells #[.int .i64 P, .int .i64 Q, .int .i64 G] 38)).alloc (.cells #[.int .i64 a, .int .i64 b, .int .i64 c', .int .i64 d] 53)
  have B6 := (Blk.new w1 38 #[.int .i64 P, .int .i64 Q, .int .i64 G]).alloc (.cells #[.int .i64 a, .int .i64 b, .int .i64 c', .int .i64 d] 53)
  have B7 := Blk.new (w1.alloc (.cells #[.int .i64 P, .int .i64 Q, .int .i64 G] 38)) 53 #[.int .i64 a, .int .i64 b, .int .i64 c', .int .i64 d]
  simp only [World.size_alloc] at B7
  replace B2 := (B2.ext hE2).ext E6
  replace B3 := (B3.ext hE2).ext E6
  replace E := E.trans E6
  replace hC := (hC.ext hE2).ext E6
  clear hl hx hR hE0 hE1 hR1 hE2 E6
  go_wp2_with fail
  have hs5 : w1.heap.size + 1 < ((w1.alloc (.cells #[.int .i64 P, .int .i64 Q, .int .i64 G] 38)).alloc (.cells #[.int .i64 a, .int .i64 b, .int .i64 c', .int .i64 d] 53)).heap.size := by simp
  generalize (w1.alloc (.cells #[.int .i64 P, .int .i64 Q, .int .i64 G] 38)).alloc (.cells #[.int .i64 a, .int .i64 b, .int .i64 c', .int .i64 d] 53) = w2 at *
  generalize hg7 : w1.heap.size + 1 = g7 at *
  generalize hg6 : w1.heap.size = g6 at *
  have h67 : g6 < g7 := by omega
  clear hg6 hg7
  clear w1
  have hS : ∀ V, Blk V g6 38 #[.int .i64 P, .int .i64 Q, .int .i64 G] → Blk V g7 53 #[.int .i64 a, .int .i64 b, .int .i64 c', .int .i64 d] → V.cell? ⟨g6, 0, none⟩ = some (.int .i64 P) ∧ V.cell? ⟨g6, 1, none⟩ = some (.int .i64 Q) ∧ V.cell? ⟨g6, 2, none⟩ = some (.int .i64 G) ∧ V.cell? ⟨g7, 0, none⟩ = some (.int .i64 a) ∧ V.cell? ⟨g7, 1, none⟩ = some (.int .i64 b) ∧ V.cell? ⟨g7, 2, none⟩ = some (.int .i64 c') ∧ V.cell? ⟨g7, 3, none⟩ = some (.int .i64 d) := fun V h h2 => ⟨h.cells 0, h.cells 1, h.cells 2, h2.cells 0, h2.cells 1, h2.cells 2, h2.cells 3⟩
  go_region_held3 (fun V => V.cell? ⟨g6, 0, none⟩ = some (.int .i64 P) ∧ V.cell? ⟨g6, 1, none⟩ = some (.int .i64 Q) ∧ V.cell? ⟨g6, 2, none⟩ = some (.int .i64 G) ∧ V.cell? ⟨g7, 0, none⟩ = some (.int .i64 a) ∧ V.cell? ⟨g7, 1, none⟩ = some (.int .i64 b) ∧ V.cell? ⟨g7, 2, none⟩ = some (.int .i64 c') ∧ V.cell? ⟨g7, 3, none⟩ = some (.int .i64 d)) (exact hS _ (by repeat (first | with_reducible assumption | with_reducible refine Blk.drew ?_ | with_reducible refine Blk.drewN ?_ _ | with_reducible refine Blk.alloc ?_ _ | with_reducible refine Blk.farS ?_ ?_ | (show _ ≠ _; first | omega | (simp; done) | (simp; omega)))) (by repeat (first | with_reducible assumption | with_reducible refine Blk.drew ?_ | with_reducible refine Blk.drewN ?_ _ | with_reducible refine Blk.alloc ?_ _ | with_reducible refine Blk.farS ?_ ?_ | (show _ ≠ _; first | omega | (simp; done) | (simp; omega)))))
    (first
      | (go_at_call 64; refine (label_any (w.heap.size + 1 + 1) _ _ (hC.ext ((Ext.refl _).drew)) (by omega) (by simp; omega)).mono ?_; rintro e w3 ⟨s, rfl, hs, hO3, hC3⟩; have hsz3 : w2.heap.size ≤ w3.heap.size := hO3.size; have B23 := B2.drew.only hO3 (by simp <;> omega); have B33 := B3.drew.only hO3 (by simp <;> omega); have B63 := B6.drew.only hO3 (by simp <;> omega); have B73 := B7.drew.only hO3 (by simp <;> omega))
      | (go_at_call 65; refine (anyExpo_any (w.heap.size + 1 + 1) _ P Q G _ hC3 (by omega) (by omega) hD).mono ?_; rintro e w4 ⟨y, rfl, _, _, hO4, hC4⟩; have B24 := B23.only hO4 (by simp <;> omega); have B34 := B33.only hO4 (by simp <;> omega); have B64 := B63.only hO4 (by simp <;> omega); have B74 := B73.only hO4 (by simp <;> omega); have C24 := B24.cells; have F24 := B24.frozen;
          have B30 := ((B34.far (p := ⟨w.heap.size, 0, none⟩) (by simp) (.int .i64 P)).far (p := ⟨w.heap.size, 1, none⟩) (by simp) (.int .i64 Q)).far (p := ⟨w.heap.size, 2, none⟩) (by simp) (.int .i64 G); have C30 := B30.cells; have F30 := B30.frozen)
      | fail)
  all_goals
    go_wp2
    refine ret_gseii (a := P) (b := Q) (c := G) (x := a) (y := b) (z := c') (r := d) (s := s) (((((((B24.set_ 0 (.int .i64 P)).set_ 1 (.int .i64 Q)).set_ 2 (.int .i64 G)).far (p := ⟨w.heap.size + 1, 0, none⟩) (by simp) (.int .i64 a)).far (p := ⟨w.heap.size + 1, 1, none⟩) (by simp) (.int .i64 b)).far (p := ⟨w.heap.size + 1, 2, none⟩) (by simp) (.int .i64 c')).far (p := ⟨w.heap.size + 1, 3, none⟩) (by simp) (.int .i64 d)) ((((B30.set_ 0 (.int .i64 a)).set_ 1 (.int .i64 b)).set_ 2 (.int .i64 c')).set_ 3 (.int .i64 d)) rfl rfl rfl rfl rfl rfl ?_
    exact ⟨P, Q, G, s, a, b, c', d, x, y, rfl, hD, hs, (((E.drew.only hO3 (fun b hb => by simp at hb; omega)).only hO4 (fun b hb => by simp at hb; omega)).then (below_three (g := w.heap.size) _ (.int .i64 P) (.int .i64 Q) (.int .i64 G)) (Nat.le_refl _)).then (below_4 (g := w.heap.size + 1) _ _ _ _ _) (by omega)⟩
end Go.Proofs.Ytpfccboighdcbaa
