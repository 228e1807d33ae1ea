/- Contracts for VerifyEqual (both sides) and ProveEqual of the reference. (Printed by tools/gen_sig6.py.) -/
import Derived.Test.YtpfccboighdcbaaProg
import Derived.Test.YtpfccboighdcbaaSig5
namespace Go.Proofs.Ytpfccboighdcbaa
open Go.RowKit
set_option linter.unusedSimpArgs false
set_option linter.unusedVariables false

set_option maxRecDepth 100000 in
set_option maxHeartbeats 8000000 in
theorem iVerifyEqual_any (p q g : Int) (s : ByteArray) (g1 y1 g2 y2 : Int) (C1 C2 C3 : Option Addr) (k1 e1 k2 e2 k3 e3 : Nat) (cm ch rs : List Int) (w : World) (hs : s.size ≤ 1000) (s1 : SlI w C1 k1 e1 cm) (s2 : SlI w C2 k2 e2 ch) (s3 : SlI w C3 k3 e3 rs) :
    Calls Try.prog 19 #[.agg #[.int .i64 p, .int .i64 q, .int .i64 g], .string s, .agg #[.int .i64 g1, .int .i64 y1, .int .i64 g2, .int .i64 y2], .agg #[.slice C1 k1 e1, .slice C2 k2 e2, .slice C3 k3 e3]] w fun en w' => en = .returned (.tuple #[.bool (veK p q g s g1 y1 g2 y2 && lvB p q g s [[g1], [g2]] [y1, y2] cm ch rs), .bool (veK p q g s g1 y1 g2 y2)]) ∧ Ext w w' := by
  obtain ⟨K, hK⟩ : ∃ K, veK p q g s g1 y1 g2 y2 = K := ⟨_, rfl⟩
  obtain ⟨V, hV⟩ : ∃ V, (veK p q g s g1 y1 g2 y2 && lvB p q g s [[g1], [g2]] [y1, y2] cm ch rs) = V := ⟨_, rfl⟩
  rw [hV, hK]
  have HK : Hid (vlK p q g s [[g1], [g2]] [y1, y2] = K) := by show _ = _; rw [vl_eq, hK]
  have HV : Hid ((vlK p q g s [[g1], [g2]] [y1, y2] && lvB p q g s [[g1], [g2]] [y1, y2] cm ch rs) = V) := by show _ = _; rw [vl_eq, hV]
  clear hK hV
  have E := ((((Ext.refl w).alloc (.cells #[.int .i64 p, .int .i64 q, .int .i64 g] 38)).alloc (.cells #[.int .i64 g1, .int .i64 y1, .int .i64 g2, .int .i64 y2] 53)).alloc (.cells #[.slice C1 k1 e1, .slice C2 k2 e2, .slice C3 k3 e3] 44))
  have B0 := (((Blk.new w 38 #[.int .i64 p, .int .i64 q, .int .i64 g]).alloc (.cells #[.int .i64 g1, .int .i64 y1, .int .i64 g2, .int .i64 y2] 53)).alloc (.cells #[.slice C1 k1 e1, .slice C2 k2 e2, .slice C3 k3 e3] 44))
  have B1 := ((Blk.new (w.alloc (.cells #[.int .i64 p, .int .i64 q, .int .i64 g] 38)) 53 #[.int .i64 g1, .int .i64 y1, .int .i64 g2, .int .i64 y2]).alloc (.cells #[.slice C1 k1 e1, .slice C2 k2 e2, .slice C3 k3 e3] 44))
  have B2 := (Blk.new ((w.alloc (.cells #[.int .i64 p, .int .i64 q, .int .i64 g] 38)).alloc (.cells #[.int .i64 g1, .int .i64 y1, .int .i64 g2, .int .i64 y2] 53)) 44 #[.slice C1 k1 e1, .slice C2 k2 e2, .slice C3 k3 e3])
  simp only [World.size_alloc] at B1 B2
  go_enter Try.func19, Try.ntmps19
  go_wp2
  generalize ((w.alloc (.cells #[.int .i64 p, .int .i64 q, .int .i64 g] 38)).alloc (.cells #[.int .i64 g1, .int .i64 y1, .int .i64 g2, .int .i64 y2] 53)).alloc (.cells #[.slice C1 k1 e1, .slice C2 k2 e2, .slice C3 k3 e3] 44) = Wb at *
  have hS : ∀ V, Ext Wb V → V.cell? ⟨w.heap.size, 0, none⟩ = some (.int .i64 p) ∧ V.cell? ⟨w.heap.size, 1, none⟩ = some (.int .i64 q) ∧ V.cell? ⟨w.heap.size, 2, none⟩ = some (.int .i64 g) ∧ V.cell? ⟨w.heap.size + 1, 0, none⟩ = some (.int .i64 g1) ∧ V.cell? ⟨w.heap.size + 1, 1, none⟩ = some (.int .i64 y1) ∧ V.cell? ⟨w.heap.size + 1, 2, none⟩ = some (.int .i64 g2) ∧ V.cell? ⟨w.heap.size + 1, 3, none⟩ = some (.int .i64 y2) ∧ V.cell? ⟨w.heap.size + 1 + 1, 0, none⟩ = some (.slice C1 k1 e1) ∧ V.cell? ⟨w.heap.size + 1 + 1, 1, none⟩ = some (.slice C2 k2 e2) ∧ V.cell? ⟨w.heap.size + 1 + 1, 2, none⟩ = some (.slice C3 k3 e3) := fun V hV => by
    have a0 := (B0.ext hV).cells
    have a1 := (B1.ext hV).cells
    have a2 := (B2.ext hV).cells
    exact ⟨a0 0, a0 1, a0 2, a1 0, a1 1, a1 2, a1 3, a2 0, a2 1, a2 2⟩
  go_cut [8, 9] from 10 to 22 (fun a b wx => a = .bool V ∧ b = .bool K ∧ Ext w wx)
  case first =>
    go_region_held3 (fun V => V.cell? ⟨w.heap.size, 0, none⟩ = some (.int .i64 p) ∧ V.cell? ⟨w.heap.size, 1, none⟩ = some (.int .i64 q) ∧ V.cell? ⟨w.heap.size, 2, none⟩ = some (.int .i64 g) ∧ V.cell? ⟨w.heap.size + 1, 0, none⟩ = some (.int .i64 g1) ∧ V.cell? ⟨w.heap.size + 1, 1, none⟩ = some (.int .i64 y1) ∧ V.cell? ⟨w.heap.size + 1, 2, none⟩ = some (.int .i64 g2) ∧ V.cell? ⟨w.heap.size + 1, 3, none⟩ = some (.int .i64 y2) ∧ V.cell? ⟨w.heap.size + 1 + 1, 0, none⟩ = some (.slice C1 k1 e1) ∧ V.cell? ⟨w.heap.size + 1 + 1, 1, none⟩ = some (.slice C2 k2 e2) ∧ V.cell? ⟨w.heap.size + 1 + 1, 2, none⟩ = some (.slice C3 k3 e3)) (exact hS _ (by (repeat (first | with_reducible assumption | with_reducible exact Ext.refl _ | with_reducible apply Ext.alloc | with_reducible apply Ext.drew | with_reducible apply Ext.drewN)); done))
      (first
        | (go_at_call 67; refine (equalRows_any g1 y1 g2 y2 _).mono ?_; rintro en w3 ⟨kr, rfl, r3, hb3⟩; have hx3 := Ext.trans (w := Wb) (by repeat (first | with_reducible assumption | with_reducible exact Ext.refl _ | with_reducible apply Ext.alloc | with_reducible apply Ext.drew | with_reducible apply Ext.drewN)) hb3)
        | (go_at_call 72; refine (VerifyLinear_any p q g s _ _ C1 C2 C3 2 2 2 k1 e1 k2 e2 k3 e3 [[g1], [g2]] [y1, y2] cm ch rs _ hs (RdSS.ext r3 (by repeat (first | with_reducible assumption | with_reducible exact Ext.refl _ | with_reducible apply Ext.alloc | with_reducible apply Ext.drew | with_reducible apply Ext.drewN))) rfl (by omega) (by first | exact sl_new2 (w := Wb) (y := y1) (z := y2) rfl (Ext.trans (Ext.trans (by (repeat (first | with_reducible assumption | with_reducible exact Ext.refl _ | with_reducible apply Ext.alloc | with_reducible apply Ext.drew | with_reducible apply Ext.drewN)); done) hb3) (by (repeat (first | with_reducible assumption | with_reducible exact Ext.refl _ | with_reducible apply Ext.alloc | with_reducible apply Ext.drew | with_reducible apply Ext.drewN)); done)) | exact sl_new2 (w := Wb) (y := y1) (z := y2) rfl (by (repeat (first | with_reducible assumption | with_reducible exact Ext.refl _ | with_reducible apply Ext.alloc | with_reducible apply Ext.drew | with_reducible apply Ext.drewN)); done) | exact sl_new2 (w := Wb.drew) (y := y1) (z := y2) rfl (Ext.trans (Ext.trans (by (repeat (first | with_reducible assumption | with_reducible exact Ext.refl _ | with_reducible apply Ext.alloc | with_reducible apply Ext.drew | with_reducible apply Ext.drewN)); done) hb3) (by (repeat (first | with_reducible assumption | with_reducible exact Ext.refl _ | with_reducible apply Ext.alloc | with_reducible apply Ext.drew | with_reducible apply Ext.drewN)); done)) | exact sl_new2 (w := Wb.drew) (y := y1) (z := y2) rfl (by (repeat (first | with_reducible assumption | with_reducible exact Ext.refl _ | with_reducible apply Ext.alloc | with_reducible apply Ext.drew | with_reducible apply Ext.drewN)); done) | exact sl_new2 (w := w3) (y := y1) (z := y2) rfl (by (repeat (first | with_reducible assumption | with_reducible exact Ext.refl _ | with_reducible apply Ext.alloc | with_reducible apply Ext.drew | with_reducible apply Ext.drewN)); done) | fail) (s1.ext (Ext.trans E (Ext.trans hx3 (by repeat (first | with_reducible assumption | with_reducible exact Ext.refl _ | with_reducible apply Ext.alloc | with_reducible apply Ext.drew | with_reducible apply Ext.drewN))))) (s2.ext (Ext.trans E (Ext.trans hx3 (by repeat (first | with_reducible assumption | with_reducible exact Ext.refl _ | with_reducible apply Ext.alloc | with_reducible apply Ext.drew | with_reducible apply Ext.drewN))))) (s3.ext (Ext.trans E (Ext.trans hx3 (by repeat (first | with_reducible assumption | with_reducible exact Ext.refl _ | with_reducible apply Ext.alloc | with_reducible apply Ext.drew | with_reducible apply Ext.drewN)))))).mono ?_; rintro en w6 ⟨he, hb6⟩; rw [HV.out, HK.out] at he; subst he; have hx6 := Ext.trans (w := Wb) (Ext.trans hx3 (by repeat (first | with_reducible assumption | with_reducible exact Ext.refl _ | with_reducible apply Ext.alloc | with_reducible apply Ext.drew | with_reducible apply Ext.drewN))) hb6)
        | fail)
    all_goals
      go_wp2
      go_meet
      exact ⟨rfl, rfl, E.trans hx6⟩
  case' rest =>
    obtain ⟨rfl, rfl, hb⟩ := hcut
    go_wp2
    go_ret2
    exact ⟨rfl, hb⟩
set_option maxHeartbeats 1000000 in
theorem sLabel_any (p q g : Int) (s : ByteArray) (w : World) (hs : s.size ≤ 1000) : Calls Try.prog 73 #[.agg #[.int .i64 p, .int .i64 q, .int .i64 g], .string s] w fun en w' => en = .returned (.bool (grpB p q g && decide (s.size ≤ 40))) ∧ Ext w w' := by
  have E := ((Ext.refl w).alloc (.cells #[.int .i64 p, .int .i64 q, .int .i64 g] 38))
  have B0 := (Blk.new w 38 #[.int .i64 p, .int .i64 q, .int .i64 g])
  have CC0 := B0.cells
  cases h1 : grpB p q g
  · have H1 := Lib.hid h1
    rw [Bool.false_and]
    clear h1
    go_enter Try.func73, Try.ntmps73
    go_wp2_with fail
    refine (l2Good_any p q g _).mono ?_
    rintro en w2 ⟨he, hb⟩
    rw [H1.out] at he; subst he
    go_wp2
    go_ret
    exact ⟨rfl, E.trans hb⟩
  · have H1 := Lib.hid h1
    rw [Bool.true_and]
    clear h1
    have hd : decide ((s.size : Int) ≤ 40) = decide (s.size ≤ 40) := by rw [decide_eq_decide]; omega
    have HD := Lib.hid hd
    clear hd
    go_enter Try.func73, Try.ntmps73
    go_wp2_with fail
    refine (l2Good_any p q g _).mono ?_
    rintro en w2 ⟨he, hb⟩
    rw [H1.out] at he; subst he
    go_wp2
    go_ret
    exact ⟨ret_bool HD.out, E.trans hb⟩
set_option maxRecDepth 100000 in
set_option maxHeartbeats 4000000 in
theorem sVerifyEq_any (p q g : Int) (s : ByteArray) (g1 y1 g2 y2 : Int) (C1 C2 C3 : Option Addr) (k1 e1 k2 e2 k3 e3 : Nat) (cm ch rs : List Int) (w : World) (hs : s.size ≤ 1000) (s1 : SlI w C1 k1 e1 cm) (s2 : SlI w C2 k2 e2 ch) (s3 : SlI w C3 k3 e3 rs) (h : grpB p q g = true) (hs4 : s.size ≤ 40) (he0 : eqE p q g1 y1 g2 y2 = true) :
    Calls Try.prog 75 #[.agg #[.int .i64 p, .int .i64 q, .int .i64 g], .string s, .agg #[.int .i64 g1, .int .i64 y1, .int .i64 g2, .int .i64 y2], .agg #[.slice C1 k1 e1, .slice C2 k2 e2, .slice C3 k3 e3]] w fun en w' => en = .returned (.bool (lvB p q g s [[g1], [g2]] [y1, y2] cm ch rs)) ∧ Ext w w' := by
  obtain ⟨V, hV⟩ : ∃ V, lvB p q g s [[g1], [g2]] [y1, y2] cm ch rs = V := ⟨_, rfl⟩
  rw [hV]
  have HV := Lib.hid hV
  obtain ⟨q1, q2, q3, q4⟩ := eqE_iff.1 he0
  have HR : Hid (rowsB p q [[g1], [g2]] = true) := by show _ = _; rw [rows2, q1, q3]; rfl
  have HI : Hid ([y1, y2].all (elB p q) = true) := by show _ = _; simp [q2, q4]
  have HG := Lib.hid h
  clear hV he0 q1 q2 q3 q4 h
  have E := ((((Ext.refl w).alloc (.cells #[.int .i64 p, .int .i64 q, .int .i64 g] 38)).alloc (.cells #[.int .i64 g1, .int .i64 y1, .int .i64 g2, .int .i64 y2] 53)).alloc (.cells #[.slice C1 k1 e1, .slice C2 k2 e2, .slice C3 k3 e3] 44))
  have B0 := (((Blk.new w 38 #[.int .i64 p, .int .i64 q, .int .i64 g]).alloc (.cells #[.int .i64 g1, .int .i64 y1, .int .i64 g2, .int .i64 y2] 53)).alloc (.cells #[.slice C1 k1 e1, .slice C2 k2 e2, .slice C3 k3 e3] 44))
  have B1 := ((Blk.new (w.alloc (.cells #[.int .i64 p, .int .i64 q, .int .i64 g] 38)) 53 #[.int .i64 g1, .int .i64 y1, .int .i64 g2, .int .i64 y2]).alloc (.cells #[.slice C1 k1 e1, .slice C2 k2 e2, .slice C3 k3 e3] 44))
  have B2 := (Blk.new ((w.alloc (.cells #[.int .i64 p, .int .i64 q, .int .i64 g] 38)).alloc (.cells #[.int .i64 g1, .int .i64 y1, .int .i64 g2, .int .i64 y2] 53)) 44 #[.slice C1 k1 e1, .slice C2 k2 e2, .slice C3 k3 e3])
  simp only [World.size_alloc] at B1 B2
  have hz : (((w.alloc (.cells #[.int .i64 p, .int .i64 q, .int .i64 g] 38)).alloc (.cells #[.int .i64 g1, .int .i64 y1, .int .i64 g2, .int .i64 y2] 53)).alloc (.cells #[.slice C1 k1 e1, .slice C2 k2 e2, .slice C3 k3 e3] 44)).heap.size = w.heap.size + 1 + 1 + 1 := by simp only [World.size_alloc]
  have CC0 := B0.cells
  have CC1 := B1.cells
  have CC2 := B2.cells
  go_enter Try.func75, Try.ntmps75
  go_wp2_with fail
  generalize ((w.alloc (.cells #[.int .i64 p, .int .i64 q, .int .i64 g] 38)).alloc (.cells #[.int .i64 g1, .int .i64 y1, .int .i64 g2, .int .i64 y2] 53)).alloc (.cells #[.slice C1 k1 e1, .slice C2 k2 e2, .slice C3 k3 e3] 44) = Wb at *
  have a1 := (Ext.refl Wb).alloc (.cells #[.int .i64 g1] 3)
  have a2 := (Ext.refl (Wb.alloc (.cells #[.int .i64 g1] 3))).alloc (.cells #[.int .i64 g2] 3)
  have a3 := (Ext.refl ((Wb.alloc (.cells #[.int .i64 g1] 3)).alloc (.cells #[.int .i64 g2] 3))).alloc (.cells #[.slice (some ⟨w.heap.size + 1 + 1 + 1, 0, none⟩) 1 1, .slice (some ⟨w.heap.size + 1 + 1 + 1 + 1, 0, none⟩) 1 1] 28)
  have a4 := (Ext.refl (((Wb.alloc (.cells #[.int .i64 g1] 3)).alloc (.cells #[.int .i64 g2] 3)).alloc (.cells #[.slice (some ⟨w.heap.size + 1 + 1 + 1, 0, none⟩) 1 1, .slice (some ⟨w.heap.size + 1 + 1 + 1 + 1, 0, none⟩) 1 1] 28))).alloc (.cells #[.int .i64 y1, .int .i64 y2] 3)
  have r1 := (sl_new (w := Wb) (y := g1) (k := w.heap.size + 1 + 1 + 1) (by omega) (Ext.refl _)).ext ((a2.trans a3).trans a4)
  have r2 := (sl_new (w := Wb.alloc (.cells #[.int .i64 g1] 3)) (y := g2) (k := w.heap.size + 1 + 1 + 1 + 1) (by simp; omega) (Ext.refl _)).ext (a3.trans a4)
  have r3 := rdSS_lit2 (w := (Wb.alloc (.cells #[.int .i64 g1] 3)).alloc (.cells #[.int .i64 g2] 3)) (t := 28) (k := w.heap.size + 1 + 1 + 1 + 1 + 1) (by simp; omega) a4 r1 r2
  have r4 := sl_new2 (w := ((Wb.alloc (.cells #[.int .i64 g1] 3)).alloc (.cells #[.int .i64 g2] 3)).alloc (.cells #[.slice (some ⟨w.heap.size + 1 + 1 + 1, 0, none⟩) 1 1, .slice (some ⟨w.heap.size + 1 + 1 + 1 + 1, 0, none⟩) 1 1] 28)) (y := y1) (z := y2) (k := w.heap.size + 1 + 1 + 1 + 1 + 1 + 1) (by simp; omega) (Ext.refl _)
  have E4 := (((E.trans a1).trans a2).trans a3).trans a4
  refine (sVerify_any p q g s _ _ C1 C2 C3 2 2 2 2 k1 e1 k2 e2 k3 e3 [[g1], [g2]] [y1, y2] cm ch rs _ HG.out hs4 HR.out r3 rfl r4 rfl HI.out (s1.ext E4) (s2.ext E4) (s3.ext E4)).mono ?_
  rintro en w9 ⟨he, hb9⟩
  rw [HV.out] at he; subst he
  clear a1 a2 a3 a4 CC0 CC1 CC2
  go_wp2
  go_ret
  exact ⟨rfl, E4.trans hb9⟩
set_option maxRecDepth 100000 in
set_option maxHeartbeats 4000000 in
theorem sVerifyEqual_any (p q g : Int) (s : ByteArray) (g1 y1 g2 y2 : Int) (C1 C2 C3 : Option Addr) (k1 e1 k2 e2 k3 e3 : Nat) (cm ch rs : List Int) (w : World) (hs : s.size ≤ 1000) (s1 : SlI w C1 k1 e1 cm) (s2 : SlI w C2 k2 e2 ch) (s3 : SlI w C3 k3 e3 rs) :
    Calls Try.prog 20 #[.agg #[.int .i64 p, .int .i64 q, .int .i64 g], .string s, .agg #[.int .i64 g1, .int .i64 y1, .int .i64 g2, .int .i64 y2], .agg #[.slice C1 k1 e1, .slice C2 k2 e2, .slice C3 k3 e3]] w fun en w' => en = .returned (.tuple #[.bool (veK p q g s g1 y1 g2 y2 && lvB p q g s [[g1], [g2]] [y1, y2] cm ch rs), .bool (veK p q g s g1 y1 g2 y2)]) ∧ Ext w w' := by
  have E := ((((Ext.refl w).alloc (.cells #[.int .i64 p, .int .i64 q, .int .i64 g] 38)).alloc (.cells #[.int .i64 g1, .int .i64 y1, .int .i64 g2, .int .i64 y2] 53)).alloc (.cells #[.slice C1 k1 e1, .slice C2 k2 e2, .slice C3 k3 e3] 44))
  have B0 := (((Blk.new w 38 #[.int .i64 p, .int .i64 q, .int .i64 g]).alloc (.cells #[.int .i64 g1, .int .i64 y1, .int .i64 g2, .int .i64 y2] 53)).alloc (.cells #[.slice C1 k1 e1, .slice C2 k2 e2, .slice C3 k3 e3] 44))
  have B1 := ((Blk.new (w.alloc (.cells #[.int .i64 p, .int .i64 q, .int .i64 g] 38)) 53 #[.int .i64 g1, .int .i64 y1, .int .i64 g2, .int .i64 y2]).alloc (.cells #[.slice C1 k1 e1, .slice C2 k2 e2, .slice C3 k3 e3] 44))
  have B2 := (Blk.new ((w.alloc (.cells #[.int .i64 p, .int .i64 q, .int .i64 g] 38)).alloc (.cells #[.int .i64 g1, .int .i64 y1, .int .i64 g2, .int .i64 y2] 53)) 44 #[.slice C1 k1 e1, .slice C2 k2 e2, .slice C3 k3 e3])
  simp only [World.size_alloc] at B1 B2
  cases h1 : (grpB p q g && decide (s.size ≤ 40))
  · have hk : veK p q g s g1 y1 g2 y2 = false := by unfold veK; rw [h1, Bool.false_and]
    rw [hk]
    have H1 := Lib.hid h1
    clear h1 hk
    go_enter Try.func20, Try.ntmps20
    have CC0 := B0.cells
    have CC1 := B1.cells
    have CC2 := B2.cells
    go_wp2_with fail
    refine (sLabel_any p q g s _ hs).mono ?_
    rintro en w9 ⟨he, hb9⟩
    rw [H1.out] at he; subst he
    replace E := E.trans hb9
    replace B0 := B0.ext hb9
    replace B1 := B1.ext hb9
    replace B2 := B2.ext hb9
    clear hb9 CC0 CC1 CC2
    go_wp2
    go_ret2
    exact ⟨rfl, E⟩
  have H1 := Lib.hid h1
  have h1' := h1
  rw [Bool.and_eq_true, decide_eq_true_eq] at h1'
  have HB : Hid (GrpB p q) := (grpB_in h1'.1).bd
  have HG : Hid (grpB p q g = true) := h1'.1
  have hs4 := h1'.2
  cases h2 : eqE p q g1 y1 g2 y2
  · have hk : veK p q g s g1 y1 g2 y2 = false := by unfold veK; rw [h2, Bool.and_false]
    rw [hk]
    have H2 := Lib.hid h2
    clear h1 h2 hk h1'
    go_enter Try.func20, Try.ntmps20
    have CC0 := B0.cells
    have CC1 := B1.cells
    have CC2 := B2.cells
    go_wp2_with fail
    refine (sLabel_any p q g s _ hs).mono ?_
    rintro en w9 ⟨he, hb9⟩
    rw [H1.out] at he; subst he
    replace E := E.trans hb9
    replace B0 := B0.ext hb9
    replace B1 := B1.ext hb9
    replace B2 := B2.ext hb9
    clear hb9 CC0 CC1 CC2
    have CC0 := B0.cells
    have CC1 := B1.cells
    have CC2 := B2.cells
    go_wp2_with fail
    refine (sElements_any p q g g1 y1 g2 y2 _ HB.out).mono ?_
    rintro en w9 ⟨he, hb9⟩
    rw [H2.out] at he; subst he
    replace E := E.trans hb9
    replace B0 := B0.ext hb9
    replace B1 := B1.ext hb9
    replace B2 := B2.ext hb9
    clear hb9 CC0 CC1 CC2
    go_wp2
    go_ret2
    exact ⟨rfl, E⟩
  have hk : veK p q g s g1 y1 g2 y2 = true := by unfold veK; rw [h1, h2]; rfl
  rw [hk, Bool.true_and]
  have H2 := Lib.hid h2
  obtain ⟨V, hV⟩ : ∃ V, lvB p q g s [[g1], [g2]] [y1, y2] cm ch rs = V := ⟨_, rfl⟩
  rw [hV]
  have HV := Lib.hid hV
  clear h1 h2 hk h1' hV
  go_enter Try.func20, Try.ntmps20
  have CC0 := B0.cells
  have CC1 := B1.cells
  have CC2 := B2.cells
  go_wp2_with fail
  refine (sLabel_any p q g s _ hs).mono ?_
  rintro en w9 ⟨he, hb9⟩
  rw [H1.out] at he; subst he
  replace E := E.trans hb9
  replace B0 := B0.ext hb9
  replace B1 := B1.ext hb9
  replace B2 := B2.ext hb9
  clear hb9 CC0 CC1 CC2
  have CC0 := B0.cells
  have CC1 := B1.cells
  have CC2 := B2.cells
  go_wp2_with fail
  refine (sElements_any p q g g1 y1 g2 y2 _ HB.out).mono ?_
  rintro en w9 ⟨he, hb9⟩
  rw [H2.out] at he; subst he
  replace E := E.trans hb9
  replace B0 := B0.ext hb9
  replace B1 := B1.ext hb9
  replace B2 := B2.ext hb9
  clear hb9 CC0 CC1 CC2
  have CC0 := B0.cells
  have CC1 := B1.cells
  have CC2 := B2.cells
  go_wp2_with fail
  refine (sVerifyEq_any p q g s g1 y1 g2 y2 C1 C2 C3 k1 e1 k2 e2 k3 e3 cm ch rs _ hs (s1.ext E) (s2.ext E) (s3.ext E) HG.out hs4 H2.out).mono ?_
  rintro en w9 ⟨he, hb9⟩
  rw [HV.out] at he; subst he
  replace E := E.trans hb9
  replace B0 := B0.ext hb9
  replace B1 := B1.ext hb9
  replace B2 := B2.ext hb9
  clear hb9 CC0 CC1 CC2
  go_wp2
  go_ret2
  exact ⟨rfl, E⟩
set_option maxRecDepth 100000 in
set_option maxHeartbeats 8000000 in
theorem sProveEqual_any (p q g : Int) (s : ByteArray) (g1 y1 g2 y2 x c0 : Int) (w : World) (hs : s.size ≤ 1000) :
    Calls Try.prog 17 #[.agg #[.int .i64 p, .int .i64 q, .int .i64 g], .string s, .agg #[.int .i64 g1, .int .i64 y1, .int .i64 g2, .int .i64 y2], .int .i64 x, .int .i64 c0] w fun en w' => PrP (peK p q g s g1 y1 g2 y2 x c0) (imgL p q [[g1], [g2]] [c0]) [lpE p q g s [[g1], [g2]] [x] [c0]] (rspL q (lpE p q g s [[g1], [g2]] [x] [c0]) [c0] [x]) w en w' := by
  have E := ((((Ext.refl w).alloc (.cells #[.int .i64 p, .int .i64 q, .int .i64 g] 38)).alloc (.cells #[.int .i64 g1, .int .i64 y1, .int .i64 g2, .int .i64 y2] 53)).alloc (.cells #[.slice none 0 0, .slice none 0 0, .slice none 0 0] 44))
  have B0 := (((Blk.new w 38 #[.int .i64 p, .int .i64 q, .int .i64 g]).alloc (.cells #[.int .i64 g1, .int .i64 y1, .int .i64 g2, .int .i64 y2] 53)).alloc (.cells #[.slice none 0 0, .slice none 0 0, .slice none 0 0] 44))
  have B1 := ((Blk.new (w.alloc (.cells #[.int .i64 p, .int .i64 q, .int .i64 g] 38)) 53 #[.int .i64 g1, .int .i64 y1, .int .i64 g2, .int .i64 y2]).alloc (.cells #[.slice none 0 0, .slice none 0 0, .slice none 0 0] 44))
  have B2 := (Blk.new ((w.alloc (.cells #[.int .i64 p, .int .i64 q, .int .i64 g] 38)).alloc (.cells #[.int .i64 g1, .int .i64 y1, .int .i64 g2, .int .i64 y2] 53)) 44 #[.slice none 0 0, .slice none 0 0, .slice none 0 0])
  simp only [World.size_alloc] at B1 B2
  cases hk : teK p q g g1 y1 g2 y2 x
  · have hp : peK p q g s g1 y1 g2 y2 x c0 = false := by unfold peK; rw [hk, Bool.false_and]
    rw [hp]
    have HK := Lib.hid hk
    clear hk hp
    go_enter Try.func17, Try.ntmps17
    have CC0 := B0.cells
    have CC1 := B1.cells
    go_wp2_with fail
    refine (sIsTrueEqual_any p q g g1 y1 g2 y2 x _).mono ?_
    rintro en w9 ⟨he, hb9⟩
    rw [HK.out, Bool.false_and] at he; subst he
    replace E := E.trans hb9
    replace B0 := B0.ext hb9
    replace B1 := B1.ext hb9
    replace B2 := B2.ext hb9
    clear hb9 CC0 CC1
    have FZ := B2.frozen
    have C2 := B2.cells
    have CZ := (((B2.set_ 0 (.slice none 0 0)).set_ 1 (.slice none 0 0)).set_ 2 (.slice none 0 0)).cells
    go_wp2
    refine bodyPost_ret (v := .tuple #[.agg #[.slice none 0 0, .slice none 0 0, .slice none 0 0], .bool false]) (by simp [results, Try.results17, CZ, go_sem]) rfl (PrP.no (E.only (only_3 _ _ _ _ _) (fun b hb => by simp at hb; omega)))
  have HK := Lib.hid hk
  cases hv : teV p q g1 y1 g2 y2 x
  · have hp : peK p q g s g1 y1 g2 y2 x c0 = false := by unfold peK; rw [hv, Bool.false_and, Bool.and_false]
    rw [hp]
    have HV := Lib.hid hv
    clear hk hp hv
    go_enter Try.func17, Try.ntmps17
    have CC0 := B0.cells
    have CC1 := B1.cells
    go_wp2_with fail
    refine (sIsTrueEqual_any p q g g1 y1 g2 y2 x _).mono ?_
    rintro en w9 ⟨he, hb9⟩
    rw [HK.out, HV.out, Bool.and_false] at he; subst he
    replace E := E.trans hb9
    replace B0 := B0.ext hb9
    replace B1 := B1.ext hb9
    replace B2 := B2.ext hb9
    clear hb9 CC0 CC1
    have FZ := B2.frozen
    have C2 := B2.cells
    have CZ := (((B2.set_ 0 (.slice none 0 0)).set_ 1 (.slice none 0 0)).set_ 2 (.slice none 0 0)).cells
    go_wp2
    refine bodyPost_ret (v := .tuple #[.agg #[.slice none 0 0, .slice none 0 0, .slice none 0 0], .bool false]) (by simp [results, Try.results17, CZ, go_sem]) rfl (PrP.no (E.only (only_3 _ _ _ _ _) (fun b hb => by simp at hb; omega)))
  have HV := Lib.hid hv
  have hk' := hk
  unfold teK at hk'
  simp only [Bool.and_eq_true] at hk'
  obtain ⟨hg, heq, hix⟩ := hk'
  have HB : Hid (GrpB p q) := (grpB_in hg).bd
  have HG := Lib.hid hg
  obtain ⟨u1, _, u3, _⟩ := eqE_iff.1 heq
  have HR : Hid (rowsB p q [[g1], [g2]] = true) := by show _ = _; rw [rows2, u1, u3]; rfl
  have HX : Hid (allR [x] 0 (q - 1) = true) := by show _ = _; simp [allR, hix]
  cases hl : decide (s.size ≤ 40)
  · have hp : peK p q g s g1 y1 g2 y2 x c0 = false := by unfold peK; rw [hl, Bool.false_and, Bool.and_false, Bool.and_false]
    rw [hp]
    have h40 := of_decide_eq_false hl
    clear hk hp hv hl hg heq hix u1 u3
    go_enter Try.func17, Try.ntmps17
    have CC0 := B0.cells
    have CC1 := B1.cells
    go_wp2_with fail
    refine (sIsTrueEqual_any p q g g1 y1 g2 y2 x _).mono ?_
    rintro en w9 ⟨he, hb9⟩
    rw [HK.out, HV.out, Bool.and_self] at he; subst he
    replace E := E.trans hb9
    replace B0 := B0.ext hb9
    replace B1 := B1.ext hb9
    replace B2 := B2.ext hb9
    clear hb9 CC0 CC1
    have FZ := B2.frozen
    have C2 := B2.cells
    have CZ := (((B2.set_ 0 (.slice none 0 0)).set_ 1 (.slice none 0 0)).set_ 2 (.slice none 0 0)).cells
    go_wp2
    refine bodyPost_ret (v := .tuple #[.agg #[.slice none 0 0, .slice none 0 0, .slice none 0 0], .bool false]) (by simp [results, Try.results17, CZ, go_sem]) rfl (PrP.no (E.only (only_3 _ _ _ _ _) (fun b hb => by simp at hb; omega)))
  have h40 := of_decide_eq_true hl
  have hcx : ((40 : Int) < (s.size : Int)) = False := by simp; omega
  cases hc : inR c0 0 (q - 1)
  · have hp : peK p q g s g1 y1 g2 y2 x c0 = false := by unfold peK; rw [hc, Bool.and_false, Bool.and_false, Bool.and_false]
    rw [hp]
    have HC := Lib.hid hc
    clear hk hp hv hl hg heq hix u1 u3 hc
    go_enter Try.func17, Try.ntmps17
    have CC0 := B0.cells
    have CC1 := B1.cells
    go_wp2_with fail
    refine (sIsTrueEqual_any p q g g1 y1 g2 y2 x _).mono ?_
    rintro en w9 ⟨he, hb9⟩
    rw [HK.out, HV.out, Bool.and_self] at he; subst he
    replace E := E.trans hb9
    replace B0 := B0.ext hb9
    replace B1 := B1.ext hb9
    replace B2 := B2.ext hb9
    clear hb9 CC0 CC1
    have CC0 := B0.cells
    have CC1 := B1.cells
    go_wp2_with fail
    have a1 := (Ext.refl w9).alloc (.cells #[.int .i64 c0] 3)
    refine (gExps_any p q g _ 1 1 [c0] _ HB.out (rd_one rfl) rfl (by decide)).mono ?_
    rintro en w8 ⟨hen, hb8⟩
    simp only [allR, List.all_cons, List.all_nil, Bool.and_true] at hen
    rw [HC.out] at hen; subst hen
    have hb9 := a1.trans hb8
    replace E := E.trans hb9
    replace B0 := B0.ext hb9
    replace B1 := B1.ext hb9
    replace B2 := B2.ext hb9
    clear hb9 hb8 a1 CC0 CC1
    have FZ := B2.frozen
    have C2 := B2.cells
    have CZ := (((B2.set_ 0 (.slice none 0 0)).set_ 1 (.slice none 0 0)).set_ 2 (.slice none 0 0)).cells
    go_wp2
    refine bodyPost_ret (v := .tuple #[.agg #[.slice none 0 0, .slice none 0 0, .slice none 0 0], .bool false]) (by simp [results, Try.results17, CZ, go_sem]) rfl (PrP.no (E.only (only_3 _ _ _ _ _) (fun b hb => by simp at hb; omega)))
  have hp : peK p q g s g1 y1 g2 y2 x c0 = true := by unfold peK; rw [hk, hv, hl, hc]; rfl
  rw [hp]
  have HC := Lib.hid hc
  have HW : Hid (allR [c0] 0 (q - 1) = true) := by show _ = _; simp [allR, hc]
  clear hk hp hv hl hg heq hix u1 u3 hc
  go_enter Try.func17, Try.ntmps17
  have CC0 := B0.cells
  have CC1 := B1.cells
  go_wp2_with fail
  refine (sIsTrueEqual_any p q g g1 y1 g2 y2 x _).mono ?_
  rintro en w9 ⟨he, hb9⟩
  rw [HK.out, HV.out, Bool.and_self] at he; subst he
  replace E := E.trans hb9
  replace B0 := B0.ext hb9
  replace B1 := B1.ext hb9
  replace B2 := B2.ext hb9
  clear hb9 CC0 CC1
  have CC0 := B0.cells
  have CC1 := B1.cells
  go_wp2_with fail
  have a1 := (Ext.refl w9).alloc (.cells #[.int .i64 c0] 3)
  refine (gExps_any p q g _ 1 1 [c0] _ HB.out (rd_one rfl) rfl (by decide)).mono ?_
  rintro en w8 ⟨hen, hb8⟩
  simp only [allR, List.all_cons, List.all_nil, Bool.and_true] at hen
  rw [HC.out] at hen; subst hen
  have hb9 := a1.trans hb8
  replace E := E.trans hb9
  replace B0 := B0.ext hb9
  replace B1 := B1.ext hb9
  replace B2 := B2.ext hb9
  clear hb9 hb8 a1 CC0 CC1
  have CC0 := B0.cells
  have CC1 := B1.cells
  have CD1 := (B1.alloc (.cells #[.int .i64 g1] 3)).cells
  go_wp2_with fail
  have a1 := (Ext.refl w8).alloc (.cells #[.int .i64 g1] 3)
  have a2 := (Ext.refl (w8.alloc (.cells #[.int .i64 g1] 3))).alloc (.cells #[.int .i64 g2] 3)
  have a3 := (Ext.refl ((w8.alloc (.cells #[.int .i64 g1] 3)).alloc (.cells #[.int .i64 g2] 3))).alloc (.cells #[.slice (some ⟨w8.heap.size, 0, none⟩) 1 1, .slice (some ⟨w8.heap.size + 1, 0, none⟩) 1 1] 28)
  have a4 := (Ext.refl (((w8.alloc (.cells #[.int .i64 g1] 3)).alloc (.cells #[.int .i64 g2] 3)).alloc (.cells #[.slice (some ⟨w8.heap.size, 0, none⟩) 1 1, .slice (some ⟨w8.heap.size + 1, 0, none⟩) 1 1] 28))).alloc (.cells #[.int .i64 x] 3)
  have a5 := (Ext.refl ((((w8.alloc (.cells #[.int .i64 g1] 3)).alloc (.cells #[.int .i64 g2] 3)).alloc (.cells #[.slice (some ⟨w8.heap.size, 0, none⟩) 1 1, .slice (some ⟨w8.heap.size + 1, 0, none⟩) 1 1] 28)).alloc (.cells #[.int .i64 x] 3))).alloc (.cells #[.int .i64 c0] 3)
  have r1 := (sl_new (w := w8) (y := g1) rfl (Ext.refl _)).ext (((a2.trans a3).trans a4).trans a5)
  have r2 := (sl_new (w := w8.alloc (.cells #[.int .i64 g1] 3)) (y := g2) (k := w8.heap.size + 1) (by simp) (Ext.refl _)).ext ((a3.trans a4).trans a5)
  have r3 := rdSS_lit2 (w := (w8.alloc (.cells #[.int .i64 g1] 3)).alloc (.cells #[.int .i64 g2] 3)) (t := 28) (k := w8.heap.size + 1 + 1) (by simp) (a4.trans a5) r1 r2
  have r4 := (sl_new (w := ((w8.alloc (.cells #[.int .i64 g1] 3)).alloc (.cells #[.int .i64 g2] 3)).alloc (.cells #[.slice (some ⟨w8.heap.size, 0, none⟩) 1 1, .slice (some ⟨w8.heap.size + 1, 0, none⟩) 1 1] 28)) (y := x) (k := w8.heap.size + 1 + 1 + 1) (by simp) (Ext.refl _)).ext a5
  have r5 := sl_new (w := (((w8.alloc (.cells #[.int .i64 g1] 3)).alloc (.cells #[.int .i64 g2] 3)).alloc (.cells #[.slice (some ⟨w8.heap.size, 0, none⟩) 1 1, .slice (some ⟨w8.heap.size + 1, 0, none⟩) 1 1] 28)).alloc (.cells #[.int .i64 x] 3)) (y := c0) (k := w8.heap.size + 1 + 1 + 1 + 1) (by simp) (Ext.refl _)
  have hb9 := (((a1.trans a2).trans a3).trans a4).trans a5
  have E4 := E.trans hb9
  have B4 := B2.ext hb9
  refine (sProve_any p q g s _ _ _ 2 2 1 1 1 [[g1], [g2]] [x] [c0] _ HG.out h40 HR.out r3 rfl r4 r5 rfl HX.out HW.out).mono ?_
  rintro en w7 ⟨A1, c1, A2, c2, A3, c3, rfl, t1, t2, t3, hb7⟩
  have E9 := E4.trans hb7
  have B9 := B4.ext hb7
  have FZ := B9.frozen
  have C9 := B9.cells
  have CZ := (((B9.set_ 0 (.slice A1 2 c1)).set_ 1 (.slice A2 1 c2)).set_ 2 (.slice A3 1 c3)).cells
  have hon := only_3 w7 (w.heap.size + 1 + 1) (.slice A1 2 c1) (.slice A2 1 c2) (.slice A3 1 c3)
  clear a1 a2 a3 a4 a5 CC0 CC1 CD1
  go_wp2
  refine bodyPost_ret (v := .tuple #[.agg #[.slice A1 2 c1, .slice A2 1 c2, .slice A3 1 c3], .bool true]) (by simp [results, Try.results17, CZ, go_sem]) rfl ⟨A1, 2, c1, A2, 1, c2, A3, 1, c3, rfl, t1.far B9 z3_no hon, t2.far B9 z3_no hon, t3.far B9 z3_no hon, E9.only hon (fun b hb => by simp at hb; omega)⟩
end Go.Proofs.Ytpfccboighdcbaa
