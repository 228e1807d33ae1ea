/- The law FnExactRefreshKey returns true for every input. It holds without a condition. -/
import Derived.Test.YthamimjejlicpaaRows
import Derived.Test.YthamimjejlicpaaRefr
import Derived.Test.YthamimjejlicpaaDlS
import Derived.Test.YthamimjejlicpaaLawD
import Derived.Test.YthamimjejlicpaaOpenD
import Derived.Test.YthamimjejlicpaaFacts
namespace Go.Proofs.Ythamimjejlicpaa
open Go.ChangeShapes Go.WideShapes Go.ChangeAt Go.RowKit
set_option linter.unusedVariables false

namespace lawRefreshKey
theorem toGroup_any (p q g : Int) (w : World) : Calls Try.prog 32 #[.agg #[.int .i64 p, .int .i64 q, .int .i64 g]] w fun e w' => e = .returned (.agg #[.int .i64 p, .int .i64 q, .int .i64 g]) ∧ Ext w w' := by
  go_enter Try.func32, Try.ntmps32
  go_wp2
  refine bodyPost_ret (v := .agg #[.int .i64 p, .int .i64 q, .int .i64 g]) (by simp [results, Try.results32, go_sem]) rfl ⟨rfl, ?_⟩
  (repeat (first | exact Ext.refl _ | assumption | apply Ext.drew | apply Ext.drewN | apply Ext.alloc | refine Ext.setCell ?_ (by simp; try omega) _))
set_option maxRecDepth 100000 in
set_option maxHeartbeats 8000000 in
theorem walk (x0_0 x0_1 x0_2 : Int) (A1 : Option Addr) (l1 : List Int) (c1 : Nat) (D1 : Option Addr) (k1l : List Int) (e1 : Nat) (A2 : Option Addr) (l2 : List (List Int × List Int)) (c2 : Nat) (w : World) (f0_0 : Fits x0_0) (f0_1 : Fits x0_1) (f0_2 : Fits x0_2) (r1 : SlI w A1 l1.length c1 l1) (s1l : SlI w D1 k1l.length e1 k1l) (r2 : RdD w A2 l2) (b2 : l2.length ≤ c2) (m2 : c2 ≤ maxLen) :
    Calls Try.prog 9 #[.agg #[.int .i64 x0_0, .int .i64 x0_1, .int .i64 x0_2], .agg #[.slice A1 l1.length c1, .slice D1 k1l.length e1], .slice A2 l2.length c2] w fun e w' => e = .returned (.bool true) ∧ Ext w w' := by
  generalize hn1 : l1.length = n1 at *
  generalize hm1 : k1l.length = m1 at *
  have Hn1 := Lib.hid hn1
  have Hm1 := Lib.hid hm1
  clear hn1 hm1
  have Q1 := r1.le
  have Q1l := s1l.le
  unfold maxLen at Q1 Q1l
  generalize hn2 : l2.length = n2 at *
  have Hn2 := Lib.hid hn2
  clear hn2
  have Q2 : n2 ≤ maxLen := Nat.le_trans b2 m2
  unfold maxLen at Q2
  have B0 := Blk.new (w) 52 #[.int .i64 x0_0, .int .i64 x0_1, .int .i64 x0_2]
  have B1 := Blk.new ((w.alloc (.cells #[.int .i64 x0_0, .int .i64 x0_1, .int .i64 x0_2] 52))) 58 #[.slice A1 n1 c1, .slice D1 m1 e1]
  replace B0 := B0.alloc (.cells #[.slice A1 n1 c1, .slice D1 m1 e1] 58)
  simp only [World.size_alloc] at B1
  have E := (((Ext.refl w).alloc (.cells #[.int .i64 x0_0, .int .i64 x0_1, .int .i64 x0_2] 52)).alloc (.cells #[.slice A1 n1 c1, .slice D1 m1 e1] 58))
  go_enter Try.func9, Try.ntmps9
  have CC0 := B0.cells
  have CC1 := B1.cells
  go_wp2_with fail
  clear CC0 CC1
  generalize ((w.alloc (.cells #[.int .i64 x0_0, .int .i64 x0_1, .int .i64 x0_2] 52)).alloc (.cells #[.slice A1 n1 c1, .slice D1 m1 e1] 58)) = w0 at *
  rcases Nat.lt_or_ge (1048576) (n1 + m1) with S1 | S1
  · refine (szSharedKey_no (by omega) (by omega) (by omega) (by unfold maxLen; omega) (by unfold maxLen; omega)).mono ?_
    rintro e w' ⟨rfl, hb⟩
    go_wp2
    go_ret
    exact ⟨rfl, E.trans hb⟩
  refine (szSharedKey_yes (by omega) (by omega)).mono ?_
  rintro e w1 ⟨rfl, hb⟩
  replace E := E.trans hb
  replace B0 := B0.ext hb
  replace B1 := B1.ext hb
  clear hb
  have CC0 := B0.cells
  have CC1 := B1.cells
  go_wp2_with fail
  rcases Nat.lt_or_ge (1048576 - (n1 + m1)) (n2 + tot (flD l2)) with S2 | S2
  · refine (szDealingS_no (r2.ext E) Hn2.out (by omega) (by omega) (by omega) (by unfold maxLen; omega)).mono ?_
    rintro e w' ⟨rfl, hb⟩
    go_wp2
    go_ret
    exact ⟨rfl, E.trans hb⟩
  refine (szDealingS_yes (r2.ext E) Hn2.out (by omega) (by omega)).mono ?_
  rintro e w2 ⟨rfl, hb⟩
  clear CC0 CC1
  replace E := E.trans hb
  replace B0 := B0.ext hb
  replace B1 := B1.ext hb
  clear hb
  go_wp2_with fail
  have hS : ∀ V, Ext w2 V → V.cell? ⟨w.heap.size, 0, none⟩ = some (.int .i64 x0_0) ∧ V.cell? ⟨w.heap.size, 1, none⟩ = some (.int .i64 x0_1) ∧ V.cell? ⟨w.heap.size, 2, none⟩ = some (.int .i64 x0_2) ∧ V.cell? ⟨w.heap.size + 1, 0, none⟩ = some (.slice A1 n1 c1) ∧ V.cell? ⟨w.heap.size + 1, 1, none⟩ = some (.slice D1 m1 e1) := fun V hV => by
    have a0 := (B0.ext hV).cells
    have a1 := (B1.ext hV).cells
    exact ⟨a0 0, a0 1, a0 2, a1 0, a1 1⟩
  have Zw0 := E.size
  have Zw1 := E.size
  go_cut [8, 9, 10] from 32 to 42 (fun c0 c1 c2 wx => ∃ gw0 Aw0 nw0 cw0 Dw0 mw0 dw0 Aw1 nw1 cw1, c0 = .pointer (some ⟨gw0, 0, none⟩) ∧ c1 = .slice Aw1 nw1 cw1 ∧ c2 = .bool (rfB x0_0 x0_1 x0_2 l1 k1l l2) ∧ Blk wx gw0 62 #[.slice Aw0 nw0 cw0, .slice Dw0 mw0 dw0] ∧ w2.heap.size ≤ gw0 ∧ OwnK wx w2.heap.size Aw0 nw0 cw0 Dw0 mw0 dw0 (rfV x0_0 x0_1 x0_2 l1 k1l l2).1 (rfV x0_0 x0_1 x0_2 l1 k1l l2).2 ∧ OwnI wx w2.heap.size 3 Aw1 nw1 cw1 (rfO x0_0 x0_1 x0_2 l1 k1l l2) ∧ (nw0 ≤ 1000 ∧ mw0 ≤ 1000 ∧ nw1 ≤ 1000) ∧ Apart (fpI Aw0 ++ fpI Dw0) (fpI Aw1) ∧ Ext w2 wx)
  case first =>
    go_region_held3 (fun V => V.cell? ⟨w.heap.size, 0, none⟩ = some (.int .i64 x0_0) ∧ V.cell? ⟨w.heap.size, 1, none⟩ = some (.int .i64 x0_1) ∧ V.cell? ⟨w.heap.size, 2, none⟩ = some (.int .i64 x0_2) ∧ V.cell? ⟨w.heap.size + 1, 0, none⟩ = some (.slice A1 n1 c1) ∧ V.cell? ⟨w.heap.size + 1, 1, none⟩ = some (.slice D1 m1 e1)) (exact hS _ (by repeat (first | with_reducible assumption | with_reducible exact Ext.refl _ | with_reducible apply Ext.alloc | with_reducible apply Ext.drew | with_reducible apply Ext.drewN | with_reducible refine Ext.setCellS ?_ ?_ | focus (show _ ≤ _; first | omega | (simp; done) | (simp; omega)))))
      (first
        | (go_at_call 32; refine (toGroup_any x0_0 x0_1 x0_2 _).mono ?_; rintro en w3 ⟨rfl, hbw3⟩; have hxw3 := Ext.trans (w := w2) (by repeat (first | with_reducible assumption | with_reducible exact Ext.refl _ | with_reducible apply Ext.alloc | with_reducible apply Ext.drew | with_reducible apply Ext.drewN)) hbw3; have hzw3 := hxw3.size; (first | (replace BN := BN.ext (Ext.trans (by repeat (first | with_reducible assumption | with_reducible exact Ext.refl _ | with_reducible apply Ext.alloc | with_reducible apply Ext.drew | with_reducible apply Ext.drewN)) hbw3)) | (have BN := Blk.ext (Blk.new _ 62 #[.slice none 0 0, .slice none 0 0]) hbw3) | (have BN := Blk.ext (Blk.drew (Blk.new _ 62 #[.slice none 0 0, .slice none 0 0])) hbw3) | skip); (first | (have FZ := BN.frozen; have CN := BN.cells) | skip))
        | (go_at_call 39; refine (toSharedKey_any A1 n1 c1 D1 m1 e1 l1 k1l _ (r1.rd.ext (Ext.trans E (by repeat (first | with_reducible assumption | with_reducible exact Ext.refl _ | with_reducible apply Ext.alloc | with_reducible apply Ext.drew | with_reducible apply Ext.drewN)))) Hn1.out (s1l.rd.ext (Ext.trans E (by repeat (first | with_reducible assumption | with_reducible exact Ext.refl _ | with_reducible apply Ext.alloc | with_reducible apply Ext.drew | with_reducible apply Ext.drewN)))) Hm1.out (by omega)).mono ?_; rintro en w4 ⟨At1, ct1, Dt1, dt1, rfl, t1, hbw4⟩; have hxw4 := Ext.trans (w := w2) (by repeat (first | with_reducible assumption | with_reducible exact Ext.refl _ | with_reducible apply Ext.alloc | with_reducible apply Ext.drew | with_reducible apply Ext.drewN)) hbw4; have hzw4 := hxw4.size; (first | (replace BN := BN.ext (Ext.trans (by repeat (first | with_reducible assumption | with_reducible exact Ext.refl _ | with_reducible apply Ext.alloc | with_reducible apply Ext.drew | with_reducible apply Ext.drewN)) hbw4)) | (have BN := Blk.ext (Blk.new _ 62 #[.slice none 0 0, .slice none 0 0]) hbw4) | (have BN := Blk.ext (Blk.drew (Blk.new _ 62 #[.slice none 0 0, .slice none 0 0])) hbw4) | skip); (first | (have FZ := BN.frozen; have CN := BN.cells) | skip))
        | (go_at_call 40; refine (toDealingS_any A2 n2 c2 l2 _ (r2.ext (Ext.trans E (by repeat (first | with_reducible assumption | with_reducible exact Ext.refl _ | with_reducible apply Ext.alloc | with_reducible apply Ext.drew | with_reducible apply Ext.drewN)))) Hn2.out (by omega)).mono ?_; rintro en w5 ⟨At2, ct2, Pt2, rfl, t2, hbw5⟩; have hxw5 := Ext.trans (w := w2) (by repeat (first | with_reducible assumption | with_reducible exact Ext.refl _ | with_reducible apply Ext.alloc | with_reducible apply Ext.drew | with_reducible apply Ext.drewN)) hbw5; have hzw5 := hxw5.size; replace t1 := t1.ext (Ext.trans (by repeat (first | with_reducible assumption | with_reducible exact Ext.refl _ | with_reducible apply Ext.alloc | with_reducible apply Ext.drew | with_reducible apply Ext.drewN)) hbw5); (first | (replace BN := BN.ext (Ext.trans (by repeat (first | with_reducible assumption | with_reducible exact Ext.refl _ | with_reducible apply Ext.alloc | with_reducible apply Ext.drew | with_reducible apply Ext.drewN)) hbw5)) | (have BN := Blk.ext (Blk.new _ 62 #[.slice none 0 0, .slice none 0 0]) hbw5) | (have BN := Blk.ext (Blk.drew (Blk.new _ 62 #[.slice none 0 0, .slice none 0 0])) hbw5) | skip); (first | (have FZ := BN.frozen; have CN := BN.cells) | skip))
        | (go_at_call 51; refine (sRefreshKey_any x0_0 x0_1 x0_2 At1 n1 ct1 Dt1 m1 dt1 l1 k1l At2 n2 ct2 l2 _ (SlI.ext t1.a.sl (by repeat (first | with_reducible assumption | with_reducible exact Ext.refl _ | with_reducible apply Ext.alloc | with_reducible apply Ext.drew | with_reducible apply Ext.drewN))) (SlI.ext t1.b.sl (by repeat (first | with_reducible assumption | with_reducible exact Ext.refl _ | with_reducible apply Ext.alloc | with_reducible apply Ext.drew | with_reducible apply Ext.drewN))) (RdD.ext t2.rd (by repeat (first | with_reducible assumption | with_reducible exact Ext.refl _ | with_reducible apply Ext.alloc | with_reducible apply Ext.drew | with_reducible apply Ext.drewN))) t2.len (by omega)).mono ?_; rintro en w6 ⟨Aw0, nw0, cw0, Dw0, mw0, dw0, Aw1, nw1, cw1, rfl, w0, w1, Nw0, APw0, hbw6⟩; have hxw6 := Ext.trans (w := w2) (by repeat (first | with_reducible assumption | with_reducible exact Ext.refl _ | with_reducible apply Ext.alloc | with_reducible apply Ext.drew | with_reducible apply Ext.drewN)) hbw6; have hzw6 := hxw6.size; replace t1 := t1.ext (Ext.trans (by repeat (first | with_reducible assumption | with_reducible exact Ext.refl _ | with_reducible apply Ext.alloc | with_reducible apply Ext.drew | with_reducible apply Ext.drewN)) hbw6); replace t2 := t2.ext (Ext.trans (by repeat (first | with_reducible assumption | with_reducible exact Ext.refl _ | with_reducible apply Ext.alloc | with_reducible apply Ext.drew | with_reducible apply Ext.drewN)) hbw6); (first | (replace BN := BN.ext (Ext.trans (by repeat (first | with_reducible assumption | with_reducible exact Ext.refl _ | with_reducible apply Ext.alloc | with_reducible apply Ext.drew | with_reducible apply Ext.drewN)) hbw6)) | (have BN := Blk.ext (Blk.new _ 62 #[.slice none 0 0, .slice none 0 0]) hbw6) | (have BN := Blk.ext (Blk.drew (Blk.new _ 62 #[.slice none 0 0, .slice none 0 0])) hbw6) | skip); (first | (have FZ := BN.frozen; have CN := BN.cells) | skip))
        | fail)
    all_goals
      go_wp2
      go_meet
      first
        | exact ⟨_, _, _, _, _, _, _, _, _, _, rfl, rfl, rfl, Blk.new w6 62 #[.slice Aw0 nw0 cw0, .slice Dw0 mw0 dw0], hxw6.size, (w0.more (by first | exact Nat.le_refl _ | omega | (simp; done) | (simp; omega))).ext ((Ext.refl _).alloc _), (w1.more (by first | exact Nat.le_refl _ | omega | (simp; done) | (simp; omega))).ext ((Ext.refl _).alloc _), Nw0, APw0, hxw6.alloc _⟩
        | exact ⟨_, _, _, _, _, _, _, _, _, _, rfl, rfl, rfl, (BN.set_ 0 _).set_ 1 _, (by first | exact Nat.le_refl _ | omega | (simp; done) | (simp; omega)), (w0.keepBlk BN (by decide) (only_two _ _ _ _ _ _)).more (by first | exact Nat.le_refl _ | omega | (simp; done) | (simp; omega)), (w1.keepBlk BN (by decide) (only_two _ _ _ _ _ _)).more (by first | exact Nat.le_refl _ | omega | (simp; done) | (simp; omega)), Nw0, APw0, Ext.only1 hxw6 (by first | exact Nat.le_refl _ | omega | (simp; done) | (simp; omega)) (only_two _ _ _ _ _ _)⟩
  case' rest =>
  obtain ⟨gw0, Aw0, nw0, cw0, Dw0, mw0, dw0, Aw1, nw1, cw1, rfl, rfl, rfl, Bw0x, Gw0, w0, w1, Nw0, APw0, hb⟩ := hcut
  replace E := E.trans hb
  replace B0 := B0.ext hb
  replace B1 := B1.ext hb
  clear hb hS
  have CC0 := B0.cells
  have CC1 := B1.cells
  have CCw0x := Bw0x.cells
  go_wp2_with fail
  have Lw0_x1 := w0.low
  have Lw1_x1 := w1.low
  have Zx1 := E.size
  refine (toSharedKey_any A1 n1 c1 D1 m1 e1 l1 k1l _ (r1.rd.ext E) Hn1.out (s1l.rd.ext E) Hm1.out (by omega)).mono ?_
  rintro en w7 ⟨Ax1, cx1, Dx1, dx1, rfl, x1, hb⟩
  clear CC0 CC1 CCw0x
  replace E := E.trans hb
  replace B0 := B0.ext hb
  replace B1 := B1.ext hb
  replace Bw0x := Bw0x.ext hb
  replace w0 := w0.ext hb
  replace w1 := w1.ext hb
  clear hb
  have CC0 := B0.cells
  have CC1 := B1.cells
  have CCw0x := Bw0x.cells
  go_wp2_with fail
  clear CC0 CC1 CCw0x
  have hb := (Ext.refl w7).alloc (.cells #[.slice Ax1 n1 cx1, .slice Dx1 m1 dx1] 62)
  replace E := E.trans hb
  replace B0 := B0.ext hb
  replace B1 := B1.ext hb
  replace Bw0x := Bw0x.ext hb
  replace w0 := w0.ext hb
  replace w1 := w1.ext hb
  replace x1 := x1.ext hb
  have Bx1x := Blk.new w7 62 #[.slice Ax1 n1 cx1, .slice Dx1 m1 dx1]
  generalize hgx1 : w7.heap.size = gx1 at *
  clear hgx1 hb
  generalize w7.alloc (.cells #[.slice Ax1 n1 cx1, .slice Dx1 m1 dx1] 62) = w8 at *
  have Lw0_x2 := w0.low
  have Lw1_x2 := w1.low
  have Lx1_x2 := x1.low
  have Zx2 := E.size
  refine (toDealingS_any A2 n2 c2 l2 _ (r2.ext E) Hn2.out (by omega)).mono ?_
  rintro en w9 ⟨Ax2, cx2, Px2, rfl, x2, hb⟩
  replace E := E.trans hb
  replace B0 := B0.ext hb
  replace B1 := B1.ext hb
  replace Bw0x := Bw0x.ext hb
  replace Bx1x := Bx1x.ext hb
  replace w0 := w0.ext hb
  replace w1 := w1.ext hb
  replace x1 := x1.ext hb
  clear hb
  go_wp2_with fail
  have hS : ∀ V, Ext w9 V → V.cell? ⟨w.heap.size, 0, none⟩ = some (.int .i64 x0_0) ∧ V.cell? ⟨w.heap.size, 1, none⟩ = some (.int .i64 x0_1) ∧ V.cell? ⟨w.heap.size, 2, none⟩ = some (.int .i64 x0_2) ∧ V.cell? ⟨w.heap.size + 1, 0, none⟩ = some (.slice A1 n1 c1) ∧ V.cell? ⟨w.heap.size + 1, 1, none⟩ = some (.slice D1 m1 e1) ∧ V.cell? ⟨gw0, 0, none⟩ = some (.slice Aw0 nw0 cw0) ∧ V.cell? ⟨gw0, 1, none⟩ = some (.slice Dw0 mw0 dw0) ∧ V.cell? ⟨gx1, 0, none⟩ = some (.slice Ax1 n1 cx1) ∧ V.cell? ⟨gx1, 1, none⟩ = some (.slice Dx1 m1 dx1) := fun V hV => by
    have a0 := (B0.ext hV).cells
    have a1 := (B1.ext hV).cells
    have aw0x := (Bw0x.ext hV).cells
    have ax1x := (Bx1x.ext hV).cells
    exact ⟨a0 0, a0 1, a0 2, a1 0, a1 1, aw0x 0, aw0x 1, ax1x 0, ax1x 1⟩
  have Lw0_g0 := w0.low
  have Lw1_g0 := w1.low
  have Lx1_g0 := x1.low
  have Lx2_g0 := x2.low
  have Zg0 := E.size
  have Lw0_g1 := w0.low
  have Lw1_g1 := w1.low
  have Lx1_g1 := x1.low
  have Lx2_g1 := x2.low
  have Zg1 := E.size
  go_cut [13, 14, 15] from 47 to 55 (fun c0 c1 c2 wx => ∃ gg0 Ag0 ng0 cg0 Dg0 mg0 dg0 Ag1 ng1 cg1, c0 = .pointer (some ⟨gg0, 0, none⟩) ∧ c1 = .slice Ag1 ng1 cg1 ∧ c2 = .bool (rfB x0_0 x0_1 x0_2 l1 k1l l2) ∧ Blk wx gg0 62 #[.slice Ag0 ng0 cg0, .slice Dg0 mg0 dg0] ∧ w9.heap.size ≤ gg0 ∧ OwnK wx w9.heap.size Ag0 ng0 cg0 Dg0 mg0 dg0 (rfV x0_0 x0_1 x0_2 l1 k1l l2).1 (rfV x0_0 x0_1 x0_2 l1 k1l l2).2 ∧ OwnI wx w9.heap.size 3 Ag1 ng1 cg1 (rfO x0_0 x0_1 x0_2 l1 k1l l2) ∧ (ng0 ≤ 1000 ∧ mg0 ≤ 1000 ∧ ng1 ≤ 1000) ∧ Apart (fpI Ag0 ++ fpI Dg0) (fpI Ag1) ∧ Ext w9 wx)
  case first =>
    go_region_held3 (fun V => V.cell? ⟨w.heap.size, 0, none⟩ = some (.int .i64 x0_0) ∧ V.cell? ⟨w.heap.size, 1, none⟩ = some (.int .i64 x0_1) ∧ V.cell? ⟨w.heap.size, 2, none⟩ = some (.int .i64 x0_2) ∧ V.cell? ⟨w.heap.size + 1, 0, none⟩ = some (.slice A1 n1 c1) ∧ V.cell? ⟨w.heap.size + 1, 1, none⟩ = some (.slice D1 m1 e1) ∧ V.cell? ⟨gw0, 0, none⟩ = some (.slice Aw0 nw0 cw0) ∧ V.cell? ⟨gw0, 1, none⟩ = some (.slice Dw0 mw0 dw0) ∧ V.cell? ⟨gx1, 0, none⟩ = some (.slice Ax1 n1 cx1) ∧ V.cell? ⟨gx1, 1, none⟩ = some (.slice Dx1 m1 dx1)) (exact hS _ (by repeat (first | with_reducible assumption | with_reducible exact Ext.refl _ | with_reducible apply Ext.alloc | with_reducible apply Ext.drew | with_reducible apply Ext.drewN | with_reducible refine Ext.setCellS ?_ ?_ | focus (show _ ≤ _; first | omega | (simp; done) | (simp; omega)))))
      (first
        | (go_at_call 32; refine (toGroup_any x0_0 x0_1 x0_2 _).mono ?_; rintro en w10 ⟨rfl, hbw10⟩; have hxw10 := Ext.trans (w := w9) (by repeat (first | with_reducible assumption | with_reducible exact Ext.refl _ | with_reducible apply Ext.alloc | with_reducible apply Ext.drew | with_reducible apply Ext.drewN)) hbw10; have hzw10 := hxw10.size; (first | (replace BN := BN.ext (Ext.trans (by repeat (first | with_reducible assumption | with_reducible exact Ext.refl _ | with_reducible apply Ext.alloc | with_reducible apply Ext.drew | with_reducible apply Ext.drewN)) hbw10)) | (have BN := Blk.ext (Blk.new _ 62 #[.slice none 0 0, .slice none 0 0]) hbw10) | (have BN := Blk.ext (Blk.drew (Blk.new _ 62 #[.slice none 0 0, .slice none 0 0])) hbw10) | skip); (first | (have FZ := BN.frozen; have CN := BN.cells) | skip))
        | (go_at_call 52; refine (iRefreshKey_any x0_0 x0_1 x0_2 Ax1 n1 cx1 Dx1 m1 dx1 l1 k1l Ax2 n2 cx2 l2 _ (SlI.ext x1.a.sl (by repeat (first | with_reducible assumption | with_reducible exact Ext.refl _ | with_reducible apply Ext.alloc | with_reducible apply Ext.drew | with_reducible apply Ext.drewN))) (SlI.ext x1.b.sl (by repeat (first | with_reducible assumption | with_reducible exact Ext.refl _ | with_reducible apply Ext.alloc | with_reducible apply Ext.drew | with_reducible apply Ext.drewN))) (RdD.ext x2.rd (by repeat (first | with_reducible assumption | with_reducible exact Ext.refl _ | with_reducible apply Ext.alloc | with_reducible apply Ext.drew | with_reducible apply Ext.drewN))) x2.len (by omega)).mono ?_; rintro en w11 ⟨Ag0, ng0, cg0, Dg0, mg0, dg0, Ag1, ng1, cg1, rfl, g0, g1, Ng0, APg0, hbw11⟩; have hxw11 := Ext.trans (w := w9) (by repeat (first | with_reducible assumption | with_reducible exact Ext.refl _ | with_reducible apply Ext.alloc | with_reducible apply Ext.drew | with_reducible apply Ext.drewN)) hbw11; have hzw11 := hxw11.size; (first | (replace BN := BN.ext (Ext.trans (by repeat (first | with_reducible assumption | with_reducible exact Ext.refl _ | with_reducible apply Ext.alloc | with_reducible apply Ext.drew | with_reducible apply Ext.drewN)) hbw11)) | (have BN := Blk.ext (Blk.new _ 62 #[.slice none 0 0, .slice none 0 0]) hbw11) | (have BN := Blk.ext (Blk.drew (Blk.new _ 62 #[.slice none 0 0, .slice none 0 0])) hbw11) | skip); (first | (have FZ := BN.frozen; have CN := BN.cells) | skip))
        | fail)
    all_goals
      go_wp2
      go_meet
      first
        | exact ⟨_, _, _, _, _, _, _, _, _, _, rfl, rfl, rfl, Blk.new w11 62 #[.slice Ag0 ng0 cg0, .slice Dg0 mg0 dg0], hxw11.size, (g0.more (by first | exact Nat.le_refl _ | omega | (simp; done) | (simp; omega))).ext ((Ext.refl _).alloc _), (g1.more (by first | exact Nat.le_refl _ | omega | (simp; done) | (simp; omega))).ext ((Ext.refl _).alloc _), Ng0, APg0, hxw11.alloc _⟩
        | exact ⟨_, _, _, _, _, _, _, _, _, _, rfl, rfl, rfl, (BN.set_ 0 _).set_ 1 _, (by first | exact Nat.le_refl _ | omega | (simp; done) | (simp; omega)), (g0.keepBlk BN (by decide) (only_two _ _ _ _ _ _)).more (by first | exact Nat.le_refl _ | omega | (simp; done) | (simp; omega)), (g1.keepBlk BN (by decide) (only_two _ _ _ _ _ _)).more (by first | exact Nat.le_refl _ | omega | (simp; done) | (simp; omega)), Ng0, APg0, Ext.only1 hxw11 (by first | exact Nat.le_refl _ | omega | (simp; done) | (simp; omega)) (only_two _ _ _ _ _ _)⟩
  case' rest =>
  obtain ⟨gg0, Ag0, ng0, cg0, Dg0, mg0, dg0, Ag1, ng1, cg1, rfl, rfl, rfl, Bg0x, Gg0, g0, g1, Ng0, APg0, hb⟩ := hcut
  replace E := E.trans hb
  replace B0 := B0.ext hb
  replace B1 := B1.ext hb
  replace Bw0x := Bw0x.ext hb
  replace Bx1x := Bx1x.ext hb
  replace w0 := w0.ext hb
  replace w1 := w1.ext hb
  replace x1 := x1.ext hb
  replace x2 := x2.ext hb
  clear hb hS
  have CC0 := B0.cells
  have CC1 := B1.cells
  have CCw0x := Bw0x.cells
  have CCx1x := Bx1x.cells
  have CCg0x := Bg0x.cells
  go_wp2_with fail
  refine (eqSharedKey_same (SlI.ext g0.a.sl (Ext.refl _)) (SlI.ext g0.b.sl (Ext.refl _)) (SlI.ext w0.a.sl (Ext.refl _)) (SlI.ext w0.b.sl (Ext.refl _))).mono ?_
  rintro en w12 ⟨rfl, hb⟩
  clear CC0 CC1 CCw0x CCx1x CCg0x
  replace E := E.trans hb
  replace B0 := B0.ext hb
  replace B1 := B1.ext hb
  replace Bw0x := Bw0x.ext hb
  replace Bx1x := Bx1x.ext hb
  replace Bg0x := Bg0x.ext hb
  replace w0 := w0.ext hb
  replace w1 := w1.ext hb
  replace x1 := x1.ext hb
  replace x2 := x2.ext hb
  replace g0 := g0.ext hb
  replace g1 := g1.ext hb
  clear hb
  have CC0 := B0.cells
  have CC1 := B1.cells
  have CCw0x := Bw0x.cells
  have CCx1x := Bx1x.cells
  have CCg0x := Bg0x.cells
  go_wp2_with fail
  refine (eqIntS_same (RdI.ext g1.rd (Ext.refl _)) (RdI.ext w1.rd (Ext.refl _)) g1.len w1.len g1.le w1.le).mono ?_
  rintro en w13 ⟨rfl, hb⟩
  clear CC0 CC1 CCw0x CCx1x CCg0x
  replace E := E.trans hb
  replace B0 := B0.ext hb
  replace B1 := B1.ext hb
  replace Bw0x := Bw0x.ext hb
  replace Bx1x := Bx1x.ext hb
  replace Bg0x := Bg0x.ext hb
  replace w0 := w0.ext hb
  replace w1 := w1.ext hb
  replace x1 := x1.ext hb
  replace x2 := x2.ext hb
  replace g0 := g0.ext hb
  replace g1 := g1.ext hb
  clear hb
  go_wp2_with fail
  have hS : ∀ V, Ext w13 V → V.cell? ⟨w.heap.size, 0, none⟩ = some (.int .i64 x0_0) ∧ V.cell? ⟨w.heap.size, 1, none⟩ = some (.int .i64 x0_1) ∧ V.cell? ⟨w.heap.size, 2, none⟩ = some (.int .i64 x0_2) ∧ V.cell? ⟨w.heap.size + 1, 0, none⟩ = some (.slice A1 n1 c1) ∧ V.cell? ⟨w.heap.size + 1, 1, none⟩ = some (.slice D1 m1 e1) ∧ V.cell? ⟨gw0, 0, none⟩ = some (.slice Aw0 nw0 cw0) ∧ V.cell? ⟨gw0, 1, none⟩ = some (.slice Dw0 mw0 dw0) ∧ V.cell? ⟨gx1, 0, none⟩ = some (.slice Ax1 n1 cx1) ∧ V.cell? ⟨gx1, 1, none⟩ = some (.slice Dx1 m1 dx1) ∧ V.cell? ⟨gg0, 0, none⟩ = some (.slice Ag0 ng0 cg0) ∧ V.cell? ⟨gg0, 1, none⟩ = some (.slice Dg0 mg0 dg0) := fun V hV => by
    have a0 := (B0.ext hV).cells
    have a1 := (B1.ext hV).cells
    have aw0x := (Bw0x.ext hV).cells
    have ax1x := (Bx1x.ext hV).cells
    have ag0x := (Bg0x.ext hV).cells
    exact ⟨a0 0, a0 1, a0 2, a1 0, a1 1, aw0x 0, aw0x 1, ax1x 0, ax1x 1, ag0x 0, ag0x 1⟩
  go_region_held3 (fun V => V.cell? ⟨w.heap.size, 0, none⟩ = some (.int .i64 x0_0) ∧ V.cell? ⟨w.heap.size, 1, none⟩ = some (.int .i64 x0_1) ∧ V.cell? ⟨w.heap.size, 2, none⟩ = some (.int .i64 x0_2) ∧ V.cell? ⟨w.heap.size + 1, 0, none⟩ = some (.slice A1 n1 c1) ∧ V.cell? ⟨w.heap.size + 1, 1, none⟩ = some (.slice D1 m1 e1) ∧ V.cell? ⟨gw0, 0, none⟩ = some (.slice Aw0 nw0 cw0) ∧ V.cell? ⟨gw0, 1, none⟩ = some (.slice Dw0 mw0 dw0) ∧ V.cell? ⟨gx1, 0, none⟩ = some (.slice Ax1 n1 cx1) ∧ V.cell? ⟨gx1, 1, none⟩ = some (.slice Dx1 m1 dx1) ∧ V.cell? ⟨gg0, 0, none⟩ = some (.slice Ag0 ng0 cg0) ∧ V.cell? ⟨gg0, 1, none⟩ = some (.slice Dg0 mg0 dg0)) (exact hS _ (by repeat (first | with_reducible assumption | with_reducible exact Ext.refl _ | with_reducible apply Ext.alloc | with_reducible apply Ext.drew | with_reducible apply Ext.drewN)))
    (first
      | (go_at_call 39; refine (toSharedKey_any A1 n1 c1 D1 m1 e1 l1 k1l _ (r1.rd.ext (Ext.trans E (by repeat (first | with_reducible assumption | with_reducible exact Ext.refl _ | with_reducible apply Ext.alloc | with_reducible apply Ext.drew | with_reducible apply Ext.drewN)))) Hn1.out (s1l.rd.ext (Ext.trans E (by repeat (first | with_reducible assumption | with_reducible exact Ext.refl _ | with_reducible apply Ext.alloc | with_reducible apply Ext.drew | with_reducible apply Ext.drewN)))) Hm1.out (by omega)).mono ?_; rintro en w14 ⟨At3, ct3, Dt3, dt3, rfl, t3, hbw14⟩; have hxw14 := Ext.trans (w := w13) (by repeat (first | with_reducible assumption | with_reducible exact Ext.refl _ | with_reducible apply Ext.alloc | with_reducible apply Ext.drew | with_reducible apply Ext.drewN)) hbw14; have hzw14 := hxw14.size)
      | (go_at_call 42; refine (eqSharedKey_same (SlI.ext x1.a.sl (by repeat (first | with_reducible assumption | with_reducible exact Ext.refl _ | with_reducible apply Ext.alloc | with_reducible apply Ext.drew | with_reducible apply Ext.drewN))) (SlI.ext x1.b.sl (by repeat (first | with_reducible assumption | with_reducible exact Ext.refl _ | with_reducible apply Ext.alloc | with_reducible apply Ext.drew | with_reducible apply Ext.drewN))) (SlI.ext t3.a.sl (by repeat (first | with_reducible assumption | with_reducible exact Ext.refl _ | with_reducible apply Ext.alloc | with_reducible apply Ext.drew | with_reducible apply Ext.drewN))) (SlI.ext t3.b.sl (by repeat (first | with_reducible assumption | with_reducible exact Ext.refl _ | with_reducible apply Ext.alloc | with_reducible apply Ext.drew | with_reducible apply Ext.drewN)))).mono ?_; rintro en w15 ⟨rfl, hbw15⟩; have hxw15 := Ext.trans (w := w13) (by repeat (first | with_reducible assumption | with_reducible exact Ext.refl _ | with_reducible apply Ext.alloc | with_reducible apply Ext.drew | with_reducible apply Ext.drewN)) hbw15; have hzw15 := hxw15.size; replace t3 := t3.ext (Ext.trans (by repeat (first | with_reducible assumption | with_reducible exact Ext.refl _ | with_reducible apply Ext.alloc | with_reducible apply Ext.drew | with_reducible apply Ext.drewN)) hbw15))
      | fail)
  replace E := E.trans hxw15
  replace B0 := B0.ext hxw15
  replace B1 := B1.ext hxw15
  replace Bw0x := Bw0x.ext hxw15
  replace Bx1x := Bx1x.ext hxw15
  replace Bg0x := Bg0x.ext hxw15
  replace w0 := w0.ext hxw15
  replace w1 := w1.ext hxw15
  replace x1 := x1.ext hxw15
  replace x2 := x2.ext hxw15
  replace g0 := g0.ext hxw15
  replace g1 := g1.ext hxw15
  clear hbw14 hxw14 hzw14
  clear hbw15 hxw15 hzw15
  clear hS
  clear t3
  have CC0 := B0.cells
  have CC1 := B1.cells
  have CCw0x := Bw0x.cells
  have CCx1x := Bx1x.cells
  have CCg0x := Bg0x.cells
  go_wp2_with fail
  refine (toDealingS_any A2 n2 c2 l2 _ (r2.ext E) Hn2.out (by omega)).mono ?_
  rintro en w16 ⟨At4, ct4, Pt4, rfl, t4, hb⟩
  clear CC0 CC1 CCw0x CCx1x CCg0x
  replace E := E.trans hb
  replace B0 := B0.ext hb
  replace B1 := B1.ext hb
  replace Bw0x := Bw0x.ext hb
  replace Bx1x := Bx1x.ext hb
  replace Bg0x := Bg0x.ext hb
  replace w0 := w0.ext hb
  replace w1 := w1.ext hb
  replace x1 := x1.ext hb
  replace x2 := x2.ext hb
  replace g0 := g0.ext hb
  replace g1 := g1.ext hb
  clear hb
  have CC0 := B0.cells
  have CC1 := B1.cells
  have CCw0x := Bw0x.cells
  have CCx1x := Bx1x.cells
  have CCg0x := Bg0x.cells
  go_wp2_with fail
  refine (eqDealingS_same (RdD.ext x2.rd (Ext.refl _)) (RdD.ext t4.rd (Ext.refl _)) x2.len t4.len x2.le t4.le).mono ?_
  rintro en w17 ⟨rfl, hb⟩
  clear CC0 CC1 CCw0x CCx1x CCg0x
  replace E := E.trans hb
  replace B0 := B0.ext hb
  replace B1 := B1.ext hb
  replace Bw0x := Bw0x.ext hb
  replace Bx1x := Bx1x.ext hb
  replace Bg0x := Bg0x.ext hb
  replace w0 := w0.ext hb
  replace w1 := w1.ext hb
  replace x1 := x1.ext hb
  replace x2 := x2.ext hb
  replace g0 := g0.ext hb
  replace g1 := g1.ext hb
  replace t4 := t4.ext hb
  clear hb
  clear t4
  have CC0 := B0.cells
  have CC1 := B1.cells
  have CCw0x := Bw0x.cells
  have CCx1x := Bx1x.cells
  have CCg0x := Bg0x.cells
  go_wp2_with fail
  refine (markSharedKey_any x1 (by omega) (by omega)).mono ?_
  rintro e w18 ⟨rfl, hm, hO⟩
  clear CC0 CC1 CCw0x CCx1x CCg0x
  replace E := E.only hO (x1.high.mono Zx1)
  replace B0 := B0.only hO (fun hh => (List.mem_append.1 hh).elim (B0.off_own x1.a.w (by decide)) (B0.off_own x1.b.w (by decide)))
  replace B1 := B1.only hO (fun hh => (List.mem_append.1 hh).elim (B1.off_own x1.a.w (by decide)) (B1.off_own x1.b.w (by decide)))
  replace Bw0x := Bw0x.only hO (fun hh => (List.mem_append.1 hh).elim (Bw0x.off_own x1.a.w (by decide)) (Bw0x.off_own x1.b.w (by decide)))
  replace Bx1x := Bx1x.only hO (fun hh => (List.mem_append.1 hh).elim (Bx1x.off_own x1.a.w (by decide)) (Bx1x.off_own x1.b.w (by decide)))
  replace Bg0x := Bg0x.only hO (fun hh => (List.mem_append.1 hh).elim (Bg0x.off_own x1.a.w (by decide)) (Bg0x.off_own x1.b.w (by decide)))
  replace w0 := w0.only hO (Apart.of_low Lw0_x1 x1.high)
  replace w1 := w1.only hO (Apart.of_low Lw1_x1 x1.high)
  replace x2 := x2.only hO (Apart.of_high Lx1_x2 x2.high)
  replace g0 := g0.only hO (Apart.of_high Lx1_g0 g0.high)
  replace g1 := g1.only hO (Apart.of_high Lx1_g1 g1.high)
  clear hO x1
  have x1 := hm
  clear hm
  have CC0 := B0.cells
  have CC1 := B1.cells
  have CCw0x := Bw0x.cells
  have CCx1x := Bx1x.cells
  have CCg0x := Bg0x.cells
  go_wp2_with fail
  refine (markDealingS_any x2 (by omega) (by omega)).mono ?_
  rintro e w19 ⟨rfl, hm, hO⟩
  clear CC0 CC1 CCw0x CCx1x CCg0x
  replace E := E.only hO (x2.high.mono Zx2)
  replace B0 := B0.only hO (x2.off B0 (by decide) (by decide))
  replace B1 := B1.only hO (x2.off B1 (by decide) (by decide))
  replace Bw0x := Bw0x.only hO (x2.off Bw0x (by decide) (by decide))
  replace Bx1x := Bx1x.only hO (x2.off Bx1x (by decide) (by decide))
  replace Bg0x := Bg0x.only hO (x2.off Bg0x (by decide) (by decide))
  replace w0 := w0.only hO (Apart.of_low Lw0_x2 x2.high)
  replace w1 := w1.only hO (Apart.of_low Lw1_x2 x2.high)
  replace x1 := x1.only hO (Apart.of_low Lx1_x2 x2.high)
  replace g0 := g0.only hO (Apart.of_high Lx2_g0 g0.high)
  replace g1 := g1.only hO (Apart.of_high Lx2_g1 g1.high)
  clear hO x2
  clear hm
  have CC0 := B0.cells
  have CC1 := B1.cells
  have CCw0x := Bw0x.cells
  have CCx1x := Bx1x.cells
  have CCg0x := Bg0x.cells
  go_wp2_with fail
  refine (eqSharedKey_same (SlI.ext g0.a.sl (Ext.refl _)) (SlI.ext g0.b.sl (Ext.refl _)) (SlI.ext w0.a.sl (Ext.refl _)) (SlI.ext w0.b.sl (Ext.refl _))).mono ?_
  rintro en w20 ⟨rfl, hb⟩
  clear CC0 CC1 CCw0x CCx1x CCg0x
  replace E := E.trans hb
  replace B0 := B0.ext hb
  replace B1 := B1.ext hb
  replace Bw0x := Bw0x.ext hb
  replace Bx1x := Bx1x.ext hb
  replace Bg0x := Bg0x.ext hb
  replace w0 := w0.ext hb
  replace w1 := w1.ext hb
  replace x1 := x1.ext hb
  replace g0 := g0.ext hb
  replace g1 := g1.ext hb
  clear hb
  have CC0 := B0.cells
  have CC1 := B1.cells
  have CCw0x := Bw0x.cells
  have CCx1x := Bx1x.cells
  have CCg0x := Bg0x.cells
  go_wp2_with fail
  refine (eqIntS_same (RdI.ext g1.rd (Ext.refl _)) (RdI.ext w1.rd (Ext.refl _)) g1.len w1.len g1.le w1.le).mono ?_
  rintro en w21 ⟨rfl, hb⟩
  clear CC0 CC1 CCw0x CCx1x CCg0x
  replace E := E.trans hb
  replace B0 := B0.ext hb
  replace B1 := B1.ext hb
  replace Bw0x := Bw0x.ext hb
  replace Bx1x := Bx1x.ext hb
  replace Bg0x := Bg0x.ext hb
  replace w0 := w0.ext hb
  replace w1 := w1.ext hb
  replace x1 := x1.ext hb
  replace g0 := g0.ext hb
  replace g1 := g1.ext hb
  clear hb
  have CC0 := B0.cells
  have CC1 := B1.cells
  have CCw0x := Bw0x.cells
  have CCx1x := Bx1x.cells
  have CCg0x := Bg0x.cells
  go_wp2_with fail
  refine (markSharedKey_any g0 (by omega) (by omega)).mono ?_
  rintro e w22 ⟨rfl, hm, hO⟩
  clear CC0 CC1 CCw0x CCx1x CCg0x
  replace E := E.only hO (g0.high.mono Zg0)
  replace B0 := B0.only hO (fun hh => (List.mem_append.1 hh).elim (B0.off_own g0.a.w (by decide)) (B0.off_own g0.b.w (by decide)))
  replace B1 := B1.only hO (fun hh => (List.mem_append.1 hh).elim (B1.off_own g0.a.w (by decide)) (B1.off_own g0.b.w (by decide)))
  replace Bw0x := Bw0x.only hO (fun hh => (List.mem_append.1 hh).elim (Bw0x.off_own g0.a.w (by decide)) (Bw0x.off_own g0.b.w (by decide)))
  replace Bx1x := Bx1x.only hO (fun hh => (List.mem_append.1 hh).elim (Bx1x.off_own g0.a.w (by decide)) (Bx1x.off_own g0.b.w (by decide)))
  replace Bg0x := Bg0x.only hO (fun hh => (List.mem_append.1 hh).elim (Bg0x.off_own g0.a.w (by decide)) (Bg0x.off_own g0.b.w (by decide)))
  replace w0 := w0.only hO (Apart.of_low Lw0_g0 g0.high)
  replace w1 := w1.only hO (Apart.of_low Lw1_g0 g0.high)
  replace x1 := x1.only hO (Apart.of_low Lx1_g0 g0.high)
  replace g1 := g1.only hO (Apart.symm APg0)
  clear hO g0
  have g0 := hm
  clear hm
  have CC0 := B0.cells
  have CC1 := B1.cells
  have CCw0x := Bw0x.cells
  have CCx1x := Bx1x.cells
  have CCg0x := Bg0x.cells
  go_wp2_with fail
  refine (markIntS_any g1 (by omega) (by omega)).mono ?_
  rintro e w23 ⟨rfl, hm, hO⟩
  clear CC0 CC1 CCw0x CCx1x CCg0x
  replace E := E.only hO (g1.high.mono Zg1)
  replace B0 := B0.only hO (B0.off_own g1.w (by decide))
  replace B1 := B1.only hO (B1.off_own g1.w (by decide))
  replace Bw0x := Bw0x.only hO (Bw0x.off_own g1.w (by decide))
  replace Bx1x := Bx1x.only hO (Bx1x.off_own g1.w (by decide))
  replace Bg0x := Bg0x.only hO (Bg0x.off_own g1.w (by decide))
  replace w0 := w0.only hO (Apart.of_low Lw0_g1 g1.high)
  replace w1 := w1.only hO (Apart.of_low Lw1_g1 g1.high)
  replace x1 := x1.only hO (Apart.of_low Lx1_g1 g1.high)
  replace g0 := g0.only hO (APg0)
  clear hO g1
  have g1 := hm
  clear hm
  have CC0 := B0.cells
  have CC1 := B1.cells
  have CCw0x := Bw0x.cells
  have CCx1x := Bx1x.cells
  have CCg0x := Bg0x.cells
  go_wp2_with fail
  refine (heldSharedKey_any g0 (by omega) (by omega)).mono ?_
  rintro en w24 ⟨rfl, hb⟩
  clear CC0 CC1 CCw0x CCx1x CCg0x
  replace E := E.trans hb
  replace B0 := B0.ext hb
  replace B1 := B1.ext hb
  replace Bw0x := Bw0x.ext hb
  replace Bx1x := Bx1x.ext hb
  replace Bg0x := Bg0x.ext hb
  replace w0 := w0.ext hb
  replace w1 := w1.ext hb
  replace x1 := x1.ext hb
  replace g0 := g0.ext hb
  replace g1 := g1.ext hb
  clear hb
  have CC0 := B0.cells
  have CC1 := B1.cells
  have CCw0x := Bw0x.cells
  have CCx1x := Bx1x.cells
  have CCg0x := Bg0x.cells
  go_wp2_with fail
  refine (heldIntS_any g1.rd (by omega) (by omega)).mono ?_
  rintro en w25 ⟨rfl, hb⟩
  clear CC0 CC1 CCw0x CCx1x CCg0x
  replace E := E.trans hb
  replace B0 := B0.ext hb
  replace B1 := B1.ext hb
  replace Bw0x := Bw0x.ext hb
  replace Bx1x := Bx1x.ext hb
  replace Bg0x := Bg0x.ext hb
  replace w0 := w0.ext hb
  replace w1 := w1.ext hb
  replace x1 := x1.ext hb
  replace g0 := g0.ext hb
  replace g1 := g1.ext hb
  clear hb
  go_wp2_with fail
  have hS : ∀ V, Ext w25 V → V.cell? ⟨w.heap.size, 0, none⟩ = some (.int .i64 x0_0) ∧ V.cell? ⟨w.heap.size, 1, none⟩ = some (.int .i64 x0_1) ∧ V.cell? ⟨w.heap.size, 2, none⟩ = some (.int .i64 x0_2) ∧ V.cell? ⟨w.heap.size + 1, 0, none⟩ = some (.slice A1 n1 c1) ∧ V.cell? ⟨w.heap.size + 1, 1, none⟩ = some (.slice D1 m1 e1) ∧ V.cell? ⟨gw0, 0, none⟩ = some (.slice Aw0 nw0 cw0) ∧ V.cell? ⟨gw0, 1, none⟩ = some (.slice Dw0 mw0 dw0) ∧ V.cell? ⟨gx1, 0, none⟩ = some (.slice Ax1 n1 cx1) ∧ V.cell? ⟨gx1, 1, none⟩ = some (.slice Dx1 m1 dx1) ∧ V.cell? ⟨gg0, 0, none⟩ = some (.slice Ag0 ng0 cg0) ∧ V.cell? ⟨gg0, 1, none⟩ = some (.slice Dg0 mg0 dg0) := fun V hV => by
    have a0 := (B0.ext hV).cells
    have a1 := (B1.ext hV).cells
    have aw0x := (Bw0x.ext hV).cells
    have ax1x := (Bx1x.ext hV).cells
    have ag0x := (Bg0x.ext hV).cells
    exact ⟨a0 0, a0 1, a0 2, a1 0, a1 1, aw0x 0, aw0x 1, ax1x 0, ax1x 1, ag0x 0, ag0x 1⟩
  have Lw0_h0 := w0.low
  have Lw1_h0 := w1.low
  have Lx1_h0 := x1.low
  have Lg0_h0 := g0.low
  have Lg1_h0 := g1.low
  have Zh0 := E.size
  have Lw0_h1 := w0.low
  have Lw1_h1 := w1.low
  have Lx1_h1 := x1.low
  have Lg0_h1 := g0.low
  have Lg1_h1 := g1.low
  have Zh1 := E.size
  go_cut [19, 20, 21] from 125 to 135 (fun c0 c1 c2 wx => ∃ gh0 Ah0 nh0 ch0 Dh0 mh0 dh0 Ah1 nh1 ch1, c0 = .pointer (some ⟨gh0, 0, none⟩) ∧ c1 = .slice Ah1 nh1 ch1 ∧ c2 = .bool (rfB x0_0 x0_1 x0_2 l1 k1l l2) ∧ Blk wx gh0 62 #[.slice Ah0 nh0 ch0, .slice Dh0 mh0 dh0] ∧ w25.heap.size ≤ gh0 ∧ OwnK wx w25.heap.size Ah0 nh0 ch0 Dh0 mh0 dh0 (rfV x0_0 x0_1 x0_2 l1 k1l l2).1 (rfV x0_0 x0_1 x0_2 l1 k1l l2).2 ∧ OwnI wx w25.heap.size 3 Ah1 nh1 ch1 (rfO x0_0 x0_1 x0_2 l1 k1l l2) ∧ (nh0 ≤ 1000 ∧ mh0 ≤ 1000 ∧ nh1 ≤ 1000) ∧ Apart (fpI Ah0 ++ fpI Dh0) (fpI Ah1) ∧ Ext w25 wx)
  case first =>
    go_region_held3 (fun V => V.cell? ⟨w.heap.size, 0, none⟩ = some (.int .i64 x0_0) ∧ V.cell? ⟨w.heap.size, 1, none⟩ = some (.int .i64 x0_1) ∧ V.cell? ⟨w.heap.size, 2, none⟩ = some (.int .i64 x0_2) ∧ V.cell? ⟨w.heap.size + 1, 0, none⟩ = some (.slice A1 n1 c1) ∧ V.cell? ⟨w.heap.size + 1, 1, none⟩ = some (.slice D1 m1 e1) ∧ V.cell? ⟨gw0, 0, none⟩ = some (.slice Aw0 nw0 cw0) ∧ V.cell? ⟨gw0, 1, none⟩ = some (.slice Dw0 mw0 dw0) ∧ V.cell? ⟨gx1, 0, none⟩ = some (.slice Ax1 n1 cx1) ∧ V.cell? ⟨gx1, 1, none⟩ = some (.slice Dx1 m1 dx1) ∧ V.cell? ⟨gg0, 0, none⟩ = some (.slice Ag0 ng0 cg0) ∧ V.cell? ⟨gg0, 1, none⟩ = some (.slice Dg0 mg0 dg0)) (exact hS _ (by repeat (first | with_reducible assumption | with_reducible exact Ext.refl _ | with_reducible apply Ext.alloc | with_reducible apply Ext.drew | with_reducible apply Ext.drewN | with_reducible refine Ext.setCellS ?_ ?_ | focus (show _ ≤ _; first | omega | (simp; done) | (simp; omega)))))
      (first
        | (go_at_call 32; refine (toGroup_any x0_0 x0_1 x0_2 _).mono ?_; rintro en w26 ⟨rfl, hbw26⟩; have hxw26 := Ext.trans (w := w25) (by repeat (first | with_reducible assumption | with_reducible exact Ext.refl _ | with_reducible apply Ext.alloc | with_reducible apply Ext.drew | with_reducible apply Ext.drewN)) hbw26; have hzw26 := hxw26.size; (first | (replace BN := BN.ext (Ext.trans (by repeat (first | with_reducible assumption | with_reducible exact Ext.refl _ | with_reducible apply Ext.alloc | with_reducible apply Ext.drew | with_reducible apply Ext.drewN)) hbw26)) | (have BN := Blk.ext (Blk.new _ 62 #[.slice none 0 0, .slice none 0 0]) hbw26) | (have BN := Blk.ext (Blk.drew (Blk.new _ 62 #[.slice none 0 0, .slice none 0 0])) hbw26) | skip); (first | (have FZ := BN.frozen; have CN := BN.cells) | skip))
        | (go_at_call 39; refine (toSharedKey_any A1 n1 c1 D1 m1 e1 l1 k1l _ (r1.rd.ext (Ext.trans E (by repeat (first | with_reducible assumption | with_reducible exact Ext.refl _ | with_reducible apply Ext.alloc | with_reducible apply Ext.drew | with_reducible apply Ext.drewN)))) Hn1.out (s1l.rd.ext (Ext.trans E (by repeat (first | with_reducible assumption | with_reducible exact Ext.refl _ | with_reducible apply Ext.alloc | with_reducible apply Ext.drew | with_reducible apply Ext.drewN)))) Hm1.out (by omega)).mono ?_; rintro en w27 ⟨At5, ct5, Dt5, dt5, rfl, t5, hbw27⟩; have hxw27 := Ext.trans (w := w25) (by repeat (first | with_reducible assumption | with_reducible exact Ext.refl _ | with_reducible apply Ext.alloc | with_reducible apply Ext.drew | with_reducible apply Ext.drewN)) hbw27; have hzw27 := hxw27.size; (first | (replace BN := BN.ext (Ext.trans (by repeat (first | with_reducible assumption | with_reducible exact Ext.refl _ | with_reducible apply Ext.alloc | with_reducible apply Ext.drew | with_reducible apply Ext.drewN)) hbw27)) | (have BN := Blk.ext (Blk.new _ 62 #[.slice none 0 0, .slice none 0 0]) hbw27) | (have BN := Blk.ext (Blk.drew (Blk.new _ 62 #[.slice none 0 0, .slice none 0 0])) hbw27) | skip); (first | (have FZ := BN.frozen; have CN := BN.cells) | skip))
        | (go_at_call 40; refine (toDealingS_any A2 n2 c2 l2 _ (r2.ext (Ext.trans E (by repeat (first | with_reducible assumption | with_reducible exact Ext.refl _ | with_reducible apply Ext.alloc | with_reducible apply Ext.drew | with_reducible apply Ext.drewN)))) Hn2.out (by omega)).mono ?_; rintro en w28 ⟨At6, ct6, Pt6, rfl, t6, hbw28⟩; have hxw28 := Ext.trans (w := w25) (by repeat (first | with_reducible assumption | with_reducible exact Ext.refl _ | with_reducible apply Ext.alloc | with_reducible apply Ext.drew | with_reducible apply Ext.drewN)) hbw28; have hzw28 := hxw28.size; replace t5 := t5.ext (Ext.trans (by repeat (first | with_reducible assumption | with_reducible exact Ext.refl _ | with_reducible apply Ext.alloc | with_reducible apply Ext.drew | with_reducible apply Ext.drewN)) hbw28); (first | (replace BN := BN.ext (Ext.trans (by repeat (first | with_reducible assumption | with_reducible exact Ext.refl _ | with_reducible apply Ext.alloc | with_reducible apply Ext.drew | with_reducible apply Ext.drewN)) hbw28)) | (have BN := Blk.ext (Blk.new _ 62 #[.slice none 0 0, .slice none 0 0]) hbw28) | (have BN := Blk.ext (Blk.drew (Blk.new _ 62 #[.slice none 0 0, .slice none 0 0])) hbw28) | skip); (first | (have FZ := BN.frozen; have CN := BN.cells) | skip))
        | (go_at_call 52; refine (iRefreshKey_any x0_0 x0_1 x0_2 At5 n1 ct5 Dt5 m1 dt5 l1 k1l At6 n2 ct6 l2 _ (SlI.ext t5.a.sl (by repeat (first | with_reducible assumption | with_reducible exact Ext.refl _ | with_reducible apply Ext.alloc | with_reducible apply Ext.drew | with_reducible apply Ext.drewN))) (SlI.ext t5.b.sl (by repeat (first | with_reducible assumption | with_reducible exact Ext.refl _ | with_reducible apply Ext.alloc | with_reducible apply Ext.drew | with_reducible apply Ext.drewN))) (RdD.ext t6.rd (by repeat (first | with_reducible assumption | with_reducible exact Ext.refl _ | with_reducible apply Ext.alloc | with_reducible apply Ext.drew | with_reducible apply Ext.drewN))) t6.len (by omega)).mono ?_; rintro en w29 ⟨Ah0, nh0, ch0, Dh0, mh0, dh0, Ah1, nh1, ch1, rfl, h0, h1, Nh0, APh0, hbw29⟩; have hxw29 := Ext.trans (w := w25) (by repeat (first | with_reducible assumption | with_reducible exact Ext.refl _ | with_reducible apply Ext.alloc | with_reducible apply Ext.drew | with_reducible apply Ext.drewN)) hbw29; have hzw29 := hxw29.size; replace t5 := t5.ext (Ext.trans (by repeat (first | with_reducible assumption | with_reducible exact Ext.refl _ | with_reducible apply Ext.alloc | with_reducible apply Ext.drew | with_reducible apply Ext.drewN)) hbw29); replace t6 := t6.ext (Ext.trans (by repeat (first | with_reducible assumption | with_reducible exact Ext.refl _ | with_reducible apply Ext.alloc | with_reducible apply Ext.drew | with_reducible apply Ext.drewN)) hbw29); (first | (replace BN := BN.ext (Ext.trans (by repeat (first | with_reducible assumption | with_reducible exact Ext.refl _ | with_reducible apply Ext.alloc | with_reducible apply Ext.drew | with_reducible apply Ext.drewN)) hbw29)) | (have BN := Blk.ext (Blk.new _ 62 #[.slice none 0 0, .slice none 0 0]) hbw29) | (have BN := Blk.ext (Blk.drew (Blk.new _ 62 #[.slice none 0 0, .slice none 0 0])) hbw29) | skip); (first | (have FZ := BN.frozen; have CN := BN.cells) | skip))
        | fail)
    all_goals
      go_wp2
      go_meet
      first
        | exact ⟨_, _, _, _, _, _, _, _, _, _, rfl, rfl, rfl, Blk.new w29 62 #[.slice Ah0 nh0 ch0, .slice Dh0 mh0 dh0], hxw29.size, (h0.more (by first | exact Nat.le_refl _ | omega | (simp; done) | (simp; omega))).ext ((Ext.refl _).alloc _), (h1.more (by first | exact Nat.le_refl _ | omega | (simp; done) | (simp; omega))).ext ((Ext.refl _).alloc _), Nh0, APh0, hxw29.alloc _⟩
        | exact ⟨_, _, _, _, _, _, _, _, _, _, rfl, rfl, rfl, (BN.set_ 0 _).set_ 1 _, (by first | exact Nat.le_refl _ | omega | (simp; done) | (simp; omega)), (h0.keepBlk BN (by decide) (only_two _ _ _ _ _ _)).more (by first | exact Nat.le_refl _ | omega | (simp; done) | (simp; omega)), (h1.keepBlk BN (by decide) (only_two _ _ _ _ _ _)).more (by first | exact Nat.le_refl _ | omega | (simp; done) | (simp; omega)), Nh0, APh0, Ext.only1 hxw29 (by first | exact Nat.le_refl _ | omega | (simp; done) | (simp; omega)) (only_two _ _ _ _ _ _)⟩
  case' rest =>
  obtain ⟨gh0, Ah0, nh0, ch0, Dh0, mh0, dh0, Ah1, nh1, ch1, rfl, rfl, rfl, Bh0x, Gh0, h0, h1, Nh0, APh0, hb⟩ := hcut
  replace E := E.trans hb
  replace B0 := B0.ext hb
  replace B1 := B1.ext hb
  replace Bw0x := Bw0x.ext hb
  replace Bx1x := Bx1x.ext hb
  replace Bg0x := Bg0x.ext hb
  replace w0 := w0.ext hb
  replace w1 := w1.ext hb
  replace x1 := x1.ext hb
  replace g0 := g0.ext hb
  replace g1 := g1.ext hb
  clear hb hS
  have CC0 := B0.cells
  have CC1 := B1.cells
  have CCw0x := Bw0x.cells
  have CCx1x := Bx1x.cells
  have CCg0x := Bg0x.cells
  have CCh0x := Bh0x.cells
  go_wp2_with fail
  refine (eqSharedKey_same (SlI.ext h0.a.sl (Ext.refl _)) (SlI.ext h0.b.sl (Ext.refl _)) (SlI.ext w0.a.sl (Ext.refl _)) (SlI.ext w0.b.sl (Ext.refl _))).mono ?_
  rintro en w30 ⟨rfl, hb⟩
  clear CC0 CC1 CCw0x CCx1x CCg0x CCh0x
  replace E := E.trans hb
  replace B0 := B0.ext hb
  replace B1 := B1.ext hb
  replace Bw0x := Bw0x.ext hb
  replace Bx1x := Bx1x.ext hb
  replace Bg0x := Bg0x.ext hb
  replace Bh0x := Bh0x.ext hb
  replace w0 := w0.ext hb
  replace w1 := w1.ext hb
  replace x1 := x1.ext hb
  replace g0 := g0.ext hb
  replace g1 := g1.ext hb
  replace h0 := h0.ext hb
  replace h1 := h1.ext hb
  clear hb
  have CC0 := B0.cells
  have CC1 := B1.cells
  have CCw0x := Bw0x.cells
  have CCx1x := Bx1x.cells
  have CCg0x := Bg0x.cells
  have CCh0x := Bh0x.cells
  go_wp2_with fail
  refine (eqIntS_same (RdI.ext h1.rd (Ext.refl _)) (RdI.ext w1.rd (Ext.refl _)) h1.len w1.len h1.le w1.le).mono ?_
  rintro en w31 ⟨rfl, hb⟩
  clear CC0 CC1 CCw0x CCx1x CCg0x CCh0x
  replace E := E.trans hb
  replace B0 := B0.ext hb
  replace B1 := B1.ext hb
  replace Bw0x := Bw0x.ext hb
  replace Bx1x := Bx1x.ext hb
  replace Bg0x := Bg0x.ext hb
  replace Bh0x := Bh0x.ext hb
  replace w0 := w0.ext hb
  replace w1 := w1.ext hb
  replace x1 := x1.ext hb
  replace g0 := g0.ext hb
  replace g1 := g1.ext hb
  replace h0 := h0.ext hb
  replace h1 := h1.ext hb
  clear hb
  have CC0 := B0.cells
  have CC1 := B1.cells
  have CCw0x := Bw0x.cells
  have CCx1x := Bx1x.cells
  have CCg0x := Bg0x.cells
  have CCh0x := Bh0x.cells
  go_wp2_with fail
  refine (heldSharedKey_any g0 (by omega) (by omega)).mono ?_
  rintro en w32 ⟨rfl, hb⟩
  clear CC0 CC1 CCw0x CCx1x CCg0x CCh0x
  replace E := E.trans hb
  replace B0 := B0.ext hb
  replace B1 := B1.ext hb
  replace Bw0x := Bw0x.ext hb
  replace Bx1x := Bx1x.ext hb
  replace Bg0x := Bg0x.ext hb
  replace Bh0x := Bh0x.ext hb
  replace w0 := w0.ext hb
  replace w1 := w1.ext hb
  replace x1 := x1.ext hb
  replace g0 := g0.ext hb
  replace g1 := g1.ext hb
  replace h0 := h0.ext hb
  replace h1 := h1.ext hb
  clear hb
  have CC0 := B0.cells
  have CC1 := B1.cells
  have CCw0x := Bw0x.cells
  have CCx1x := Bx1x.cells
  have CCg0x := Bg0x.cells
  have CCh0x := Bh0x.cells
  go_wp2_with fail
  refine (heldIntS_any g1.rd (by omega) (by omega)).mono ?_
  rintro en w33 ⟨rfl, hb⟩
  clear CC0 CC1 CCw0x CCx1x CCg0x CCh0x
  replace E := E.trans hb
  replace B0 := B0.ext hb
  replace B1 := B1.ext hb
  replace Bw0x := Bw0x.ext hb
  replace Bx1x := Bx1x.ext hb
  replace Bg0x := Bg0x.ext hb
  replace Bh0x := Bh0x.ext hb
  replace w0 := w0.ext hb
  replace w1 := w1.ext hb
  replace x1 := x1.ext hb
  replace g0 := g0.ext hb
  replace g1 := g1.ext hb
  replace h0 := h0.ext hb
  replace h1 := h1.ext hb
  clear hb
  go_wp2
  go_ret
  exact ⟨rfl, E⟩
end lawRefreshKey

set_option maxRecDepth 100000 in
theorem lawRefreshKey.lifted (os : Os) (started : os.Started) (H : Type) (enc : TypeId × Value → H) :
    ReturnsInHanded {} Try.checked os 9 .any (Rows.fnExactRefreshKeySpec.pre6 enc Try.prog Try.f9 Rows.fnExactRefreshKeyRow.domain false) (Rows.fnExactRefreshKeySpec.post enc Try.prog Try.f9 false true false false) := by
  refine returnsInHanded_of_change (C := Try.checked) Facts.own started (by kernel_rfl) Try.func9
    (ChangeSpec.witness6 (enc := enc) (C := Try.checked) false ⟨#[], #[.agg #[.int .i64 0, .int .i64 0, .int .i64 0], .agg #[.slice none 0 0, .slice none 0 0], .slice none 0 0], []⟩ 8 (by kernel_rfl) (by kernel_rfl) (by kernel_rfl) (by kernel_rfl)) ?_
  intro W base args ds gs before hval0 hW _ _
  have hval : ∀ (j : Nat) t v, Try.f9.params[j]? = some t → args[j]? = some v → Value.okWide Try.prog W .any base t v := hval0
  have hW' := hW
  obtain ⟨p, q, hA0, hV, rfl, hfz, hnd⟩ := hW
  have hA : DataW.TrodAll enc Try.prog W 0 (fun _ => true) true Try.f9.params.toList args.toList ds p := hA0
  rw [Try.params9] at hA hval
  obtain ⟨v0, vs0, d0, ds0, p0, q0, hargs, rfl, rfl, h0, r0⟩ := trodAll_cons hA
  obtain ⟨v1, vs1, d1, ds1, p1, q1, rfl, rfl, rfl, h1, r1⟩ := trodAll_cons r0
  obtain ⟨v2, vs2, d2, ds2, p2, q2, rfl, rfl, rfl, h2, r2⟩ := trodAll_cons r1
  obtain ⟨rfl, rfl, rfl⟩ := trodAll_nil r2
  obtain rfl : args = #[v0, v1, v2] := by cases args; simp_all
  obtain ⟨rfl, rfl⟩ := trodVars_none hV
  have hlt := hW'.lt
  clear hA hA0 hval0 hargs r0 r1 r2
  have k0 := h0
  have k1 := h1
  have k2 := h2
  obtain ⟨x0_0, x0_1, x0_2, rfl, f0_0, f0_1, f0_2⟩ := openAgg3 Try.underlying52 (by kernel_rfl) (by kernel_rfl) rfl (hval 0 52 v0 rfl rfl) h0
  obtain ⟨A1, l1, c1, D1, k1l, e1, rfl, r1, s1l⟩ := openKS Try.underlying58 (by kernel_rfl) (by kernel_rfl) rfl (hval 1 58 v1 rfl rfl) h1
  obtain ⟨A2, l2, c2, rfl, r2, b2, m2⟩ := openDS Try.underlying59 Try.underlying110 (by kernel_rfl) (by kernel_rfl) rfl (hval 2 59 v2 rfl rfl) h2
  refine (lawRefreshKey.walk x0_0 x0_1 x0_2 A1 l1 c1 D1 k1l e1 A2 l2 c2 W f0_0 f0_1 f0_2 r1 s1l r2 b2 m2).mono fun e W' ⟨he, hg⟩ => ?_
  subst he
  exact ⟨_, rfl, post_below (pv := []) hW' (fun _ _ _ => (trodAll_cons_mk (shut_bool Try.underlying4 _) trodAll_mk0)) (fun sp hsp => (trodAll_cons_mk (WideElems.Trod_stays Facts.laidOut (by kernel_rfl) (of_decide_eq_true (by kernel_rfl)) k0 (fun x hx => hg.same (hlt x (by simp [hx]))) (fun x hx => hsp x (by simp [hx]))) (trodAll_cons_mk (WideElems.Trod_stays Facts.laidOut (by kernel_rfl) (of_decide_eq_true (by kernel_rfl)) k1 (fun x hx => hg.same (hlt x (by simp [hx]))) (fun x hx => hsp x (by simp [hx]))) (trodAll_cons_mk (WideElems.Trod_stays Facts.laidOut (by kernel_rfl) (of_decide_eq_true (by kernel_rfl)) k2 (fun x hx => hg.same (hlt x (by simp [hx]))) (fun x hx => hsp x (by simp [hx]))) trodAll_mk0)))) (fun _ _ => rfl) rfl
    hg (ok_one (by kernel_rfl) rfl (okWide_bool_mk Try.underlying4 _))⟩

theorem lawRefreshKey.named : Try.pinned.checked.prog.funcNamed Rows.fnExactRefreshKeyRow.func = some 9 := by kernel_rfl
theorem lawRefreshKey.z9 : (Rows.fnExactRefreshKeyRow.inPlace == Try.prog.inPlace 9) = true := by kernel_rfl
theorem lawRefreshKey.z10 : (Rows.fnExactRefreshKeyRow.unfollowed == Try.prog.unfollowed 9) = true := by kernel_rfl
theorem lawRefreshKey.z11 : (Rows.fnExactRefreshKeyRow.recurses == Try.prog.recurses 9) = true := by kernel_rfl
theorem lawRefreshKey.z12 : (Rows.fnExactRefreshKeyRow.named == Try.prog.varsNamed 9) = true := by kernel_rfl
theorem lawRefreshKey.closed : joinedFacts Try.prog 9 Try.f9 Rows.fnExactRefreshKeySpec Rows.fnExactRefreshKeyRow = true :=
  joined_of (by kernel_rfl) Facts.laidOut Facts.mapsRowed (by kernel_rfl) (by kernel_rfl) (by kernel_rfl) (by kernel_rfl) (by kernel_rfl) (by kernel_rfl) lawRefreshKey.z9 lawRefreshKey.z10 lawRefreshKey.z11 lawRefreshKey.z12 (by kernel_rfl) (by kernel_rfl) (by kernel_rfl) (by kernel_rfl) (by kernel_rfl) (by kernel_rfl) (by kernel_rfl) (by kernel_rfl) (by kernel_rfl) (by rw [Facts.plainKeys]; rfl) (by kernel_rfl) Facts.heard Facts.enter (by rw [Facts.lifts]; rfl) (by rw [Facts.make]; rfl) (by kernel_rfl) (by kernel_rfl) (by kernel_rfl) (by kernel_rfl)
theorem lawRefreshKey.inst : Try.f9.isInstance Try.pinned.checked.prog Rows.fnExactRefreshKeyRow.origin Rows.fnExactRefreshKeyRow.targs := of_decide_eq_true (by kernel_rfl)
theorem lawRefreshKey.wrap : Try.f9.isWrapper Try.pinned.checked.prog Rows.fnExactRefreshKeyRow.wrapper Rows.fnExactRefreshKeyRow.mainSum := by
  unfold Func.isWrapper; first | (rw [if_pos (by decide +kernel)]; kernel_rfl) | (rw [if_neg (by decide +kernel)]; exact ⟨rfl, rfl⟩)
theorem lawRefreshKey.over : Rows.fnExactRefreshKeyRow.holds Try.pinned (OpenSpec.ofChange Rows.fnExactRefreshKeySpec) :=
  OpenClaim.holds_of_wide 9 Try.f9 rfl rfl rfl rfl rfl rfl rfl ⟨rfl, rfl, rfl, rfl, rfl⟩ rfl rfl rfl rfl rfl lawRefreshKey.named Try.func9 lawRefreshKey.closed
    lawRefreshKey.inst lawRefreshKey.wrap (fun os started H enc _ => lawRefreshKey.lifted os started H enc)

theorem lawRefreshKey.proved : Rows.FnExactRefreshKeySaid := lawRefreshKey.over
#print axioms lawRefreshKey.proved
end Go.Proofs.Ythamimjejlicpaa
