/- The law FnExactReshareKey returns true for every input. It holds without a condition. -/
import Derived.Test.YtnhdohjlbchniaaRows
import Derived.Test.YtnhdohjlbchniaaResh2
import Derived.Test.YtnhdohjlbchniaaDlS
import Derived.Test.YtnhdohjlbchniaaLawD
import Derived.Test.YtnhdohjlbchniaaSlK
import Derived.Test.YtnhdohjlbchniaaFacts
namespace Go.Proofs.Ytnhdohjlbchniaa
open Go.ChangeShapes Go.WideShapes Go.ChangeAt Go.RowKit
set_option linter.unusedVariables false

namespace lawReshareKey
theorem toGroup_any (p q g : Int) (w : World) : Calls Try.prog 7 #[.agg #[.int .i64 p, .int .i64 q, .int .i64 g]] w fun e w' => e = .returned (.agg #[.int .i64 p, .int .i64 q, .int .i64 g]) ∧ Ext w w' := by
  go_enter Try.func7, Try.ntmps7
  go_wp2
  refine bodyPost_ret (v := .agg #[.int .i64 p, .int .i64 q, .int .i64 g]) (by simp [results, Try.results7, go_sem]) rfl ⟨rfl, ?_⟩
  (repeat (first | exact Ext.refl _ | assumption | apply Ext.drew | apply Ext.drewN | apply Ext.alloc | refine Ext.setCell ?_ (by simp; try omega) _))
theorem sReshareKey_any (p q g : Int) (A : Option Addr) (n c : Nat) (cs : List Int) (B : Option Addr) (m d : Nat) (ixs : List Int) (D : Option Addr) (r e : Nat) (ds : List (List Int × List Int)) (w : World) (ha : SlI w A n c cs) (_ : n ≤ 1048576) (hb : SlI w B m d ixs) (_ : m ≤ 1048576) (hd : RdD w D ds) (hl : ds.length = r) (hr : r ≤ 1048576) :
    Calls Try.prog 6 #[.agg #[.int .i64 p, .int .i64 q, .int .i64 g], .slice A n c, .slice B m d, .slice D r e] w fun en w' => ∃ A' n' c' B' m' d' C k e', en = .returned (.tuple #[.agg #[.slice A' n' c', .slice B' m' d'], .slice C k e', .bool (rhB p q g cs ixs ds)]) ∧ OwnK w' w.heap.size A' n' c' B' m' d' (rhV p q g cs ixs ds).1 (rhV p q g cs ixs ds).2 ∧ OwnI w' w.heap.size 3 C k e' (rhO p q g cs ixs ds) ∧ (n' ≤ 1000 ∧ m' ≤ 1000 ∧ k ≤ 1000) ∧ Apart (fpI A' ++ fpI B') (fpI C) ∧ Ext w w' :=
  Go.Proofs.Ytnhdohjlbchniaa.sReshareKey_any p q g A n c cs B m d ixs D r e ds w ha hb hd hl hr
theorem iReshareKey_any (p q g : Int) (A : Option Addr) (n c : Nat) (cs : List Int) (B : Option Addr) (m d : Nat) (ixs : List Int) (D : Option Addr) (r e : Nat) (ds : List (List Int × List Int)) (w : World) (ha : SlI w A n c cs) (_ : n ≤ 1048576) (hb : SlI w B m d ixs) (_ : m ≤ 1048576) (hd : RdD w D ds) (hl : ds.length = r) (hr : r ≤ 1048576) :
    Calls Try.prog 10 #[.agg #[.int .i64 p, .int .i64 q, .int .i64 g], .slice A n c, .slice B m d, .slice D r e] w fun en w' => ∃ A' n' c' B' m' d' C k e', en = .returned (.tuple #[.agg #[.slice A' n' c', .slice B' m' d'], .slice C k e', .bool (rhB p q g cs ixs ds)]) ∧ OwnK w' w.heap.size A' n' c' B' m' d' (rhV p q g cs ixs ds).1 (rhV p q g cs ixs ds).2 ∧ OwnI w' w.heap.size 3 C k e' (rhO p q g cs ixs ds) ∧ (n' ≤ 1000 ∧ m' ≤ 1000 ∧ k ≤ 1000) ∧ Apart (fpI A' ++ fpI B') (fpI C) ∧ Ext w w' :=
  Go.Proofs.Ytnhdohjlbchniaa.iReshareKey_any p q g A n c cs B m d ixs D r e ds w ha hb hd hl hr
set_option maxRecDepth 100000 in
set_option maxHeartbeats 8000000 in
theorem walk (x0_0 x0_1 x0_2 : Int) (A1 : Option Addr) (l1 : List Int) (c1 : Nat) (A2 : Option Addr) (l2 : List Int) (c2 : Nat) (A3 : Option Addr) (l3 : List (List Int × List Int)) (c3 : Nat) (w : World) (f0_0 : Fits x0_0) (f0_1 : Fits x0_1) (f0_2 : Fits x0_2) (r1 : RdI w A1 l1) (b1 : l1.length ≤ c1) (m1 : c1 ≤ maxLen) (z1 : A1 = none → c1 = 0) (f1 : ∀ n ∈ l1, Fits n) (r2 : RdI w A2 l2) (b2 : l2.length ≤ c2) (m2 : c2 ≤ maxLen) (z2 : A2 = none → c2 = 0) (f2 : ∀ n ∈ l2, Fits n) (r3 : RdD w A3 l3) (b3 : l3.length ≤ c3) (m3 : c3 ≤ maxLen) :
    Calls Try.prog 3 #[.agg #[.int .i64 x0_0, .int .i64 x0_1, .int .i64 x0_2], .slice A1 l1.length c1, .slice A2 l2.length c2, .slice A3 l3.length c3] w fun e w' => e = .returned (.bool true) ∧ Ext w w' := by
  have R1 : SlI w A1 l1.length c1 l1 := ⟨r1, rfl, b1, m1⟩
  clear z1 f1
  generalize hn1 : l1.length = n1 at *
  have Hn1 := Lib.hid hn1
  clear hn1
  have Q1 := R1.le
  unfold maxLen at Q1
  have R2 : SlI w A2 l2.length c2 l2 := ⟨r2, rfl, b2, m2⟩
  clear z2 f2
  generalize hn2 : l2.length = n2 at *
  have Hn2 := Lib.hid hn2
  clear hn2
  have Q2 := R2.le
  unfold maxLen at Q2
  generalize hn3 : l3.length = n3 at *
  have Hn3 := Lib.hid hn3
  clear hn3
  have Q3 : n3 ≤ maxLen := Nat.le_trans b3 m3
  unfold maxLen at Q3
  have B0 := Blk.new (w) 23 #[.int .i64 x0_0, .int .i64 x0_1, .int .i64 x0_2]
  have E := ((Ext.refl w).alloc (.cells #[.int .i64 x0_0, .int .i64 x0_1, .int .i64 x0_2] 23))
  rcases Nat.lt_or_ge 1048576 n1 with S1 | S1
  · go_enter Try.func3, Try.ntmps3
    go_wp2
    go_ret
    exact ⟨rfl, E⟩
  rcases Nat.lt_or_ge 1048576 n2 with S2 | S2
  · go_enter Try.func3, Try.ntmps3
    go_wp2
    go_ret
    exact ⟨rfl, E⟩
  go_enter Try.func3, Try.ntmps3
  have CC0 := B0.cells
  go_wp2_with fail
  clear CC0
  generalize (w.alloc (.cells #[.int .i64 x0_0, .int .i64 x0_1, .int .i64 x0_2] 23)) = w0 at *
  rcases Nat.lt_or_ge (1048576) (n3 + tot (flD l3)) with S3 | S3
  · refine (szDealingS_no (r3.ext E) Hn3.out (by omega) (by omega) (by omega) (by unfold maxLen; omega)).mono ?_
    rintro e w' ⟨rfl, hb⟩
    go_wp2
    go_ret
    exact ⟨rfl, E.trans hb⟩
  refine (szDealingS_yes (r3.ext E) Hn3.out (by omega) (by omega)).mono ?_
  rintro e w1 ⟨rfl, hb⟩
  replace E := E.trans hb
  replace B0 := B0.ext hb
  clear hb
  have CC0 := B0.cells
  go_wp2_with fail
  refine (toGroup_any x0_0 x0_1 x0_2 _).mono ?_
  rintro en w2 ⟨rfl, hb⟩
  clear CC0
  replace E := E.trans hb
  replace B0 := B0.ext hb
  clear hb
  have CC0 := B0.cells
  go_wp2_with fail
  refine (toIntS_any A1 n1 c1 l1 _ (R1.rd.ext E) Hn1.out (by omega)).mono ?_
  rintro en w3 ⟨At1, ct1, rfl, t1, hb⟩
  clear CC0
  replace E := E.trans hb
  replace B0 := B0.ext hb
  clear hb
  have CC0 := B0.cells
  go_wp2_with fail
  refine (toIntS_any A2 n2 c2 l2 _ (R2.rd.ext E) Hn2.out (by omega)).mono ?_
  rintro en w4 ⟨At2, ct2, rfl, t2, hb⟩
  clear CC0
  replace E := E.trans hb
  replace B0 := B0.ext hb
  replace t1 := t1.ext hb
  clear hb
  have CC0 := B0.cells
  go_wp2_with fail
  refine (toDealingS_any A3 n3 c3 l3 _ (r3.ext E) Hn3.out (by omega)).mono ?_
  rintro en w5 ⟨At3, ct3, Pt3, rfl, t3, hb⟩
  clear CC0
  replace E := E.trans hb
  replace B0 := B0.ext hb
  replace t1 := t1.ext hb
  replace t2 := t2.ext hb
  clear hb
  have CC0 := B0.cells
  go_wp2_with fail
  have Lt1_w0 := t1.low
  have Lt2_w0 := t2.low
  have Lt3_w0 := t3.low
  have Zw0 := E.size
  have Lt1_w1 := t1.low
  have Lt2_w1 := t2.low
  have Lt3_w1 := t3.low
  have Zw1 := E.size
  refine (sReshareKey_any x0_0 x0_1 x0_2 At1 n1 ct1 l1 At2 n2 ct2 l2 At3 n3 ct3 l3 _ (SlI.ext (OwnI.sl t1) (Ext.refl _)) (by omega) (SlI.ext (OwnI.sl t2) (Ext.refl _)) (by omega) (RdD.ext t3.rd (Ext.refl _)) t3.len (by omega)).mono ?_
  rintro en w6 ⟨Aw0, nw0, cw0, Dw0, mw0, dw0, Aw1, nw1, cw1, rfl, w0, w1, Nw0, APw0, hb⟩
  clear CC0
  replace E := E.trans hb
  replace B0 := B0.ext hb
  replace t1 := t1.ext hb
  replace t2 := t2.ext hb
  replace t3 := t3.ext hb
  clear hb
  clear t1
  clear t2
  clear t3
  have CC0 := B0.cells
  have CD0 := (B0.alloc (.cells #[.slice Aw0 nw0 cw0, .slice Dw0 mw0 dw0] 28)).cells
  go_wp2_with fail
  clear CC0
  clear CD0
  have hb := (Ext.refl w6).alloc (.cells #[.slice Aw0 nw0 cw0, .slice Dw0 mw0 dw0] 28)
  replace E := E.trans hb
  replace B0 := B0.ext hb
  replace w0 := w0.ext hb
  replace w1 := w1.ext hb
  have Bw0x := Blk.new w6 28 #[.slice Aw0 nw0 cw0, .slice Dw0 mw0 dw0]
  generalize hgw0 : w6.heap.size = gw0 at *
  clear hgw0 hb
  generalize w6.alloc (.cells #[.slice Aw0 nw0 cw0, .slice Dw0 mw0 dw0] 28) = w7 at *
  have Lw0_x1 := w0.low
  have Lw1_x1 := w1.low
  have Zx1 := E.size
  refine (toIntS_any A1 n1 c1 l1 _ (R1.rd.ext E) Hn1.out (by omega)).mono ?_
  rintro en w8 ⟨Ax1, cx1, rfl, x1, hb⟩
  replace E := E.trans hb
  replace B0 := B0.ext hb
  replace Bw0x := Bw0x.ext hb
  replace w0 := w0.ext hb
  replace w1 := w1.ext hb
  clear hb
  have CC0 := B0.cells
  have CCw0x := Bw0x.cells
  go_wp2_with fail
  have Lw0_x2 := w0.low
  have Lw1_x2 := w1.low
  have Lx1_x2 := x1.low
  have Zx2 := E.size
  refine (toIntS_any A2 n2 c2 l2 _ (R2.rd.ext E) Hn2.out (by omega)).mono ?_
  rintro en w9 ⟨Ax2, cx2, rfl, x2, hb⟩
  clear CC0 CCw0x
  replace E := E.trans hb
  replace B0 := B0.ext hb
  replace Bw0x := Bw0x.ext hb
  replace w0 := w0.ext hb
  replace w1 := w1.ext hb
  replace x1 := x1.ext hb
  clear hb
  have CC0 := B0.cells
  have CCw0x := Bw0x.cells
  go_wp2_with fail
  have Lw0_x3 := w0.low
  have Lw1_x3 := w1.low
  have Lx1_x3 := x1.low
  have Lx2_x3 := x2.low
  have Zx3 := E.size
  refine (toDealingS_any A3 n3 c3 l3 _ (r3.ext E) Hn3.out (by omega)).mono ?_
  rintro en w10 ⟨Ax3, cx3, Px3, rfl, x3, hb⟩
  clear CC0 CCw0x
  replace E := E.trans hb
  replace B0 := B0.ext hb
  replace Bw0x := Bw0x.ext hb
  replace w0 := w0.ext hb
  replace w1 := w1.ext hb
  replace x1 := x1.ext hb
  replace x2 := x2.ext hb
  clear hb
  have CC0 := B0.cells
  have CCw0x := Bw0x.cells
  go_wp2_with fail
  refine (toGroup_any x0_0 x0_1 x0_2 _).mono ?_
  rintro en w11 ⟨rfl, hb⟩
  clear CC0 CCw0x
  replace E := E.trans hb
  replace B0 := B0.ext hb
  replace Bw0x := Bw0x.ext hb
  replace w0 := w0.ext hb
  replace w1 := w1.ext hb
  replace x1 := x1.ext hb
  replace x2 := x2.ext hb
  replace x3 := x3.ext hb
  clear hb
  have CC0 := B0.cells
  have CCw0x := Bw0x.cells
  go_wp2_with fail
  have Lw0_g0 := w0.low
  have Lw1_g0 := w1.low
  have Lx1_g0 := x1.low
  have Lx2_g0 := x2.low
  have Lx3_g0 := x3.low
  have Zg0 := E.size
  have Lw0_g1 := w0.low
  have Lw1_g1 := w1.low
  have Lx1_g1 := x1.low
  have Lx2_g1 := x2.low
  have Lx3_g1 := x3.low
  have Zg1 := E.size
  refine (iReshareKey_any x0_0 x0_1 x0_2 Ax1 n1 cx1 l1 Ax2 n2 cx2 l2 Ax3 n3 cx3 l3 _ (SlI.ext (OwnI.sl x1) (Ext.refl _)) (by omega) (SlI.ext (OwnI.sl x2) (Ext.refl _)) (by omega) (RdD.ext x3.rd (Ext.refl _)) x3.len (by omega)).mono ?_
  rintro en w12 ⟨Ag0, ng0, cg0, Dg0, mg0, dg0, Ag1, ng1, cg1, rfl, g0, g1, Ng0, APg0, hb⟩
  clear CC0 CCw0x
  replace E := E.trans hb
  replace B0 := B0.ext hb
  replace Bw0x := Bw0x.ext hb
  replace w0 := w0.ext hb
  replace w1 := w1.ext hb
  replace x1 := x1.ext hb
  replace x2 := x2.ext hb
  replace x3 := x3.ext hb
  clear hb
  have CC0 := B0.cells
  have CCw0x := Bw0x.cells
  have CD0 := (B0.alloc (.cells #[.slice Ag0 ng0 cg0, .slice Dg0 mg0 dg0] 28)).cells
  have CDw0x := (Bw0x.alloc (.cells #[.slice Ag0 ng0 cg0, .slice Dg0 mg0 dg0] 28)).cells
  go_wp2_with fail
  clear CC0 CCw0x
  clear CD0 CDw0x
  have hb := (Ext.refl w12).alloc (.cells #[.slice Ag0 ng0 cg0, .slice Dg0 mg0 dg0] 28)
  replace E := E.trans hb
  replace B0 := B0.ext hb
  replace Bw0x := Bw0x.ext hb
  replace w0 := w0.ext hb
  replace w1 := w1.ext hb
  replace x1 := x1.ext hb
  replace x2 := x2.ext hb
  replace x3 := x3.ext hb
  replace g0 := g0.ext hb
  replace g1 := g1.ext hb
  have Bg0x := Blk.new w12 28 #[.slice Ag0 ng0 cg0, .slice Dg0 mg0 dg0]
  generalize hgg0 : w12.heap.size = gg0 at *
  clear hgg0 hb
  generalize w12.alloc (.cells #[.slice Ag0 ng0 cg0, .slice Dg0 mg0 dg0] 28) = w13 at *
  refine (eqSharedKey_same (SlI.ext g0.a.sl (Ext.refl _)) (SlI.ext g0.b.sl (Ext.refl _)) (SlI.ext w0.a.sl (Ext.refl _)) (SlI.ext w0.b.sl (Ext.refl _))).mono ?_
  rintro en w14 ⟨rfl, hb⟩
  replace E := E.trans hb
  replace B0 := B0.ext hb
  replace Bw0x := Bw0x.ext hb
  replace Bg0x := Bg0x.ext hb
  replace w0 := w0.ext hb
  replace w1 := w1.ext hb
  replace x1 := x1.ext hb
  replace x2 := x2.ext hb
  replace x3 := x3.ext hb
  replace g0 := g0.ext hb
  replace g1 := g1.ext hb
  clear hb
  have CC0 := B0.cells
  have CCw0x := Bw0x.cells
  have CCg0x := Bg0x.cells
  go_wp2_with fail
  refine (eqIntS_same (RdI.ext g1.rd (Ext.refl _)) (RdI.ext w1.rd (Ext.refl _)) g1.len w1.len g1.le w1.le).mono ?_
  rintro en w15 ⟨rfl, hb⟩
  clear CC0 CCw0x CCg0x
  replace E := E.trans hb
  replace B0 := B0.ext hb
  replace Bw0x := Bw0x.ext hb
  replace Bg0x := Bg0x.ext hb
  replace w0 := w0.ext hb
  replace w1 := w1.ext hb
  replace x1 := x1.ext hb
  replace x2 := x2.ext hb
  replace x3 := x3.ext hb
  replace g0 := g0.ext hb
  replace g1 := g1.ext hb
  clear hb
  have CC0 := B0.cells
  have CCw0x := Bw0x.cells
  have CCg0x := Bg0x.cells
  go_wp2_with fail
  refine (toIntS_any A1 n1 c1 l1 _ (R1.rd.ext E) Hn1.out (by omega)).mono ?_
  rintro en w16 ⟨At4, ct4, rfl, t4, hb⟩
  clear CC0 CCw0x CCg0x
  replace E := E.trans hb
  replace B0 := B0.ext hb
  replace Bw0x := Bw0x.ext hb
  replace Bg0x := Bg0x.ext hb
  replace w0 := w0.ext hb
  replace w1 := w1.ext hb
  replace x1 := x1.ext hb
  replace x2 := x2.ext hb
  replace x3 := x3.ext hb
  replace g0 := g0.ext hb
  replace g1 := g1.ext hb
  clear hb
  have CC0 := B0.cells
  have CCw0x := Bw0x.cells
  have CCg0x := Bg0x.cells
  go_wp2_with fail
  refine (eqIntS_same (RdI.ext x1.rd (Ext.refl _)) (RdI.ext t4.rd (Ext.refl _)) x1.len t4.len x1.le t4.le).mono ?_
  rintro en w17 ⟨rfl, hb⟩
  clear CC0 CCw0x CCg0x
  replace E := E.trans hb
  replace B0 := B0.ext hb
  replace Bw0x := Bw0x.ext hb
  replace Bg0x := Bg0x.ext hb
  replace w0 := w0.ext hb
  replace w1 := w1.ext hb
  replace x1 := x1.ext hb
  replace x2 := x2.ext hb
  replace x3 := x3.ext hb
  replace g0 := g0.ext hb
  replace g1 := g1.ext hb
  replace t4 := t4.ext hb
  clear hb
  clear t4
  have CC0 := B0.cells
  have CCw0x := Bw0x.cells
  have CCg0x := Bg0x.cells
  go_wp2_with fail
  refine (toIntS_any A2 n2 c2 l2 _ (R2.rd.ext E) Hn2.out (by omega)).mono ?_
  rintro en w18 ⟨At5, ct5, rfl, t5, hb⟩
  clear CC0 CCw0x CCg0x
  replace E := E.trans hb
  replace B0 := B0.ext hb
  replace Bw0x := Bw0x.ext hb
  replace Bg0x := Bg0x.ext hb
  replace w0 := w0.ext hb
  replace w1 := w1.ext hb
  replace x1 := x1.ext hb
  replace x2 := x2.ext hb
  replace x3 := x3.ext hb
  replace g0 := g0.ext hb
  replace g1 := g1.ext hb
  clear hb
  have CC0 := B0.cells
  have CCw0x := Bw0x.cells
  have CCg0x := Bg0x.cells
  go_wp2_with fail
  refine (eqIntS_same (RdI.ext x2.rd (Ext.refl _)) (RdI.ext t5.rd (Ext.refl _)) x2.len t5.len x2.le t5.le).mono ?_
  rintro en w19 ⟨rfl, hb⟩
  clear CC0 CCw0x CCg0x
  replace E := E.trans hb
  replace B0 := B0.ext hb
  replace Bw0x := Bw0x.ext hb
  replace Bg0x := Bg0x.ext hb
  replace w0 := w0.ext hb
  replace w1 := w1.ext hb
  replace x1 := x1.ext hb
  replace x2 := x2.ext hb
  replace x3 := x3.ext hb
  replace g0 := g0.ext hb
  replace g1 := g1.ext hb
  replace t5 := t5.ext hb
  clear hb
  clear t5
  have CC0 := B0.cells
  have CCw0x := Bw0x.cells
  have CCg0x := Bg0x.cells
  go_wp2_with fail
  refine (toDealingS_any A3 n3 c3 l3 _ (r3.ext E) Hn3.out (by omega)).mono ?_
  rintro en w20 ⟨At6, ct6, Pt6, rfl, t6, hb⟩
  clear CC0 CCw0x CCg0x
  replace E := E.trans hb
  replace B0 := B0.ext hb
  replace Bw0x := Bw0x.ext hb
  replace Bg0x := Bg0x.ext hb
  replace w0 := w0.ext hb
  replace w1 := w1.ext hb
  replace x1 := x1.ext hb
  replace x2 := x2.ext hb
  replace x3 := x3.ext hb
  replace g0 := g0.ext hb
  replace g1 := g1.ext hb
  clear hb
  have CC0 := B0.cells
  have CCw0x := Bw0x.cells
  have CCg0x := Bg0x.cells
  go_wp2_with fail
  refine (eqDealingS_same (RdD.ext x3.rd (Ext.refl _)) (RdD.ext t6.rd (Ext.refl _)) x3.len t6.len x3.le t6.le).mono ?_
  rintro en w21 ⟨rfl, hb⟩
  clear CC0 CCw0x CCg0x
  replace E := E.trans hb
  replace B0 := B0.ext hb
  replace Bw0x := Bw0x.ext hb
  replace Bg0x := Bg0x.ext hb
  replace w0 := w0.ext hb
  replace w1 := w1.ext hb
  replace x1 := x1.ext hb
  replace x2 := x2.ext hb
  replace x3 := x3.ext hb
  replace g0 := g0.ext hb
  replace g1 := g1.ext hb
  replace t6 := t6.ext hb
  clear hb
  clear t6
  have CC0 := B0.cells
  have CCw0x := Bw0x.cells
  have CCg0x := Bg0x.cells
  go_wp2_with fail
  refine (markIntS_any x1 (by omega) (by omega)).mono ?_
  rintro e w22 ⟨rfl, hm, hO⟩
  clear CC0 CCw0x CCg0x
  replace E := E.only hO (x1.high.mono Zx1)
  replace B0 := B0.only hO (B0.off_own x1.w (by decide))
  replace Bw0x := Bw0x.only hO (Bw0x.off_own x1.w (by decide))
  replace Bg0x := Bg0x.only hO (Bg0x.off_own x1.w (by decide))
  replace w0 := w0.only hO (Apart.of_low Lw0_x1 x1.high)
  replace w1 := w1.only hO (Apart.of_low Lw1_x1 x1.high)
  replace x2 := x2.only hO (Apart.of_high Lx1_x2 x2.high)
  replace x3 := x3.only hO (Apart.of_high Lx1_x3 x3.high)
  replace g0 := g0.only hO (Apart.of_high Lx1_g0 g0.high)
  replace g1 := g1.only hO (Apart.of_high Lx1_g1 g1.high)
  clear hO x1
  have x1 := hm
  clear hm
  have CC0 := B0.cells
  have CCw0x := Bw0x.cells
  have CCg0x := Bg0x.cells
  go_wp2_with fail
  refine (markIntS_any x2 (by omega) (by omega)).mono ?_
  rintro e w23 ⟨rfl, hm, hO⟩
  clear CC0 CCw0x CCg0x
  replace E := E.only hO (x2.high.mono Zx2)
  replace B0 := B0.only hO (B0.off_own x2.w (by decide))
  replace Bw0x := Bw0x.only hO (Bw0x.off_own x2.w (by decide))
  replace Bg0x := Bg0x.only hO (Bg0x.off_own x2.w (by decide))
  replace w0 := w0.only hO (Apart.of_low Lw0_x2 x2.high)
  replace w1 := w1.only hO (Apart.of_low Lw1_x2 x2.high)
  replace x1 := x1.only hO (Apart.of_low Lx1_x2 x2.high)
  replace x3 := x3.only hO (Apart.of_high Lx2_x3 x3.high)
  replace g0 := g0.only hO (Apart.of_high Lx2_g0 g0.high)
  replace g1 := g1.only hO (Apart.of_high Lx2_g1 g1.high)
  clear hO x2
  have x2 := hm
  clear hm
  have CC0 := B0.cells
  have CCw0x := Bw0x.cells
  have CCg0x := Bg0x.cells
  go_wp2_with fail
  refine (markDealingS_any x3 (by omega) (by omega)).mono ?_
  rintro e w24 ⟨rfl, hm, hO⟩
  clear CC0 CCw0x CCg0x
  replace E := E.only hO (x3.high.mono Zx3)
  replace B0 := B0.only hO (x3.off B0 (by decide) (by decide))
  replace Bw0x := Bw0x.only hO (x3.off Bw0x (by decide) (by decide))
  replace Bg0x := Bg0x.only hO (x3.off Bg0x (by decide) (by decide))
  replace w0 := w0.only hO (Apart.of_low Lw0_x3 x3.high)
  replace w1 := w1.only hO (Apart.of_low Lw1_x3 x3.high)
  replace x1 := x1.only hO (Apart.of_low Lx1_x3 x3.high)
  replace x2 := x2.only hO (Apart.of_low Lx2_x3 x3.high)
  replace g0 := g0.only hO (Apart.of_high Lx3_g0 g0.high)
  replace g1 := g1.only hO (Apart.of_high Lx3_g1 g1.high)
  clear hO x3
  clear hm
  have CC0 := B0.cells
  have CCw0x := Bw0x.cells
  have CCg0x := Bg0x.cells
  go_wp2_with fail
  refine (eqSharedKey_same (SlI.ext g0.a.sl (Ext.refl _)) (SlI.ext g0.b.sl (Ext.refl _)) (SlI.ext w0.a.sl (Ext.refl _)) (SlI.ext w0.b.sl (Ext.refl _))).mono ?_
  rintro en w25 ⟨rfl, hb⟩
  clear CC0 CCw0x CCg0x
  replace E := E.trans hb
  replace B0 := B0.ext hb
  replace Bw0x := Bw0x.ext hb
  replace Bg0x := Bg0x.ext hb
  replace w0 := w0.ext hb
  replace w1 := w1.ext hb
  replace x1 := x1.ext hb
  replace x2 := x2.ext hb
  replace g0 := g0.ext hb
  replace g1 := g1.ext hb
  clear hb
  have CC0 := B0.cells
  have CCw0x := Bw0x.cells
  have CCg0x := Bg0x.cells
  go_wp2_with fail
  refine (eqIntS_same (RdI.ext g1.rd (Ext.refl _)) (RdI.ext w1.rd (Ext.refl _)) g1.len w1.len g1.le w1.le).mono ?_
  rintro en w26 ⟨rfl, hb⟩
  clear CC0 CCw0x CCg0x
  replace E := E.trans hb
  replace B0 := B0.ext hb
  replace Bw0x := Bw0x.ext hb
  replace Bg0x := Bg0x.ext hb
  replace w0 := w0.ext hb
  replace w1 := w1.ext hb
  replace x1 := x1.ext hb
  replace x2 := x2.ext hb
  replace g0 := g0.ext hb
  replace g1 := g1.ext hb
  clear hb
  have CC0 := B0.cells
  have CCw0x := Bw0x.cells
  have CCg0x := Bg0x.cells
  go_wp2_with fail
  refine (markSharedKey_any g0 (by omega) (by omega)).mono ?_
  rintro e w27 ⟨rfl, hm, hO⟩
  clear CC0 CCw0x CCg0x
  replace E := E.only hO (g0.high.mono Zg0)
  replace B0 := B0.only hO (fun hh => (List.mem_append.1 hh).elim (B0.off_own g0.a.w (by decide)) (B0.off_own g0.b.w (by decide)))
  replace Bw0x := Bw0x.only hO (fun hh => (List.mem_append.1 hh).elim (Bw0x.off_own g0.a.w (by decide)) (Bw0x.off_own g0.b.w (by decide)))
  replace Bg0x := Bg0x.only hO (fun hh => (List.mem_append.1 hh).elim (Bg0x.off_own g0.a.w (by decide)) (Bg0x.off_own g0.b.w (by decide)))
  replace w0 := w0.only hO (Apart.of_low Lw0_g0 g0.high)
  replace w1 := w1.only hO (Apart.of_low Lw1_g0 g0.high)
  replace x1 := x1.only hO (Apart.of_low Lx1_g0 g0.high)
  replace x2 := x2.only hO (Apart.of_low Lx2_g0 g0.high)
  replace g1 := g1.only hO (Apart.symm APg0)
  clear hO g0
  have g0 := hm
  clear hm
  have CC0 := B0.cells
  have CCw0x := Bw0x.cells
  have CCg0x := Bg0x.cells
  go_wp2_with fail
  refine (markIntS_any g1 (by omega) (by omega)).mono ?_
  rintro e w28 ⟨rfl, hm, hO⟩
  clear CC0 CCw0x CCg0x
  replace E := E.only hO (g1.high.mono Zg1)
  replace B0 := B0.only hO (B0.off_own g1.w (by decide))
  replace Bw0x := Bw0x.only hO (Bw0x.off_own g1.w (by decide))
  replace Bg0x := Bg0x.only hO (Bg0x.off_own g1.w (by decide))
  replace w0 := w0.only hO (Apart.of_low Lw0_g1 g1.high)
  replace w1 := w1.only hO (Apart.of_low Lw1_g1 g1.high)
  replace x1 := x1.only hO (Apart.of_low Lx1_g1 g1.high)
  replace x2 := x2.only hO (Apart.of_low Lx2_g1 g1.high)
  replace g0 := g0.only hO (APg0)
  clear hO g1
  have g1 := hm
  clear hm
  have CC0 := B0.cells
  have CCw0x := Bw0x.cells
  have CCg0x := Bg0x.cells
  go_wp2_with fail
  refine (heldSharedKey_any g0 (by omega) (by omega)).mono ?_
  rintro en w29 ⟨rfl, hb⟩
  clear CC0 CCw0x CCg0x
  replace E := E.trans hb
  replace B0 := B0.ext hb
  replace Bw0x := Bw0x.ext hb
  replace Bg0x := Bg0x.ext hb
  replace w0 := w0.ext hb
  replace w1 := w1.ext hb
  replace x1 := x1.ext hb
  replace x2 := x2.ext hb
  replace g0 := g0.ext hb
  replace g1 := g1.ext hb
  clear hb
  have CC0 := B0.cells
  have CCw0x := Bw0x.cells
  have CCg0x := Bg0x.cells
  go_wp2_with fail
  refine (heldIntS_any g1.rd (by omega) (by omega)).mono ?_
  rintro en w30 ⟨rfl, hb⟩
  clear CC0 CCw0x CCg0x
  replace E := E.trans hb
  replace B0 := B0.ext hb
  replace Bw0x := Bw0x.ext hb
  replace Bg0x := Bg0x.ext hb
  replace w0 := w0.ext hb
  replace w1 := w1.ext hb
  replace x1 := x1.ext hb
  replace x2 := x2.ext hb
  replace g0 := g0.ext hb
  replace g1 := g1.ext hb
  clear hb
  have CC0 := B0.cells
  have CCw0x := Bw0x.cells
  have CCg0x := Bg0x.cells
  go_wp2_with fail
  refine (toGroup_any x0_0 x0_1 x0_2 _).mono ?_
  rintro en w31 ⟨rfl, hb⟩
  clear CC0 CCw0x CCg0x
  replace E := E.trans hb
  replace B0 := B0.ext hb
  replace Bw0x := Bw0x.ext hb
  replace Bg0x := Bg0x.ext hb
  replace w0 := w0.ext hb
  replace w1 := w1.ext hb
  replace x1 := x1.ext hb
  replace x2 := x2.ext hb
  replace g0 := g0.ext hb
  replace g1 := g1.ext hb
  clear hb
  have CC0 := B0.cells
  have CCw0x := Bw0x.cells
  have CCg0x := Bg0x.cells
  go_wp2_with fail
  refine (toIntS_any A1 n1 c1 l1 _ (R1.rd.ext E) Hn1.out (by omega)).mono ?_
  rintro en w32 ⟨At7, ct7, rfl, t7, hb⟩
  clear CC0 CCw0x CCg0x
  replace E := E.trans hb
  replace B0 := B0.ext hb
  replace Bw0x := Bw0x.ext hb
  replace Bg0x := Bg0x.ext hb
  replace w0 := w0.ext hb
  replace w1 := w1.ext hb
  replace x1 := x1.ext hb
  replace x2 := x2.ext hb
  replace g0 := g0.ext hb
  replace g1 := g1.ext hb
  clear hb
  have CC0 := B0.cells
  have CCw0x := Bw0x.cells
  have CCg0x := Bg0x.cells
  go_wp2_with fail
  refine (toIntS_any A2 n2 c2 l2 _ (R2.rd.ext E) Hn2.out (by omega)).mono ?_
  rintro en w33 ⟨At8, ct8, rfl, t8, hb⟩
  clear CC0 CCw0x CCg0x
  replace E := E.trans hb
  replace B0 := B0.ext hb
  replace Bw0x := Bw0x.ext hb
  replace Bg0x := Bg0x.ext hb
  replace w0 := w0.ext hb
  replace w1 := w1.ext hb
  replace x1 := x1.ext hb
  replace x2 := x2.ext hb
  replace g0 := g0.ext hb
  replace g1 := g1.ext hb
  replace t7 := t7.ext hb
  clear hb
  have CC0 := B0.cells
  have CCw0x := Bw0x.cells
  have CCg0x := Bg0x.cells
  go_wp2_with fail
  refine (toDealingS_any A3 n3 c3 l3 _ (r3.ext E) Hn3.out (by omega)).mono ?_
  rintro en w34 ⟨At9, ct9, Pt9, rfl, t9, hb⟩
  clear CC0 CCw0x CCg0x
  replace E := E.trans hb
  replace B0 := B0.ext hb
  replace Bw0x := Bw0x.ext hb
  replace Bg0x := Bg0x.ext hb
  replace w0 := w0.ext hb
  replace w1 := w1.ext hb
  replace x1 := x1.ext hb
  replace x2 := x2.ext hb
  replace g0 := g0.ext hb
  replace g1 := g1.ext hb
  replace t7 := t7.ext hb
  replace t8 := t8.ext hb
  clear hb
  have CC0 := B0.cells
  have CCw0x := Bw0x.cells
  have CCg0x := Bg0x.cells
  go_wp2_with fail
  have Lw0_h0 := w0.low
  have Lw1_h0 := w1.low
  have Lx1_h0 := x1.low
  have Lx2_h0 := x2.low
  have Lg0_h0 := g0.low
  have Lg1_h0 := g1.low
  have Lt7_h0 := t7.low
  have Lt8_h0 := t8.low
  have Lt9_h0 := t9.low
  have Zh0 := E.size
  have Lw0_h1 := w0.low
  have Lw1_h1 := w1.low
  have Lx1_h1 := x1.low
  have Lx2_h1 := x2.low
  have Lg0_h1 := g0.low
  have Lg1_h1 := g1.low
  have Lt7_h1 := t7.low
  have Lt8_h1 := t8.low
  have Lt9_h1 := t9.low
  have Zh1 := E.size
  refine (iReshareKey_any x0_0 x0_1 x0_2 At7 n1 ct7 l1 At8 n2 ct8 l2 At9 n3 ct9 l3 _ (SlI.ext (OwnI.sl t7) (Ext.refl _)) (by omega) (SlI.ext (OwnI.sl t8) (Ext.refl _)) (by omega) (RdD.ext t9.rd (Ext.refl _)) t9.len (by omega)).mono ?_
  rintro en w35 ⟨Ah0, nh0, ch0, Dh0, mh0, dh0, Ah1, nh1, ch1, rfl, h0, h1, Nh0, APh0, hb⟩
  clear CC0 CCw0x CCg0x
  replace E := E.trans hb
  replace B0 := B0.ext hb
  replace Bw0x := Bw0x.ext hb
  replace Bg0x := Bg0x.ext hb
  replace w0 := w0.ext hb
  replace w1 := w1.ext hb
  replace x1 := x1.ext hb
  replace x2 := x2.ext hb
  replace g0 := g0.ext hb
  replace g1 := g1.ext hb
  replace t7 := t7.ext hb
  replace t8 := t8.ext hb
  replace t9 := t9.ext hb
  clear hb
  clear t7
  clear t8
  clear t9
  have CC0 := B0.cells
  have CCw0x := Bw0x.cells
  have CCg0x := Bg0x.cells
  have CD0 := (B0.alloc (.cells #[.slice Ah0 nh0 ch0, .slice Dh0 mh0 dh0] 28)).cells
  have CDw0x := (Bw0x.alloc (.cells #[.slice Ah0 nh0 ch0, .slice Dh0 mh0 dh0] 28)).cells
  have CDg0x := (Bg0x.alloc (.cells #[.slice Ah0 nh0 ch0, .slice Dh0 mh0 dh0] 28)).cells
  go_wp2_with fail
  clear CC0 CCw0x CCg0x
  clear CD0 CDw0x CDg0x
  have hb := (Ext.refl w35).alloc (.cells #[.slice Ah0 nh0 ch0, .slice Dh0 mh0 dh0] 28)
  replace E := E.trans hb
  replace B0 := B0.ext hb
  replace Bw0x := Bw0x.ext hb
  replace Bg0x := Bg0x.ext hb
  replace w0 := w0.ext hb
  replace w1 := w1.ext hb
  replace x1 := x1.ext hb
  replace x2 := x2.ext hb
  replace g0 := g0.ext hb
  replace g1 := g1.ext hb
  replace h0 := h0.ext hb
  replace h1 := h1.ext hb
  have Bh0x := Blk.new w35 28 #[.slice Ah0 nh0 ch0, .slice Dh0 mh0 dh0]
  generalize hgh0 : w35.heap.size = gh0 at *
  clear hgh0 hb
  generalize w35.alloc (.cells #[.slice Ah0 nh0 ch0, .slice Dh0 mh0 dh0] 28) = w36 at *
  refine (eqSharedKey_same (SlI.ext h0.a.sl (Ext.refl _)) (SlI.ext h0.b.sl (Ext.refl _)) (SlI.ext w0.a.sl (Ext.refl _)) (SlI.ext w0.b.sl (Ext.refl _))).mono ?_
  rintro en w37 ⟨rfl, hb⟩
  replace E := E.trans hb
  replace B0 := B0.ext hb
  replace Bw0x := Bw0x.ext hb
  replace Bg0x := Bg0x.ext hb
  replace Bh0x := Bh0x.ext hb
  replace w0 := w0.ext hb
  replace w1 := w1.ext hb
  replace x1 := x1.ext hb
  replace x2 := x2.ext hb
  replace g0 := g0.ext hb
  replace g1 := g1.ext hb
  replace h0 := h0.ext hb
  replace h1 := h1.ext hb
  clear hb
  have CC0 := B0.cells
  have CCw0x := Bw0x.cells
  have CCg0x := Bg0x.cells
  have CCh0x := Bh0x.cells
  go_wp2_with fail
  refine (eqIntS_same (RdI.ext h1.rd (Ext.refl _)) (RdI.ext w1.rd (Ext.refl _)) h1.len w1.len h1.le w1.le).mono ?_
  rintro en w38 ⟨rfl, hb⟩
  clear CC0 CCw0x CCg0x CCh0x
  replace E := E.trans hb
  replace B0 := B0.ext hb
  replace Bw0x := Bw0x.ext hb
  replace Bg0x := Bg0x.ext hb
  replace Bh0x := Bh0x.ext hb
  replace w0 := w0.ext hb
  replace w1 := w1.ext hb
  replace x1 := x1.ext hb
  replace x2 := x2.ext hb
  replace g0 := g0.ext hb
  replace g1 := g1.ext hb
  replace h0 := h0.ext hb
  replace h1 := h1.ext hb
  clear hb
  have CC0 := B0.cells
  have CCw0x := Bw0x.cells
  have CCg0x := Bg0x.cells
  have CCh0x := Bh0x.cells
  go_wp2_with fail
  refine (heldSharedKey_any g0 (by omega) (by omega)).mono ?_
  rintro en w39 ⟨rfl, hb⟩
  clear CC0 CCw0x CCg0x CCh0x
  replace E := E.trans hb
  replace B0 := B0.ext hb
  replace Bw0x := Bw0x.ext hb
  replace Bg0x := Bg0x.ext hb
  replace Bh0x := Bh0x.ext hb
  replace w0 := w0.ext hb
  replace w1 := w1.ext hb
  replace x1 := x1.ext hb
  replace x2 := x2.ext hb
  replace g0 := g0.ext hb
  replace g1 := g1.ext hb
  replace h0 := h0.ext hb
  replace h1 := h1.ext hb
  clear hb
  have CC0 := B0.cells
  have CCw0x := Bw0x.cells
  have CCg0x := Bg0x.cells
  have CCh0x := Bh0x.cells
  go_wp2_with fail
  refine (heldIntS_any g1.rd (by omega) (by omega)).mono ?_
  rintro en w40 ⟨rfl, hb⟩
  clear CC0 CCw0x CCg0x CCh0x
  replace E := E.trans hb
  replace B0 := B0.ext hb
  replace Bw0x := Bw0x.ext hb
  replace Bg0x := Bg0x.ext hb
  replace Bh0x := Bh0x.ext hb
  replace w0 := w0.ext hb
  replace w1 := w1.ext hb
  replace x1 := x1.ext hb
  replace x2 := x2.ext hb
  replace g0 := g0.ext hb
  replace g1 := g1.ext hb
  replace h0 := h0.ext hb
  replace h1 := h1.ext hb
  clear hb
  go_wp2
  go_ret
  exact ⟨rfl, E⟩
end lawReshareKey

set_option maxRecDepth 100000 in
theorem lawReshareKey.lifted (os : Os) (started : os.Started) (H : Type) (enc : TypeId × Value → H) :
    ReturnsInHanded {} Try.checked os 3 .any (Rows.fnExactReshareKeySpec.pre6 enc Try.prog Try.f3 Rows.fnExactReshareKeyRow.domain false) (Rows.fnExactReshareKeySpec.post enc Try.prog Try.f3 false true false false) := by
  refine returnsInHanded_of_change (C := Try.checked) Facts.own started (by kernel_rfl) Try.func3
    (ChangeSpec.witness6 (enc := enc) (C := Try.checked) false ⟨#[], #[.agg #[.int .i64 0, .int .i64 0, .int .i64 0], .slice none 0 0, .slice none 0 0, .slice none 0 0], []⟩ 8 (by kernel_rfl) (by kernel_rfl) (by kernel_rfl) (by kernel_rfl)) ?_
  intro W base args ds gs before hval0 hW _ _
  have hval : ∀ (j : Nat) t v, Try.f3.params[j]? = some t → args[j]? = some v → Value.okWide Try.prog W .any base t v := hval0
  have hW' := hW
  obtain ⟨p, q, hA0, hV, rfl, hfz, hnd⟩ := hW
  have hA : DataW.TrodAll enc Try.prog W 0 (fun _ => true) true Try.f3.params.toList args.toList ds p := hA0
  rw [Try.params3] at hA hval
  obtain ⟨v0, vs0, d0, ds0, p0, q0, hargs, rfl, rfl, h0, r0⟩ := trodAll_cons hA
  obtain ⟨v1, vs1, d1, ds1, p1, q1, rfl, rfl, rfl, h1, r1⟩ := trodAll_cons r0
  obtain ⟨v2, vs2, d2, ds2, p2, q2, rfl, rfl, rfl, h2, r2⟩ := trodAll_cons r1
  obtain ⟨v3, vs3, d3, ds3, p3, q3, rfl, rfl, rfl, h3, r3⟩ := trodAll_cons r2
  obtain ⟨rfl, rfl, rfl⟩ := trodAll_nil r3
  obtain rfl : args = #[v0, v1, v2, v3] := by cases args; simp_all
  obtain ⟨rfl, rfl⟩ := trodVars_none hV
  have hlt := hW'.lt
  clear hA hA0 hval0 hargs r0 r1 r2 r3
  have k0 := h0
  have k1 := h1
  have k2 := h2
  have k3 := h3
  obtain ⟨x0_0, x0_1, x0_2, rfl, f0_0, f0_1, f0_2⟩ := openAgg3 Try.underlying23 (by kernel_rfl) (by kernel_rfl) rfl (hval 0 23 v0 rfl rfl) h0
  obtain ⟨A1, l1, c1, rfl, r1, b1, m1, z1, f1⟩ := openIS Try.underlying24 Try.underlying3 (by kernel_rfl) (hval 1 24 v1 rfl rfl) h1
  obtain ⟨A2, l2, c2, rfl, r2, b2, m2, z2, f2⟩ := openIS Try.underlying24 Try.underlying3 (by kernel_rfl) (hval 2 24 v2 rfl rfl) h2
  obtain ⟨A3, l3, c3, rfl, r3, b3, m3⟩ := openDS Try.underlying25 Try.underlying62 (by kernel_rfl) (by kernel_rfl) rfl (hval 3 25 v3 rfl rfl) h3
  refine (lawReshareKey.walk x0_0 x0_1 x0_2 A1 l1 c1 A2 l2 c2 A3 l3 c3 W f0_0 f0_1 f0_2 r1 b1 m1 z1 f1 r2 b2 m2 z2 f2 r3 b3 m3).mono fun e W' ⟨he, hg⟩ => ?_
  subst he
  exact ⟨_, rfl, post_below (pv := []) hW' (fun _ _ _ => (trodAll_cons_mk (shut_bool Try.underlying4 _) trodAll_mk0)) (fun sp hsp => (trodAll_cons_mk (WideElems.Trod_stays Facts.laidOut (by kernel_rfl) (of_decide_eq_true (by kernel_rfl)) k0 (fun x hx => hg.same (hlt x (by simp [hx]))) (fun x hx => hsp x (by simp [hx]))) (trodAll_cons_mk (WideElems.Trod_stays Facts.laidOut (by kernel_rfl) (of_decide_eq_true (by kernel_rfl)) k1 (fun x hx => hg.same (hlt x (by simp [hx]))) (fun x hx => hsp x (by simp [hx]))) (trodAll_cons_mk (WideElems.Trod_stays Facts.laidOut (by kernel_rfl) (of_decide_eq_true (by kernel_rfl)) k2 (fun x hx => hg.same (hlt x (by simp [hx]))) (fun x hx => hsp x (by simp [hx]))) (trodAll_cons_mk (WideElems.Trod_stays Facts.laidOut (by kernel_rfl) (of_decide_eq_true (by kernel_rfl)) k3 (fun x hx => hg.same (hlt x (by simp [hx]))) (fun x hx => hsp x (by simp [hx]))) trodAll_mk0))))) (fun _ _ => rfl) rfl
    hg (ok_one (by kernel_rfl) rfl (okWide_bool_mk Try.underlying4 _))⟩

theorem lawReshareKey.named : Try.pinned.checked.prog.funcNamed Rows.fnExactReshareKeyRow.func = some 3 := by kernel_rfl
theorem lawReshareKey.z9 : (Rows.fnExactReshareKeyRow.inPlace == Try.prog.inPlace 3) = true := by kernel_rfl
theorem lawReshareKey.z10 : (Rows.fnExactReshareKeyRow.unfollowed == Try.prog.unfollowed 3) = true := by kernel_rfl
theorem lawReshareKey.z11 : (Rows.fnExactReshareKeyRow.recurses == Try.prog.recurses 3) = true := by kernel_rfl
theorem lawReshareKey.z12 : (Rows.fnExactReshareKeyRow.named == Try.prog.varsNamed 3) = true := by kernel_rfl
theorem lawReshareKey.closed : joinedFacts Try.prog 3 Try.f3 Rows.fnExactReshareKeySpec Rows.fnExactReshareKeyRow = true :=
  joined_of (by kernel_rfl) Facts.laidOut Facts.mapsRowed (by kernel_rfl) (by kernel_rfl) (by kernel_rfl) (by kernel_rfl) (by kernel_rfl) (by kernel_rfl) lawReshareKey.z9 lawReshareKey.z10 lawReshareKey.z11 lawReshareKey.z12 (by kernel_rfl) (by kernel_rfl) (by kernel_rfl) (by kernel_rfl) (by kernel_rfl) (by kernel_rfl) (by kernel_rfl) (by kernel_rfl) (by kernel_rfl) (by rw [Facts.plainKeys]; rfl) (by kernel_rfl) Facts.heard Facts.enter (by rw [Facts.lifts]; rfl) (by rw [Facts.make]; rfl) (by kernel_rfl) (by kernel_rfl) (by kernel_rfl) (by kernel_rfl)
theorem lawReshareKey.inst : Try.f3.isInstance Try.pinned.checked.prog Rows.fnExactReshareKeyRow.origin Rows.fnExactReshareKeyRow.targs := of_decide_eq_true (by kernel_rfl)
theorem lawReshareKey.wrap : Try.f3.isWrapper Try.pinned.checked.prog Rows.fnExactReshareKeyRow.wrapper Rows.fnExactReshareKeyRow.mainSum := by
  unfold Func.isWrapper; first | (rw [if_pos (by decide +kernel)]; kernel_rfl) | (rw [if_neg (by decide +kernel)]; exact ⟨rfl, rfl⟩)
theorem lawReshareKey.over : Rows.fnExactReshareKeyRow.holds Try.pinned (OpenSpec.ofChange Rows.fnExactReshareKeySpec) :=
  OpenClaim.holds_of_wide 3 Try.f3 rfl rfl rfl rfl rfl rfl rfl ⟨rfl, rfl, rfl, rfl, rfl⟩ rfl rfl rfl rfl rfl lawReshareKey.named Try.func3 lawReshareKey.closed
    lawReshareKey.inst lawReshareKey.wrap (fun os started H enc _ => lawReshareKey.lifted os started H enc)

theorem lawReshareKey.proved : Rows.FnExactReshareKeySaid := lawReshareKey.over
#print axioms lawReshareKey.proved
end Go.Proofs.Ytnhdohjlbchniaa
