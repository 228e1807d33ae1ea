/- The law FnExactRecoverShare returns true for every input. It holds without a condition. -/
import Derived.Test.YthamimjejlicpaaRows
import Derived.Test.YthamimjejlicpaaRec2
import Derived.Test.YthamimjejlicpaaEq
import Derived.Test.YthamimjejlicpaaFacts
namespace Go.Proofs.Ythamimjejlicpaa
open Go.ChangeShapes Go.WideShapes Go.ChangeAt Go.RowKit
set_option linter.unusedVariables false

namespace lawRecoverShare
theorem toGroup_any (p q g : Int) (w : World) : Calls Try.prog 32 #[.agg #[.int .i64 p, .int .i64 q, .int .i64 g]] w fun e w' => e = .returned (.agg #[.int .i64 p, .int .i64 q, .int .i64 g]) ∧ Ext w w' := by
  go_enter Try.func32, Try.ntmps32
  go_wp2
  refine bodyPost_ret (v := .agg #[.int .i64 p, .int .i64 q, .int .i64 g]) (by simp [results, Try.results32, go_sem]) rfl ⟨rfl, ?_⟩
  (repeat (first | exact Ext.refl _ | assumption | apply Ext.drew | apply Ext.drewN | apply Ext.alloc | refine Ext.setCell ?_ (by simp; try omega) _))
set_option maxHeartbeats 1000000 in
theorem walk (x0_0 x0_1 x0_2 : Int) (A1 : Option Addr) (l1 : List Int) (c1 : Nat) (a2 : Int) (A3 : Option Addr) (l3 : List Int) (c3 : Nat) (A4 : Option Addr) (l4 : List Int) (c4 : Nat) (w : World) (f0_0 : Fits x0_0) (f0_1 : Fits x0_1) (f0_2 : Fits x0_2) (r1 : RdI w A1 l1) (b1 : l1.length ≤ c1) (m1 : c1 ≤ maxLen) (z1 : A1 = none → c1 = 0) (f1 : ∀ n ∈ l1, Fits n) (f2 : Fits a2) (r3 : RdI w A3 l3) (b3 : l3.length ≤ c3) (m3 : c3 ≤ maxLen) (z3 : A3 = none → c3 = 0) (f3 : ∀ n ∈ l3, Fits n) (r4 : RdI w A4 l4) (b4 : l4.length ≤ c4) (m4 : c4 ≤ maxLen) (z4 : A4 = none → c4 = 0) (f4 : ∀ n ∈ l4, Fits n) :
    Calls Try.prog 5 #[.agg #[.int .i64 x0_0, .int .i64 x0_1, .int .i64 x0_2], .slice A1 l1.length c1, .int .i64 a2, .slice A3 l3.length c3, .slice A4 l4.length c4] w fun e w' => e = .returned (.bool true) ∧ Ext w w' := by
  have M1 : l1.length ≤ 9223372036854775807 := by unfold maxLen at m1; omega
  clear z1 f1
  generalize hn1 : l1.length = n1 at *
  have Hn1 := Lib.hid hn1
  clear hn1
  have M3 : l3.length ≤ 9223372036854775807 := by unfold maxLen at m3; omega
  clear z3 f3
  generalize hn3 : l3.length = n3 at *
  have Hn3 := Lib.hid hn3
  clear hn3
  have M4 : l4.length ≤ 9223372036854775807 := by unfold maxLen at m4; omega
  clear z4 f4
  generalize hn4 : l4.length = n4 at *
  have Hn4 := Lib.hid hn4
  clear hn4
  rcases Nat.lt_or_ge 1048576 n1 with S1 | S1
  · go_enter Try.func5, Try.ntmps5
    go_wp2
    go_ret
    exact ⟨rfl, ((Ext.refl w).alloc _)⟩
  rcases Nat.lt_or_ge 1048576 n3 with S3 | S3
  · go_enter Try.func5, Try.ntmps5
    go_wp2
    go_ret
    exact ⟨rfl, ((Ext.refl w).alloc _)⟩
  rcases Nat.lt_or_ge 1048576 n4 with S4 | S4
  · go_enter Try.func5, Try.ntmps5
    go_wp2
    go_ret
    exact ⟨rfl, ((Ext.refl w).alloc _)⟩
  go_enter Try.func5, Try.ntmps5
  go_wp2_with fail
  have B0 := Blk.new (w) 52 #[.int .i64 x0_0, .int .i64 x0_1, .int .i64 x0_2]
  have E := ((Ext.refl w).alloc (.cells #[.int .i64 x0_0, .int .i64 x0_1, .int .i64 x0_2] 52))
  generalize w.alloc (.cells #[.int .i64 x0_0, .int .i64 x0_1, .int .i64 x0_2] 52) = w0 at *
  have C0 := B0.cells
  go_wp2_with fail
  refine (toGroup_any _ _ _ _).mono ?_
  rintro e w1 ⟨rfl, hb⟩
  replace E := E.trans hb
  replace B0 := B0.ext hb
  clear hb C0
  have LB0_t1 := B0.lt
  have Zt1 := E.size
  have C0 := B0.cells
  go_wp2_with fail
  refine (toIntS_any _ _ _ _ _ (r1.ext E) Hn1 (by omega)).mono ?_
  rintro e w2 ⟨At1, ct1, rfl, t1, hb⟩
  replace E := E.trans hb
  replace B0 := B0.ext hb
  clear hb C0
  have Lt1_t2 := t1.low
  have LB0_t2 := B0.lt
  have Zt2 := E.size
  have C0 := B0.cells
  go_wp2_with fail
  refine (toIntS_any _ _ _ _ _ (r3.ext E) Hn3 (by omega)).mono ?_
  rintro e w3 ⟨At2, ct2, rfl, t2, hb⟩
  replace E := E.trans hb
  replace B0 := B0.ext hb
  replace t1 := t1.ext hb
  clear hb C0
  have Lt1_t3 := t1.low
  have Lt2_t3 := t2.low
  have LB0_t3 := B0.lt
  have Zt3 := E.size
  have C0 := B0.cells
  go_wp2_with fail
  refine (toIntS_any _ _ _ _ _ (r4.ext E) Hn4 (by omega)).mono ?_
  rintro e w4 ⟨At3, ct3, rfl, t3, hb⟩
  replace E := E.trans hb
  replace B0 := B0.ext hb
  replace t1 := t1.ext hb
  replace t2 := t2.ext hb
  clear hb C0
  have C0 := B0.cells
  go_wp2_with fail
  refine (sRecoverShare_any x0_0 x0_1 x0_2 At1 n1 ct1 l1 a2 At2 n3 ct2 l3 At3 n4 ct3 l4 _ t1.rd t1.len S1 t1.cap t2.rd t2.len S3 t2.cap t3.rd t3.len S4 t3.cap).mono ?_
  rintro e w5 ⟨rfl, hb⟩
  replace E := E.trans hb
  replace B0 := B0.ext hb
  replace t1 := t1.ext hb
  replace t2 := t2.ext hb
  replace t3 := t3.ext hb
  clear hb C0
  have LB0_x1 := B0.lt
  have Zx1 := E.size
  have C0 := B0.cells
  go_wp2_with fail
  refine (toIntS_any _ _ _ _ _ (r1.ext E) Hn1 (by omega)).mono ?_
  rintro e w6 ⟨Ax1, cx1, rfl, x1, hb⟩
  replace E := E.trans hb
  replace B0 := B0.ext hb
  clear hb C0
  have Lx1_x3 := x1.low
  have LB0_x3 := B0.lt
  have Zx3 := E.size
  have C0 := B0.cells
  go_wp2_with fail
  refine (toIntS_any _ _ _ _ _ (r3.ext E) Hn3 (by omega)).mono ?_
  rintro e w7 ⟨Ax3, cx3, rfl, x3, hb⟩
  replace E := E.trans hb
  replace B0 := B0.ext hb
  replace x1 := x1.ext hb
  clear hb C0
  have Lx1_x4 := x1.low
  have Lx3_x4 := x3.low
  have LB0_x4 := B0.lt
  have Zx4 := E.size
  have C0 := B0.cells
  go_wp2_with fail
  refine (toIntS_any _ _ _ _ _ (r4.ext E) Hn4 (by omega)).mono ?_
  rintro e w8 ⟨Ax4, cx4, rfl, x4, hb⟩
  replace E := E.trans hb
  replace B0 := B0.ext hb
  replace x1 := x1.ext hb
  replace x3 := x3.ext hb
  clear hb C0
  have C0 := B0.cells
  go_wp2_with fail
  refine (toGroup_any _ _ _ _).mono ?_
  rintro e w9 ⟨rfl, hb⟩
  replace E := E.trans hb
  replace B0 := B0.ext hb
  replace x1 := x1.ext hb
  replace x3 := x3.ext hb
  replace x4 := x4.ext hb
  clear hb C0
  have C0 := B0.cells
  go_wp2_with fail
  refine (iRecoverShare_any x0_0 x0_1 x0_2 Ax1 n1 cx1 l1 a2 Ax3 n3 cx3 l3 Ax4 n4 cx4 l4 _ x1.rd x1.len S1 x1.cap x3.rd x3.len S3 x3.cap x4.rd x4.len S4 x4.cap).mono ?_
  rintro e w10 ⟨rfl, hb⟩
  replace E := E.trans hb
  replace B0 := B0.ext hb
  replace x1 := x1.ext hb
  replace x3 := x3.ext hb
  replace x4 := x4.ext hb
  clear hb C0
  have Lx1_t4 := x1.low
  have Lx3_t4 := x3.low
  have Lx4_t4 := x4.low
  have LB0_t4 := B0.lt
  have Zt4 := E.size
  have C0 := B0.cells
  go_wp2_with fail
  refine (toIntS_any _ _ _ _ _ (r1.ext E) Hn1 (by omega)).mono ?_
  rintro e w11 ⟨At4, ct4, rfl, t4, hb⟩
  replace E := E.trans hb
  replace B0 := B0.ext hb
  replace x1 := x1.ext hb
  replace x3 := x3.ext hb
  replace x4 := x4.ext hb
  clear hb C0
  have C0 := B0.cells
  go_wp2_with fail
  refine (eqIntS_same x1.rd t4.rd x1.len t4.len x1.le t4.le).mono ?_
  rintro e w12 ⟨rfl, hb⟩
  replace E := E.trans hb
  replace B0 := B0.ext hb
  replace x1 := x1.ext hb
  replace x3 := x3.ext hb
  replace x4 := x4.ext hb
  replace t4 := t4.ext hb
  clear hb C0
  have Lx1_t5 := x1.low
  have Lx3_t5 := x3.low
  have Lx4_t5 := x4.low
  have LB0_t5 := B0.lt
  have Zt5 := E.size
  have C0 := B0.cells
  go_wp2_with fail
  refine (toIntS_any _ _ _ _ _ (r3.ext E) Hn3 (by omega)).mono ?_
  rintro e w13 ⟨At5, ct5, rfl, t5, hb⟩
  replace E := E.trans hb
  replace B0 := B0.ext hb
  replace x1 := x1.ext hb
  replace x3 := x3.ext hb
  replace x4 := x4.ext hb
  clear hb C0
  have C0 := B0.cells
  go_wp2_with fail
  refine (eqIntS_same x3.rd t5.rd x3.len t5.len x3.le t5.le).mono ?_
  rintro e w14 ⟨rfl, hb⟩
  replace E := E.trans hb
  replace B0 := B0.ext hb
  replace x1 := x1.ext hb
  replace x3 := x3.ext hb
  replace x4 := x4.ext hb
  replace t5 := t5.ext hb
  clear hb C0
  have Lx1_t6 := x1.low
  have Lx3_t6 := x3.low
  have Lx4_t6 := x4.low
  have LB0_t6 := B0.lt
  have Zt6 := E.size
  have C0 := B0.cells
  go_wp2_with fail
  refine (toIntS_any _ _ _ _ _ (r4.ext E) Hn4 (by omega)).mono ?_
  rintro e w15 ⟨At6, ct6, rfl, t6, hb⟩
  replace E := E.trans hb
  replace B0 := B0.ext hb
  replace x1 := x1.ext hb
  replace x3 := x3.ext hb
  replace x4 := x4.ext hb
  clear hb C0
  have C0 := B0.cells
  go_wp2_with fail
  refine (eqIntS_same x4.rd t6.rd x4.len t6.len x4.le t6.le).mono ?_
  rintro e w16 ⟨rfl, hb⟩
  replace E := E.trans hb
  replace B0 := B0.ext hb
  replace x1 := x1.ext hb
  replace x3 := x3.ext hb
  replace x4 := x4.ext hb
  replace t6 := t6.ext hb
  clear hb C0
  go_wp2
  go_ret
  exact ⟨rfl, E⟩
end lawRecoverShare

set_option maxRecDepth 100000 in
theorem lawRecoverShare.lifted (os : Os) (started : os.Started) (H : Type) (enc : TypeId × Value → H) :
    ReturnsInHanded {} Try.checked os 5 .any (Rows.fnExactRecoverShareSpec.pre6 enc Try.prog Try.f5 Rows.fnExactRecoverShareRow.domain false) (Rows.fnExactRecoverShareSpec.post enc Try.prog Try.f5 false true false false) := by
  refine returnsInHanded_of_change (C := Try.checked) Facts.own started (by kernel_rfl) Try.func5
    (ChangeSpec.witness6 (enc := enc) (C := Try.checked) false ⟨#[], #[.agg #[.int .i64 0, .int .i64 0, .int .i64 0], .slice none 0 0, .int .i64 0, .slice none 0 0, .slice none 0 0], []⟩ 8 (by kernel_rfl) (by kernel_rfl) (by kernel_rfl) (by kernel_rfl)) ?_
  intro W base args ds gs before hval0 hW _ _
  have hval : ∀ (j : Nat) t v, Try.f5.params[j]? = some t → args[j]? = some v → Value.okWide Try.prog W .any base t v := hval0
  have hW' := hW
  obtain ⟨p, q, hA0, hV, rfl, hfz, hnd⟩ := hW
  have hA : DataW.TrodAll enc Try.prog W 0 (fun _ => true) true Try.f5.params.toList args.toList ds p := hA0
  rw [Try.params5] at hA hval
  obtain ⟨v0, vs0, d0, ds0, p0, q0, hargs, rfl, rfl, h0, r0⟩ := trodAll_cons hA
  obtain ⟨v1, vs1, d1, ds1, p1, q1, rfl, rfl, rfl, h1, r1⟩ := trodAll_cons r0
  obtain ⟨v2, vs2, d2, ds2, p2, q2, rfl, rfl, rfl, h2, r2⟩ := trodAll_cons r1
  obtain ⟨v3, vs3, d3, ds3, p3, q3, rfl, rfl, rfl, h3, r3⟩ := trodAll_cons r2
  obtain ⟨v4, vs4, d4, ds4, p4, q4, rfl, rfl, rfl, h4, r4⟩ := trodAll_cons r3
  obtain ⟨rfl, rfl, rfl⟩ := trodAll_nil r4
  obtain rfl : args = #[v0, v1, v2, v3, v4] := by cases args; simp_all
  obtain ⟨rfl, rfl⟩ := trodVars_none hV
  have hlt := hW'.lt
  clear hA hA0 hval0 hargs r0 r1 r2 r3 r4
  have k0 := h0
  have k1 := h1
  have k2 := h2
  have k3 := h3
  have k4 := h4
  obtain ⟨x0_0, x0_1, x0_2, rfl, f0_0, f0_1, f0_2⟩ := openAgg3 Try.underlying52 (by kernel_rfl) (by kernel_rfl) rfl (hval 0 52 v0 rfl rfl) h0
  obtain ⟨A1, l1, c1, rfl, r1, b1, m1, z1, f1⟩ := openIS Try.underlying28 Try.underlying3 (by kernel_rfl) (hval 1 28 v1 rfl rfl) h1
  obtain ⟨a2, rfl, f2⟩ := openI Try.underlying3 (hval 2 3 v2 rfl rfl) h2
  obtain ⟨A3, l3, c3, rfl, r3, b3, m3, z3, f3⟩ := openIS Try.underlying28 Try.underlying3 (by kernel_rfl) (hval 3 28 v3 rfl rfl) h3
  obtain ⟨A4, l4, c4, rfl, r4, b4, m4, z4, f4⟩ := openIS Try.underlying28 Try.underlying3 (by kernel_rfl) (hval 4 28 v4 rfl rfl) h4
  refine (lawRecoverShare.walk x0_0 x0_1 x0_2 A1 l1 c1 a2 A3 l3 c3 A4 l4 c4 W f0_0 f0_1 f0_2 r1 b1 m1 z1 f1 f2 r3 b3 m3 z3 f3 r4 b4 m4 z4 f4).mono fun e W' ⟨he, hg⟩ => ?_
  subst he
  exact ⟨_, rfl, post_below (pv := []) hW' (fun _ _ _ => (trodAll_cons_mk (shut_bool Try.underlying4 _) trodAll_mk0)) (fun sp hsp => (trodAll_cons_mk (WideElems.Trod_stays Facts.laidOut (by kernel_rfl) (of_decide_eq_true (by kernel_rfl)) k0 (fun x hx => hg.same (hlt x (by simp [hx]))) (fun x hx => hsp x (by simp [hx]))) (trodAll_cons_mk (WideElems.Trod_stays Facts.laidOut (by kernel_rfl) (of_decide_eq_true (by kernel_rfl)) k1 (fun x hx => hg.same (hlt x (by simp [hx]))) (fun x hx => hsp x (by simp [hx]))) (trodAll_cons_mk (WideElems.Trod_stays Facts.laidOut (by kernel_rfl) (of_decide_eq_true (by kernel_rfl)) k2 (fun x hx => hg.same (hlt x (by simp [hx]))) (fun x hx => hsp x (by simp [hx]))) (trodAll_cons_mk (WideElems.Trod_stays Facts.laidOut (by kernel_rfl) (of_decide_eq_true (by kernel_rfl)) k3 (fun x hx => hg.same (hlt x (by simp [hx]))) (fun x hx => hsp x (by simp [hx]))) (trodAll_cons_mk (WideElems.Trod_stays Facts.laidOut (by kernel_rfl) (of_decide_eq_true (by kernel_rfl)) k4 (fun x hx => hg.same (hlt x (by simp [hx]))) (fun x hx => hsp x (by simp [hx]))) trodAll_mk0)))))) (fun _ _ => rfl) rfl
    hg (ok_one (by kernel_rfl) rfl (okWide_bool_mk Try.underlying4 _))⟩

theorem lawRecoverShare.named : Try.pinned.checked.prog.funcNamed Rows.fnExactRecoverShareRow.func = some 5 := by kernel_rfl
theorem lawRecoverShare.z9 : (Rows.fnExactRecoverShareRow.inPlace == Try.prog.inPlace 5) = true := by kernel_rfl
theorem lawRecoverShare.z10 : (Rows.fnExactRecoverShareRow.unfollowed == Try.prog.unfollowed 5) = true := by kernel_rfl
theorem lawRecoverShare.z11 : (Rows.fnExactRecoverShareRow.recurses == Try.prog.recurses 5) = true := by kernel_rfl
theorem lawRecoverShare.z12 : (Rows.fnExactRecoverShareRow.named == Try.prog.varsNamed 5) = true := by kernel_rfl
theorem lawRecoverShare.closed : joinedFacts Try.prog 5 Try.f5 Rows.fnExactRecoverShareSpec Rows.fnExactRecoverShareRow = true :=
  joined_of (by kernel_rfl) Facts.laidOut Facts.mapsRowed (by kernel_rfl) (by kernel_rfl) (by kernel_rfl) (by kernel_rfl) (by kernel_rfl) (by kernel_rfl) lawRecoverShare.z9 lawRecoverShare.z10 lawRecoverShare.z11 lawRecoverShare.z12 (by kernel_rfl) (by kernel_rfl) (by kernel_rfl) (by kernel_rfl) (by kernel_rfl) (by kernel_rfl) (by kernel_rfl) (by kernel_rfl) (by kernel_rfl) (by rw [Facts.plainKeys]; rfl) (by kernel_rfl) Facts.heard Facts.enter (by rw [Facts.lifts]; rfl) (by rw [Facts.make]; rfl) (by kernel_rfl) (by kernel_rfl) (by kernel_rfl) (by kernel_rfl)
theorem lawRecoverShare.inst : Try.f5.isInstance Try.pinned.checked.prog Rows.fnExactRecoverShareRow.origin Rows.fnExactRecoverShareRow.targs := of_decide_eq_true (by kernel_rfl)
theorem lawRecoverShare.wrap : Try.f5.isWrapper Try.pinned.checked.prog Rows.fnExactRecoverShareRow.wrapper Rows.fnExactRecoverShareRow.mainSum := by
  unfold Func.isWrapper; first | (rw [if_pos (by decide +kernel)]; kernel_rfl) | (rw [if_neg (by decide +kernel)]; exact ⟨rfl, rfl⟩)
theorem lawRecoverShare.over : Rows.fnExactRecoverShareRow.holds Try.pinned (OpenSpec.ofChange Rows.fnExactRecoverShareSpec) :=
  OpenClaim.holds_of_wide 5 Try.f5 rfl rfl rfl rfl rfl rfl rfl ⟨rfl, rfl, rfl, rfl, rfl⟩ rfl rfl rfl rfl rfl lawRecoverShare.named Try.func5 lawRecoverShare.closed
    lawRecoverShare.inst lawRecoverShare.wrap (fun os started H enc _ => lawRecoverShare.lifted os started H enc)

theorem lawRecoverShare.proved : Rows.FnExactRecoverShareSaid := lawRecoverShare.over
#print axioms lawRecoverShare.proved
end Go.Proofs.Ythamimjejlicpaa
