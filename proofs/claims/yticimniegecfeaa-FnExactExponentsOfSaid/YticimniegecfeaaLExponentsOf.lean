/- The law FnExactExponentsOf returns true for every input. It holds without a condition. -/
import Derived.Test.YticimniegecfeaaRows
import Derived.Test.YticimniegecfeaaExp
import Derived.Test.YticimniegecfeaaEq
import Derived.Test.YticimniegecfeaaCon
import Derived.Test.YticimniegecfeaaFacts
namespace Go.Proofs.Yticimniegecfeaa
open Go.ChangeShapes Go.WideShapes Go.ChangeAt Go.RowKit
set_option linter.unusedVariables false

namespace lawExponentsOf
set_option maxHeartbeats 1000000 in
theorem walk (x0_0 x0_1 x0_2 x0_3 x0_4 : Int) (A1 : Option Addr) (l1 : List Int) (c1 : Nat) (w : World) (f0_0 : Fits x0_0) (f0_1 : Fits x0_1) (f0_2 : Fits x0_2) (f0_3 : Fits x0_3) (f0_4 : Fits x0_4) (r1 : RdI w A1 l1) (b1 : l1.length ≤ c1) (m1 : c1 ≤ maxLen) (z1 : A1 = none → c1 = 0) (f1 : ∀ n ∈ l1, Fits n) :
    Calls Try.prog 11 #[.agg #[.int .i64 x0_0, .int .i64 x0_1, .int .i64 x0_2, .int .i64 x0_3, .int .i64 x0_4], .slice A1 l1.length c1] w fun e w' => e = .returned (.bool true) ∧ Ext w w' := by
  have M1 : l1.length ≤ 9223372036854775807 := by unfold maxLen at m1; omega
  clear z1 f1
  generalize hn1 : l1.length = n1 at *
  have Hn1 := Lib.hid hn1
  clear hn1
  rcases Nat.lt_or_ge 1048576 n1 with S1 | S1
  · go_enter Try.func11, Try.ntmps11
    go_wp2
    go_ret
    exact ⟨rfl, ((Ext.refl w).alloc _)⟩
  go_enter Try.func11, Try.ntmps11
  go_wp2_with fail
  have B0 := Blk.new (w) 92 #[.int .i64 x0_0, .int .i64 x0_1, .int .i64 x0_2, .int .i64 x0_3, .int .i64 x0_4]
  have E := ((Ext.refl w).alloc (.cells #[.int .i64 x0_0, .int .i64 x0_1, .int .i64 x0_2, .int .i64 x0_3, .int .i64 x0_4] 92))
  generalize w.alloc (.cells #[.int .i64 x0_0, .int .i64 x0_1, .int .i64 x0_2, .int .i64 x0_3, .int .i64 x0_4] 92) = w0 at *
  have C0 := B0.cells
  go_wp2_with fail
  refine (toContest_any _ _ _ _ _ _).mono ?_
  rintro e w1 ⟨rfl, hb⟩
  replace E := E.trans hb
  replace B0 := B0.ext hb
  clear hb C0
  have LB0_t1 := B0.lt
  have Zt1 := E.size
  have C0 := B0.cells
  go_wp2_with fail
  refine (toIntS_any _ _ _ _ _ (r1.ext E) Hn1 (by omega)).mono ?_
  rintro e w2 ⟨At1, ct1, rfl, t1, hb⟩
  replace E := E.trans hb
  replace B0 := B0.ext hb
  clear hb C0
  have Lt1_w0 := t1.low
  have LB0_w0 := B0.lt
  have Zw0 := E.size
  have C0 := B0.cells
  go_wp2_with fail
  refine (sExponentsOf_any x0_0 x0_1 x0_2 x0_3 x0_4 At1 n1 ct1 l1 _ t1.rd t1.len S1 t1.cap).mono ?_
  rintro e w3 ⟨Aw0, nw0, cw0, rfl, w0, hb⟩
  replace E := E.trans hb
  replace B0 := B0.ext hb
  replace t1 := t1.ext hb
  clear hb C0
  have Nw0 : nw0 ≤ 100000 := Nat.le_trans (Nat.le_of_eq w0.len.symm) (expsR_bd _ _ _ _ _ _)
  have Lw0_x1 := w0.low
  have LB0_x1 := B0.lt
  have Zx1 := E.size
  have C0 := B0.cells
  go_wp2_with fail
  refine (toIntS_any _ _ _ _ _ (r1.ext E) Hn1 (by omega)).mono ?_
  rintro e w4 ⟨Ax1, cx1, rfl, x1, hb⟩
  replace E := E.trans hb
  replace B0 := B0.ext hb
  replace w0 := w0.ext hb
  clear hb C0
  have C0 := B0.cells
  go_wp2_with fail
  refine (toContest_any _ _ _ _ _ _).mono ?_
  rintro e w5 ⟨rfl, hb⟩
  replace E := E.trans hb
  replace B0 := B0.ext hb
  replace w0 := w0.ext hb
  replace x1 := x1.ext hb
  clear hb C0
  have Lw0_g0 := w0.low
  have Lx1_g0 := x1.low
  have LB0_g0 := B0.lt
  have Zg0 := E.size
  have C0 := B0.cells
  go_wp2_with fail
  refine (iExponentsOf_any x0_0 x0_1 x0_2 x0_3 x0_4 Ax1 n1 cx1 l1 _ x1.rd x1.len S1 x1.cap).mono ?_
  rintro e w6 ⟨Ag0, ng0, cg0, rfl, g0, hb⟩
  replace E := E.trans hb
  replace B0 := B0.ext hb
  replace w0 := w0.ext hb
  replace x1 := x1.ext hb
  clear hb C0
  have Ng0 : ng0 ≤ 100000 := Nat.le_trans (Nat.le_of_eq g0.len.symm) (expsR_bd _ _ _ _ _ _)
  have C0 := B0.cells
  go_wp2_with fail
  refine (eqIntS_same g0.rd w0.rd g0.len w0.len g0.le w0.le).mono ?_
  rintro e w7 ⟨rfl, hb⟩
  replace E := E.trans hb
  replace B0 := B0.ext hb
  replace w0 := w0.ext hb
  replace x1 := x1.ext hb
  replace g0 := g0.ext hb
  clear hb C0
  have Lw0_t2 := w0.low
  have Lx1_t2 := x1.low
  have Lg0_t2 := g0.low
  have LB0_t2 := B0.lt
  have Zt2 := E.size
  have C0 := B0.cells
  go_wp2_with fail
  refine (toIntS_any _ _ _ _ _ (r1.ext E) Hn1 (by omega)).mono ?_
  rintro e w8 ⟨At2, ct2, rfl, t2, hb⟩
  replace E := E.trans hb
  replace B0 := B0.ext hb
  replace w0 := w0.ext hb
  replace x1 := x1.ext hb
  replace g0 := g0.ext hb
  clear hb C0
  have C0 := B0.cells
  go_wp2_with fail
  refine (eqIntS_same x1.rd t2.rd x1.len t2.len x1.le t2.le).mono ?_
  rintro e w9 ⟨rfl, hb⟩
  replace E := E.trans hb
  replace B0 := B0.ext hb
  replace w0 := w0.ext hb
  replace x1 := x1.ext hb
  replace g0 := g0.ext hb
  replace t2 := t2.ext hb
  clear hb C0
  have C0 := B0.cells
  go_wp2_with fail
  refine (markIntS_any x1 (by omega) (by omega)).mono ?_
  rintro e w10 ⟨rfl, hm, hO⟩
  replace E := E.only hO (x1.high.mono Zx1)
  replace B0 := B0.only hO (fun hh => absurd (x1.high _ hh) (Nat.not_le.2 LB0_x1))
  replace w0 := w0.only hO (Apart.of_low Lw0_x1 x1.high)
  replace g0 := g0.only hO (Apart.of_high Lx1_g0 g0.high)
  clear hO x1 C0
  have x1 := hm
  clear hm
  have C0 := B0.cells
  go_wp2_with fail
  refine (eqIntS_same g0.rd w0.rd g0.len w0.len g0.le w0.le).mono ?_
  rintro e w11 ⟨rfl, hb⟩
  replace E := E.trans hb
  replace B0 := B0.ext hb
  replace w0 := w0.ext hb
  replace x1 := x1.ext hb
  replace g0 := g0.ext hb
  clear hb C0
  have C0 := B0.cells
  go_wp2_with fail
  refine (markIntS_any g0 (by omega) (by omega)).mono ?_
  rintro e w12 ⟨rfl, hm, hO⟩
  replace E := E.only hO (g0.high.mono Zg0)
  replace B0 := B0.only hO (fun hh => absurd (g0.high _ hh) (Nat.not_le.2 LB0_g0))
  replace w0 := w0.only hO (Apart.of_low Lw0_g0 g0.high)
  replace x1 := x1.only hO (Apart.of_low Lx1_g0 g0.high)
  clear hO g0 C0
  have g0 := hm
  clear hm
  have C0 := B0.cells
  go_wp2_with fail
  refine (heldIntS_any g0.rd (by omega) (by omega)).mono ?_
  rintro e w13 ⟨rfl, hb⟩
  replace E := E.trans hb
  replace B0 := B0.ext hb
  replace w0 := w0.ext hb
  replace x1 := x1.ext hb
  replace g0 := g0.ext hb
  clear hb C0
  have C0 := B0.cells
  go_wp2_with fail
  refine (toContest_any _ _ _ _ _ _).mono ?_
  rintro e w14 ⟨rfl, hb⟩
  replace E := E.trans hb
  replace B0 := B0.ext hb
  replace w0 := w0.ext hb
  replace x1 := x1.ext hb
  replace g0 := g0.ext hb
  clear hb C0
  have Lw0_t3 := w0.low
  have Lx1_t3 := x1.low
  have Lg0_t3 := g0.low
  have LB0_t3 := B0.lt
  have Zt3 := E.size
  have C0 := B0.cells
  go_wp2_with fail
  refine (toIntS_any _ _ _ _ _ (r1.ext E) Hn1 (by omega)).mono ?_
  rintro e w15 ⟨At3, ct3, rfl, t3, hb⟩
  replace E := E.trans hb
  replace B0 := B0.ext hb
  replace w0 := w0.ext hb
  replace x1 := x1.ext hb
  replace g0 := g0.ext hb
  clear hb C0
  have Lw0_h0 := w0.low
  have Lx1_h0 := x1.low
  have Lg0_h0 := g0.low
  have Lt3_h0 := t3.low
  have LB0_h0 := B0.lt
  have Zh0 := E.size
  have C0 := B0.cells
  go_wp2_with fail
  refine (iExponentsOf_any x0_0 x0_1 x0_2 x0_3 x0_4 At3 n1 ct3 l1 _ t3.rd t3.len S1 t3.cap).mono ?_
  rintro e w16 ⟨Ah0, nh0, ch0, rfl, h0, hb⟩
  replace E := E.trans hb
  replace B0 := B0.ext hb
  replace w0 := w0.ext hb
  replace x1 := x1.ext hb
  replace g0 := g0.ext hb
  replace t3 := t3.ext hb
  clear hb C0
  have Nh0 : nh0 ≤ 100000 := Nat.le_trans (Nat.le_of_eq h0.len.symm) (expsR_bd _ _ _ _ _ _)
  have C0 := B0.cells
  go_wp2_with fail
  refine (eqIntS_same h0.rd w0.rd h0.len w0.len h0.le w0.le).mono ?_
  rintro e w17 ⟨rfl, hb⟩
  replace E := E.trans hb
  replace B0 := B0.ext hb
  replace w0 := w0.ext hb
  replace x1 := x1.ext hb
  replace g0 := g0.ext hb
  replace h0 := h0.ext hb
  clear hb C0
  have C0 := B0.cells
  go_wp2_with fail
  refine (heldIntS_any g0.rd (by omega) (by omega)).mono ?_
  rintro e w18 ⟨rfl, hb⟩
  replace E := E.trans hb
  replace B0 := B0.ext hb
  replace w0 := w0.ext hb
  replace x1 := x1.ext hb
  replace g0 := g0.ext hb
  replace h0 := h0.ext hb
  clear hb C0
  go_wp2
  go_ret
  exact ⟨rfl, E⟩
end lawExponentsOf

set_option maxRecDepth 100000 in
theorem lawExponentsOf.lifted (os : Os) (started : os.Started) (H : Type) (enc : TypeId × Value → H) :
    ReturnsInHanded {} Try.checked os 11 .any (Rows.fnExactExponentsOfSpec.pre6 enc Try.prog Try.f11 Rows.fnExactExponentsOfRow.domain false) (Rows.fnExactExponentsOfSpec.post enc Try.prog Try.f11 false true false false) := by
  refine returnsInHanded_of_change (C := Try.checked) Facts.own started (by kernel_rfl) Try.func11
    (ChangeSpec.witness6 (enc := enc) (C := Try.checked) false ⟨#[], #[.agg #[.int .i64 0, .int .i64 0, .int .i64 0, .int .i64 0, .int .i64 0], .slice none 0 0], []⟩ 8 (by kernel_rfl) (by kernel_rfl) (by kernel_rfl) (by kernel_rfl)) ?_
  intro W base args ds gs before hval0 hW _ _
  have hval : ∀ (j : Nat) t v, Try.f11.params[j]? = some t → args[j]? = some v → Value.okWide Try.prog W .any base t v := hval0
  have hW' := hW
  obtain ⟨p, q, hA0, hV, rfl, hfz, hnd⟩ := hW
  have hA : DataW.TrodAll enc Try.prog W 0 (fun _ => true) true Try.f11.params.toList args.toList ds p := hA0
  rw [Try.params11] at hA hval
  obtain ⟨v0, vs0, d0, ds0, p0, q0, hargs, rfl, rfl, h0, r0⟩ := trodAll_cons hA
  obtain ⟨v1, vs1, d1, ds1, p1, q1, rfl, rfl, rfl, h1, r1⟩ := trodAll_cons r0
  obtain ⟨rfl, rfl, rfl⟩ := trodAll_nil r1
  obtain rfl : args = #[v0, v1] := by cases args; simp_all
  obtain ⟨rfl, rfl⟩ := trodVars_none hV
  have hlt := hW'.lt
  clear hA hA0 hval0 hargs r0 r1
  have k0 := h0
  have k1 := h1
  obtain ⟨x0_0, x0_1, x0_2, x0_3, x0_4, rfl, f0_0, f0_1, f0_2, f0_3, f0_4⟩ := openAgg5 Try.underlying92 (by kernel_rfl) (by kernel_rfl) rfl (hval 0 92 v0 rfl rfl) h0
  obtain ⟨A1, l1, c1, rfl, r1, b1, m1, z1, f1⟩ := openIS Try.underlying22 Try.underlying3 (by kernel_rfl) (hval 1 22 v1 rfl rfl) h1
  refine (lawExponentsOf.walk x0_0 x0_1 x0_2 x0_3 x0_4 A1 l1 c1 W f0_0 f0_1 f0_2 f0_3 f0_4 r1 b1 m1 z1 f1).mono fun e W' ⟨he, hg⟩ => ?_
  subst he
  exact ⟨_, rfl, post_below (pv := []) hW' (fun _ _ _ => (trodAll_cons_mk (shut_bool Try.underlying4 _) trodAll_mk0)) (fun sp hsp => (trodAll_cons_mk (WideElems.Trod_stays Facts.laidOut (by kernel_rfl) (of_decide_eq_true (by kernel_rfl)) k0 (fun x hx => hg.same (hlt x (by simp [hx]))) (fun x hx => hsp x (by simp [hx]))) (trodAll_cons_mk (WideElems.Trod_stays Facts.laidOut (by kernel_rfl) (of_decide_eq_true (by kernel_rfl)) k1 (fun x hx => hg.same (hlt x (by simp [hx]))) (fun x hx => hsp x (by simp [hx]))) trodAll_mk0))) (fun _ _ => rfl) rfl
    hg (ok_one (by kernel_rfl) rfl (okWide_bool_mk Try.underlying4 _))⟩

theorem lawExponentsOf.named : Try.pinned.checked.prog.funcNamed Rows.fnExactExponentsOfRow.func = some 11 := by kernel_rfl
theorem lawExponentsOf.z9 : (Rows.fnExactExponentsOfRow.inPlace == Try.prog.inPlace 11) = true := by kernel_rfl
theorem lawExponentsOf.z10 : (Rows.fnExactExponentsOfRow.unfollowed == Try.prog.unfollowed 11) = true := by kernel_rfl
theorem lawExponentsOf.z11 : (Rows.fnExactExponentsOfRow.recurses == Try.prog.recurses 11) = true := by kernel_rfl
theorem lawExponentsOf.z12 : (Rows.fnExactExponentsOfRow.named == Try.prog.varsNamed 11) = true := by kernel_rfl
theorem lawExponentsOf.closed : joinedFacts Try.prog 11 Try.f11 Rows.fnExactExponentsOfSpec Rows.fnExactExponentsOfRow = true :=
  joined_of (by kernel_rfl) Facts.laidOut Facts.mapsRowed (by kernel_rfl) (by kernel_rfl) (by kernel_rfl) (by kernel_rfl) (by kernel_rfl) (by kernel_rfl) lawExponentsOf.z9 lawExponentsOf.z10 lawExponentsOf.z11 lawExponentsOf.z12 (by kernel_rfl) (by kernel_rfl) (by kernel_rfl) (by kernel_rfl) (by kernel_rfl) (by kernel_rfl) (by kernel_rfl) (by kernel_rfl) (by kernel_rfl) (by rw [Facts.plainKeys]; rfl) (by kernel_rfl) Facts.heard Facts.enter (by rw [Facts.lifts]; rfl) (by rw [Facts.make]; rfl) (by kernel_rfl) (by kernel_rfl) (by kernel_rfl) (by kernel_rfl)
theorem lawExponentsOf.inst : Try.f11.isInstance Try.pinned.checked.prog Rows.fnExactExponentsOfRow.origin Rows.fnExactExponentsOfRow.targs := of_decide_eq_true (by kernel_rfl)
theorem lawExponentsOf.wrap : Try.f11.isWrapper Try.pinned.checked.prog Rows.fnExactExponentsOfRow.wrapper Rows.fnExactExponentsOfRow.mainSum := by
  unfold Func.isWrapper; first | (rw [if_pos (by decide +kernel)]; kernel_rfl) | (rw [if_neg (by decide +kernel)]; exact ⟨rfl, rfl⟩)
theorem lawExponentsOf.over : Rows.fnExactExponentsOfRow.holds Try.pinned (OpenSpec.ofChange Rows.fnExactExponentsOfSpec) :=
  OpenClaim.holds_of_wide 11 Try.f11 rfl rfl rfl rfl rfl rfl rfl ⟨rfl, rfl, rfl, rfl, rfl⟩ rfl rfl rfl rfl rfl lawExponentsOf.named Try.func11 lawExponentsOf.closed
    lawExponentsOf.inst lawExponentsOf.wrap (fun os started H enc _ => lawExponentsOf.lifted os started H enc)

theorem lawExponentsOf.proved : Rows.FnExactExponentsOfSaid := lawExponentsOf.over
#print axioms lawExponentsOf.proved
end Go.Proofs.Yticimniegecfeaa
