/- The law FnExactCodeOf returns true for every input. It holds without a condition. -/
import Derived.Test.YteohpelbkmdlmaaRows
import Derived.Test.YteohpelbkmdlmaaCode
import Derived.Test.YteohpelbkmdlmaaEq
import Derived.Test.YteohpelbkmdlmaaFacts
namespace Go.Proofs.Yteohpelbkmdlmaa
open Go.ChangeShapes Go.WideShapes Go.ChangeAt Go.RowKit
set_option linter.unusedVariables false

namespace lawCodeOf
set_option maxHeartbeats 1000000 in
theorem walk (x0_0 x0_1 x0_2 x0_3 x0_4 : Int) (A1 : Option Addr) (l1 : List Int) (c1 : Nat) (w : World) (f0_0 : Fits x0_0) (f0_1 : Fits x0_1) (f0_2 : Fits x0_2) (f0_3 : Fits x0_3) (f0_4 : Fits x0_4) (r1 : RdI w A1 l1) (b1 : l1.length ≤ c1) (m1 : c1 ≤ maxLen) (z1 : A1 = none → c1 = 0) (f1 : ∀ n ∈ l1, Fits n) :
    Calls Try.prog 20 #[.agg #[.int .i64 x0_0, .int .i64 x0_1, .int .i64 x0_2, .int .i64 x0_3, .int .i64 x0_4], .slice A1 l1.length c1] w fun e w' => e = .returned (.bool true) ∧ Ext w w' := by
  have M1 : l1.length ≤ 9223372036854775807 := by unfold maxLen at m1; omega
  clear z1 f1
  generalize hn1 : l1.length = n1 at *
  have Hn1 := Lib.hid hn1
  clear hn1
  rcases Nat.lt_or_ge 1048576 n1 with S1 | S1
  · go_enter Try.func20, Try.ntmps20
    go_wp2
    go_ret
    exact ⟨rfl, ((Ext.refl w).alloc _)⟩
  go_enter Try.func20, Try.ntmps20
  go_wp2_with fail
  have B0 := Blk.new (w) 29 #[.int .i64 x0_0, .int .i64 x0_1, .int .i64 x0_2, .int .i64 x0_3, .int .i64 x0_4]
  have E := ((Ext.refl w).alloc (.cells #[.int .i64 x0_0, .int .i64 x0_1, .int .i64 x0_2, .int .i64 x0_3, .int .i64 x0_4] 29))
  generalize w.alloc (.cells #[.int .i64 x0_0, .int .i64 x0_1, .int .i64 x0_2, .int .i64 x0_3, .int .i64 x0_4] 29) = w0 at *
  have C0 := B0.cells
  go_wp2_with fail
  refine (toContest_any _ _ _ _ _ _).mono ?_
  rintro e w1 ⟨rfl, hb⟩
  replace E := E.trans hb
  replace B0 := B0.ext hb
  clear hb C0
  have LB0_t1 := B0.lt
  have Zt1 := E.size
  have C0 := B0.cells
  go_wp2_with fail
  refine (toIntS_any _ _ _ _ _ (r1.ext E) Hn1 (by omega)).mono ?_
  rintro e w2 ⟨At1, ct1, rfl, t1, hb⟩
  replace E := E.trans hb
  replace B0 := B0.ext hb
  clear hb C0
  have C0 := B0.cells
  go_wp2_with fail
  refine (sCodeOf_any x0_0 x0_1 x0_2 x0_3 x0_4 At1 n1 ct1 l1 _ t1.rd t1.len S1 t1.cap).mono ?_
  rintro e w3 ⟨rfl, hb⟩
  replace E := E.trans hb
  replace B0 := B0.ext hb
  replace t1 := t1.ext hb
  clear hb C0
  have LB0_x1 := B0.lt
  have Zx1 := E.size
  have C0 := B0.cells
  go_wp2_with fail
  refine (toIntS_any _ _ _ _ _ (r1.ext E) Hn1 (by omega)).mono ?_
  rintro e w4 ⟨Ax1, cx1, rfl, x1, hb⟩
  replace E := E.trans hb
  replace B0 := B0.ext hb
  clear hb C0
  have C0 := B0.cells
  go_wp2_with fail
  refine (toContest_any _ _ _ _ _ _).mono ?_
  rintro e w5 ⟨rfl, hb⟩
  replace E := E.trans hb
  replace B0 := B0.ext hb
  replace x1 := x1.ext hb
  clear hb C0
  have C0 := B0.cells
  go_wp2_with fail
  refine (iCodeOf_any x0_0 x0_1 x0_2 x0_3 x0_4 Ax1 n1 cx1 l1 _ x1.rd x1.len S1 x1.cap).mono ?_
  rintro e w6 ⟨rfl, hb⟩
  replace E := E.trans hb
  replace B0 := B0.ext hb
  replace x1 := x1.ext hb
  clear hb C0
  have Lx1_t2 := x1.low
  have LB0_t2 := B0.lt
  have Zt2 := E.size
  have C0 := B0.cells
  go_wp2_with fail
  refine (toIntS_any _ _ _ _ _ (r1.ext E) Hn1 (by omega)).mono ?_
  rintro e w7 ⟨At2, ct2, rfl, t2, hb⟩
  replace E := E.trans hb
  replace B0 := B0.ext hb
  replace x1 := x1.ext hb
  clear hb C0
  have C0 := B0.cells
  go_wp2_with fail
  refine (eqIntS_same x1.rd t2.rd x1.len t2.len x1.le t2.le).mono ?_
  rintro e w8 ⟨rfl, hb⟩
  replace E := E.trans hb
  replace B0 := B0.ext hb
  replace x1 := x1.ext hb
  replace t2 := t2.ext hb
  clear hb C0
  go_wp2
  go_ret
  exact ⟨rfl, E⟩
end lawCodeOf

set_option maxRecDepth 100000 in
theorem lawCodeOf.lifted (os : Os) (started : os.Started) (H : Type) (enc : TypeId × Value → H) :
    ReturnsInHanded {} Try.checked os 20 .any (Rows.fnExactCodeOfSpec.pre6 enc Try.prog Try.f20 Rows.fnExactCodeOfRow.domain false) (Rows.fnExactCodeOfSpec.post enc Try.prog Try.f20 false true false false) := by
  refine returnsInHanded_of_change (C := Try.checked) Facts.own started (by kernel_rfl) Try.func20
    (ChangeSpec.witness6 (enc := enc) (C := Try.checked) false ⟨#[], #[.agg #[.int .i64 0, .int .i64 0, .int .i64 0, .int .i64 0, .int .i64 0], .slice none 0 0], []⟩ 8 (by kernel_rfl) (by kernel_rfl) (by kernel_rfl) (by kernel_rfl)) ?_
  intro W base args ds gs before hval0 hW _ _
  have hval : ∀ (j : Nat) t v, Try.f20.params[j]? = some t → args[j]? = some v → Value.okWide Try.prog W .any base t v := hval0
  have hW' := hW
  obtain ⟨p, q, hA0, hV, rfl, hfz, hnd⟩ := hW
  have hA : DataW.TrodAll enc Try.prog W 0 (fun _ => true) true Try.f20.params.toList args.toList ds p := hA0
  rw [Try.params20] at hA hval
  obtain ⟨v0, vs0, d0, ds0, p0, q0, hargs, rfl, rfl, h0, r0⟩ := trodAll_cons hA
  obtain ⟨v1, vs1, d1, ds1, p1, q1, rfl, rfl, rfl, h1, r1⟩ := trodAll_cons r0
  obtain ⟨rfl, rfl, rfl⟩ := trodAll_nil r1
  obtain rfl : args = #[v0, v1] := by cases args; simp_all
  obtain ⟨rfl, rfl⟩ := trodVars_none hV
  have hlt := hW'.lt
  clear hA hA0 hval0 hargs r0 r1
  have k0 := h0
  have k1 := h1
  obtain ⟨x0_0, x0_1, x0_2, x0_3, x0_4, rfl, f0_0, f0_1, f0_2, f0_3, f0_4⟩ := openAgg5 Try.underlying29 (by kernel_rfl) (by kernel_rfl) rfl (hval 0 29 v0 rfl rfl) h0
  obtain ⟨A1, l1, c1, rfl, r1, b1, m1, z1, f1⟩ := openIS Try.underlying22 Try.underlying3 (by kernel_rfl) (hval 1 22 v1 rfl rfl) h1
  refine (lawCodeOf.walk x0_0 x0_1 x0_2 x0_3 x0_4 A1 l1 c1 W f0_0 f0_1 f0_2 f0_3 f0_4 r1 b1 m1 z1 f1).mono fun e W' ⟨he, hg⟩ => ?_
  subst he
  exact ⟨_, rfl, post_below (pv := []) hW' (fun _ _ _ => (trodAll_cons_mk (shut_bool Try.underlying4 _) trodAll_mk0)) (fun sp hsp => (trodAll_cons_mk (WideElems.Trod_stays Facts.laidOut (by kernel_rfl) (of_decide_eq_true (by kernel_rfl)) k0 (fun x hx => hg.same (hlt x (by simp [hx]))) (fun x hx => hsp x (by simp [hx]))) (trodAll_cons_mk (WideElems.Trod_stays Facts.laidOut (by kernel_rfl) (of_decide_eq_true (by kernel_rfl)) k1 (fun x hx => hg.same (hlt x (by simp [hx]))) (fun x hx => hsp x (by simp [hx]))) trodAll_mk0))) (fun _ _ => rfl) rfl
    hg (ok_one (by kernel_rfl) rfl (okWide_bool_mk Try.underlying4 _))⟩

theorem lawCodeOf.named : Try.pinned.checked.prog.funcNamed Rows.fnExactCodeOfRow.func = some 20 := by kernel_rfl
theorem lawCodeOf.z9 : (Rows.fnExactCodeOfRow.inPlace == Try.prog.inPlace 20) = true := by kernel_rfl
theorem lawCodeOf.z10 : (Rows.fnExactCodeOfRow.unfollowed == Try.prog.unfollowed 20) = true := by kernel_rfl
theorem lawCodeOf.z11 : (Rows.fnExactCodeOfRow.recurses == Try.prog.recurses 20) = true := by kernel_rfl
theorem lawCodeOf.z12 : (Rows.fnExactCodeOfRow.named == Try.prog.varsNamed 20) = true := by kernel_rfl
theorem lawCodeOf.closed : joinedFacts Try.prog 20 Try.f20 Rows.fnExactCodeOfSpec Rows.fnExactCodeOfRow = true :=
  joined_of (by kernel_rfl) Facts.laidOut Facts.mapsRowed (by kernel_rfl) (by kernel_rfl) (by kernel_rfl) (by kernel_rfl) (by kernel_rfl) (by kernel_rfl) lawCodeOf.z9 lawCodeOf.z10 lawCodeOf.z11 lawCodeOf.z12 (by kernel_rfl) (by kernel_rfl) (by kernel_rfl) (by kernel_rfl) (by kernel_rfl) (by kernel_rfl) (by kernel_rfl) (by kernel_rfl) (by kernel_rfl) (by rw [Facts.plainKeys]; rfl) (by kernel_rfl) Facts.heard Facts.enter (by rw [Facts.lifts]; rfl) (by rw [Facts.make]; rfl) (by kernel_rfl) (by kernel_rfl) (by kernel_rfl) (by kernel_rfl)
theorem lawCodeOf.inst : Try.f20.isInstance Try.pinned.checked.prog Rows.fnExactCodeOfRow.origin Rows.fnExactCodeOfRow.targs := of_decide_eq_true (by kernel_rfl)
theorem lawCodeOf.wrap : Try.f20.isWrapper Try.pinned.checked.prog Rows.fnExactCodeOfRow.wrapper Rows.fnExactCodeOfRow.mainSum := by
  unfold Func.isWrapper; first | (rw [if_pos (by decide +kernel)]; kernel_rfl) | (rw [if_neg (by decide +kernel)]; exact ⟨rfl, rfl⟩)
theorem lawCodeOf.over : Rows.fnExactCodeOfRow.holds Try.pinned (OpenSpec.ofChange Rows.fnExactCodeOfSpec) :=
  OpenClaim.holds_of_wide 20 Try.f20 rfl rfl rfl rfl rfl rfl rfl ⟨rfl, rfl, rfl, rfl, rfl⟩ rfl rfl rfl rfl rfl lawCodeOf.named Try.func20 lawCodeOf.closed
    lawCodeOf.inst lawCodeOf.wrap (fun os started H enc _ => lawCodeOf.lifted os started H enc)

theorem lawCodeOf.proved : Rows.FnExactCodeOfSaid := lawCodeOf.over
#print axioms lawCodeOf.proved
end Go.Proofs.Yteohpelbkmdlmaa
