/- The law FnExactIsValidContest returns true for every input. It holds without a condition. -/
import Derived.Test.YtjifppkclkcpcaaCon
import Derived.Test.YtjifppkclkcpcaaOpen
namespace Go.Proofs.Ytjifppkclkcpcaa
open Go.ChangeShapes Go.WideShapes Go.ChangeAt Go.RowKit
set_option linter.unusedVariables false

set_option maxHeartbeats 400000 in
theorem sIsValidContest_any (a b c d f : Int) (w : World) :
    Calls Try.prog 8 #[.agg #[.int .i64 a, .int .i64 b, .int .i64 c, .int .i64 d, .int .i64 f]] w fun e w' => e = .returned (.bool (validCt a b c d f)) ∧ Ext w w' := by
  go_enter Try.func8, Try.ntmps8
  go_wp2_with (go_at_call 22; refine (vContest_any _ _ _ _ _ _).mono ?_; rintro e w1 ⟨rfl, hb1⟩)
  go_ret
  exact ⟨rfl, ((Ext.refl w).alloc _).trans hb1⟩

namespace lawIsValidContest
set_option maxHeartbeats 400000 in
theorem walk (a b c d f : Int) (h1 : Fits a) (h2 : Fits b) (h3 : Fits c) (h4 : Fits d) (h5 : Fits f) (w : World) :
    Calls Try.prog 3 #[.agg #[.int .i64 a, .int .i64 b, .int .i64 c, .int .i64 d, .int .i64 f]] w fun e w' => e = .returned (.bool true) ∧ Ext w w' := by
  go_enter Try.func3, Try.ntmps3
  go_wp2_with fail
  refine (toContest_any _ _ _ _ _ _).mono ?_
  rintro e w1 ⟨rfl, hb⟩
  have B := (Blk.new w 23 _).ext hb
  have E := ((Ext.refl w).alloc _).trans hb
  clear hb
  go_wp2_with fail
  refine (sIsValidContest_any _ _ _ _ _ _).mono ?_
  rintro e w2 ⟨rfl, hb⟩
  replace B := B.ext hb
  replace E := E.trans hb
  clear hb
  have C := B.cells
  go_wp2_with fail
  refine (toContest_any _ _ _ _ _ _).mono ?_
  rintro e w3 ⟨rfl, hb⟩
  replace E := E.trans hb
  clear hb C
  go_wp2_with fail
  refine (IsValidContest_any _ _ _ _ _ _).mono ?_
  rintro e w4 ⟨rfl, hb⟩
  replace E := E.trans hb
  go_wp2
  go_ret
  exact ⟨rfl, E⟩
end lawIsValidContest

theorem lawIsValidContest.own : ownKnob Try.prog.godebug = none := by kernel_rfl
theorem lawIsValidContest.laidOut : laidOutB Try.prog = true := by kernel_rfl
set_option maxRecDepth 100000 in
theorem lawIsValidContest.lifted (os : Os) (started : os.Started) (H : Type) (enc : TypeId × Value → H) :
    ReturnsInHanded {} Try.checked os 3 .any (Rows.fnExactIsValidContestSpec.pre6 enc Try.prog Try.f3 Rows.fnExactIsValidContestRow.domain false) (Rows.fnExactIsValidContestSpec.post enc Try.prog Try.f3 false true false false) := by
  refine returnsInHanded_of_change (C := Try.checked) lawIsValidContest.own started (by kernel_rfl) Try.func3
    (ChangeSpec.witness6 (enc := enc) (C := Try.checked) false ⟨#[], #[.agg #[.int .i64 0, .int .i64 0, .int .i64 0, .int .i64 0, .int .i64 0]], []⟩ 8 (by kernel_rfl) (by kernel_rfl) (by kernel_rfl) (by kernel_rfl)) ?_
  intro W base args ds gs before hval0 hW _ _
  have hval : ∀ (j : Nat) t v, Try.f3.params[j]? = some t → args[j]? = some v → Value.okWide Try.prog W .any base t v := hval0
  have hW' := hW
  obtain ⟨p, q, hA0, hV, rfl, hfz, hnd⟩ := hW
  have hA : DataW.TrodAll enc Try.prog W 0 (fun _ => true) true Try.f3.params.toList args.toList ds p := hA0
  rw [Try.params3] at hA hval
  obtain ⟨v0, vs0, d0, ds0, p0, q0, hargs, rfl, rfl, h0, r0⟩ := trodAll_cons hA
  obtain ⟨rfl, rfl, rfl⟩ := trodAll_nil r0
  obtain rfl : args = #[v0] := by cases args; simp_all
  obtain ⟨rfl, rfl⟩ := trodVars_none hV
  have hlt := hW'.lt
  clear hA hA0 hval0 hargs r0
  have k0 := h0
  obtain ⟨x0_0, x0_1, x0_2, x0_3, x0_4, rfl, f0_0, f0_1, f0_2, f0_3, f0_4⟩ := openAgg5 Try.underlying23 (by kernel_rfl) (by kernel_rfl) rfl (hval 0 23 v0 rfl rfl) h0
  refine (lawIsValidContest.walk x0_0 x0_1 x0_2 x0_3 x0_4 f0_0 f0_1 f0_2 f0_3 f0_4 W).mono fun e W' ⟨he, hg⟩ => ?_
  subst he
  exact ⟨_, rfl, post_below (pv := []) hW' (fun _ _ _ => (trodAll_cons_mk (shut_bool Try.underlying4 _) trodAll_mk0)) (fun sp hsp => (trodAll_cons_mk (WideElems.Trod_stays lawIsValidContest.laidOut (by kernel_rfl) (of_decide_eq_true (by kernel_rfl)) k0 (fun x hx => hg.same (hlt x (by simp [hx]))) (fun x hx => hsp x (by simp [hx]))) trodAll_mk0)) (fun _ _ => rfl) rfl
    hg (ok_one (by kernel_rfl) rfl (okWide_bool_mk Try.underlying4 _))⟩

theorem lawIsValidContest.over : Rows.fnExactIsValidContestRow.holds Try.pinned (OpenSpec.ofChange Rows.fnExactIsValidContestSpec) :=
  OpenClaim.holds_of_wide 3 Try.f3 rfl rfl rfl rfl rfl rfl rfl ⟨rfl, rfl, rfl, rfl, rfl⟩ rfl rfl rfl rfl rfl (by kernel_rfl) Try.func3 (by kernel_rfl)
    (of_decide_eq_true (by kernel_rfl)) (by unfold Func.isWrapper; first | (rw [if_pos (by decide +kernel)]; kernel_rfl) | (rw [if_neg (by decide +kernel)]; exact ⟨rfl, rfl⟩))
    (fun os started H enc _ => lawIsValidContest.lifted os started H enc)

theorem lawIsValidContest.proved : Rows.FnExactIsValidContestSaid := lawIsValidContest.over
#print axioms lawIsValidContest.proved
end Go.Proofs.Ytjifppkclkcpcaa
