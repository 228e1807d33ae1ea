/- The law FnExactTargetProduct returns true for every input. It holds without a condition. -/
import Derived.Test.YtlalpblinhhnlaaRows
import Derived.Test.YtlalpblinhhnlaaTgt
import Derived.Test.YtlalpblinhhnlaaFacts
namespace Go.Proofs.Ytlalpblinhhnlaa
open Go.ChangeShapes Go.WideShapes Go.ChangeAt Go.RowKit
set_option linter.unusedVariables false

namespace lawTargetProduct
set_option maxHeartbeats 1000000 in
theorem walk (a0 : Int) (a1 : Int) (a2 : Int) (a3 : Int) (a4 : Int) (w : World) (f0 : Fits a0) (f1 : Fits a1) (f2 : Fits a2) (f3 : Fits a3) (f4 : Fits a4) :
    Calls Try.prog 8 #[.int .i64 a0, .int .i64 a1, .int .i64 a2, .int .i64 a3, .int .i64 a4] w fun e w' => e = .returned (.bool true) ∧ Ext w w' := by
  go_enter Try.func8, Try.ntmps8
  go_wp2_with fail
  have E := (Ext.refl w)
  go_wp2_with fail
  refine (sTargetProduct_any a0 a1 a2 a3 a4 _).mono ?_
  rintro e w1 ⟨rfl, hb⟩
  replace E := E.trans hb
  clear hb
  go_wp2_with fail
  refine (iTargetProduct_any a0 a1 a2 a3 a4 _).mono ?_
  rintro e w2 ⟨rfl, hb⟩
  replace E := E.trans hb
  clear hb
  go_wp2
  go_ret
  exact ⟨rfl, E⟩
end lawTargetProduct

set_option maxRecDepth 100000 in
theorem lawTargetProduct.lifted (os : Os) (started : os.Started) (H : Type) (enc : TypeId × Value → H) :
    ReturnsInHanded {} Try.checked os 8 .any (Rows.fnExactTargetProductSpec.pre6 enc Try.prog Try.f8 Rows.fnExactTargetProductRow.domain false) (Rows.fnExactTargetProductSpec.post enc Try.prog Try.f8 false true false false) := by
  refine returnsInHanded_of_change (C := Try.checked) Facts.own started (by kernel_rfl) Try.func8
    (ChangeSpec.witness6 (enc := enc) (C := Try.checked) false ⟨#[], #[.int .i64 0, .int .i64 0, .int .i64 0, .int .i64 0, .int .i64 0], []⟩ 8 (by kernel_rfl) (by kernel_rfl) (by kernel_rfl) (by kernel_rfl)) ?_
  intro W base args ds gs before hval0 hW _ _
  have hval : ∀ (j : Nat) t v, Try.f8.params[j]? = some t → args[j]? = some v → Value.okWide Try.prog W .any base t v := hval0
  have hW' := hW
  obtain ⟨p, q, hA0, hV, rfl, hfz, hnd⟩ := hW
  have hA : DataW.TrodAll enc Try.prog W 0 (fun _ => true) true Try.f8.params.toList args.toList ds p := hA0
  rw [Try.params8] at hA hval
  obtain ⟨v0, vs0, d0, ds0, p0, q0, hargs, rfl, rfl, h0, r0⟩ := trodAll_cons hA
  obtain ⟨v1, vs1, d1, ds1, p1, q1, rfl, rfl, rfl, h1, r1⟩ := trodAll_cons r0
  obtain ⟨v2, vs2, d2, ds2, p2, q2, rfl, rfl, rfl, h2, r2⟩ := trodAll_cons r1
  obtain ⟨v3, vs3, d3, ds3, p3, q3, rfl, rfl, rfl, h3, r3⟩ := trodAll_cons r2
  obtain ⟨v4, vs4, d4, ds4, p4, q4, rfl, rfl, rfl, h4, r4⟩ := trodAll_cons r3
  obtain ⟨rfl, rfl, rfl⟩ := trodAll_nil r4
  obtain rfl : args = #[v0, v1, v2, v3, v4] := by cases args; simp_all
  obtain ⟨rfl, rfl⟩ := trodVars_none hV
  have hlt := hW'.lt
  clear hA hA0 hval0 hargs r0 r1 r2 r3 r4
  have k0 := h0
  have k1 := h1
  have k2 := h2
  have k3 := h3
  have k4 := h4
  obtain ⟨a0, rfl, f0⟩ := openI Try.underlying3 (hval 0 3 v0 rfl rfl) h0
  obtain ⟨a1, rfl, f1⟩ := openI Try.underlying3 (hval 1 3 v1 rfl rfl) h1
  obtain ⟨a2, rfl, f2⟩ := openI Try.underlying3 (hval 2 3 v2 rfl rfl) h2
  obtain ⟨a3, rfl, f3⟩ := openI Try.underlying3 (hval 3 3 v3 rfl rfl) h3
  obtain ⟨a4, rfl, f4⟩ := openI Try.underlying3 (hval 4 3 v4 rfl rfl) h4
  refine (lawTargetProduct.walk a0 a1 a2 a3 a4 W f0 f1 f2 f3 f4).mono fun e W' ⟨he, hg⟩ => ?_
  subst he
  exact ⟨_, rfl, post_below (pv := []) hW' (fun _ _ _ => (trodAll_cons_mk (shut_bool Try.underlying4 _) trodAll_mk0)) (fun sp hsp => (trodAll_cons_mk (WideElems.Trod_stays Facts.laidOut (by kernel_rfl) (of_decide_eq_true (by kernel_rfl)) k0 (fun x hx => hg.same (hlt x (by simp [hx]))) (fun x hx => hsp x (by simp [hx]))) (trodAll_cons_mk (WideElems.Trod_stays Facts.laidOut (by kernel_rfl) (of_decide_eq_true (by kernel_rfl)) k1 (fun x hx => hg.same (hlt x (by simp [hx]))) (fun x hx => hsp x (by simp [hx]))) (trodAll_cons_mk (WideElems.Trod_stays Facts.laidOut (by kernel_rfl) (of_decide_eq_true (by kernel_rfl)) k2 (fun x hx => hg.same (hlt x (by simp [hx]))) (fun x hx => hsp x (by simp [hx]))) (trodAll_cons_mk (WideElems.Trod_stays Facts.laidOut (by kernel_rfl) (of_decide_eq_true (by kernel_rfl)) k3 (fun x hx => hg.same (hlt x (by simp [hx]))) (fun x hx => hsp x (by simp [hx]))) (trodAll_cons_mk (WideElems.Trod_stays Facts.laidOut (by kernel_rfl) (of_decide_eq_true (by kernel_rfl)) k4 (fun x hx => hg.same (hlt x (by simp [hx]))) (fun x hx => hsp x (by simp [hx]))) trodAll_mk0)))))) (fun _ _ => rfl) rfl
    hg (ok_one (by kernel_rfl) rfl (okWide_bool_mk Try.underlying4 _))⟩

theorem lawTargetProduct.named : Try.pinned.checked.prog.funcNamed Rows.fnExactTargetProductRow.func = some 8 := by kernel_rfl
theorem lawTargetProduct.z9 : (Rows.fnExactTargetProductRow.inPlace == Try.prog.inPlace 8) = true := by kernel_rfl
theorem lawTargetProduct.z10 : (Rows.fnExactTargetProductRow.unfollowed == Try.prog.unfollowed 8) = true := by kernel_rfl
theorem lawTargetProduct.z11 : (Rows.fnExactTargetProductRow.recurses == Try.prog.recurses 8) = true := by kernel_rfl
theorem lawTargetProduct.z12 : (Rows.fnExactTargetProductRow.named == Try.prog.varsNamed 8) = true := by kernel_rfl
theorem lawTargetProduct.closed : joinedFacts Try.prog 8 Try.f8 Rows.fnExactTargetProductSpec Rows.fnExactTargetProductRow = true :=
  joined_of (by kernel_rfl) Facts.laidOut Facts.mapsRowed (by kernel_rfl) (by kernel_rfl) (by kernel_rfl) (by kernel_rfl) (by kernel_rfl) (by kernel_rfl) lawTargetProduct.z9 lawTargetProduct.z10 lawTargetProduct.z11 lawTargetProduct.z12 (by kernel_rfl) (by kernel_rfl) (by kernel_rfl) (by kernel_rfl) (by kernel_rfl) (by kernel_rfl) (by kernel_rfl) (by kernel_rfl) (by kernel_rfl) (by rw [Facts.plainKeys]; rfl) (by kernel_rfl) Facts.heard Facts.enter (by rw [Facts.lifts]; rfl) (by rw [Facts.make]; rfl) (by kernel_rfl) (by kernel_rfl) (by kernel_rfl) (by kernel_rfl)
theorem lawTargetProduct.inst : Try.f8.isInstance Try.pinned.checked.prog Rows.fnExactTargetProductRow.origin Rows.fnExactTargetProductRow.targs := of_decide_eq_true (by kernel_rfl)
theorem lawTargetProduct.wrap : Try.f8.isWrapper Try.pinned.checked.prog Rows.fnExactTargetProductRow.wrapper Rows.fnExactTargetProductRow.mainSum := by
  unfold Func.isWrapper; first | (rw [if_pos (by decide +kernel)]; kernel_rfl) | (rw [if_neg (by decide +kernel)]; exact ⟨rfl, rfl⟩)
theorem lawTargetProduct.over : Rows.fnExactTargetProductRow.holds Try.pinned (OpenSpec.ofChange Rows.fnExactTargetProductSpec) :=
  OpenClaim.holds_of_wide 8 Try.f8 rfl rfl rfl rfl rfl rfl rfl ⟨rfl, rfl, rfl, rfl, rfl⟩ rfl rfl rfl rfl rfl lawTargetProduct.named Try.func8 lawTargetProduct.closed
    lawTargetProduct.inst lawTargetProduct.wrap (fun os started H enc _ => lawTargetProduct.lifted os started H enc)

theorem lawTargetProduct.proved : Rows.FnExactTargetProductSaid := lawTargetProduct.over
#print axioms lawTargetProduct.proved
end Go.Proofs.Ytlalpblinhhnlaa
