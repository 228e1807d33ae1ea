/- The law FnExactDetectionChance returns true for every input. It holds without a condition. -/
import Derived.Test.YtjifppkclkcpcaaDch
import Derived.Test.YtjifppkclkcpcaaOpen
namespace Go.Proofs.Ytjifppkclkcpcaa
open Go.ChangeShapes Go.WideShapes Go.ChangeAt Go.RowKit
set_option linter.unusedVariables false

namespace lawDetectionChance
set_option maxHeartbeats 400000 in
theorem walk (a b c : Int) (h0 : Fits a) (h1 : Fits b) (h2 : Fits c) (w : World) :
    Calls Try.prog 5 #[.int .i64 a, .int .i64 b, .int .i64 c] w fun e w' => e = .returned (.bool true) ∧ Ext w w' := by
  by_cases h : goodCh a b c = true
  all_goals
    go_enter Try.func5, Try.ntmps5
    go_wp2_with fail
    refine (sDetectionChance_any _ _ _ _).mono ?_
    simp only [chRes, h, if_true, if_false, Bool.false_eq_true]
    rintro e w1 ⟨rfl, hb1⟩
    go_wp2_with fail
    refine (iDetectionChance_any _ _ _ _).mono ?_
    simp only [chRes, h, if_true, if_false, Bool.false_eq_true]
    rintro e w2 ⟨rfl, hb2⟩
    go_wp2
    go_ret
    exact ⟨rfl, hb1.trans hb2⟩
end lawDetectionChance

theorem lawDetectionChance.own : ownKnob Try.prog.godebug = none := by kernel_rfl
theorem lawDetectionChance.laidOut : laidOutB Try.prog = true := by kernel_rfl
set_option maxRecDepth 100000 in
theorem lawDetectionChance.lifted (os : Os) (started : os.Started) (H : Type) (enc : TypeId × Value → H) :
    ReturnsInHanded {} Try.checked os 5 .any (Rows.fnExactDetectionChanceSpec.pre6 enc Try.prog Try.f5 Rows.fnExactDetectionChanceRow.domain false) (Rows.fnExactDetectionChanceSpec.post enc Try.prog Try.f5 false true false false) := by
  refine returnsInHanded_of_change (C := Try.checked) lawDetectionChance.own started (by kernel_rfl) Try.func5
    (ChangeSpec.witness6 (enc := enc) (C := Try.checked) false ⟨#[], #[.int .i64 0, .int .i64 0, .int .i64 0], []⟩ 8 (by kernel_rfl) (by kernel_rfl) (by kernel_rfl) (by kernel_rfl)) ?_
  intro W base args ds gs before hval0 hW _ _
  have hval : ∀ (j : Nat) t v, Try.f5.params[j]? = some t → args[j]? = some v → Value.okWide Try.prog W .any base t v := hval0
  have hW' := hW
  obtain ⟨p, q, hA0, hV, rfl, hfz, hnd⟩ := hW
  have hA : DataW.TrodAll enc Try.prog W 0 (fun _ => true) true Try.f5.params.toList args.toList ds p := hA0
  rw [Try.params5] at hA hval
  obtain ⟨v0, vs0, d0, ds0, p0, q0, hargs, rfl, rfl, h0, r0⟩ := trodAll_cons hA
  obtain ⟨v1, vs1, d1, ds1, p1, q1, rfl, rfl, rfl, h1, r1⟩ := trodAll_cons r0
  obtain ⟨v2, vs2, d2, ds2, p2, q2, rfl, rfl, rfl, h2, r2⟩ := trodAll_cons r1
  obtain ⟨rfl, rfl, rfl⟩ := trodAll_nil r2
  obtain rfl : args = #[v0, v1, v2] := by cases args; simp_all
  obtain ⟨rfl, rfl⟩ := trodVars_none hV
  have hlt := hW'.lt
  clear hA hA0 hval0 hargs r0 r1 r2
  have k0 := h0
  have k1 := h1
  have k2 := h2
  obtain ⟨a0, rfl, f0⟩ := openI Try.underlying3 (hval 0 3 v0 rfl rfl) h0
  obtain ⟨a1, rfl, f1⟩ := openI Try.underlying3 (hval 1 3 v1 rfl rfl) h1
  obtain ⟨a2, rfl, f2⟩ := openI Try.underlying3 (hval 2 3 v2 rfl rfl) h2
  refine (lawDetectionChance.walk a0 a1 a2 f0 f1 f2 W).mono fun e W' ⟨he, hg⟩ => ?_
  subst he
  exact ⟨_, rfl, post_below (pv := []) hW' (fun _ _ _ => (trodAll_cons_mk (shut_bool Try.underlying4 _) trodAll_mk0)) (fun sp hsp => (trodAll_cons_mk (WideElems.Trod_stays lawDetectionChance.laidOut (by kernel_rfl) (of_decide_eq_true (by kernel_rfl)) k0 (fun x hx => hg.same (hlt x (by simp [hx]))) (fun x hx => hsp x (by simp [hx]))) (trodAll_cons_mk (WideElems.Trod_stays lawDetectionChance.laidOut (by kernel_rfl) (of_decide_eq_true (by kernel_rfl)) k1 (fun x hx => hg.same (hlt x (by simp [hx]))) (fun x hx => hsp x (by simp [hx]))) (trodAll_cons_mk (WideElems.Trod_stays lawDetectionChance.laidOut (by kernel_rfl) (of_decide_eq_true (by kernel_rfl)) k2 (fun x hx => hg.same (hlt x (by simp [hx]))) (fun x hx => hsp x (by simp [hx]))) trodAll_mk0)))) (fun _ _ => rfl) rfl
    hg (ok_one (by kernel_rfl) rfl (okWide_bool_mk Try.underlying4 _))⟩

theorem lawDetectionChance.over : Rows.fnExactDetectionChanceRow.holds Try.pinned (OpenSpec.ofChange Rows.fnExactDetectionChanceSpec) :=
  OpenClaim.holds_of_wide 5 Try.f5 rfl rfl rfl rfl rfl rfl rfl ⟨rfl, rfl, rfl, rfl, rfl⟩ rfl rfl rfl rfl rfl (by kernel_rfl) Try.func5 (by kernel_rfl)
    (of_decide_eq_true (by kernel_rfl)) (by unfold Func.isWrapper; first | (rw [if_pos (by decide +kernel)]; kernel_rfl) | (rw [if_neg (by decide +kernel)]; exact ⟨rfl, rfl⟩))
    (fun os started H enc _ => lawDetectionChance.lifted os started H enc)

theorem lawDetectionChance.proved : Rows.FnExactDetectionChanceSaid := lawDetectionChance.over
#print axioms lawDetectionChance.proved
end Go.Proofs.Ytjifppkclkcpcaa
