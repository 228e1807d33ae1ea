/- The law FnExactLeastAudits returns true for every input. It holds without a condition. -/
import Derived.Test.YtjifppkclkcpcaaDch
import Derived.Test.YtjifppkclkcpcaaOpen
namespace Go.Proofs.Ytjifppkclkcpcaa
open Go.ChangeShapes Go.WideShapes Go.ChangeAt Go.RowKit
set_option linter.unusedVariables false

namespace lawLeastAudits
set_option maxHeartbeats 400000 in
theorem walk (a b c d : Int) (h0 : Fits a) (h1 : Fits b) (h2 : Fits c) (h3 : Fits d) (w : World) :
    Calls Try.prog 6 #[.int .i64 a, .int .i64 b, .int .i64 c, .int .i64 d] w fun e w' => e = .returned (.bool true) ∧ Ext w w' := by
  have key : ∃ (k : Int) (t : Bool), leastRes a b c d = .tuple #[.int .i64 k, .bool t] := by
    unfold leastRes
    split
    · split
      · exact ⟨_, _, rfl⟩
      · exact ⟨_, _, rfl⟩
    · exact ⟨_, _, rfl⟩
  obtain ⟨k, t, hk⟩ := key
  have HK := Lib.hid hk
  clear hk
  go_enter Try.func6, Try.ntmps6
  go_wp2_with fail
  refine (sLeastAudits_any _ _ _ _ _).mono ?_
  rw [HK.out]
  rintro e w1 ⟨rfl, hb1⟩
  go_wp2_with fail
  refine (iLeastAudits_any _ _ _ _ _).mono ?_
  rw [HK.out]
  rintro e w2 ⟨rfl, hb2⟩
  go_wp2
  go_ret
  exact ⟨rfl, hb1.trans hb2⟩
end lawLeastAudits

theorem lawLeastAudits.own : ownKnob Try.prog.godebug = none := by kernel_rfl
theorem lawLeastAudits.laidOut : laidOutB Try.prog = true := by kernel_rfl
set_option maxRecDepth 100000 in
theorem lawLeastAudits.lifted (os : Os) (started : os.Started) (H : Type) (enc : TypeId × Value → H) :
    ReturnsInHanded {} Try.checked os 6 .any (Rows.fnExactLeastAuditsSpec.pre6 enc Try.prog Try.f6 Rows.fnExactLeastAuditsRow.domain false) (Rows.fnExactLeastAuditsSpec.post enc Try.prog Try.f6 false true false false) := by
  refine returnsInHanded_of_change (C := Try.checked) lawLeastAudits.own started (by kernel_rfl) Try.func6
    (ChangeSpec.witness6 (enc := enc) (C := Try.checked) false ⟨#[], #[.int .i64 0, .int .i64 0, .int .i64 0, .int .i64 0], []⟩ 8 (by kernel_rfl) (by kernel_rfl) (by kernel_rfl) (by kernel_rfl)) ?_
  intro W base args ds gs before hval0 hW _ _
  have hval : ∀ (j : Nat) t v, Try.f6.params[j]? = some t → args[j]? = some v → Value.okWide Try.prog W .any base t v := hval0
  have hW' := hW
  obtain ⟨p, q, hA0, hV, rfl, hfz, hnd⟩ := hW
  have hA : DataW.TrodAll enc Try.prog W 0 (fun _ => true) true Try.f6.params.toList args.toList ds p := hA0
  rw [Try.params6] at hA hval
  obtain ⟨v0, vs0, d0, ds0, p0, q0, hargs, rfl, rfl, h0, r0⟩ := trodAll_cons hA
  obtain ⟨v1, vs1, d1, ds1, p1, q1, rfl, rfl, rfl, h1, r1⟩ := trodAll_cons r0
  obtain ⟨v2, vs2, d2, ds2, p2, q2, rfl, rfl, rfl, h2, r2⟩ := trodAll_cons r1
  obtain ⟨v3, vs3, d3, ds3, p3, q3, rfl, rfl, rfl, h3, r3⟩ := trodAll_cons r2
  obtain ⟨rfl, rfl, rfl⟩ := trodAll_nil r3
  obtain rfl : args = #[v0, v1, v2, v3] := by cases args; simp_all
  obtain ⟨rfl, rfl⟩ := trodVars_none hV
  have hlt := hW'.lt
  clear hA hA0 hval0 hargs r0 r1 r2 r3
  have k0 := h0
  have k1 := h1
  have k2 := h2
  have k3 := h3
  obtain ⟨a0, rfl, f0⟩ := openI Try.underlying3 (hval 0 3 v0 rfl rfl) h0
  obtain ⟨a1, rfl, f1⟩ := openI Try.underlying3 (hval 1 3 v1 rfl rfl) h1
  obtain ⟨a2, rfl, f2⟩ := openI Try.underlying3 (hval 2 3 v2 rfl rfl) h2
  obtain ⟨a3, rfl, f3⟩ := openI Try.underlying3 (hval 3 3 v3 rfl rfl) h3
  refine (lawLeastAudits.walk a0 a1 a2 a3 f0 f1 f2 f3 W).mono fun e W' ⟨he, hg⟩ => ?_
  subst he
  exact ⟨_, rfl, post_below (pv := []) hW' (fun _ _ _ => (trodAll_cons_mk (shut_bool Try.underlying4 _) trodAll_mk0)) (fun sp hsp => (trodAll_cons_mk (WideElems.Trod_stays lawLeastAudits.laidOut (by kernel_rfl) (of_decide_eq_true (by kernel_rfl)) k0 (fun x hx => hg.same (hlt x (by simp [hx]))) (fun x hx => hsp x (by simp [hx]))) (trodAll_cons_mk (WideElems.Trod_stays lawLeastAudits.laidOut (by kernel_rfl) (of_decide_eq_true (by kernel_rfl)) k1 (fun x hx => hg.same (hlt x (by simp [hx]))) (fun x hx => hsp x (by simp [hx]))) (trodAll_cons_mk (WideElems.Trod_stays lawLeastAudits.laidOut (by kernel_rfl) (of_decide_eq_true (by kernel_rfl)) k2 (fun x hx => hg.same (hlt x (by simp [hx]))) (fun x hx => hsp x (by simp [hx]))) (trodAll_cons_mk (WideElems.Trod_stays lawLeastAudits.laidOut (by kernel_rfl) (of_decide_eq_true (by kernel_rfl)) k3 (fun x hx => hg.same (hlt x (by simp [hx]))) (fun x hx => hsp x (by simp [hx]))) trodAll_mk0))))) (fun _ _ => rfl) rfl
    hg (ok_one (by kernel_rfl) rfl (okWide_bool_mk Try.underlying4 _))⟩

theorem lawLeastAudits.over : Rows.fnExactLeastAuditsRow.holds Try.pinned (OpenSpec.ofChange Rows.fnExactLeastAuditsSpec) :=
  OpenClaim.holds_of_wide 6 Try.f6 rfl rfl rfl rfl rfl rfl rfl ⟨rfl, rfl, rfl, rfl, rfl⟩ rfl rfl rfl rfl rfl (by kernel_rfl) Try.func6 (by kernel_rfl)
    (of_decide_eq_true (by kernel_rfl)) (by unfold Func.isWrapper; first | (rw [if_pos (by decide +kernel)]; kernel_rfl) | (rw [if_neg (by decide +kernel)]; exact ⟨rfl, rfl⟩))
    (fun os started H enc _ => lawLeastAudits.lifted os started H enc)

theorem lawLeastAudits.proved : Rows.FnExactLeastAuditsSaid := lawLeastAudits.over
#print axioms lawLeastAudits.proved
end Go.Proofs.Ytjifppkclkcpcaa
