/- The law FnExactSampleAudits returns true for every input. It holds without a condition. -/
import Derived.Test.YtpdlcbgenimmcaaRows
import Derived.Test.YtpdlcbgenimmcaaAud
import Derived.Test.YtpdlcbgenimmcaaEq
import Derived.Test.YtpdlcbgenimmcaaFacts
namespace Go.Proofs.Ytpdlcbgenimmcaa
open Go.ChangeShapes Go.WideShapes Go.ChangeAt Go.RowKit
set_option linter.unusedVariables false

namespace lawSampleAudits
set_option maxHeartbeats 1000000 in
theorem walk (a0 : Int) (a1 : Int) (a2 : Int) (w : World) (f0 : Fits a0) (f1 : Fits a1) (f2 : Fits a2) :
    Calls Try.prog 4 #[.int .i64 a0, .int .i64 a1, .int .i64 a2] w fun e w' => e = .returned (.bool true) ∧ Ext w w' := by
  go_enter Try.func4, Try.ntmps4
  go_wp2_with fail
  have E := (Ext.refl w)
  have Zw0 := E.size
  go_wp2_with fail
  refine (sSampleAudits_any a0 a1 a2 _).mono ?_
  rintro e w1 ⟨Aw0, nw0, cw0, rfl, w0, hb⟩
  replace E := E.trans hb
  clear hb
  have Nw0 : nw0 ≤ 100000 := Nat.le_trans (Nat.le_of_eq w0.len.symm) (auR_bd _ _ _)
  have Lw0_g0 := w0.low
  have Zg0 := E.size
  go_wp2_with fail
  refine (iSampleAudits_any a0 a1 a2 _).mono ?_
  rintro e w2 ⟨Ag0, ng0, cg0, rfl, g0, hb⟩
  replace E := E.trans hb
  replace w0 := w0.ext hb
  clear hb
  have Ng0 : ng0 ≤ 100000 := Nat.le_trans (Nat.le_of_eq g0.len.symm) (auR_bd _ _ _)
  go_wp2_with fail
  refine (eqIntS_same g0.rd w0.rd g0.len w0.len g0.le w0.le).mono ?_
  rintro e w3 ⟨rfl, hb⟩
  replace E := E.trans hb
  replace w0 := w0.ext hb
  replace g0 := g0.ext hb
  clear hb
  go_wp2_with fail
  refine (markIntS_any g0 (by omega) (by omega)).mono ?_
  rintro e w4 ⟨rfl, hm, hO⟩
  replace E := E.only hO (g0.high.mono Zg0)
  replace w0 := w0.only hO (Apart.of_low Lw0_g0 g0.high)
  clear hO g0
  have g0 := hm
  clear hm
  go_wp2_with fail
  refine (heldIntS_any g0.rd (by omega) (by omega)).mono ?_
  rintro e w5 ⟨rfl, hb⟩
  replace E := E.trans hb
  replace w0 := w0.ext hb
  replace g0 := g0.ext hb
  clear hb
  have Lw0_h0 := w0.low
  have Lg0_h0 := g0.low
  have Zh0 := E.size
  go_wp2_with fail
  refine (iSampleAudits_any a0 a1 a2 _).mono ?_
  rintro e w6 ⟨Ah0, nh0, ch0, rfl, h0, hb⟩
  replace E := E.trans hb
  replace w0 := w0.ext hb
  replace g0 := g0.ext hb
  clear hb
  have Nh0 : nh0 ≤ 100000 := Nat.le_trans (Nat.le_of_eq h0.len.symm) (auR_bd _ _ _)
  go_wp2_with fail
  refine (eqIntS_same h0.rd w0.rd h0.len w0.len h0.le w0.le).mono ?_
  rintro e w7 ⟨rfl, hb⟩
  replace E := E.trans hb
  replace w0 := w0.ext hb
  replace g0 := g0.ext hb
  replace h0 := h0.ext hb
  clear hb
  go_wp2_with fail
  refine (heldIntS_any g0.rd (by omega) (by omega)).mono ?_
  rintro e w8 ⟨rfl, hb⟩
  replace E := E.trans hb
  replace w0 := w0.ext hb
  replace g0 := g0.ext hb
  replace h0 := h0.ext hb
  clear hb
  go_wp2
  go_ret
  exact ⟨rfl, E⟩
end lawSampleAudits

set_option maxRecDepth 100000 in
theorem lawSampleAudits.lifted (os : Os) (started : os.Started) (H : Type) (enc : TypeId × Value → H) :
    ReturnsInHanded {} Try.checked os 4 .any (Rows.fnExactSampleAuditsSpec.pre6 enc Try.prog Try.f4 Rows.fnExactSampleAuditsRow.domain false) (Rows.fnExactSampleAuditsSpec.post enc Try.prog Try.f4 false true false false) := by
  refine returnsInHanded_of_change (C := Try.checked) Facts.own started (by kernel_rfl) Try.func4
    (ChangeSpec.witness6 (enc := enc) (C := Try.checked) false ⟨#[], #[.int .i64 0, .int .i64 0, .int .i64 0], []⟩ 8 (by kernel_rfl) (by kernel_rfl) (by kernel_rfl) (by kernel_rfl)) ?_
  intro W base args ds gs before hval0 hW _ _
  have hval : ∀ (j : Nat) t v, Try.f4.params[j]? = some t → args[j]? = some v → Value.okWide Try.prog W .any base t v := hval0
  have hW' := hW
  obtain ⟨p, q, hA0, hV, rfl, hfz, hnd⟩ := hW
  have hA : DataW.TrodAll enc Try.prog W 0 (fun _ => true) true Try.f4.params.toList args.toList ds p := hA0
  rw [Try.params4] at hA hval
  obtain ⟨v0, vs0, d0, ds0, p0, q0, hargs, rfl, rfl, h0, r0⟩ := trodAll_cons hA
  obtain ⟨v1, vs1, d1, ds1, p1, q1, rfl, rfl, rfl, h1, r1⟩ := trodAll_cons r0
  obtain ⟨v2, vs2, d2, ds2, p2, q2, rfl, rfl, rfl, h2, r2⟩ := trodAll_cons r1
  obtain ⟨rfl, rfl, rfl⟩ := trodAll_nil r2
  obtain rfl : args = #[v0, v1, v2] := by cases args; simp_all
  obtain ⟨rfl, rfl⟩ := trodVars_none hV
  have hlt := hW'.lt
  clear hA hA0 hval0 hargs r0 r1 r2
  have k0 := h0
  have k1 := h1
  have k2 := h2
  obtain ⟨a0, rfl, f0⟩ := openI Try.underlying3 (hval 0 3 v0 rfl rfl) h0
  obtain ⟨a1, rfl, f1⟩ := openI Try.underlying3 (hval 1 3 v1 rfl rfl) h1
  obtain ⟨a2, rfl, f2⟩ := openI Try.underlying3 (hval 2 3 v2 rfl rfl) h2
  refine (lawSampleAudits.walk a0 a1 a2 W f0 f1 f2).mono fun e W' ⟨he, hg⟩ => ?_
  subst he
  exact ⟨_, rfl, post_below (pv := []) hW' (fun _ _ _ => (trodAll_cons_mk (shut_bool Try.underlying4 _) trodAll_mk0)) (fun sp hsp => (trodAll_cons_mk (WideElems.Trod_stays Facts.laidOut (by kernel_rfl) (of_decide_eq_true (by kernel_rfl)) k0 (fun x hx => hg.same (hlt x (by simp [hx]))) (fun x hx => hsp x (by simp [hx]))) (trodAll_cons_mk (WideElems.Trod_stays Facts.laidOut (by kernel_rfl) (of_decide_eq_true (by kernel_rfl)) k1 (fun x hx => hg.same (hlt x (by simp [hx]))) (fun x hx => hsp x (by simp [hx]))) (trodAll_cons_mk (WideElems.Trod_stays Facts.laidOut (by kernel_rfl) (of_decide_eq_true (by kernel_rfl)) k2 (fun x hx => hg.same (hlt x (by simp [hx]))) (fun x hx => hsp x (by simp [hx]))) trodAll_mk0)))) (fun _ _ => rfl) rfl
    hg (ok_one (by kernel_rfl) rfl (okWide_bool_mk Try.underlying4 _))⟩

theorem lawSampleAudits.named : Try.pinned.checked.prog.funcNamed Rows.fnExactSampleAuditsRow.func = some 4 := by kernel_rfl
theorem lawSampleAudits.z9 : (Rows.fnExactSampleAuditsRow.inPlace == Try.prog.inPlace 4) = true := by kernel_rfl
theorem lawSampleAudits.z10 : (Rows.fnExactSampleAuditsRow.unfollowed == Try.prog.unfollowed 4) = true := by kernel_rfl
theorem lawSampleAudits.z11 : (Rows.fnExactSampleAuditsRow.recurses == Try.prog.recurses 4) = true := by kernel_rfl
theorem lawSampleAudits.z12 : (Rows.fnExactSampleAuditsRow.named == Try.prog.varsNamed 4) = true := by kernel_rfl
theorem lawSampleAudits.closed : joinedFacts Try.prog 4 Try.f4 Rows.fnExactSampleAuditsSpec Rows.fnExactSampleAuditsRow = true :=
  joined_of (by kernel_rfl) Facts.laidOut Facts.mapsRowed (by kernel_rfl) (by kernel_rfl) (by kernel_rfl) (by kernel_rfl) (by kernel_rfl) (by kernel_rfl) lawSampleAudits.z9 lawSampleAudits.z10 lawSampleAudits.z11 lawSampleAudits.z12 (by kernel_rfl) (by kernel_rfl) (by kernel_rfl) (by kernel_rfl) (by kernel_rfl) (by kernel_rfl) (by kernel_rfl) (by kernel_rfl) (by kernel_rfl) (by rw [Facts.plainKeys]; rfl) (by kernel_rfl) Facts.heard Facts.enter (by rw [Facts.lifts]; rfl) (by rw [Facts.make]; rfl) (by kernel_rfl) (by kernel_rfl) (by kernel_rfl) (by kernel_rfl)
theorem lawSampleAudits.inst : Try.f4.isInstance Try.pinned.checked.prog Rows.fnExactSampleAuditsRow.origin Rows.fnExactSampleAuditsRow.targs := of_decide_eq_true (by kernel_rfl)
theorem lawSampleAudits.wrap : Try.f4.isWrapper Try.pinned.checked.prog Rows.fnExactSampleAuditsRow.wrapper Rows.fnExactSampleAuditsRow.mainSum := by
  unfold Func.isWrapper; first | (rw [if_pos (by decide +kernel)]; kernel_rfl) | (rw [if_neg (by decide +kernel)]; exact ⟨rfl, rfl⟩)
theorem lawSampleAudits.over : Rows.fnExactSampleAuditsRow.holds Try.pinned (OpenSpec.ofChange Rows.fnExactSampleAuditsSpec) :=
  OpenClaim.holds_of_wide 4 Try.f4 rfl rfl rfl rfl rfl rfl rfl ⟨rfl, rfl, rfl, rfl, rfl⟩ rfl rfl rfl rfl rfl lawSampleAudits.named Try.func4 lawSampleAudits.closed
    lawSampleAudits.inst lawSampleAudits.wrap (fun os started H enc _ => lawSampleAudits.lifted os started H enc)

theorem lawSampleAudits.proved : Rows.FnExactSampleAuditsSaid := lawSampleAudits.over
#print axioms lawSampleAudits.proved
end Go.Proofs.Ytpdlcbgenimmcaa
