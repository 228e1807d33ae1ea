/- The law FnExactPermutationOf returns true for every input. It holds without a condition. -/
import Derived.Test.YticimniegecfeaaRows
import Derived.Test.YticimniegecfeaaUnr
import Derived.Test.YticimniegecfeaaEq
import Derived.Test.YticimniegecfeaaFacts
namespace Go.Proofs.Yticimniegecfeaa
open Go.ChangeShapes Go.WideShapes Go.ChangeAt Go.RowKit
set_option linter.unusedVariables false

namespace lawPermutationOf
set_option maxHeartbeats 1000000 in
theorem walk (a0 : Int) (a1 : Int) (w : World) (f0 : Fits a0) (f1 : Fits a1) :
    Calls Try.prog 3 #[.int .i64 a0, .int .i64 a1] w fun e w' => e = .returned (.bool true) ∧ Ext w w' := by
  go_enter Try.func3, Try.ntmps3
  go_wp2_with fail
  have E := (Ext.refl w)
  have Zw0 := E.size
  go_wp2_with fail
  refine (sPermutationOf_any a0 a1 _ f0 f1).mono ?_
  rintro e w1 ⟨Aw0, nw0, cw0, rfl, w0, hb⟩
  replace E := E.trans hb
  clear hb
  have Nw0 : nw0 ≤ 100000 := Nat.le_trans (Nat.le_of_eq w0.len.symm) (unrR_bd _ _)
  have Lw0_g0 := w0.low
  have Zg0 := E.size
  go_wp2_with fail
  refine (iPermutationOf_any a0 a1 _ f0 f1).mono ?_
  rintro e w2 ⟨Ag0, ng0, cg0, rfl, g0, hb⟩
  replace E := E.trans hb
  replace w0 := w0.ext hb
  clear hb
  have Ng0 : ng0 ≤ 100000 := Nat.le_trans (Nat.le_of_eq g0.len.symm) (unrR_bd _ _)
  go_wp2_with fail
  refine (eqIntS_same g0.rd w0.rd g0.len w0.len g0.le w0.le).mono ?_
  rintro e w3 ⟨rfl, hb⟩
  replace E := E.trans hb
  replace w0 := w0.ext hb
  replace g0 := g0.ext hb
  clear hb
  go_wp2_with fail
  refine (markIntS_any g0 (by omega) (by omega)).mono ?_
  rintro e w4 ⟨rfl, hm, hO⟩
  replace E := E.only hO (g0.high.mono Zg0)
  replace w0 := w0.only hO (Apart.of_low Lw0_g0 g0.high)
  clear hO g0
  have g0 := hm
  clear hm
  go_wp2_with fail
  refine (heldIntS_any g0.rd (by omega) (by omega)).mono ?_
  rintro e w5 ⟨rfl, hb⟩
  replace E := E.trans hb
  replace w0 := w0.ext hb
  replace g0 := g0.ext hb
  clear hb
  have Lw0_h0 := w0.low
  have Lg0_h0 := g0.low
  have Zh0 := E.size
  go_wp2_with fail
  refine (iPermutationOf_any a0 a1 _ f0 f1).mono ?_
  rintro e w6 ⟨Ah0, nh0, ch0, rfl, h0, hb⟩
  replace E := E.trans hb
  replace w0 := w0.ext hb
  replace g0 := g0.ext hb
  clear hb
  have Nh0 : nh0 ≤ 100000 := Nat.le_trans (Nat.le_of_eq h0.len.symm) (unrR_bd _ _)
  go_wp2_with fail
  refine (eqIntS_same h0.rd w0.rd h0.len w0.len h0.le w0.le).mono ?_
  rintro e w7 ⟨rfl, hb⟩
  replace E := E.trans hb
  replace w0 := w0.ext hb
  replace g0 := g0.ext hb
  replace h0 := h0.ext hb
  clear hb
  go_wp2_with fail
  refine (heldIntS_any g0.rd (by omega) (by omega)).mono ?_
  rintro e w8 ⟨rfl, hb⟩
  replace E := E.trans hb
  replace w0 := w0.ext hb
  replace g0 := g0.ext hb
  replace h0 := h0.ext hb
  clear hb
  go_wp2
  go_ret
  exact ⟨rfl, E⟩
end lawPermutationOf

set_option maxRecDepth 100000 in
theorem lawPermutationOf.lifted (os : Os) (started : os.Started) (H : Type) (enc : TypeId × Value → H) :
    ReturnsInHanded {} Try.checked os 3 .any (Rows.fnExactPermutationOfSpec.pre6 enc Try.prog Try.f3 Rows.fnExactPermutationOfRow.domain false) (Rows.fnExactPermutationOfSpec.post enc Try.prog Try.f3 false true false false) := by
  refine returnsInHanded_of_change (C := Try.checked) Facts.own started (by kernel_rfl) Try.func3
    (ChangeSpec.witness6 (enc := enc) (C := Try.checked) false ⟨#[], #[.int .i64 0, .int .i64 0], []⟩ 8 (by kernel_rfl) (by kernel_rfl) (by kernel_rfl) (by kernel_rfl)) ?_
  intro W base args ds gs before hval0 hW _ _
  have hval : ∀ (j : Nat) t v, Try.f3.params[j]? = some t → args[j]? = some v → Value.okWide Try.prog W .any base t v := hval0
  have hW' := hW
  obtain ⟨p, q, hA0, hV, rfl, hfz, hnd⟩ := hW
  have hA : DataW.TrodAll enc Try.prog W 0 (fun _ => true) true Try.f3.params.toList args.toList ds p := hA0
  rw [Try.params3] at hA hval
  obtain ⟨v0, vs0, d0, ds0, p0, q0, hargs, rfl, rfl, h0, r0⟩ := trodAll_cons hA
  obtain ⟨v1, vs1, d1, ds1, p1, q1, rfl, rfl, rfl, h1, r1⟩ := trodAll_cons r0
  obtain ⟨rfl, rfl, rfl⟩ := trodAll_nil r1
  obtain rfl : args = #[v0, v1] := by cases args; simp_all
  obtain ⟨rfl, rfl⟩ := trodVars_none hV
  have hlt := hW'.lt
  clear hA hA0 hval0 hargs r0 r1
  have k0 := h0
  have k1 := h1
  obtain ⟨a0, rfl, f0⟩ := openI Try.underlying3 (hval 0 3 v0 rfl rfl) h0
  obtain ⟨a1, rfl, f1⟩ := openI Try.underlying3 (hval 1 3 v1 rfl rfl) h1
  refine (lawPermutationOf.walk a0 a1 W f0 f1).mono fun e W' ⟨he, hg⟩ => ?_
  subst he
  exact ⟨_, rfl, post_below (pv := []) hW' (fun _ _ _ => (trodAll_cons_mk (shut_bool Try.underlying4 _) trodAll_mk0)) (fun sp hsp => (trodAll_cons_mk (WideElems.Trod_stays Facts.laidOut (by kernel_rfl) (of_decide_eq_true (by kernel_rfl)) k0 (fun x hx => hg.same (hlt x (by simp [hx]))) (fun x hx => hsp x (by simp [hx]))) (trodAll_cons_mk (WideElems.Trod_stays Facts.laidOut (by kernel_rfl) (of_decide_eq_true (by kernel_rfl)) k1 (fun x hx => hg.same (hlt x (by simp [hx]))) (fun x hx => hsp x (by simp [hx]))) trodAll_mk0))) (fun _ _ => rfl) rfl
    hg (ok_one (by kernel_rfl) rfl (okWide_bool_mk Try.underlying4 _))⟩

theorem lawPermutationOf.named : Try.pinned.checked.prog.funcNamed Rows.fnExactPermutationOfRow.func = some 3 := by kernel_rfl
theorem lawPermutationOf.z9 : (Rows.fnExactPermutationOfRow.inPlace == Try.prog.inPlace 3) = true := by kernel_rfl
theorem lawPermutationOf.z10 : (Rows.fnExactPermutationOfRow.unfollowed == Try.prog.unfollowed 3) = true := by kernel_rfl
theorem lawPermutationOf.z11 : (Rows.fnExactPermutationOfRow.recurses == Try.prog.recurses 3) = true := by kernel_rfl
theorem lawPermutationOf.z12 : (Rows.fnExactPermutationOfRow.named == Try.prog.varsNamed 3) = true := by kernel_rfl
theorem lawPermutationOf.closed : joinedFacts Try.prog 3 Try.f3 Rows.fnExactPermutationOfSpec Rows.fnExactPermutationOfRow = true :=
  joined_of (by kernel_rfl) Facts.laidOut Facts.mapsRowed (by kernel_rfl) (by kernel_rfl) (by kernel_rfl) (by kernel_rfl) (by kernel_rfl) (by kernel_rfl) lawPermutationOf.z9 lawPermutationOf.z10 lawPermutationOf.z11 lawPermutationOf.z12 (by kernel_rfl) (by kernel_rfl) (by kernel_rfl) (by kernel_rfl) (by kernel_rfl) (by kernel_rfl) (by kernel_rfl) (by kernel_rfl) (by kernel_rfl) (by rw [Facts.plainKeys]; rfl) (by kernel_rfl) Facts.heard Facts.enter (by rw [Facts.lifts]; rfl) (by rw [Facts.make]; rfl) (by kernel_rfl) (by kernel_rfl) (by kernel_rfl) (by kernel_rfl)
theorem lawPermutationOf.inst : Try.f3.isInstance Try.pinned.checked.prog Rows.fnExactPermutationOfRow.origin Rows.fnExactPermutationOfRow.targs := of_decide_eq_true (by kernel_rfl)
theorem lawPermutationOf.wrap : Try.f3.isWrapper Try.pinned.checked.prog Rows.fnExactPermutationOfRow.wrapper Rows.fnExactPermutationOfRow.mainSum := by
  unfold Func.isWrapper; first | (rw [if_pos (by decide +kernel)]; kernel_rfl) | (rw [if_neg (by decide +kernel)]; exact ⟨rfl, rfl⟩)
theorem lawPermutationOf.over : Rows.fnExactPermutationOfRow.holds Try.pinned (OpenSpec.ofChange Rows.fnExactPermutationOfSpec) :=
  OpenClaim.holds_of_wide 3 Try.f3 rfl rfl rfl rfl rfl rfl rfl ⟨rfl, rfl, rfl, rfl, rfl⟩ rfl rfl rfl rfl rfl lawPermutationOf.named Try.func3 lawPermutationOf.closed
    lawPermutationOf.inst lawPermutationOf.wrap (fun os started H enc _ => lawPermutationOf.lifted os started H enc)

theorem lawPermutationOf.proved : Rows.FnExactPermutationOfSaid := lawPermutationOf.over
#print axioms lawPermutationOf.proved
end Go.Proofs.Yticimniegecfeaa
