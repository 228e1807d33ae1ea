/- The law FnExactPermutationOfMatrix returns true for every input. It holds without a condition. -/
import Derived.Test.YteohpelbkmdlmaaRows
import Derived.Test.YteohpelbkmdlmaaPmat
import Derived.Test.YteohpelbkmdlmaaEq
import Derived.Test.YteohpelbkmdlmaaToSS
import Derived.Test.YteohpelbkmdlmaaOpenC
import Derived.Test.YteohpelbkmdlmaaFacts
namespace Go.Proofs.Yteohpelbkmdlmaa
open Go.ChangeShapes Go.WideShapes Go.ChangeAt Go.RowKit
set_option linter.unusedVariables false

namespace lawPermutationOfMatrix
set_option maxHeartbeats 1000000 in
theorem walk (A0 : Option Addr) (l0 : List (List Int)) (c0 : Nat) (w : World) (r0 : RdSS w A0 l0) (b0 : l0.length ≤ c0) (m0 : c0 ≤ maxLen) (z0 : A0 = none → c0 = 0) (f0 : ∀ n ∈ l0, ∀ k ∈ n, Fits k) :
    Calls Try.prog 15 #[.slice A0 l0.length c0] w fun e w' => e = .returned (.bool true) ∧ Ext w w' := by
  have M0 : l0.length ≤ 9223372036854775807 := by unfold maxLen at m0; omega
  clear z0
  generalize hn0 : l0.length = n0 at *
  have Hn0 := Lib.hid hn0
  clear hn0
  go_enter Try.func15, Try.ntmps15
  go_wp2_with fail
  have E := (Ext.refl w)
  rcases Nat.lt_or_ge (1048576) (n0 + tot l0) with S0 | S0
  · refine (szIntSS_no (r0.ext E) Hn0 (by omega) (by omega)).mono ?_
    rintro e w' ⟨rfl, rfl⟩
    go_wp2
    go_ret
    exact ⟨rfl, E⟩
  refine (szIntSS_yes (r0.ext E) Hn0 (by omega) (by omega)).mono ?_
  rintro e w' ⟨rfl, rfl⟩
  go_wp2_with fail
  have Zt1 := E.size
  go_wp2_with fail
  refine (toIntSS_any _ _ _ _ _ (r0.ext E) Hn0 (by omega)).mono ?_
  rintro e w1 ⟨At1, ct1, Pt1, rfl, t1, hb⟩
  replace E := E.trans hb
  clear hb
  have Lt1_w0 := t1.low
  have Zw0 := E.size
  go_wp2_with fail
  refine (sPermutationOfMatrix_any At1 n0 ct1 l0 _ t1.rd t1.len S0 t1.cap).mono ?_
  rintro e w2 ⟨Aw0, nw0, cw0, rfl, w0, hb⟩
  replace E := E.trans hb
  replace t1 := t1.ext hb
  clear hb
  have Nw0 : nw0 ≤ 100000 := Nat.le_trans (Nat.le_of_eq w0.len.symm) (pmR_bd _)
  have Lw0_x0 := w0.low
  have Zx0 := E.size
  go_wp2_with fail
  refine (toIntSS_any _ _ _ _ _ (r0.ext E) Hn0 (by omega)).mono ?_
  rintro e w3 ⟨Ax0, cx0, Px0, rfl, x0, hb⟩
  replace E := E.trans hb
  replace w0 := w0.ext hb
  clear hb
  have Lw0_g0 := w0.low
  have Lx0_g0 := x0.low
  have Zg0 := E.size
  go_wp2_with fail
  refine (iPermutationOfMatrix_any Ax0 n0 cx0 l0 _ x0.rd x0.len S0 x0.cap).mono ?_
  rintro e w4 ⟨Ag0, ng0, cg0, rfl, g0, hb⟩
  replace E := E.trans hb
  replace w0 := w0.ext hb
  replace x0 := x0.ext hb
  clear hb
  have Ng0 : ng0 ≤ 100000 := Nat.le_trans (Nat.le_of_eq g0.len.symm) (pmR_bd _)
  go_wp2_with fail
  refine (eqIntS_same g0.rd w0.rd g0.len w0.len g0.le w0.le).mono ?_
  rintro e w5 ⟨rfl, hb⟩
  replace E := E.trans hb
  replace w0 := w0.ext hb
  replace x0 := x0.ext hb
  replace g0 := g0.ext hb
  clear hb
  have Lw0_t2 := w0.low
  have Lx0_t2 := x0.low
  have Lg0_t2 := g0.low
  have Zt2 := E.size
  go_wp2_with fail
  refine (toIntSS_any _ _ _ _ _ (r0.ext E) Hn0 (by omega)).mono ?_
  rintro e w6 ⟨At2, ct2, Pt2, rfl, t2, hb⟩
  replace E := E.trans hb
  replace w0 := w0.ext hb
  replace x0 := x0.ext hb
  replace g0 := g0.ext hb
  clear hb
  go_wp2_with fail
  refine (eqIntSS_same x0.rd t2.rd x0.len t2.len x0.le t2.le).mono ?_
  rintro e w7 ⟨rfl, hb⟩
  replace E := E.trans hb
  replace w0 := w0.ext hb
  replace x0 := x0.ext hb
  replace g0 := g0.ext hb
  replace t2 := t2.ext hb
  clear hb
  go_wp2_with fail
  refine (markIntSS_any x0 (by omega) (by omega)).mono ?_
  rintro e w8 ⟨rfl, hm, hO⟩
  replace E := E.only hO (x0.high.mono Zx0)
  replace w0 := w0.only hO (Apart.of_low Lw0_x0 x0.high)
  replace g0 := g0.only hO (Apart.of_high Lx0_g0 g0.high)
  clear hO x0
  have x0 := hm
  clear hm
  go_wp2_with fail
  refine (eqIntS_same g0.rd w0.rd g0.len w0.len g0.le w0.le).mono ?_
  rintro e w9 ⟨rfl, hb⟩
  replace E := E.trans hb
  replace w0 := w0.ext hb
  replace x0 := x0.ext hb
  replace g0 := g0.ext hb
  clear hb
  go_wp2_with fail
  refine (markIntS_any g0 (by omega) (by omega)).mono ?_
  rintro e w10 ⟨rfl, hm, hO⟩
  replace E := E.only hO (g0.high.mono Zg0)
  replace w0 := w0.only hO (Apart.of_low Lw0_g0 g0.high)
  replace x0 := x0.only hO (Apart.of_low Lx0_g0 g0.high)
  clear hO g0
  have g0 := hm
  clear hm
  go_wp2_with fail
  refine (heldIntS_any g0.rd (by omega) (by omega)).mono ?_
  rintro e w11 ⟨rfl, hb⟩
  replace E := E.trans hb
  replace w0 := w0.ext hb
  replace x0 := x0.ext hb
  replace g0 := g0.ext hb
  clear hb
  have Lw0_t3 := w0.low
  have Lx0_t3 := x0.low
  have Lg0_t3 := g0.low
  have Zt3 := E.size
  go_wp2_with fail
  refine (toIntSS_any _ _ _ _ _ (r0.ext E) Hn0 (by omega)).mono ?_
  rintro e w12 ⟨At3, ct3, Pt3, rfl, t3, hb⟩
  replace E := E.trans hb
  replace w0 := w0.ext hb
  replace x0 := x0.ext hb
  replace g0 := g0.ext hb
  clear hb
  have Lw0_h0 := w0.low
  have Lx0_h0 := x0.low
  have Lg0_h0 := g0.low
  have Lt3_h0 := t3.low
  have Zh0 := E.size
  go_wp2_with fail
  refine (iPermutationOfMatrix_any At3 n0 ct3 l0 _ t3.rd t3.len S0 t3.cap).mono ?_
  rintro e w13 ⟨Ah0, nh0, ch0, rfl, h0, hb⟩
  replace E := E.trans hb
  replace w0 := w0.ext hb
  replace x0 := x0.ext hb
  replace g0 := g0.ext hb
  replace t3 := t3.ext hb
  clear hb
  have Nh0 : nh0 ≤ 100000 := Nat.le_trans (Nat.le_of_eq h0.len.symm) (pmR_bd _)
  go_wp2_with fail
  refine (eqIntS_same h0.rd w0.rd h0.len w0.len h0.le w0.le).mono ?_
  rintro e w14 ⟨rfl, hb⟩
  replace E := E.trans hb
  replace w0 := w0.ext hb
  replace x0 := x0.ext hb
  replace g0 := g0.ext hb
  replace h0 := h0.ext hb
  clear hb
  go_wp2_with fail
  refine (heldIntS_any g0.rd (by omega) (by omega)).mono ?_
  rintro e w15 ⟨rfl, hb⟩
  replace E := E.trans hb
  replace w0 := w0.ext hb
  replace x0 := x0.ext hb
  replace g0 := g0.ext hb
  replace h0 := h0.ext hb
  clear hb
  go_wp2
  go_ret
  exact ⟨rfl, E⟩
end lawPermutationOfMatrix

set_option maxRecDepth 100000 in
theorem lawPermutationOfMatrix.lifted (os : Os) (started : os.Started) (H : Type) (enc : TypeId × Value → H) :
    ReturnsInHanded {} Try.checked os 15 .any (Rows.fnExactPermutationOfMatrixSpec.pre6 enc Try.prog Try.f15 Rows.fnExactPermutationOfMatrixRow.domain false) (Rows.fnExactPermutationOfMatrixSpec.post enc Try.prog Try.f15 false true false false) := by
  refine returnsInHanded_of_change (C := Try.checked) Facts.own started (by kernel_rfl) Try.func15
    (ChangeSpec.witness6 (enc := enc) (C := Try.checked) false ⟨#[], #[.slice none 0 0], []⟩ 8 (by kernel_rfl) (by kernel_rfl) (by kernel_rfl) (by kernel_rfl)) ?_
  intro W base args ds gs before hval0 hW _ _
  have hval : ∀ (j : Nat) t v, Try.f15.params[j]? = some t → args[j]? = some v → Value.okWide Try.prog W .any base t v := hval0
  have hW' := hW
  obtain ⟨p, q, hA0, hV, rfl, hfz, hnd⟩ := hW
  have hA : DataW.TrodAll enc Try.prog W 0 (fun _ => true) true Try.f15.params.toList args.toList ds p := hA0
  rw [Try.params15] at hA hval
  obtain ⟨v0, vs0, d0, ds0, p0, q0, hargs, rfl, rfl, h0, r0⟩ := trodAll_cons hA
  obtain ⟨rfl, rfl, rfl⟩ := trodAll_nil r0
  obtain rfl : args = #[v0] := by cases args; simp_all
  obtain ⟨rfl, rfl⟩ := trodVars_none hV
  have hlt := hW'.lt
  clear hA hA0 hval0 hargs r0
  have k0 := h0
  obtain ⟨A0, l0, c0, rfl, r0, b0, m0, z0, f0⟩ := openISS Try.underlying40 Try.underlying22 Try.underlying3 (by kernel_rfl) (by kernel_rfl) (hval 0 40 v0 rfl rfl) h0
  refine (lawPermutationOfMatrix.walk A0 l0 c0 W r0 b0 m0 z0 f0).mono fun e W' ⟨he, hg⟩ => ?_
  subst he
  exact ⟨_, rfl, post_below (pv := []) hW' (fun _ _ _ => (trodAll_cons_mk (shut_bool Try.underlying4 _) trodAll_mk0)) (fun sp hsp => (trodAll_cons_mk (WideElems.Trod_stays Facts.laidOut (by kernel_rfl) (of_decide_eq_true (by kernel_rfl)) k0 (fun x hx => hg.same (hlt x (by simp [hx]))) (fun x hx => hsp x (by simp [hx]))) trodAll_mk0)) (fun _ _ => rfl) rfl
    hg (ok_one (by kernel_rfl) rfl (okWide_bool_mk Try.underlying4 _))⟩

theorem lawPermutationOfMatrix.named : Try.pinned.checked.prog.funcNamed Rows.fnExactPermutationOfMatrixRow.func = some 15 := by kernel_rfl
theorem lawPermutationOfMatrix.z9 : (Rows.fnExactPermutationOfMatrixRow.inPlace == Try.prog.inPlace 15) = true := by kernel_rfl
theorem lawPermutationOfMatrix.z10 : (Rows.fnExactPermutationOfMatrixRow.unfollowed == Try.prog.unfollowed 15) = true := by kernel_rfl
theorem lawPermutationOfMatrix.z11 : (Rows.fnExactPermutationOfMatrixRow.recurses == Try.prog.recurses 15) = true := by kernel_rfl
theorem lawPermutationOfMatrix.z12 : (Rows.fnExactPermutationOfMatrixRow.named == Try.prog.varsNamed 15) = true := by kernel_rfl
theorem lawPermutationOfMatrix.closed : joinedFacts Try.prog 15 Try.f15 Rows.fnExactPermutationOfMatrixSpec Rows.fnExactPermutationOfMatrixRow = true :=
  joined_of (by kernel_rfl) Facts.laidOut Facts.mapsRowed (by kernel_rfl) (by kernel_rfl) (by kernel_rfl) (by kernel_rfl) (by kernel_rfl) (by kernel_rfl) lawPermutationOfMatrix.z9 lawPermutationOfMatrix.z10 lawPermutationOfMatrix.z11 lawPermutationOfMatrix.z12 (by kernel_rfl) (by kernel_rfl) (by kernel_rfl) (by kernel_rfl) (by kernel_rfl) (by kernel_rfl) (by kernel_rfl) (by kernel_rfl) (by kernel_rfl) (by rw [Facts.plainKeys]; rfl) (by kernel_rfl) Facts.heard Facts.enter (by rw [Facts.lifts]; rfl) (by rw [Facts.make]; rfl) (by kernel_rfl) (by kernel_rfl) (by kernel_rfl) (by kernel_rfl)
theorem lawPermutationOfMatrix.inst : Try.f15.isInstance Try.pinned.checked.prog Rows.fnExactPermutationOfMatrixRow.origin Rows.fnExactPermutationOfMatrixRow.targs := of_decide_eq_true (by kernel_rfl)
theorem lawPermutationOfMatrix.wrap : Try.f15.isWrapper Try.pinned.checked.prog Rows.fnExactPermutationOfMatrixRow.wrapper Rows.fnExactPermutationOfMatrixRow.mainSum := by
  unfold Func.isWrapper; first | (rw [if_pos (by decide +kernel)]; kernel_rfl) | (rw [if_neg (by decide +kernel)]; exact ⟨rfl, rfl⟩)
theorem lawPermutationOfMatrix.over : Rows.fnExactPermutationOfMatrixRow.holds Try.pinned (OpenSpec.ofChange Rows.fnExactPermutationOfMatrixSpec) :=
  OpenClaim.holds_of_wide 15 Try.f15 rfl rfl rfl rfl rfl rfl rfl ⟨rfl, rfl, rfl, rfl, rfl⟩ rfl rfl rfl rfl rfl lawPermutationOfMatrix.named Try.func15 lawPermutationOfMatrix.closed
    lawPermutationOfMatrix.inst lawPermutationOfMatrix.wrap (fun os started H enc _ => lawPermutationOfMatrix.lifted os started H enc)

theorem lawPermutationOfMatrix.proved : Rows.FnExactPermutationOfMatrixSaid := lawPermutationOfMatrix.over
#print axioms lawPermutationOfMatrix.proved
end Go.Proofs.Yteohpelbkmdlmaa
