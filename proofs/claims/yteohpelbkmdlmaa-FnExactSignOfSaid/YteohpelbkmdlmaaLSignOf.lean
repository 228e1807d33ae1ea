/- The law FnExactSignOf returns true for every input. It holds without a condition. -/
import Derived.Test.YteohpelbkmdlmaaRows
import Derived.Test.YteohpelbkmdlmaaCyc2
import Derived.Test.YteohpelbkmdlmaaEq
import Derived.Test.YteohpelbkmdlmaaFacts
namespace Go.Proofs.Yteohpelbkmdlmaa
open Go.ChangeShapes Go.WideShapes Go.ChangeAt Go.RowKit
set_option linter.unusedVariables false

namespace lawSignOf
set_option maxHeartbeats 1000000 in
theorem walk (A0 : Option Addr) (l0 : List Int) (c0 : Nat) (w : World) (r0 : RdI w A0 l0) (b0 : l0.length ≤ c0) (m0 : c0 ≤ maxLen) (z0 : A0 = none → c0 = 0) (f0 : ∀ n ∈ l0, Fits n) :
    Calls Try.prog 5 #[.slice A0 l0.length c0] w fun e w' => e = .returned (.bool true) ∧ Ext w w' := by
  have M0 : l0.length ≤ 9223372036854775807 := by unfold maxLen at m0; omega
  clear z0 f0
  generalize hn0 : l0.length = n0 at *
  have Hn0 := Lib.hid hn0
  clear hn0
  rcases Nat.lt_or_ge 1048576 n0 with S0 | S0
  · go_enter Try.func5, Try.ntmps5
    go_wp2
    go_ret
    exact ⟨rfl, (Ext.refl w)⟩
  go_enter Try.func5, Try.ntmps5
  go_wp2_with fail
  have E := (Ext.refl w)
  have Zt1 := E.size
  go_wp2_with fail
  refine (toIntS_any _ _ _ _ _ (r0.ext E) Hn0 (by omega)).mono ?_
  rintro e w1 ⟨At1, ct1, rfl, t1, hb⟩
  replace E := E.trans hb
  clear hb
  go_wp2_with fail
  refine (sSignOf_any At1 n0 ct1 l0 _ t1.rd t1.len S0 t1.cap).mono ?_
  rintro e w2 ⟨rfl, hb⟩
  replace E := E.trans hb
  replace t1 := t1.ext hb
  clear hb
  have Zx0 := E.size
  go_wp2_with fail
  refine (toIntS_any _ _ _ _ _ (r0.ext E) Hn0 (by omega)).mono ?_
  rintro e w3 ⟨Ax0, cx0, rfl, x0, hb⟩
  replace E := E.trans hb
  clear hb
  go_wp2_with fail
  refine (iSignOf_any Ax0 n0 cx0 l0 _ x0.rd x0.len S0 x0.cap).mono ?_
  rintro e w4 ⟨rfl, hb⟩
  replace E := E.trans hb
  replace x0 := x0.ext hb
  clear hb
  have Lx0_t2 := x0.low
  have Zt2 := E.size
  go_wp2_with fail
  refine (toIntS_any _ _ _ _ _ (r0.ext E) Hn0 (by omega)).mono ?_
  rintro e w5 ⟨At2, ct2, rfl, t2, hb⟩
  replace E := E.trans hb
  replace x0 := x0.ext hb
  clear hb
  go_wp2_with fail
  refine (eqIntS_same x0.rd t2.rd x0.len t2.len x0.le t2.le).mono ?_
  rintro e w6 ⟨rfl, hb⟩
  replace E := E.trans hb
  replace x0 := x0.ext hb
  replace t2 := t2.ext hb
  clear hb
  go_wp2
  go_ret
  exact ⟨rfl, E⟩
end lawSignOf

set_option maxRecDepth 100000 in
theorem lawSignOf.lifted (os : Os) (started : os.Started) (H : Type) (enc : TypeId × Value → H) :
    ReturnsInHanded {} Try.checked os 5 .any (Rows.fnExactSignOfSpec.pre6 enc Try.prog Try.f5 Rows.fnExactSignOfRow.domain false) (Rows.fnExactSignOfSpec.post enc Try.prog Try.f5 false true false false) := by
  refine returnsInHanded_of_change (C := Try.checked) Facts.own started (by kernel_rfl) Try.func5
    (ChangeSpec.witness6 (enc := enc) (C := Try.checked) false ⟨#[], #[.slice none 0 0], []⟩ 8 (by kernel_rfl) (by kernel_rfl) (by kernel_rfl) (by kernel_rfl)) ?_
  intro W base args ds gs before hval0 hW _ _
  have hval : ∀ (j : Nat) t v, Try.f5.params[j]? = some t → args[j]? = some v → Value.okWide Try.prog W .any base t v := hval0
  have hW' := hW
  obtain ⟨p, q, hA0, hV, rfl, hfz, hnd⟩ := hW
  have hA : DataW.TrodAll enc Try.prog W 0 (fun _ => true) true Try.f5.params.toList args.toList ds p := hA0
  rw [Try.params5] at hA hval
  obtain ⟨v0, vs0, d0, ds0, p0, q0, hargs, rfl, rfl, h0, r0⟩ := trodAll_cons hA
  obtain ⟨rfl, rfl, rfl⟩ := trodAll_nil r0
  obtain rfl : args = #[v0] := by cases args; simp_all
  obtain ⟨rfl, rfl⟩ := trodVars_none hV
  have hlt := hW'.lt
  clear hA hA0 hval0 hargs r0
  have k0 := h0
  obtain ⟨A0, l0, c0, rfl, r0, b0, m0, z0, f0⟩ := openIS Try.underlying22 Try.underlying3 (by kernel_rfl) (hval 0 22 v0 rfl rfl) h0
  refine (lawSignOf.walk A0 l0 c0 W r0 b0 m0 z0 f0).mono fun e W' ⟨he, hg⟩ => ?_
  subst he
  exact ⟨_, rfl, post_below (pv := []) hW' (fun _ _ _ => (trodAll_cons_mk (shut_bool Try.underlying4 _) trodAll_mk0)) (fun sp hsp => (trodAll_cons_mk (WideElems.Trod_stays Facts.laidOut (by kernel_rfl) (of_decide_eq_true (by kernel_rfl)) k0 (fun x hx => hg.same (hlt x (by simp [hx]))) (fun x hx => hsp x (by simp [hx]))) trodAll_mk0)) (fun _ _ => rfl) rfl
    hg (ok_one (by kernel_rfl) rfl (okWide_bool_mk Try.underlying4 _))⟩

theorem lawSignOf.named : Try.pinned.checked.prog.funcNamed Rows.fnExactSignOfRow.func = some 5 := by kernel_rfl
theorem lawSignOf.z9 : (Rows.fnExactSignOfRow.inPlace == Try.prog.inPlace 5) = true := by kernel_rfl
theorem lawSignOf.z10 : (Rows.fnExactSignOfRow.unfollowed == Try.prog.unfollowed 5) = true := by kernel_rfl
theorem lawSignOf.z11 : (Rows.fnExactSignOfRow.recurses == Try.prog.recurses 5) = true := by kernel_rfl
theorem lawSignOf.z12 : (Rows.fnExactSignOfRow.named == Try.prog.varsNamed 5) = true := by kernel_rfl
theorem lawSignOf.closed : joinedFacts Try.prog 5 Try.f5 Rows.fnExactSignOfSpec Rows.fnExactSignOfRow = true :=
  joined_of (by kernel_rfl) Facts.laidOut Facts.mapsRowed (by kernel_rfl) (by kernel_rfl) (by kernel_rfl) (by kernel_rfl) (by kernel_rfl) (by kernel_rfl) lawSignOf.z9 lawSignOf.z10 lawSignOf.z11 lawSignOf.z12 (by kernel_rfl) (by kernel_rfl) (by kernel_rfl) (by kernel_rfl) (by kernel_rfl) (by kernel_rfl) (by kernel_rfl) (by kernel_rfl) (by kernel_rfl) (by rw [Facts.plainKeys]; rfl) (by kernel_rfl) Facts.heard Facts.enter (by rw [Facts.lifts]; rfl) (by rw [Facts.make]; rfl) (by kernel_rfl) (by kernel_rfl) (by kernel_rfl) (by kernel_rfl)
theorem lawSignOf.inst : Try.f5.isInstance Try.pinned.checked.prog Rows.fnExactSignOfRow.origin Rows.fnExactSignOfRow.targs := of_decide_eq_true (by kernel_rfl)
theorem lawSignOf.wrap : Try.f5.isWrapper Try.pinned.checked.prog Rows.fnExactSignOfRow.wrapper Rows.fnExactSignOfRow.mainSum := by
  unfold Func.isWrapper; first | (rw [if_pos (by decide +kernel)]; kernel_rfl) | (rw [if_neg (by decide +kernel)]; exact ⟨rfl, rfl⟩)
theorem lawSignOf.over : Rows.fnExactSignOfRow.holds Try.pinned (OpenSpec.ofChange Rows.fnExactSignOfSpec) :=
  OpenClaim.holds_of_wide 5 Try.f5 rfl rfl rfl rfl rfl rfl rfl ⟨rfl, rfl, rfl, rfl, rfl⟩ rfl rfl rfl rfl rfl lawSignOf.named Try.func5 lawSignOf.closed
    lawSignOf.inst lawSignOf.wrap (fun os started H enc _ => lawSignOf.lifted os started H enc)

theorem lawSignOf.proved : Rows.FnExactSignOfSaid := lawSignOf.over
#print axioms lawSignOf.proved
end Go.Proofs.Yteohpelbkmdlmaa
