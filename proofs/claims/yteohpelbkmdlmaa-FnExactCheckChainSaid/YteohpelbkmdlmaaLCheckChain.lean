/- The law FnExactCheckChain returns true for every input. It holds without a condition. -/
import Derived.Test.YteohpelbkmdlmaaRows
import Derived.Test.YteohpelbkmdlmaaChain2
import Derived.Test.YteohpelbkmdlmaaEq
import Derived.Test.YteohpelbkmdlmaaFacts
namespace Go.Proofs.Yteohpelbkmdlmaa
open Go.ChangeShapes Go.WideShapes Go.ChangeAt Go.RowKit
set_option linter.unusedVariables false

namespace lawCheckChain
set_option maxHeartbeats 1000000 in
theorem walk (A0 : Option Addr) (l0 : List Int) (c0 : Nat) (A1 : Option Addr) (l1 : List Int) (c1 : Nat) (w : World) (r0 : RdI w A0 l0) (b0 : l0.length ≤ c0) (m0 : c0 ≤ maxLen) (z0 : A0 = none → c0 = 0) (f0 : ∀ n ∈ l0, Fits n) (r1 : RdI w A1 l1) (b1 : l1.length ≤ c1) (m1 : c1 ≤ maxLen) (z1 : A1 = none → c1 = 0) (f1 : ∀ n ∈ l1, Fits n) :
    Calls Try.prog 7 #[.slice A0 l0.length c0, .slice A1 l1.length c1] w fun e w' => e = .returned (.bool true) ∧ Ext w w' := by
  have M0 : l0.length ≤ 9223372036854775807 := by unfold maxLen at m0; omega
  clear z0 f0
  generalize hn0 : l0.length = n0 at *
  have Hn0 := Lib.hid hn0
  clear hn0
  have M1 : l1.length ≤ 9223372036854775807 := by unfold maxLen at m1; omega
  clear z1 f1
  generalize hn1 : l1.length = n1 at *
  have Hn1 := Lib.hid hn1
  clear hn1
  rcases Nat.lt_or_ge 1048576 n0 with S0 | S0
  · go_enter Try.func7, Try.ntmps7
    go_wp2
    go_ret
    exact ⟨rfl, (Ext.refl w)⟩
  rcases Nat.lt_or_ge 1048576 n1 with S1 | S1
  · go_enter Try.func7, Try.ntmps7
    go_wp2
    go_ret
    exact ⟨rfl, (Ext.refl w)⟩
  go_enter Try.func7, Try.ntmps7
  go_wp2_with fail
  have E := (Ext.refl w)
  have Zt1 := E.size
  go_wp2_with fail
  refine (toIntS_any _ _ _ _ _ (r0.ext E) Hn0 (by omega)).mono ?_
  rintro e w1 ⟨At1, ct1, rfl, t1, hb⟩
  replace E := E.trans hb
  clear hb
  have Lt1_t2 := t1.low
  have Zt2 := E.size
  go_wp2_with fail
  refine (toIntS_any _ _ _ _ _ (r1.ext E) Hn1 (by omega)).mono ?_
  rintro e w2 ⟨At2, ct2, rfl, t2, hb⟩
  replace E := E.trans hb
  replace t1 := t1.ext hb
  clear hb
  go_wp2_with fail
  refine (sCheckChain_any At1 n0 ct1 l0 At2 n1 ct2 l1 _ t1.rd t1.len S0 t1.cap t2.rd t2.len S1 t2.cap).mono ?_
  rintro e w3 ⟨rfl, hb⟩
  replace E := E.trans hb
  replace t1 := t1.ext hb
  replace t2 := t2.ext hb
  clear hb
  have Zx0 := E.size
  go_wp2_with fail
  refine (toIntS_any _ _ _ _ _ (r0.ext E) Hn0 (by omega)).mono ?_
  rintro e w4 ⟨Ax0, cx0, rfl, x0, hb⟩
  replace E := E.trans hb
  clear hb
  have Lx0_x1 := x0.low
  have Zx1 := E.size
  go_wp2_with fail
  refine (toIntS_any _ _ _ _ _ (r1.ext E) Hn1 (by omega)).mono ?_
  rintro e w5 ⟨Ax1, cx1, rfl, x1, hb⟩
  replace E := E.trans hb
  replace x0 := x0.ext hb
  clear hb
  go_wp2_with fail
  refine (iCheckChain_any Ax0 n0 cx0 l0 Ax1 n1 cx1 l1 _ x0.rd x0.len S0 x0.cap x1.rd x1.len S1 x1.cap).mono ?_
  rintro e w6 ⟨rfl, hb⟩
  replace E := E.trans hb
  replace x0 := x0.ext hb
  replace x1 := x1.ext hb
  clear hb
  have Lx0_t3 := x0.low
  have Lx1_t3 := x1.low
  have Zt3 := E.size
  go_wp2_with fail
  refine (toIntS_any _ _ _ _ _ (r0.ext E) Hn0 (by omega)).mono ?_
  rintro e w7 ⟨At3, ct3, rfl, t3, hb⟩
  replace E := E.trans hb
  replace x0 := x0.ext hb
  replace x1 := x1.ext hb
  clear hb
  go_wp2_with fail
  refine (eqIntS_same x0.rd t3.rd x0.len t3.len x0.le t3.le).mono ?_
  rintro e w8 ⟨rfl, hb⟩
  replace E := E.trans hb
  replace x0 := x0.ext hb
  replace x1 := x1.ext hb
  replace t3 := t3.ext hb
  clear hb
  have Lx0_t4 := x0.low
  have Lx1_t4 := x1.low
  have Zt4 := E.size
  go_wp2_with fail
  refine (toIntS_any _ _ _ _ _ (r1.ext E) Hn1 (by omega)).mono ?_
  rintro e w9 ⟨At4, ct4, rfl, t4, hb⟩
  replace E := E.trans hb
  replace x0 := x0.ext hb
  replace x1 := x1.ext hb
  clear hb
  go_wp2_with fail
  refine (eqIntS_same x1.rd t4.rd x1.len t4.len x1.le t4.le).mono ?_
  rintro e w10 ⟨rfl, hb⟩
  replace E := E.trans hb
  replace x0 := x0.ext hb
  replace x1 := x1.ext hb
  replace t4 := t4.ext hb
  clear hb
  go_wp2
  go_ret
  exact ⟨rfl, E⟩
end lawCheckChain

set_option maxRecDepth 100000 in
theorem lawCheckChain.lifted (os : Os) (started : os.Started) (H : Type) (enc : TypeId × Value → H) :
    ReturnsInHanded {} Try.checked os 7 .any (Rows.fnExactCheckChainSpec.pre6 enc Try.prog Try.f7 Rows.fnExactCheckChainRow.domain false) (Rows.fnExactCheckChainSpec.post enc Try.prog Try.f7 false true false false) := by
  refine returnsInHanded_of_change (C := Try.checked) Facts.own started (by kernel_rfl) Try.func7
    (ChangeSpec.witness6 (enc := enc) (C := Try.checked) false ⟨#[], #[.slice none 0 0, .slice none 0 0], []⟩ 8 (by kernel_rfl) (by kernel_rfl) (by kernel_rfl) (by kernel_rfl)) ?_
  intro W base args ds gs before hval0 hW _ _
  have hval : ∀ (j : Nat) t v, Try.f7.params[j]? = some t → args[j]? = some v → Value.okWide Try.prog W .any base t v := hval0
  have hW' := hW
  obtain ⟨p, q, hA0, hV, rfl, hfz, hnd⟩ := hW
  have hA : DataW.TrodAll enc Try.prog W 0 (fun _ => true) true Try.f7.params.toList args.toList ds p := hA0
  rw [Try.params7] at hA hval
  obtain ⟨v0, vs0, d0, ds0, p0, q0, hargs, rfl, rfl, h0, r0⟩ := trodAll_cons hA
  obtain ⟨v1, vs1, d1, ds1, p1, q1, rfl, rfl, rfl, h1, r1⟩ := trodAll_cons r0
  obtain ⟨rfl, rfl, rfl⟩ := trodAll_nil r1
  obtain rfl : args = #[v0, v1] := by cases args; simp_all
  obtain ⟨rfl, rfl⟩ := trodVars_none hV
  have hlt := hW'.lt
  clear hA hA0 hval0 hargs r0 r1
  have k0 := h0
  have k1 := h1
  obtain ⟨A0, l0, c0, rfl, r0, b0, m0, z0, f0⟩ := openIS Try.underlying22 Try.underlying3 (by kernel_rfl) (hval 0 22 v0 rfl rfl) h0
  obtain ⟨A1, l1, c1, rfl, r1, b1, m1, z1, f1⟩ := openIS Try.underlying22 Try.underlying3 (by kernel_rfl) (hval 1 22 v1 rfl rfl) h1
  refine (lawCheckChain.walk A0 l0 c0 A1 l1 c1 W r0 b0 m0 z0 f0 r1 b1 m1 z1 f1).mono fun e W' ⟨he, hg⟩ => ?_
  subst he
  exact ⟨_, rfl, post_below (pv := []) hW' (fun _ _ _ => (trodAll_cons_mk (shut_bool Try.underlying4 _) trodAll_mk0)) (fun sp hsp => (trodAll_cons_mk (WideElems.Trod_stays Facts.laidOut (by kernel_rfl) (of_decide_eq_true (by kernel_rfl)) k0 (fun x hx => hg.same (hlt x (by simp [hx]))) (fun x hx => hsp x (by simp [hx]))) (trodAll_cons_mk (WideElems.Trod_stays Facts.laidOut (by kernel_rfl) (of_decide_eq_true (by kernel_rfl)) k1 (fun x hx => hg.same (hlt x (by simp [hx]))) (fun x hx => hsp x (by simp [hx]))) trodAll_mk0))) (fun _ _ => rfl) rfl
    hg (ok_one (by kernel_rfl) rfl (okWide_bool_mk Try.underlying4 _))⟩

theorem lawCheckChain.named : Try.pinned.checked.prog.funcNamed Rows.fnExactCheckChainRow.func = some 7 := by kernel_rfl
theorem lawCheckChain.z9 : (Rows.fnExactCheckChainRow.inPlace == Try.prog.inPlace 7) = true := by kernel_rfl
theorem lawCheckChain.z10 : (Rows.fnExactCheckChainRow.unfollowed == Try.prog.unfollowed 7) = true := by kernel_rfl
theorem lawCheckChain.z11 : (Rows.fnExactCheckChainRow.recurses == Try.prog.recurses 7) = true := by kernel_rfl
theorem lawCheckChain.z12 : (Rows.fnExactCheckChainRow.named == Try.prog.varsNamed 7) = true := by kernel_rfl
theorem lawCheckChain.closed : joinedFacts Try.prog 7 Try.f7 Rows.fnExactCheckChainSpec Rows.fnExactCheckChainRow = true :=
  joined_of (by kernel_rfl) Facts.laidOut Facts.mapsRowed (by kernel_rfl) (by kernel_rfl) (by kernel_rfl) (by kernel_rfl) (by kernel_rfl) (by kernel_rfl) lawCheckChain.z9 lawCheckChain.z10 lawCheckChain.z11 lawCheckChain.z12 (by kernel_rfl) (by kernel_rfl) (by kernel_rfl) (by kernel_rfl) (by kernel_rfl) (by kernel_rfl) (by kernel_rfl) (by kernel_rfl) (by kernel_rfl) (by rw [Facts.plainKeys]; rfl) (by kernel_rfl) Facts.heard Facts.enter (by rw [Facts.lifts]; rfl) (by rw [Facts.make]; rfl) (by kernel_rfl) (by kernel_rfl) (by kernel_rfl) (by kernel_rfl)
theorem lawCheckChain.inst : Try.f7.isInstance Try.pinned.checked.prog Rows.fnExactCheckChainRow.origin Rows.fnExactCheckChainRow.targs := of_decide_eq_true (by kernel_rfl)
theorem lawCheckChain.wrap : Try.f7.isWrapper Try.pinned.checked.prog Rows.fnExactCheckChainRow.wrapper Rows.fnExactCheckChainRow.mainSum := by
  unfold Func.isWrapper; first | (rw [if_pos (by decide +kernel)]; kernel_rfl) | (rw [if_neg (by decide +kernel)]; exact ⟨rfl, rfl⟩)
theorem lawCheckChain.over : Rows.fnExactCheckChainRow.holds Try.pinned (OpenSpec.ofChange Rows.fnExactCheckChainSpec) :=
  OpenClaim.holds_of_wide 7 Try.f7 rfl rfl rfl rfl rfl rfl rfl ⟨rfl, rfl, rfl, rfl, rfl⟩ rfl rfl rfl rfl rfl lawCheckChain.named Try.func7 lawCheckChain.closed
    lawCheckChain.inst lawCheckChain.wrap (fun os started H enc _ => lawCheckChain.lifted os started H enc)

theorem lawCheckChain.proved : Rows.FnExactCheckChainSaid := lawCheckChain.over
#print axioms lawCheckChain.proved
end Go.Proofs.Yteohpelbkmdlmaa
