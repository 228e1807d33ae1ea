/- The law FnExactAgreeingPoints returns true for every input. It holds without a condition. -/
import Derived.Test.YtlalpblinhhnlaaRows
import Derived.Test.YtlalpblinhhnlaaAgree
import Derived.Test.YtlalpblinhhnlaaEq
import Derived.Test.YtlalpblinhhnlaaFacts
namespace Go.Proofs.Ytlalpblinhhnlaa
open Go.ChangeShapes Go.WideShapes Go.ChangeAt Go.RowKit
set_option linter.unusedVariables false

namespace lawAgreeingPoints
set_option maxHeartbeats 1000000 in
theorem walk (a0 : Int) (A1 : Option Addr) (l1 : List Int) (c1 : Nat) (A2 : Option Addr) (l2 : List Int) (c2 : Nat) (w : World) (f0 : Fits a0) (r1 : RdI w A1 l1) (b1 : l1.length ≤ c1) (m1 : c1 ≤ maxLen) (z1 : A1 = none → c1 = 0) (f1 : ∀ n ∈ l1, Fits n) (r2 : RdI w A2 l2) (b2 : l2.length ≤ c2) (m2 : c2 ≤ maxLen) (z2 : A2 = none → c2 = 0) (f2 : ∀ n ∈ l2, Fits n) :
    Calls Try.prog 13 #[.int .i64 a0, .slice A1 l1.length c1, .slice A2 l2.length c2] w fun e w' => e = .returned (.bool true) ∧ Ext w w' := by
  have M1 : l1.length ≤ 9223372036854775807 := by unfold maxLen at m1; omega
  clear z1 f1
  generalize hn1 : l1.length = n1 at *
  have Hn1 := Lib.hid hn1
  clear hn1
  have M2 : l2.length ≤ 9223372036854775807 := by unfold maxLen at m2; omega
  clear z2 f2
  generalize hn2 : l2.length = n2 at *
  have Hn2 := Lib.hid hn2
  clear hn2
  rcases Nat.lt_or_ge 1048576 n1 with S1 | S1
  · go_enter Try.func13, Try.ntmps13
    go_wp2
    go_ret
    exact ⟨rfl, (Ext.refl w)⟩
  rcases Nat.lt_or_ge 1048576 n2 with S2 | S2
  · go_enter Try.func13, Try.ntmps13
    go_wp2
    go_ret
    exact ⟨rfl, (Ext.refl w)⟩
  go_enter Try.func13, Try.ntmps13
  go_wp2_with fail
  have E := (Ext.refl w)
  have Zt1 := E.size
  go_wp2_with fail
  refine (toIntS_any _ _ _ _ _ (r1.ext E) Hn1 (by omega)).mono ?_
  rintro e w1 ⟨At1, ct1, rfl, t1, hb⟩
  replace E := E.trans hb
  clear hb
  have Lt1_t2 := t1.low
  have Zt2 := E.size
  go_wp2_with fail
  refine (toIntS_any _ _ _ _ _ (r2.ext E) Hn2 (by omega)).mono ?_
  rintro e w2 ⟨At2, ct2, rfl, t2, hb⟩
  replace E := E.trans hb
  replace t1 := t1.ext hb
  clear hb
  go_wp2_with fail
  refine (sAgreeingPoints_any a0 At1 n1 ct1 l1 At2 n2 ct2 l2 _ t1.rd t1.len S1 t1.cap t2.rd t2.len S2 t2.cap).mono ?_
  rintro e w3 ⟨rfl, hb⟩
  replace E := E.trans hb
  replace t1 := t1.ext hb
  replace t2 := t2.ext hb
  clear hb
  have Zx1 := E.size
  go_wp2_with fail
  refine (toIntS_any _ _ _ _ _ (r1.ext E) Hn1 (by omega)).mono ?_
  rintro e w4 ⟨Ax1, cx1, rfl, x1, hb⟩
  replace E := E.trans hb
  clear hb
  have Lx1_x2 := x1.low
  have Zx2 := E.size
  go_wp2_with fail
  refine (toIntS_any _ _ _ _ _ (r2.ext E) Hn2 (by omega)).mono ?_
  rintro e w5 ⟨Ax2, cx2, rfl, x2, hb⟩
  replace E := E.trans hb
  replace x1 := x1.ext hb
  clear hb
  go_wp2_with fail
  refine (iAgreeingPoints_any a0 Ax1 n1 cx1 l1 Ax2 n2 cx2 l2 _ x1.rd x1.len S1 x1.cap x2.rd x2.len S2 x2.cap).mono ?_
  rintro e w6 ⟨rfl, hb⟩
  replace E := E.trans hb
  replace x1 := x1.ext hb
  replace x2 := x2.ext hb
  clear hb
  have Lx1_t3 := x1.low
  have Lx2_t3 := x2.low
  have Zt3 := E.size
  go_wp2_with fail
  refine (toIntS_any _ _ _ _ _ (r1.ext E) Hn1 (by omega)).mono ?_
  rintro e w7 ⟨At3, ct3, rfl, t3, hb⟩
  replace E := E.trans hb
  replace x1 := x1.ext hb
  replace x2 := x2.ext hb
  clear hb
  go_wp2_with fail
  refine (eqIntS_same x1.rd t3.rd x1.len t3.len x1.le t3.le).mono ?_
  rintro e w8 ⟨rfl, hb⟩
  replace E := E.trans hb
  replace x1 := x1.ext hb
  replace x2 := x2.ext hb
  replace t3 := t3.ext hb
  clear hb
  have Lx1_t4 := x1.low
  have Lx2_t4 := x2.low
  have Zt4 := E.size
  go_wp2_with fail
  refine (toIntS_any _ _ _ _ _ (r2.ext E) Hn2 (by omega)).mono ?_
  rintro e w9 ⟨At4, ct4, rfl, t4, hb⟩
  replace E := E.trans hb
  replace x1 := x1.ext hb
  replace x2 := x2.ext hb
  clear hb
  go_wp2_with fail
  refine (eqIntS_same x2.rd t4.rd x2.len t4.len x2.le t4.le).mono ?_
  rintro e w10 ⟨rfl, hb⟩
  replace E := E.trans hb
  replace x1 := x1.ext hb
  replace x2 := x2.ext hb
  replace t4 := t4.ext hb
  clear hb
  go_wp2
  go_ret
  exact ⟨rfl, E⟩
end lawAgreeingPoints

set_option maxRecDepth 100000 in
theorem lawAgreeingPoints.lifted (os : Os) (started : os.Started) (H : Type) (enc : TypeId × Value → H) :
    ReturnsInHanded {} Try.checked os 13 .any (Rows.fnExactAgreeingPointsSpec.pre6 enc Try.prog Try.f13 Rows.fnExactAgreeingPointsRow.domain false) (Rows.fnExactAgreeingPointsSpec.post enc Try.prog Try.f13 false true false false) := by
  refine returnsInHanded_of_change (C := Try.checked) Facts.own started (by kernel_rfl) Try.func13
    (ChangeSpec.witness6 (enc := enc) (C := Try.checked) false ⟨#[], #[.int .i64 0, .slice none 0 0, .slice none 0 0], []⟩ 8 (by kernel_rfl) (by kernel_rfl) (by kernel_rfl) (by kernel_rfl)) ?_
  intro W base args ds gs before hval0 hW _ _
  have hval : ∀ (j : Nat) t v, Try.f13.params[j]? = some t → args[j]? = some v → Value.okWide Try.prog W .any base t v := hval0
  have hW' := hW
  obtain ⟨p, q, hA0, hV, rfl, hfz, hnd⟩ := hW
  have hA : DataW.TrodAll enc Try.prog W 0 (fun _ => true) true Try.f13.params.toList args.toList ds p := hA0
  rw [Try.params13] at hA hval
  obtain ⟨v0, vs0, d0, ds0, p0, q0, hargs, rfl, rfl, h0, r0⟩ := trodAll_cons hA
  obtain ⟨v1, vs1, d1, ds1, p1, q1, rfl, rfl, rfl, h1, r1⟩ := trodAll_cons r0
  obtain ⟨v2, vs2, d2, ds2, p2, q2, rfl, rfl, rfl, h2, r2⟩ := trodAll_cons r1
  obtain ⟨rfl, rfl, rfl⟩ := trodAll_nil r2
  obtain rfl : args = #[v0, v1, v2] := by cases args; simp_all
  obtain ⟨rfl, rfl⟩ := trodVars_none hV
  have hlt := hW'.lt
  clear hA hA0 hval0 hargs r0 r1 r2
  have k0 := h0
  have k1 := h1
  have k2 := h2
  obtain ⟨a0, rfl, f0⟩ := openI Try.underlying3 (hval 0 3 v0 rfl rfl) h0
  obtain ⟨A1, l1, c1, rfl, r1, b1, m1, z1, f1⟩ := openIS Try.underlying35 Try.underlying3 (by kernel_rfl) (hval 1 35 v1 rfl rfl) h1
  obtain ⟨A2, l2, c2, rfl, r2, b2, m2, z2, f2⟩ := openIS Try.underlying35 Try.underlying3 (by kernel_rfl) (hval 2 35 v2 rfl rfl) h2
  refine (lawAgreeingPoints.walk a0 A1 l1 c1 A2 l2 c2 W f0 r1 b1 m1 z1 f1 r2 b2 m2 z2 f2).mono fun e W' ⟨he, hg⟩ => ?_
  subst he
  exact ⟨_, rfl, post_below (pv := []) hW' (fun _ _ _ => (trodAll_cons_mk (shut_bool Try.underlying4 _) trodAll_mk0)) (fun sp hsp => (trodAll_cons_mk (WideElems.Trod_stays Facts.laidOut (by kernel_rfl) (of_decide_eq_true (by kernel_rfl)) k0 (fun x hx => hg.same (hlt x (by simp [hx]))) (fun x hx => hsp x (by simp [hx]))) (trodAll_cons_mk (WideElems.Trod_stays Facts.laidOut (by kernel_rfl) (of_decide_eq_true (by kernel_rfl)) k1 (fun x hx => hg.same (hlt x (by simp [hx]))) (fun x hx => hsp x (by simp [hx]))) (trodAll_cons_mk (WideElems.Trod_stays Facts.laidOut (by kernel_rfl) (of_decide_eq_true (by kernel_rfl)) k2 (fun x hx => hg.same (hlt x (by simp [hx]))) (fun x hx => hsp x (by simp [hx]))) trodAll_mk0)))) (fun _ _ => rfl) rfl
    hg (ok_one (by kernel_rfl) rfl (okWide_bool_mk Try.underlying4 _))⟩

theorem lawAgreeingPoints.named : Try.pinned.checked.prog.funcNamed Rows.fnExactAgreeingPointsRow.func = some 13 := by kernel_rfl
theorem lawAgreeingPoints.z9 : (Rows.fnExactAgreeingPointsRow.inPlace == Try.prog.inPlace 13) = true := by kernel_rfl
theorem lawAgreeingPoints.z10 : (Rows.fnExactAgreeingPointsRow.unfollowed == Try.prog.unfollowed 13) = true := by kernel_rfl
theorem lawAgreeingPoints.z11 : (Rows.fnExactAgreeingPointsRow.recurses == Try.prog.recurses 13) = true := by kernel_rfl
theorem lawAgreeingPoints.z12 : (Rows.fnExactAgreeingPointsRow.named == Try.prog.varsNamed 13) = true := by kernel_rfl
theorem lawAgreeingPoints.closed : joinedFacts Try.prog 13 Try.f13 Rows.fnExactAgreeingPointsSpec Rows.fnExactAgreeingPointsRow = true :=
  joined_of (by kernel_rfl) Facts.laidOut Facts.mapsRowed (by kernel_rfl) (by kernel_rfl) (by kernel_rfl) (by kernel_rfl) (by kernel_rfl) (by kernel_rfl) lawAgreeingPoints.z9 lawAgreeingPoints.z10 lawAgreeingPoints.z11 lawAgreeingPoints.z12 (by kernel_rfl) (by kernel_rfl) (by kernel_rfl) (by kernel_rfl) (by kernel_rfl) (by kernel_rfl) (by kernel_rfl) (by kernel_rfl) (by kernel_rfl) (by rw [Facts.plainKeys]; rfl) (by kernel_rfl) Facts.heard Facts.enter (by rw [Facts.lifts]; rfl) (by rw [Facts.make]; rfl) (by kernel_rfl) (by kernel_rfl) (by kernel_rfl) (by kernel_rfl)
theorem lawAgreeingPoints.inst : Try.f13.isInstance Try.pinned.checked.prog Rows.fnExactAgreeingPointsRow.origin Rows.fnExactAgreeingPointsRow.targs := of_decide_eq_true (by kernel_rfl)
theorem lawAgreeingPoints.wrap : Try.f13.isWrapper Try.pinned.checked.prog Rows.fnExactAgreeingPointsRow.wrapper Rows.fnExactAgreeingPointsRow.mainSum := by
  unfold Func.isWrapper; first | (rw [if_pos (by decide +kernel)]; kernel_rfl) | (rw [if_neg (by decide +kernel)]; exact ⟨rfl, rfl⟩)
theorem lawAgreeingPoints.over : Rows.fnExactAgreeingPointsRow.holds Try.pinned (OpenSpec.ofChange Rows.fnExactAgreeingPointsSpec) :=
  OpenClaim.holds_of_wide 13 Try.f13 rfl rfl rfl rfl rfl rfl rfl ⟨rfl, rfl, rfl, rfl, rfl⟩ rfl rfl rfl rfl rfl lawAgreeingPoints.named Try.func13 lawAgreeingPoints.closed
    lawAgreeingPoints.inst lawAgreeingPoints.wrap (fun os started H enc _ => lawAgreeingPoints.lifted os started H enc)

theorem lawAgreeingPoints.proved : Rows.FnExactAgreeingPointsSaid := lawAgreeingPoints.over
#print axioms lawAgreeingPoints.proved
end Go.Proofs.Ytlalpblinhhnlaa
