/- The law FnExactPermuteCiphers returns true for every input. It holds without a condition. -/
import Derived.Test.YteohpelbkmdlmaaRows
import Derived.Test.YteohpelbkmdlmaaPerc
import Derived.Test.YteohpelbkmdlmaaEq
import Derived.Test.YteohpelbkmdlmaaOpenC
import Derived.Test.YteohpelbkmdlmaaFacts
namespace Go.Proofs.Yteohpelbkmdlmaa
open Go.ChangeShapes Go.WideShapes Go.ChangeAt Go.RowKit
set_option linter.unusedVariables false

namespace lawPermuteCiphers
set_option maxHeartbeats 1000000 in
theorem walk (A0 : Option Addr) (l0 : List Int) (c0 : Nat) (A1 : Option Addr) (l1 : List (Int × Int)) (c1 : Nat) (w : World) (r0 : RdI w A0 l0) (b0 : l0.length ≤ c0) (m0 : c0 ≤ maxLen) (z0 : A0 = none → c0 = 0) (f0 : ∀ n ∈ l0, Fits n) (r1 : RdC w A1 l1) (b1 : l1.length ≤ c1) (m1 : c1 ≤ maxLen) (z1 : A1 = none → c1 = 0) (f1 : ∀ n ∈ l1, Fits n.1 ∧ Fits n.2) :
    Calls Try.prog 10 #[.slice A0 l0.length c0, .slice A1 l1.length c1] w fun e w' => e = .returned (.bool true) ∧ Ext w w' := by
  have M0 : l0.length ≤ 9223372036854775807 := by unfold maxLen at m0; omega
  clear z0 f0
  generalize hn0 : l0.length = n0 at *
  have Hn0 := Lib.hid hn0
  clear hn0
  have M1 : l1.length ≤ 9223372036854775807 := by unfold maxLen at m1; omega
  clear z1 f1
  generalize hn1 : l1.length = n1 at *
  have Hn1 := Lib.hid hn1
  clear hn1
  rcases Nat.lt_or_ge 1048576 n0 with S0 | S0
  · go_enter Try.func10, Try.ntmps10
    go_wp2
    go_ret
    exact ⟨rfl, (Ext.refl w)⟩
  go_enter Try.func10, Try.ntmps10
  go_wp2_with fail
  have E := (Ext.refl w)
  rcases Nat.lt_or_ge (1048576) n1 with S1 | S1
  · refine (szCipherS_no (by omega)).mono ?_
    rintro e w' ⟨rfl, rfl⟩
    go_wp2
    go_ret
    exact ⟨rfl, E⟩
  refine (szCipherS_yes (by omega)).mono ?_
  rintro e w' ⟨rfl, rfl⟩
  go_wp2_with fail
  have Zt1 := E.size
  go_wp2_with fail
  refine (toIntS_any _ _ _ _ _ (r0.ext E) Hn0 (by omega)).mono ?_
  rintro e w1 ⟨At1, ct1, rfl, t1, hb⟩
  replace E := E.trans hb
  clear hb
  have Lt1_t2 := t1.low
  have Zt2 := E.size
  go_wp2_with fail
  refine (toCipherS_any _ _ _ _ _ (r1.ext E) Hn1 (by omega)).mono ?_
  rintro e w2 ⟨At2, ct2, rfl, t2, hb⟩
  replace E := E.trans hb
  replace t1 := t1.ext hb
  clear hb
  have Lt1_w0 := t1.low
  have Lt2_w0 := t2.low
  have Zw0 := E.size
  go_wp2_with fail
  refine (sPermuteCiphers_any At1 n0 ct1 l0 At2 n1 ct2 l1 _ t1.rd t1.len S0 t1.cap t2.rd t2.len S1 t2.cap).mono ?_
  rintro e w3 ⟨Aw0, nw0, cw0, rfl, w0, hb⟩
  replace E := E.trans hb
  replace t1 := t1.ext hb
  replace t2 := t2.ext hb
  clear hb
  have Nw0 : nw0 ≤ 100000 := Nat.le_trans (Nat.le_of_eq w0.len.symm) (pcR_bd _ _)
  have Lw0_x0 := w0.low
  have Zx0 := E.size
  go_wp2_with fail
  refine (toIntS_any _ _ _ _ _ (r0.ext E) Hn0 (by omega)).mono ?_
  rintro e w4 ⟨Ax0, cx0, rfl, x0, hb⟩
  replace E := E.trans hb
  replace w0 := w0.ext hb
  clear hb
  have Lw0_x1 := w0.low
  have Lx0_x1 := x0.low
  have Zx1 := E.size
  go_wp2_with fail
  refine (toCipherS_any _ _ _ _ _ (r1.ext E) Hn1 (by omega)).mono ?_
  rintro e w5 ⟨Ax1, cx1, rfl, x1, hb⟩
  replace E := E.trans hb
  replace w0 := w0.ext hb
  replace x0 := x0.ext hb
  clear hb
  have Lw0_g0 := w0.low
  have Lx0_g0 := x0.low
  have Lx1_g0 := x1.low
  have Zg0 := E.size
  go_wp2_with fail
  refine (iPermuteCiphers_any Ax0 n0 cx0 l0 Ax1 n1 cx1 l1 _ x0.rd x0.len S0 x0.cap x1.rd x1.len S1 x1.cap).mono ?_
  rintro e w6 ⟨Ag0, ng0, cg0, rfl, g0, hb⟩
  replace E := E.trans hb
  replace w0 := w0.ext hb
  replace x0 := x0.ext hb
  replace x1 := x1.ext hb
  clear hb
  have Ng0 : ng0 ≤ 100000 := Nat.le_trans (Nat.le_of_eq g0.len.symm) (pcR_bd _ _)
  go_wp2_with fail
  refine (eqCipherS_same g0.rd w0.rd g0.len w0.len g0.le w0.le).mono ?_
  rintro e w7 ⟨rfl, hb⟩
  replace E := E.trans hb
  replace w0 := w0.ext hb
  replace x0 := x0.ext hb
  replace x1 := x1.ext hb
  replace g0 := g0.ext hb
  clear hb
  have Lw0_t3 := w0.low
  have Lx0_t3 := x0.low
  have Lx1_t3 := x1.low
  have Lg0_t3 := g0.low
  have Zt3 := E.size
  go_wp2_with fail
  refine (toIntS_any _ _ _ _ _ (r0.ext E) Hn0 (by omega)).mono ?_
  rintro e w8 ⟨At3, ct3, rfl, t3, hb⟩
  replace E := E.trans hb
  replace w0 := w0.ext hb
  replace x0 := x0.ext hb
  replace x1 := x1.ext hb
  replace g0 := g0.ext hb
  clear hb
  go_wp2_with fail
  refine (eqIntS_same x0.rd t3.rd x0.len t3.len x0.le t3.le).mono ?_
  rintro e w9 ⟨rfl, hb⟩
  replace E := E.trans hb
  replace w0 := w0.ext hb
  replace x0 := x0.ext hb
  replace x1 := x1.ext hb
  replace g0 := g0.ext hb
  replace t3 := t3.ext hb
  clear hb
  have Lw0_t4 := w0.low
  have Lx0_t4 := x0.low
  have Lx1_t4 := x1.low
  have Lg0_t4 := g0.low
  have Zt4 := E.size
  go_wp2_with fail
  refine (toCipherS_any _ _ _ _ _ (r1.ext E) Hn1 (by omega)).mono ?_
  rintro e w10 ⟨At4, ct4, rfl, t4, hb⟩
  replace E := E.trans hb
  replace w0 := w0.ext hb
  replace x0 := x0.ext hb
  replace x1 := x1.ext hb
  replace g0 := g0.ext hb
  clear hb
  go_wp2_with fail
  refine (eqCipherS_same x1.rd t4.rd x1.len t4.len x1.le t4.le).mono ?_
  rintro e w11 ⟨rfl, hb⟩
  replace E := E.trans hb
  replace w0 := w0.ext hb
  replace x0 := x0.ext hb
  replace x1 := x1.ext hb
  replace g0 := g0.ext hb
  replace t4 := t4.ext hb
  clear hb
  go_wp2_with fail
  refine (markIntS_any x0 (by omega) (by omega)).mono ?_
  rintro e w12 ⟨rfl, hm, hO⟩
  replace E := E.only hO (x0.high.mono Zx0)
  replace w0 := w0.only hO (Apart.of_low Lw0_x0 x0.high)
  replace x1 := x1.only hO (Apart.of_high Lx0_x1 x1.high)
  replace g0 := g0.only hO (Apart.of_high Lx0_g0 g0.high)
  clear hO x0
  have x0 := hm
  clear hm
  go_wp2_with fail
  refine (markCipherS_any x1 (by omega) (by omega)).mono ?_
  rintro e w13 ⟨rfl, hm, hO⟩
  replace E := E.only hO (x1.high.mono Zx1)
  replace w0 := w0.only hO (Apart.of_low Lw0_x1 x1.high)
  replace x0 := x0.only hO (Apart.of_low Lx0_x1 x1.high)
  replace g0 := g0.only hO (Apart.of_high Lx1_g0 g0.high)
  clear hO x1
  have x1 := hm
  clear hm
  go_wp2_with fail
  refine (eqCipherS_same g0.rd w0.rd g0.len w0.len g0.le w0.le).mono ?_
  rintro e w14 ⟨rfl, hb⟩
  replace E := E.trans hb
  replace w0 := w0.ext hb
  replace x0 := x0.ext hb
  replace x1 := x1.ext hb
  replace g0 := g0.ext hb
  clear hb
  go_wp2_with fail
  refine (markCipherS_any g0 (by omega) (by omega)).mono ?_
  rintro e w15 ⟨rfl, hm, hO⟩
  replace E := E.only hO (g0.high.mono Zg0)
  replace w0 := w0.only hO (Apart.of_low Lw0_g0 g0.high)
  replace x0 := x0.only hO (Apart.of_low Lx0_g0 g0.high)
  replace x1 := x1.only hO (Apart.of_low Lx1_g0 g0.high)
  clear hO g0
  have g0 := hm
  clear hm
  go_wp2_with fail
  refine (heldCipherS_any g0.rd (by omega) (by omega)).mono ?_
  rintro e w16 ⟨rfl, hb⟩
  replace E := E.trans hb
  replace w0 := w0.ext hb
  replace x0 := x0.ext hb
  replace x1 := x1.ext hb
  replace g0 := g0.ext hb
  clear hb
  have Lw0_t5 := w0.low
  have Lx0_t5 := x0.low
  have Lx1_t5 := x1.low
  have Lg0_t5 := g0.low
  have Zt5 := E.size
  go_wp2_with fail
  refine (toIntS_any _ _ _ _ _ (r0.ext E) Hn0 (by omega)).mono ?_
  rintro e w17 ⟨At5, ct5, rfl, t5, hb⟩
  replace E := E.trans hb
  replace w0 := w0.ext hb
  replace x0 := x0.ext hb
  replace x1 := x1.ext hb
  replace g0 := g0.ext hb
  clear hb
  have Lw0_t6 := w0.low
  have Lx0_t6 := x0.low
  have Lx1_t6 := x1.low
  have Lg0_t6 := g0.low
  have Lt5_t6 := t5.low
  have Zt6 := E.size
  go_wp2_with fail
  refine (toCipherS_any _ _ _ _ _ (r1.ext E) Hn1 (by omega)).mono ?_
  rintro e w18 ⟨At6, ct6, rfl, t6, hb⟩
  replace E := E.trans hb
  replace w0 := w0.ext hb
  replace x0 := x0.ext hb
  replace x1 := x1.ext hb
  replace g0 := g0.ext hb
  replace t5 := t5.ext hb
  clear hb
  have Lw0_h0 := w0.low
  have Lx0_h0 := x0.low
  have Lx1_h0 := x1.low
  have Lg0_h0 := g0.low
  have Lt5_h0 := t5.low
  have Lt6_h0 := t6.low
  have Zh0 := E.size
  go_wp2_with fail
  refine (iPermuteCiphers_any At5 n0 ct5 l0 At6 n1 ct6 l1 _ t5.rd t5.len S0 t5.cap t6.rd t6.len S1 t6.cap).mono ?_
  rintro e w19 ⟨Ah0, nh0, ch0, rfl, h0, hb⟩
  replace E := E.trans hb
  replace w0 := w0.ext hb
  replace x0 := x0.ext hb
  replace x1 := x1.ext hb
  replace g0 := g0.ext hb
  replace t5 := t5.ext hb
  replace t6 := t6.ext hb
  clear hb
  have Nh0 : nh0 ≤ 100000 := Nat.le_trans (Nat.le_of_eq h0.len.symm) (pcR_bd _ _)
  go_wp2_with fail
  refine (eqCipherS_same h0.rd w0.rd h0.len w0.len h0.le w0.le).mono ?_
  rintro e w20 ⟨rfl, hb⟩
  replace E := E.trans hb
  replace w0 := w0.ext hb
  replace x0 := x0.ext hb
  replace x1 := x1.ext hb
  replace g0 := g0.ext hb
  replace h0 := h0.ext hb
  clear hb
  go_wp2_with fail
  refine (heldCipherS_any g0.rd (by omega) (by omega)).mono ?_
  rintro e w21 ⟨rfl, hb⟩
  replace E := E.trans hb
  replace w0 := w0.ext hb
  replace x0 := x0.ext hb
  replace x1 := x1.ext hb
  replace g0 := g0.ext hb
  replace h0 := h0.ext hb
  clear hb
  go_wp2
  go_ret
  exact ⟨rfl, E⟩
end lawPermuteCiphers

set_option maxRecDepth 100000 in
theorem lawPermuteCiphers.lifted (os : Os) (started : os.Started) (H : Type) (enc : TypeId × Value → H) :
    ReturnsInHanded {} Try.checked os 10 .any (Rows.fnExactPermuteCiphersSpec.pre6 enc Try.prog Try.f10 Rows.fnExactPermuteCiphersRow.domain false) (Rows.fnExactPermuteCiphersSpec.post enc Try.prog Try.f10 false true false false) := by
  refine returnsInHanded_of_change (C := Try.checked) Facts.own started (by kernel_rfl) Try.func10
    (ChangeSpec.witness6 (enc := enc) (C := Try.checked) false ⟨#[], #[.slice none 0 0, .slice none 0 0], []⟩ 8 (by kernel_rfl) (by kernel_rfl) (by kernel_rfl) (by kernel_rfl)) ?_
  intro W base args ds gs before hval0 hW _ _
  have hval : ∀ (j : Nat) t v, Try.f10.params[j]? = some t → args[j]? = some v → Value.okWide Try.prog W .any base t v := hval0
  have hW' := hW
  obtain ⟨p, q, hA0, hV, rfl, hfz, hnd⟩ := hW
  have hA : DataW.TrodAll enc Try.prog W 0 (fun _ => true) true Try.f10.params.toList args.toList ds p := hA0
  rw [Try.params10] at hA hval
  obtain ⟨v0, vs0, d0, ds0, p0, q0, hargs, rfl, rfl, h0, r0⟩ := trodAll_cons hA
  obtain ⟨v1, vs1, d1, ds1, p1, q1, rfl, rfl, rfl, h1, r1⟩ := trodAll_cons r0
  obtain ⟨rfl, rfl, rfl⟩ := trodAll_nil r1
  obtain rfl : args = #[v0, v1] := by cases args; simp_all
  obtain ⟨rfl, rfl⟩ := trodVars_none hV
  have hlt := hW'.lt
  clear hA hA0 hval0 hargs r0 r1
  have k0 := h0
  have k1 := h1
  obtain ⟨A0, l0, c0, rfl, r0, b0, m0, z0, f0⟩ := openIS Try.underlying22 Try.underlying3 (by kernel_rfl) (hval 0 22 v0 rfl rfl) h0
  obtain ⟨A1, l1, c1, rfl, r1, b1, m1, z1, f1⟩ := openGS2 Try.underlying45 Try.underlying119 (by kernel_rfl) (by kernel_rfl) rfl (hval 1 45 v1 rfl rfl) h1
  refine (lawPermuteCiphers.walk A0 l0 c0 A1 l1 c1 W r0 b0 m0 z0 f0 r1 b1 m1 z1 f1).mono fun e W' ⟨he, hg⟩ => ?_
  subst he
  exact ⟨_, rfl, post_below (pv := []) hW' (fun _ _ _ => (trodAll_cons_mk (shut_bool Try.underlying4 _) trodAll_mk0)) (fun sp hsp => (trodAll_cons_mk (WideElems.Trod_stays Facts.laidOut (by kernel_rfl) (of_decide_eq_true (by kernel_rfl)) k0 (fun x hx => hg.same (hlt x (by simp [hx]))) (fun x hx => hsp x (by simp [hx]))) (trodAll_cons_mk (WideElems.Trod_stays Facts.laidOut (by kernel_rfl) (of_decide_eq_true (by kernel_rfl)) k1 (fun x hx => hg.same (hlt x (by simp [hx]))) (fun x hx => hsp x (by simp [hx]))) trodAll_mk0))) (fun _ _ => rfl) rfl
    hg (ok_one (by kernel_rfl) rfl (okWide_bool_mk Try.underlying4 _))⟩

theorem lawPermuteCiphers.named : Try.pinned.checked.prog.funcNamed Rows.fnExactPermuteCiphersRow.func = some 10 := by kernel_rfl
theorem lawPermuteCiphers.z9 : (Rows.fnExactPermuteCiphersRow.inPlace == Try.prog.inPlace 10) = true := by kernel_rfl
theorem lawPermuteCiphers.z10 : (Rows.fnExactPermuteCiphersRow.unfollowed == Try.prog.unfollowed 10) = true := by kernel_rfl
theorem lawPermuteCiphers.z11 : (Rows.fnExactPermuteCiphersRow.recurses == Try.prog.recurses 10) = true := by kernel_rfl
theorem lawPermuteCiphers.z12 : (Rows.fnExactPermuteCiphersRow.named == Try.prog.varsNamed 10) = true := by kernel_rfl
theorem lawPermuteCiphers.closed : joinedFacts Try.prog 10 Try.f10 Rows.fnExactPermuteCiphersSpec Rows.fnExactPermuteCiphersRow = true :=
  joined_of (by kernel_rfl) Facts.laidOut Facts.mapsRowed (by kernel_rfl) (by kernel_rfl) (by kernel_rfl) (by kernel_rfl) (by kernel_rfl) (by kernel_rfl) lawPermuteCiphers.z9 lawPermuteCiphers.z10 lawPermuteCiphers.z11 lawPermuteCiphers.z12 (by kernel_rfl) (by kernel_rfl) (by kernel_rfl) (by kernel_rfl) (by kernel_rfl) (by kernel_rfl) (by kernel_rfl) (by kernel_rfl) (by kernel_rfl) (by rw [Facts.plainKeys]; rfl) (by kernel_rfl) Facts.heard Facts.enter (by rw [Facts.lifts]; rfl) (by rw [Facts.make]; rfl) (by kernel_rfl) (by kernel_rfl) (by kernel_rfl) (by kernel_rfl)
theorem lawPermuteCiphers.inst : Try.f10.isInstance Try.pinned.checked.prog Rows.fnExactPermuteCiphersRow.origin Rows.fnExactPermuteCiphersRow.targs := of_decide_eq_true (by kernel_rfl)
theorem lawPermuteCiphers.wrap : Try.f10.isWrapper Try.pinned.checked.prog Rows.fnExactPermuteCiphersRow.wrapper Rows.fnExactPermuteCiphersRow.mainSum := by
  unfold Func.isWrapper; first | (rw [if_pos (by decide +kernel)]; kernel_rfl) | (rw [if_neg (by decide +kernel)]; exact ⟨rfl, rfl⟩)
theorem lawPermuteCiphers.over : Rows.fnExactPermuteCiphersRow.holds Try.pinned (OpenSpec.ofChange Rows.fnExactPermuteCiphersSpec) :=
  OpenClaim.holds_of_wide 10 Try.f10 rfl rfl rfl rfl rfl rfl rfl ⟨rfl, rfl, rfl, rfl, rfl⟩ rfl rfl rfl rfl rfl lawPermuteCiphers.named Try.func10 lawPermuteCiphers.closed
    lawPermuteCiphers.inst lawPermuteCiphers.wrap (fun os started H enc _ => lawPermuteCiphers.lifted os started H enc)

theorem lawPermuteCiphers.proved : Rows.FnExactPermuteCiphersSaid := lawPermuteCiphers.over
#print axioms lawPermuteCiphers.proved
end Go.Proofs.Yteohpelbkmdlmaa
