/- The law FnExactShuffleCoins returns true for every input. It holds without a condition. -/
import Derived.Test.YtlalpblinhhnlaaRows
import Derived.Test.YtlalpblinhhnlaaShuf
import Derived.Test.YtlalpblinhhnlaaEq
import Derived.Test.YtlalpblinhhnlaaFacts
namespace Go.Proofs.Ytlalpblinhhnlaa
open Go.ChangeShapes Go.WideShapes Go.ChangeAt Go.RowKit
set_option linter.unusedVariables false

namespace lawShuffleCoins
set_option maxHeartbeats 1000000 in
theorem walk (a0 : Int) (A1 : Option Addr) (l1 : List Int) (c1 : Nat) (w : World) (f0 : Fits a0) (r1 : RdI w A1 l1) (b1 : l1.length ≤ c1) (m1 : c1 ≤ maxLen) (z1 : A1 = none → c1 = 0) (f1 : ∀ n ∈ l1, Fits n) :
    Calls Try.prog 11 #[.int .i64 a0, .slice A1 l1.length c1] w fun e w' => e = .returned (.bool true) ∧ Ext w w' := by
  have M1 : l1.length ≤ 9223372036854775807 := by unfold maxLen at m1; omega
  clear z1 f1
  generalize hn1 : l1.length = n1 at *
  have Hn1 := Lib.hid hn1
  clear hn1
  rcases Nat.lt_or_ge 1048576 n1 with S1 | S1
  · go_enter Try.func11, Try.ntmps11
    go_wp2
    go_ret
    exact ⟨rfl, (Ext.refl w)⟩
  go_enter Try.func11, Try.ntmps11
  go_wp2_with fail
  have E := (Ext.refl w)
  have Zt1 := E.size
  go_wp2_with fail
  refine (toIntS_any _ _ _ _ _ (r1.ext E) Hn1 (by omega)).mono ?_
  rintro e w1 ⟨At1, ct1, rfl, t1, hb⟩
  replace E := E.trans hb
  clear hb
  have Lt1_w0 := t1.low
  have Zw0 := E.size
  go_wp2_with fail
  refine (sShuffleCoins_any a0 At1 n1 ct1 l1 _ t1.rd t1.len S1 t1.cap).mono ?_
  rintro e w2 ⟨Aw0, nw0, cw0, rfl, w0, hb⟩
  replace E := E.trans hb
  replace t1 := t1.ext hb
  clear hb
  have Nw0 : nw0 ≤ 100000 := Nat.le_trans (Nat.le_of_eq w0.len.symm) (shufR_bd _ _)
  have Lw0_x1 := w0.low
  have Zx1 := E.size
  go_wp2_with fail
  refine (toIntS_any _ _ _ _ _ (r1.ext E) Hn1 (by omega)).mono ?_
  rintro e w3 ⟨Ax1, cx1, rfl, x1, hb⟩
  replace E := E.trans hb
  replace w0 := w0.ext hb
  clear hb
  have Lw0_g0 := w0.low
  have Lx1_g0 := x1.low
  have Zg0 := E.size
  go_wp2_with fail
  refine (iShuffleCoins_any a0 Ax1 n1 cx1 l1 _ x1.rd x1.len S1 x1.cap).mono ?_
  rintro e w4 ⟨Ag0, ng0, cg0, rfl, g0, hb⟩
  replace E := E.trans hb
  replace w0 := w0.ext hb
  replace x1 := x1.ext hb
  clear hb
  have Ng0 : ng0 ≤ 100000 := Nat.le_trans (Nat.le_of_eq g0.len.symm) (shufR_bd _ _)
  go_wp2_with fail
  refine (eqIntS_same g0.rd w0.rd g0.len w0.len g0.le w0.le).mono ?_
  rintro e w5 ⟨rfl, hb⟩
  replace E := E.trans hb
  replace w0 := w0.ext hb
  replace x1 := x1.ext hb
  replace g0 := g0.ext hb
  clear hb
  have Lw0_t2 := w0.low
  have Lx1_t2 := x1.low
  have Lg0_t2 := g0.low
  have Zt2 := E.size
  go_wp2_with fail
  refine (toIntS_any _ _ _ _ _ (r1.ext E) Hn1 (by omega)).mono ?_
  rintro e w6 ⟨At2, ct2, rfl, t2, hb⟩
  replace E := E.trans hb
  replace w0 := w0.ext hb
  replace x1 := x1.ext hb
  replace g0 := g0.ext hb
  clear hb
  go_wp2_with fail
  refine (eqIntS_same x1.rd t2.rd x1.len t2.len x1.le t2.le).mono ?_
  rintro e w7 ⟨rfl, hb⟩
  replace E := E.trans hb
  replace w0 := w0.ext hb
  replace x1 := x1.ext hb
  replace g0 := g0.ext hb
  replace t2 := t2.ext hb
  clear hb
  go_wp2_with fail
  refine (markIntS_any x1 (by omega) (by omega)).mono ?_
  rintro e w8 ⟨rfl, hm, hO⟩
  replace E := E.only hO (x1.high.mono Zx1)
  replace w0 := w0.only hO (Apart.of_low Lw0_x1 x1.high)
  replace g0 := g0.only hO (Apart.of_high Lx1_g0 g0.high)
  clear hO x1
  have x1 := hm
  clear hm
  go_wp2_with fail
  refine (eqIntS_same g0.rd w0.rd g0.len w0.len g0.le w0.le).mono ?_
  rintro e w9 ⟨rfl, hb⟩
  replace E := E.trans hb
  replace w0 := w0.ext hb
  replace x1 := x1.ext hb
  replace g0 := g0.ext hb
  clear hb
  go_wp2_with fail
  refine (markIntS_any g0 (by omega) (by omega)).mono ?_
  rintro e w10 ⟨rfl, hm, hO⟩
  replace E := E.only hO (g0.high.mono Zg0)
  replace w0 := w0.only hO (Apart.of_low Lw0_g0 g0.high)
  replace x1 := x1.only hO (Apart.of_low Lx1_g0 g0.high)
  clear hO g0
  have g0 := hm
  clear hm
  go_wp2_with fail
  refine (heldIntS_any g0.rd (by omega) (by omega)).mono ?_
  rintro e w11 ⟨rfl, hb⟩
  replace E := E.trans hb
  replace w0 := w0.ext hb
  replace x1 := x1.ext hb
  replace g0 := g0.ext hb
  clear hb
  have Lw0_t3 := w0.low
  have Lx1_t3 := x1.low
  have Lg0_t3 := g0.low
  have Zt3 := E.size
  go_wp2_with fail
  refine (toIntS_any _ _ _ _ _ (r1.ext E) Hn1 (by omega)).mono ?_
  rintro e w12 ⟨At3, ct3, rfl, t3, hb⟩
  replace E := E.trans hb
  replace w0 := w0.ext hb
  replace x1 := x1.ext hb
  replace g0 := g0.ext hb
  clear hb
  have Lw0_h0 := w0.low
  have Lx1_h0 := x1.low
  have Lg0_h0 := g0.low
  have Lt3_h0 := t3.low
  have Zh0 := E.size
  go_wp2_with fail
  refine (iShuffleCoins_any a0 At3 n1 ct3 l1 _ t3.rd t3.len S1 t3.cap).mono ?_
  rintro e w13 ⟨Ah0, nh0, ch0, rfl, h0, hb⟩
  replace E := E.trans hb
  replace w0 := w0.ext hb
  replace x1 := x1.ext hb
  replace g0 := g0.ext hb
  replace t3 := t3.ext hb
  clear hb
  have Nh0 : nh0 ≤ 100000 := Nat.le_trans (Nat.le_of_eq h0.len.symm) (shufR_bd _ _)
  go_wp2_with fail
  refine (eqIntS_same h0.rd w0.rd h0.len w0.len h0.le w0.le).mono ?_
  rintro e w14 ⟨rfl, hb⟩
  replace E := E.trans hb
  replace w0 := w0.ext hb
  replace x1 := x1.ext hb
  replace g0 := g0.ext hb
  replace h0 := h0.ext hb
  clear hb
  go_wp2_with fail
  refine (heldIntS_any g0.rd (by omega) (by omega)).mono ?_
  rintro e w15 ⟨rfl, hb⟩
  replace E := E.trans hb
  replace w0 := w0.ext hb
  replace x1 := x1.ext hb
  replace g0 := g0.ext hb
  replace h0 := h0.ext hb
  clear hb
  go_wp2
  go_ret
  exact ⟨rfl, E⟩
end lawShuffleCoins

set_option maxRecDepth 100000 in
theorem lawShuffleCoins.lifted (os : Os) (started : os.Started) (H : Type) (enc : TypeId × Value → H) :
    ReturnsInHanded {} Try.checked os 11 .any (Rows.fnExactShuffleCoinsSpec.pre6 enc Try.prog Try.f11 Rows.fnExactShuffleCoinsRow.domain false) (Rows.fnExactShuffleCoinsSpec.post enc Try.prog Try.f11 false true false false) := by
  refine returnsInHanded_of_change (C := Try.checked) Facts.own started (by kernel_rfl) Try.func11
    (ChangeSpec.witness6 (enc := enc) (C := Try.checked) false ⟨#[], #[.int .i64 0, .slice none 0 0], []⟩ 8 (by kernel_rfl) (by kernel_rfl) (by kernel_rfl) (by kernel_rfl)) ?_
  intro W base args ds gs before hval0 hW _ _
  have hval : ∀ (j : Nat) t v, Try.f11.params[j]? = some t → args[j]? = some v → Value.okWide Try.prog W .any base t v := hval0
  have hW' := hW
  obtain ⟨p, q, hA0, hV, rfl, hfz, hnd⟩ := hW
  have hA : DataW.TrodAll enc Try.prog W 0 (fun _ => true) true Try.f11.params.toList args.toList ds p := hA0
  rw [Try.params11] at hA hval
  obtain ⟨v0, vs0, d0, ds0, p0, q0, hargs, rfl, rfl, h0, r0⟩ := trodAll_cons hA
  obtain ⟨v1, vs1, d1, ds1, p1, q1, rfl, rfl, rfl, h1, r1⟩ := trodAll_cons r0
  obtain ⟨rfl, rfl, rfl⟩ := trodAll_nil r1
  obtain rfl : args = #[v0, v1] := by cases args; simp_all
  obtain ⟨rfl, rfl⟩ := trodVars_none hV
  have hlt := hW'.lt
  clear hA hA0 hval0 hargs r0 r1
  have k0 := h0
  have k1 := h1
  obtain ⟨a0, rfl, f0⟩ := openI Try.underlying3 (hval 0 3 v0 rfl rfl) h0
  obtain ⟨A1, l1, c1, rfl, r1, b1, m1, z1, f1⟩ := openIS Try.underlying35 Try.underlying3 (by kernel_rfl) (hval 1 35 v1 rfl rfl) h1
  refine (lawShuffleCoins.walk a0 A1 l1 c1 W f0 r1 b1 m1 z1 f1).mono fun e W' ⟨he, hg⟩ => ?_
  subst he
  exact ⟨_, rfl, post_below (pv := []) hW' (fun _ _ _ => (trodAll_cons_mk (shut_bool Try.underlying4 _) trodAll_mk0)) (fun sp hsp => (trodAll_cons_mk (WideElems.Trod_stays Facts.laidOut (by kernel_rfl) (of_decide_eq_true (by kernel_rfl)) k0 (fun x hx => hg.same (hlt x (by simp [hx]))) (fun x hx => hsp x (by simp [hx]))) (trodAll_cons_mk (WideElems.Trod_stays Facts.laidOut (by kernel_rfl) (of_decide_eq_true (by kernel_rfl)) k1 (fun x hx => hg.same (hlt x (by simp [hx]))) (fun x hx => hsp x (by simp [hx]))) trodAll_mk0))) (fun _ _ => rfl) rfl
    hg (ok_one (by kernel_rfl) rfl (okWide_bool_mk Try.underlying4 _))⟩

theorem lawShuffleCoins.named : Try.pinned.checked.prog.funcNamed Rows.fnExactShuffleCoinsRow.func = some 11 := by kernel_rfl
theorem lawShuffleCoins.z9 : (Rows.fnExactShuffleCoinsRow.inPlace == Try.prog.inPlace 11) = true := by kernel_rfl
theorem lawShuffleCoins.z10 : (Rows.fnExactShuffleCoinsRow.unfollowed == Try.prog.unfollowed 11) = true := by kernel_rfl
theorem lawShuffleCoins.z11 : (Rows.fnExactShuffleCoinsRow.recurses == Try.prog.recurses 11) = true := by kernel_rfl
theorem lawShuffleCoins.z12 : (Rows.fnExactShuffleCoinsRow.named == Try.prog.varsNamed 11) = true := by kernel_rfl
theorem lawShuffleCoins.closed : joinedFacts Try.prog 11 Try.f11 Rows.fnExactShuffleCoinsSpec Rows.fnExactShuffleCoinsRow = true :=
  joined_of (by kernel_rfl) Facts.laidOut Facts.mapsRowed (by kernel_rfl) (by kernel_rfl) (by kernel_rfl) (by kernel_rfl) (by kernel_rfl) (by kernel_rfl) lawShuffleCoins.z9 lawShuffleCoins.z10 lawShuffleCoins.z11 lawShuffleCoins.z12 (by kernel_rfl) (by kernel_rfl) (by kernel_rfl) (by kernel_rfl) (by kernel_rfl) (by kernel_rfl) (by kernel_rfl) (by kernel_rfl) (by kernel_rfl) (by rw [Facts.plainKeys]; rfl) (by kernel_rfl) Facts.heard Facts.enter (by rw [Facts.lifts]; rfl) (by rw [Facts.make]; rfl) (by kernel_rfl) (by kernel_rfl) (by kernel_rfl) (by kernel_rfl)
theorem lawShuffleCoins.inst : Try.f11.isInstance Try.pinned.checked.prog Rows.fnExactShuffleCoinsRow.origin Rows.fnExactShuffleCoinsRow.targs := of_decide_eq_true (by kernel_rfl)
theorem lawShuffleCoins.wrap : Try.f11.isWrapper Try.pinned.checked.prog Rows.fnExactShuffleCoinsRow.wrapper Rows.fnExactShuffleCoinsRow.mainSum := by
  unfold Func.isWrapper; first | (rw [if_pos (by decide +kernel)]; kernel_rfl) | (rw [if_neg (by decide +kernel)]; exact ⟨rfl, rfl⟩)
theorem lawShuffleCoins.over : Rows.fnExactShuffleCoinsRow.holds Try.pinned (OpenSpec.ofChange Rows.fnExactShuffleCoinsSpec) :=
  OpenClaim.holds_of_wide 11 Try.f11 rfl rfl rfl rfl rfl rfl rfl ⟨rfl, rfl, rfl, rfl, rfl⟩ rfl rfl rfl rfl rfl lawShuffleCoins.named Try.func11 lawShuffleCoins.closed
    lawShuffleCoins.inst lawShuffleCoins.wrap (fun os started H enc _ => lawShuffleCoins.lifted os started H enc)

theorem lawShuffleCoins.proved : Rows.FnExactShuffleCoinsSaid := lawShuffleCoins.over
#print axioms lawShuffleCoins.proved
end Go.Proofs.Ytlalpblinhhnlaa
