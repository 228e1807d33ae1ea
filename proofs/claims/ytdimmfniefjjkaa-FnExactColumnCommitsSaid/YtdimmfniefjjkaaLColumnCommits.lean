/- The law FnExactColumnCommits returns true for every input. It holds without a condition. -/
import Derived.Test.YtdimmfniefjjkaaRows
import Derived.Test.YtdimmfniefjjkaaCol2
import Derived.Test.YtdimmfniefjjkaaEq
import Derived.Test.YtdimmfniefjjkaaFacts
namespace Go.Proofs.Ytdimmfniefjjkaa
open Go.ChangeShapes Go.WideShapes Go.ChangeAt Go.RowKit
set_option linter.unusedVariables false

namespace lawColumnCommits
theorem toGroup_any (p q g : Int) (w : World) : Calls Try.prog 35 #[.agg #[.int .i64 p, .int .i64 q, .int .i64 g]] w fun e w' => e = .returned (.agg #[.int .i64 p, .int .i64 q, .int .i64 g]) ∧ Ext w w' := by
  go_enter Try.func35, Try.ntmps35
  go_wp2
  refine bodyPost_ret (v := .agg #[.int .i64 p, .int .i64 q, .int .i64 g]) (by simp [results, Try.results35, go_sem]) rfl ⟨rfl, ?_⟩
  (repeat (first | exact Ext.refl _ | assumption | apply Ext.drew | apply Ext.drewN | apply Ext.alloc | refine Ext.setCell ?_ (by simp; try omega) _))
set_option maxHeartbeats 1000000 in
theorem walk (x0_0 x0_1 x0_2 : Int) (A1 : Option Addr) (l1 : List Int) (c1 : Nat) (A2 : Option Addr) (l2 : List Int) (c2 : Nat) (w : World) (f0_0 : Fits x0_0) (f0_1 : Fits x0_1) (f0_2 : Fits x0_2) (r1 : RdI w A1 l1) (b1 : l1.length ≤ c1) (m1 : c1 ≤ maxLen) (z1 : A1 = none → c1 = 0) (f1 : ∀ n ∈ l1, Fits n) (r2 : RdI w A2 l2) (b2 : l2.length ≤ c2) (m2 : c2 ≤ maxLen) (z2 : A2 = none → c2 = 0) (f2 : ∀ n ∈ l2, Fits n) :
    Calls Try.prog 8 #[.agg #[.int .i64 x0_0, .int .i64 x0_1, .int .i64 x0_2], .slice A1 l1.length c1, .slice A2 l2.length c2] w fun e w' => e = .returned (.bool true) ∧ Ext w w' := by
  have M1 : l1.length ≤ 9223372036854775807 := by unfold maxLen at m1; omega
  clear z1 f1
  generalize hn1 : l1.length = n1 at *
  have Hn1 := Lib.hid hn1
  clear hn1
  have M2 : l2.length ≤ 9223372036854775807 := by unfold maxLen at m2; omega
  clear z2 f2
  generalize hn2 : l2.length = n2 at *
  have Hn2 := Lib.hid hn2
  clear hn2
  rcases Nat.lt_or_ge 1048576 n1 with S1 | S1
  · go_enter Try.func8, Try.ntmps8
    go_wp2
    go_ret
    exact ⟨rfl, ((Ext.refl w).alloc _)⟩
  rcases Nat.lt_or_ge 1048576 n2 with S2 | S2
  · go_enter Try.func8, Try.ntmps8
    go_wp2
    go_ret
    exact ⟨rfl, ((Ext.refl w).alloc _)⟩
  go_enter Try.func8, Try.ntmps8
  go_wp2_with fail
  have B0 := Blk.new (w) 51 #[.int .i64 x0_0, .int .i64 x0_1, .int .i64 x0_2]
  have E := ((Ext.refl w).alloc (.cells #[.int .i64 x0_0, .int .i64 x0_1, .int .i64 x0_2] 51))
  generalize w.alloc (.cells #[.int .i64 x0_0, .int .i64 x0_1, .int .i64 x0_2] 51) = w0 at *
  have C0 := B0.cells
  go_wp2_with fail
  refine (toGroup_any _ _ _ _).mono ?_
  rintro e w1 ⟨rfl, hb⟩
  replace E := E.trans hb
  replace B0 := B0.ext hb
  clear hb C0
  have LB0_t1 := B0.lt
  have Zt1 := E.size
  have C0 := B0.cells
  go_wp2_with fail
  refine (toIntS_any _ _ _ _ _ (r1.ext E) Hn1 (by omega)).mono ?_
  rintro e w2 ⟨At1, ct1, rfl, t1, hb⟩
  replace E := E.trans hb
  replace B0 := B0.ext hb
  clear hb C0
  have Lt1_t2 := t1.low
  have LB0_t2 := B0.lt
  have Zt2 := E.size
  have C0 := B0.cells
  go_wp2_with fail
  refine (toIntS_any _ _ _ _ _ (r2.ext E) Hn2 (by omega)).mono ?_
  rintro e w3 ⟨At2, ct2, rfl, t2, hb⟩
  replace E := E.trans hb
  replace B0 := B0.ext hb
  replace t1 := t1.ext hb
  clear hb C0
  have Lt1_w0 := t1.low
  have Lt2_w0 := t2.low
  have LB0_w0 := B0.lt
  have Zw0 := E.size
  have C0 := B0.cells
  go_wp2_with fail
  refine (sColumnCommits_any x0_0 x0_1 x0_2 At1 n1 ct1 l1 At2 n2 ct2 l2 _ t1.rd t1.len S1 t1.cap t2.rd t2.len S2 t2.cap).mono ?_
  rintro e w4 ⟨Aw0, nw0, cw0, rfl, w0, hb⟩
  replace E := E.trans hb
  replace B0 := B0.ext hb
  replace t1 := t1.ext hb
  replace t2 := t2.ext hb
  clear hb C0
  have Nw0 : nw0 ≤ 100000 := Nat.le_trans (Nat.le_of_eq w0.len.symm) (ccR_bd _ _ _ _ _)
  have Lw0_x1 := w0.low
  have LB0_x1 := B0.lt
  have Zx1 := E.size
  have C0 := B0.cells
  go_wp2_with fail
  refine (toIntS_any _ _ _ _ _ (r1.ext E) Hn1 (by omega)).mono ?_
  rintro e w5 ⟨Ax1, cx1, rfl, x1, hb⟩
  replace E := E.trans hb
  replace B0 := B0.ext hb
  replace w0 := w0.ext hb
  clear hb C0
  have Lw0_x2 := w0.low
  have Lx1_x2 := x1.low
  have LB0_x2 := B0.lt
  have Zx2 := E.size
  have C0 := B0.cells
  go_wp2_with fail
  refine (toIntS_any _ _ _ _ _ (r2.ext E) Hn2 (by omega)).mono ?_
  rintro e w6 ⟨Ax2, cx2, rfl, x2, hb⟩
  replace E := E.trans hb
  replace B0 := B0.ext hb
  replace w0 := w0.ext hb
  replace x1 := x1.ext hb
  clear hb C0
  have C0 := B0.cells
  go_wp2_with fail
  refine (toGroup_any _ _ _ _).mono ?_
  rintro e w7 ⟨rfl, hb⟩
  replace E := E.trans hb
  replace B0 := B0.ext hb
  replace w0 := w0.ext hb
  replace x1 := x1.ext hb
  replace x2 := x2.ext hb
  clear hb C0
  have Lw0_g0 := w0.low
  have Lx1_g0 := x1.low
  have Lx2_g0 := x2.low
  have LB0_g0 := B0.lt
  have Zg0 := E.size
  have C0 := B0.cells
  go_wp2_with fail
  refine (iColumnCommits_any x0_0 x0_1 x0_2 Ax1 n1 cx1 l1 Ax2 n2 cx2 l2 _ x1.rd x1.len S1 x1.cap x2.rd x2.len S2 x2.cap).mono ?_
  rintro e w8 ⟨Ag0, ng0, cg0, rfl, g0, hb⟩
  replace E := E.trans hb
  replace B0 := B0.ext hb
  replace w0 := w0.ext hb
  replace x1 := x1.ext hb
  replace x2 := x2.ext hb
  clear hb C0
  have Ng0 : ng0 ≤ 100000 := Nat.le_trans (Nat.le_of_eq g0.len.symm) (ccR_bd _ _ _ _ _)
  have C0 := B0.cells
  go_wp2_with fail
  refine (eqIntS_same g0.rd w0.rd g0.len w0.len g0.le w0.le).mono ?_
  rintro e w9 ⟨rfl, hb⟩
  replace E := E.trans hb
  replace B0 := B0.ext hb
  replace w0 := w0.ext hb
  replace x1 := x1.ext hb
  replace x2 := x2.ext hb
  replace g0 := g0.ext hb
  clear hb C0
  have Lw0_t3 := w0.low
  have Lx1_t3 := x1.low
  have Lx2_t3 := x2.low
  have Lg0_t3 := g0.low
  have LB0_t3 := B0.lt
  have Zt3 := E.size
  have C0 := B0.cells
  go_wp2_with fail
  refine (toIntS_any _ _ _ _ _ (r1.ext E) Hn1 (by omega)).mono ?_
  rintro e w10 ⟨At3, ct3, rfl, t3, hb⟩
  replace E := E.trans hb
  replace B0 := B0.ext hb
  replace w0 := w0.ext hb
  replace x1 := x1.ext hb
  replace x2 := x2.ext hb
  replace g0 := g0.ext hb
  clear hb C0
  have C0 := B0.cells
  go_wp2_with fail
  refine (eqIntS_same x1.rd t3.rd x1.len t3.len x1.le t3.le).mono ?_
  rintro e w11 ⟨rfl, hb⟩
  replace E := E.trans hb
  replace B0 := B0.ext hb
  replace w0 := w0.ext hb
  replace x1 := x1.ext hb
  replace x2 := x2.ext hb
  replace g0 := g0.ext hb
  replace t3 := t3.ext hb
  clear hb C0
  have Lw0_t4 := w0.low
  have Lx1_t4 := x1.low
  have Lx2_t4 := x2.low
  have Lg0_t4 := g0.low
  have LB0_t4 := B0.lt
  have Zt4 := E.size
  have C0 := B0.cells
  go_wp2_with fail
  refine (toIntS_any _ _ _ _ _ (r2.ext E) Hn2 (by omega)).mono ?_
  rintro e w12 ⟨At4, ct4, rfl, t4, hb⟩
  replace E := E.trans hb
  replace B0 := B0.ext hb
  replace w0 := w0.ext hb
  replace x1 := x1.ext hb
  replace x2 := x2.ext hb
  replace g0 := g0.ext hb
  clear hb C0
  have C0 := B0.cells
  go_wp2_with fail
  refine (eqIntS_same x2.rd t4.rd x2.len t4.len x2.le t4.le).mono ?_
  rintro e w13 ⟨rfl, hb⟩
  replace E := E.trans hb
  replace B0 := B0.ext hb
  replace w0 := w0.ext hb
  replace x1 := x1.ext hb
  replace x2 := x2.ext hb
  replace g0 := g0.ext hb
  replace t4 := t4.ext hb
  clear hb C0
  have C0 := B0.cells
  go_wp2_with fail
  refine (markIntS_any x1 (by omega) (by omega)).mono ?_
  rintro e w14 ⟨rfl, hm, hO⟩
  replace E := E.only hO (x1.high.mono Zx1)
  replace B0 := B0.only hO (fun hh => absurd (x1.high _ hh) (Nat.not_le.2 LB0_x1))
  replace w0 := w0.only hO (Apart.of_low Lw0_x1 x1.high)
  replace x2 := x2.only hO (Apart.of_high Lx1_x2 x2.high)
  replace g0 := g0.only hO (Apart.of_high Lx1_g0 g0.high)
  clear hO x1 C0
  have x1 := hm
  clear hm
  have C0 := B0.cells
  go_wp2_with fail
  refine (markIntS_any x2 (by omega) (by omega)).mono ?_
  rintro e w15 ⟨rfl, hm, hO⟩
  replace E := E.only hO (x2.high.mono Zx2)
  replace B0 := B0.only hO (fun hh => absurd (x2.high _ hh) (Nat.not_le.2 LB0_x2))
  replace w0 := w0.only hO (Apart.of_low Lw0_x2 x2.high)
  replace x1 := x1.only hO (Apart.of_low Lx1_x2 x2.high)
  replace g0 := g0.only hO (Apart.of_high Lx2_g0 g0.high)
  clear hO x2 C0
  have x2 := hm
  clear hm
  have C0 := B0.cells
  go_wp2_with fail
  refine (eqIntS_same g0.rd w0.rd g0.len w0.len g0.le w0.le).mono ?_
  rintro e w16 ⟨rfl, hb⟩
  replace E := E.trans hb
  replace B0 := B0.ext hb
  replace w0 := w0.ext hb
  replace x1 := x1.ext hb
  replace x2 := x2.ext hb
  replace g0 := g0.ext hb
  clear hb C0
  have C0 := B0.cells
  go_wp2_with fail
  refine (markIntS_any g0 (by omega) (by omega)).mono ?_
  rintro e w17 ⟨rfl, hm, hO⟩
  replace E := E.only hO (g0.high.mono Zg0)
  replace B0 := B0.only hO (fun hh => absurd (g0.high _ hh) (Nat.not_le.2 LB0_g0))
  replace w0 := w0.only hO (Apart.of_low Lw0_g0 g0.high)
  replace x1 := x1.only hO (Apart.of_low Lx1_g0 g0.high)
  replace x2 := x2.only hO (Apart.of_low Lx2_g0 g0.high)
  clear hO g0 C0
  have g0 := hm
  clear hm
  have C0 := B0.cells
  go_wp2_with fail
  refine (heldIntS_any g0.rd (by omega) (by omega)).mono ?_
  rintro e w18 ⟨rfl, hb⟩
  replace E := E.trans hb
  replace B0 := B0.ext hb
  replace w0 := w0.ext hb
  replace x1 := x1.ext hb
  replace x2 := x2.ext hb
  replace g0 := g0.ext hb
  clear hb C0
  have C0 := B0.cells
  go_wp2_with fail
  refine (toGroup_any _ _ _ _).mono ?_
  rintro e w19 ⟨rfl, hb⟩
  replace E := E.trans hb
  replace B0 := B0.ext hb
  replace w0 := w0.ext hb
  replace x1 := x1.ext hb
  replace x2 := x2.ext hb
  replace g0 := g0.ext hb
  clear hb C0
  have Lw0_t5 := w0.low
  have Lx1_t5 := x1.low
  have Lx2_t5 := x2.low
  have Lg0_t5 := g0.low
  have LB0_t5 := B0.lt
  have Zt5 := E.size
  have C0 := B0.cells
  go_wp2_with fail
  refine (toIntS_any _ _ _ _ _ (r1.ext E) Hn1 (by omega)).mono ?_
  rintro e w20 ⟨At5, ct5, rfl, t5, hb⟩
  replace E := E.trans hb
  replace B0 := B0.ext hb
  replace w0 := w0.ext hb
  replace x1 := x1.ext hb
  replace x2 := x2.ext hb
  replace g0 := g0.ext hb
  clear hb C0
  have Lw0_t6 := w0.low
  have Lx1_t6 := x1.low
  have Lx2_t6 := x2.low
  have Lg0_t6 := g0.low
  have Lt5_t6 := t5.low
  have LB0_t6 := B0.lt
  have Zt6 := E.size
  have C0 := B0.cells
  go_wp2_with fail
  refine (toIntS_any _ _ _ _ _ (r2.ext E) Hn2 (by omega)).mono ?_
  rintro e w21 ⟨At6, ct6, rfl, t6, hb⟩
  replace E := E.trans hb
  replace B0 := B0.ext hb
  replace w0 := w0.ext hb
  replace x1 := x1.ext hb
  replace x2 := x2.ext hb
  replace g0 := g0.ext hb
  replace t5 := t5.ext hb
  clear hb C0
  have Lw0_h0 := w0.low
  have Lx1_h0 := x1.low
  have Lx2_h0 := x2.low
  have Lg0_h0 := g0.low
  have Lt5_h0 := t5.low
  have Lt6_h0 := t6.low
  have LB0_h0 := B0.lt
  have Zh0 := E.size
  have C0 := B0.cells
  go_wp2_with fail
  refine (iColumnCommits_any x0_0 x0_1 x0_2 At5 n1 ct5 l1 At6 n2 ct6 l2 _ t5.rd t5.len S1 t5.cap t6.rd t6.len S2 t6.cap).mono ?_
  rintro e w22 ⟨Ah0, nh0, ch0, rfl, h0, hb⟩
  replace E := E.trans hb
  replace B0 := B0.ext hb
  replace w0 := w0.ext hb
  replace x1 := x1.ext hb
  replace x2 := x2.ext hb
  replace g0 := g0.ext hb
  replace t5 := t5.ext hb
  replace t6 := t6.ext hb
  clear hb C0
  have Nh0 : nh0 ≤ 100000 := Nat.le_trans (Nat.le_of_eq h0.len.symm) (ccR_bd _ _ _ _ _)
  have C0 := B0.cells
  go_wp2_with fail
  refine (eqIntS_same h0.rd w0.rd h0.len w0.len h0.le w0.le).mono ?_
  rintro e w23 ⟨rfl, hb⟩
  replace E := E.trans hb
  replace B0 := B0.ext hb
  replace w0 := w0.ext hb
  replace x1 := x1.ext hb
  replace x2 := x2.ext hb
  replace g0 := g0.ext hb
  replace h0 := h0.ext hb
  clear hb C0
  have C0 := B0.cells
  go_wp2_with fail
  refine (heldIntS_any g0.rd (by omega) (by omega)).mono ?_
  rintro e w24 ⟨rfl, hb⟩
  replace E := E.trans hb
  replace B0 := B0.ext hb
  replace w0 := w0.ext hb
  replace x1 := x1.ext hb
  replace x2 := x2.ext hb
  replace g0 := g0.ext hb
  replace h0 := h0.ext hb
  clear hb C0
  go_wp2
  go_ret
  exact ⟨rfl, E⟩
end lawColumnCommits

set_option maxRecDepth 100000 in
theorem lawColumnCommits.lifted (os : Os) (started : os.Started) (H : Type) (enc : TypeId × Value → H) :
    ReturnsInHanded {} Try.checked os 8 .any (Rows.fnExactColumnCommitsSpec.pre6 enc Try.prog Try.f8 Rows.fnExactColumnCommitsRow.domain false) (Rows.fnExactColumnCommitsSpec.post enc Try.prog Try.f8 false true false false) := by
  refine returnsInHanded_of_change (C := Try.checked) Facts.own started (by kernel_rfl) Try.func8
    (ChangeSpec.witness6 (enc := enc) (C := Try.checked) false ⟨#[], #[.agg #[.int .i64 0, .int .i64 0, .int .i64 0], .slice none 0 0, .slice none 0 0], []⟩ 8 (by kernel_rfl) (by kernel_rfl) (by kernel_rfl) (by kernel_rfl)) ?_
  intro W base args ds gs before hval0 hW _ _
  have hval : ∀ (j : Nat) t v, Try.f8.params[j]? = some t → args[j]? = some v → Value.okWide Try.prog W .any base t v := hval0
  have hW' := hW
  obtain ⟨p, q, hA0, hV, rfl, hfz, hnd⟩ := hW
  have hA : DataW.TrodAll enc Try.prog W 0 (fun _ => true) true Try.f8.params.toList args.toList ds p := hA0
  rw [Try.params8] at hA hval
  obtain ⟨v0, vs0, d0, ds0, p0, q0, hargs, rfl, rfl, h0, r0⟩ := trodAll_cons hA
  obtain ⟨v1, vs1, d1, ds1, p1, q1, rfl, rfl, rfl, h1, r1⟩ := trodAll_cons r0
  obtain ⟨v2, vs2, d2, ds2, p2, q2, rfl, rfl, rfl, h2, r2⟩ := trodAll_cons r1
  obtain ⟨rfl, rfl, rfl⟩ := trodAll_nil r2
  obtain rfl : args = #[v0, v1, v2] := by cases args; simp_all
  obtain ⟨rfl, rfl⟩ := trodVars_none hV
  have hlt := hW'.lt
  clear hA hA0 hval0 hargs r0 r1 r2
  have k0 := h0
  have k1 := h1
  have k2 := h2
  obtain ⟨x0_0, x0_1, x0_2, rfl, f0_0, f0_1, f0_2⟩ := openAgg3 Try.underlying51 (by kernel_rfl) (by kernel_rfl) rfl (hval 0 51 v0 rfl rfl) h0
  obtain ⟨A1, l1, c1, rfl, r1, b1, m1, z1, f1⟩ := openIS Try.underlying52 Try.underlying3 (by kernel_rfl) (hval 1 52 v1 rfl rfl) h1
  obtain ⟨A2, l2, c2, rfl, r2, b2, m2, z2, f2⟩ := openIS Try.underlying52 Try.underlying3 (by kernel_rfl) (hval 2 52 v2 rfl rfl) h2
  refine (lawColumnCommits.walk x0_0 x0_1 x0_2 A1 l1 c1 A2 l2 c2 W f0_0 f0_1 f0_2 r1 b1 m1 z1 f1 r2 b2 m2 z2 f2).mono fun e W' ⟨he, hg⟩ => ?_
  subst he
  exact ⟨_, rfl, post_below (pv := []) hW' (fun _ _ _ => (trodAll_cons_mk (shut_bool Try.underlying4 _) trodAll_mk0)) (fun sp hsp => (trodAll_cons_mk (WideElems.Trod_stays Facts.laidOut (by kernel_rfl) (of_decide_eq_true (by kernel_rfl)) k0 (fun x hx => hg.same (hlt x (by simp [hx]))) (fun x hx => hsp x (by simp [hx]))) (trodAll_cons_mk (WideElems.Trod_stays Facts.laidOut (by kernel_rfl) (of_decide_eq_true (by kernel_rfl)) k1 (fun x hx => hg.same (hlt x (by simp [hx]))) (fun x hx => hsp x (by simp [hx]))) (trodAll_cons_mk (WideElems.Trod_stays Facts.laidOut (by kernel_rfl) (of_decide_eq_true (by kernel_rfl)) k2 (fun x hx => hg.same (hlt x (by simp [hx]))) (fun x hx => hsp x (by simp [hx]))) trodAll_mk0)))) (fun _ _ => rfl) rfl
    hg (ok_one (by kernel_rfl) rfl (okWide_bool_mk Try.underlying4 _))⟩

theorem lawColumnCommits.named : Try.pinned.checked.prog.funcNamed Rows.fnExactColumnCommitsRow.func = some 8 := by kernel_rfl
theorem lawColumnCommits.z9 : (Rows.fnExactColumnCommitsRow.inPlace == Try.prog.inPlace 8) = true := by kernel_rfl
theorem lawColumnCommits.z10 : (Rows.fnExactColumnCommitsRow.unfollowed == Try.prog.unfollowed 8) = true := by kernel_rfl
theorem lawColumnCommits.z11 : (Rows.fnExactColumnCommitsRow.recurses == Try.prog.recurses 8) = true := by kernel_rfl
theorem lawColumnCommits.z12 : (Rows.fnExactColumnCommitsRow.named == Try.prog.varsNamed 8) = true := by kernel_rfl
theorem lawColumnCommits.closed : joinedFacts Try.prog 8 Try.f8 Rows.fnExactColumnCommitsSpec Rows.fnExactColumnCommitsRow = true :=
  joined_of (by kernel_rfl) Facts.laidOut Facts.mapsRowed (by kernel_rfl) (by kernel_rfl) (by kernel_rfl) (by kernel_rfl) (by kernel_rfl) (by kernel_rfl) lawColumnCommits.z9 lawColumnCommits.z10 lawColumnCommits.z11 lawColumnCommits.z12 (by kernel_rfl) (by kernel_rfl) (by kernel_rfl) (by kernel_rfl) (by kernel_rfl) (by kernel_rfl) (by kernel_rfl) (by kernel_rfl) (by kernel_rfl) (by rw [Facts.plainKeys]; rfl) (by kernel_rfl) Facts.heard Facts.enter (by rw [Facts.lifts]; rfl) (by rw [Facts.make]; rfl) (by kernel_rfl) (by kernel_rfl) (by kernel_rfl) (by kernel_rfl)
theorem lawColumnCommits.inst : Try.f8.isInstance Try.pinned.checked.prog Rows.fnExactColumnCommitsRow.origin Rows.fnExactColumnCommitsRow.targs := of_decide_eq_true (by kernel_rfl)
theorem lawColumnCommits.wrap : Try.f8.isWrapper Try.pinned.checked.prog Rows.fnExactColumnCommitsRow.wrapper Rows.fnExactColumnCommitsRow.mainSum := by
  unfold Func.isWrapper; first | (rw [if_pos (by decide +kernel)]; kernel_rfl) | (rw [if_neg (by decide +kernel)]; exact ⟨rfl, rfl⟩)
theorem lawColumnCommits.over : Rows.fnExactColumnCommitsRow.holds Try.pinned (OpenSpec.ofChange Rows.fnExactColumnCommitsSpec) :=
  OpenClaim.holds_of_wide 8 Try.f8 rfl rfl rfl rfl rfl rfl rfl ⟨rfl, rfl, rfl, rfl, rfl⟩ rfl rfl rfl rfl rfl lawColumnCommits.named Try.func8 lawColumnCommits.closed
    lawColumnCommits.inst lawColumnCommits.wrap (fun os started H enc _ => lawColumnCommits.lifted os started H enc)

theorem lawColumnCommits.proved : Rows.FnExactColumnCommitsSaid := lawColumnCommits.over
#print axioms lawColumnCommits.proved
end Go.Proofs.Ytdimmfniefjjkaa
