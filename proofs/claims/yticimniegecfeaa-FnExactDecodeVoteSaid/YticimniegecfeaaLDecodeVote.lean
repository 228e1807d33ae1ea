/- The law FnExactDecodeVote returns true for every input. It holds without a condition. -/
import Derived.Test.YticimniegecfeaaRows
import Derived.Test.YticimniegecfeaaDec2
import Derived.Test.YticimniegecfeaaEq
import Derived.Test.YticimniegecfeaaCon
import Derived.Test.YticimniegecfeaaFacts
namespace Go.Proofs.Yticimniegecfeaa
open Go.ChangeShapes Go.WideShapes Go.ChangeAt Go.RowKit
set_option linter.unusedVariables false

namespace lawDecodeVote
set_option maxHeartbeats 1000000 in
theorem walk (x0_0 x0_1 x0_2 x0_3 x0_4 : Int) (a1 : Int) (w : World) (f0_0 : Fits x0_0) (f0_1 : Fits x0_1) (f0_2 : Fits x0_2) (f0_3 : Fits x0_3) (f0_4 : Fits x0_4) (f1 : Fits a1) :
    Calls Try.prog 15 #[.agg #[.int .i64 x0_0, .int .i64 x0_1, .int .i64 x0_2, .int .i64 x0_3, .int .i64 x0_4], .int .i64 a1] w fun e w' => e = .returned (.bool true) ∧ Ext w w' := by
  go_enter Try.func15, Try.ntmps15
  go_wp2_with fail
  have B0 := Blk.new (w) 92 #[.int .i64 x0_0, .int .i64 x0_1, .int .i64 x0_2, .int .i64 x0_3, .int .i64 x0_4]
  have E := ((Ext.refl w).alloc (.cells #[.int .i64 x0_0, .int .i64 x0_1, .int .i64 x0_2, .int .i64 x0_3, .int .i64 x0_4] 92))
  generalize w.alloc (.cells #[.int .i64 x0_0, .int .i64 x0_1, .int .i64 x0_2, .int .i64 x0_3, .int .i64 x0_4] 92) = w0 at *
  have C0 := B0.cells
  go_wp2_with fail
  refine (toContest_any _ _ _ _ _ _).mono ?_
  rintro e w1 ⟨rfl, hb⟩
  replace E := E.trans hb
  replace B0 := B0.ext hb
  clear hb C0
  have LB0_w0 := B0.lt
  have Zw0 := E.size
  have C0 := B0.cells
  go_wp2_with fail
  refine (sDecodeVote_any x0_0 x0_1 x0_2 x0_3 x0_4 a1 _ f1).mono ?_
  rintro e w2 ⟨Aw0, nw0, cw0, rfl, w0, hb⟩
  replace E := E.trans hb
  replace B0 := B0.ext hb
  clear hb C0
  have Nw0 : nw0 ≤ 100000 := Nat.le_trans (Nat.le_of_eq w0.len.symm) (decR_bd _ _ _ _ _ _)
  have C0 := B0.cells
  go_wp2_with fail
  refine (toContest_any _ _ _ _ _ _).mono ?_
  rintro e w3 ⟨rfl, hb⟩
  replace E := E.trans hb
  replace B0 := B0.ext hb
  replace w0 := w0.ext hb
  clear hb C0
  have Lw0_g0 := w0.low
  have LB0_g0 := B0.lt
  have Zg0 := E.size
  have C0 := B0.cells
  go_wp2_with fail
  refine (iDecodeVote_any x0_0 x0_1 x0_2 x0_3 x0_4 a1 _ f1).mono ?_
  rintro e w4 ⟨Ag0, ng0, cg0, rfl, g0, hb⟩
  replace E := E.trans hb
  replace B0 := B0.ext hb
  replace w0 := w0.ext hb
  clear hb C0
  have Ng0 : ng0 ≤ 100000 := Nat.le_trans (Nat.le_of_eq g0.len.symm) (decR_bd _ _ _ _ _ _)
  have C0 := B0.cells
  go_wp2_with fail
  refine (eqIntS_same g0.rd w0.rd g0.len w0.len g0.le w0.le).mono ?_
  rintro e w5 ⟨rfl, hb⟩
  replace E := E.trans hb
  replace B0 := B0.ext hb
  replace w0 := w0.ext hb
  replace g0 := g0.ext hb
  clear hb C0
  have C0 := B0.cells
  go_wp2_with fail
  refine (markIntS_any g0 (by omega) (by omega)).mono ?_
  rintro e w6 ⟨rfl, hm, hO⟩
  replace E := E.only hO (g0.high.mono Zg0)
  replace B0 := B0.only hO (fun hh => absurd (g0.high _ hh) (Nat.not_le.2 LB0_g0))
  replace w0 := w0.only hO (Apart.of_low Lw0_g0 g0.high)
  clear hO g0 C0
  have g0 := hm
  clear hm
  have C0 := B0.cells
  go_wp2_with fail
  refine (heldIntS_any g0.rd (by omega) (by omega)).mono ?_
  rintro e w7 ⟨rfl, hb⟩
  replace E := E.trans hb
  replace B0 := B0.ext hb
  replace w0 := w0.ext hb
  replace g0 := g0.ext hb
  clear hb C0
  have C0 := B0.cells
  go_wp2_with fail
  refine (toContest_any _ _ _ _ _ _).mono ?_
  rintro e w8 ⟨rfl, hb⟩
  replace E := E.trans hb
  replace B0 := B0.ext hb
  replace w0 := w0.ext hb
  replace g0 := g0.ext hb
  clear hb C0
  have Lw0_h0 := w0.low
  have Lg0_h0 := g0.low
  have LB0_h0 := B0.lt
  have Zh0 := E.size
  have C0 := B0.cells
  go_wp2_with fail
  refine (iDecodeVote_any x0_0 x0_1 x0_2 x0_3 x0_4 a1 _ f1).mono ?_
  rintro e w9 ⟨Ah0, nh0, ch0, rfl, h0, hb⟩
  replace E := E.trans hb
  replace B0 := B0.ext hb
  replace w0 := w0.ext hb
  replace g0 := g0.ext hb
  clear hb C0
  have Nh0 : nh0 ≤ 100000 := Nat.le_trans (Nat.le_of_eq h0.len.symm) (decR_bd _ _ _ _ _ _)
  have C0 := B0.cells
  go_wp2_with fail
  refine (eqIntS_same h0.rd w0.rd h0.len w0.len h0.le w0.le).mono ?_
  rintro e w10 ⟨rfl, hb⟩
  replace E := E.trans hb
  replace B0 := B0.ext hb
  replace w0 := w0.ext hb
  replace g0 := g0.ext hb
  replace h0 := h0.ext hb
  clear hb C0
  have C0 := B0.cells
  go_wp2_with fail
  refine (heldIntS_any g0.rd (by omega) (by omega)).mono ?_
  rintro e w11 ⟨rfl, hb⟩
  replace E := E.trans hb
  replace B0 := B0.ext hb
  replace w0 := w0.ext hb
  replace g0 := g0.ext hb
  replace h0 := h0.ext hb
  clear hb C0
  go_wp2
  go_ret
  exact ⟨rfl, E⟩
end lawDecodeVote

set_option maxRecDepth 100000 in
theorem lawDecodeVote.lifted (os : Os) (started : os.Started) (H : Type) (enc : TypeId × Value → H) :
    ReturnsInHanded {} Try.checked os 15 .any (Rows.fnExactDecodeVoteSpec.pre6 enc Try.prog Try.f15 Rows.fnExactDecodeVoteRow.domain false) (Rows.fnExactDecodeVoteSpec.post enc Try.prog Try.f15 false true false false) := by
  refine returnsInHanded_of_change (C := Try.checked) Facts.own started (by kernel_rfl) Try.func15
    (ChangeSpec.witness6 (enc := enc) (C := Try.checked) false ⟨#[], #[.agg #[.int .i64 0, .int .i64 0, .int .i64 0, .int .i64 0, .int .i64 0], .int .i64 0], []⟩ 8 (by kernel_rfl) (by kernel_rfl) (by kernel_rfl) (by kernel_rfl)) ?_
  intro W base args ds gs before hval0 hW _ _
  have hval : ∀ (j : Nat) t v, Try.f15.params[j]? = some t → args[j]? = some v → Value.okWide Try.prog W .any base t v := hval0
  have hW' := hW
  obtain ⟨p, q, hA0, hV, rfl, hfz, hnd⟩ := hW
  have hA : DataW.TrodAll enc Try.prog W 0 (fun _ => true) true Try.f15.params.toList args.toList ds p := hA0
  rw [Try.params15] at hA hval
  obtain ⟨v0, vs0, d0, ds0, p0, q0, hargs, rfl, rfl, h0, r0⟩ := trodAll_cons hA
  obtain ⟨v1, vs1, d1, ds1, p1, q1, rfl, rfl, rfl, h1, r1⟩ := trodAll_cons r0
  obtain ⟨rfl, rfl, rfl⟩ := trodAll_nil r1
  obtain rfl : args = #[v0, v1] := by cases args; simp_all
  obtain ⟨rfl, rfl⟩ := trodVars_none hV
  have hlt := hW'.lt
  clear hA hA0 hval0 hargs r0 r1
  have k0 := h0
  have k1 := h1
  obtain ⟨x0_0, x0_1, x0_2, x0_3, x0_4, rfl, f0_0, f0_1, f0_2, f0_3, f0_4⟩ := openAgg5 Try.underlying92 (by kernel_rfl) (by kernel_rfl) rfl (hval 0 92 v0 rfl rfl) h0
  obtain ⟨a1, rfl, f1⟩ := openI Try.underlying3 (hval 1 3 v1 rfl rfl) h1
  refine (lawDecodeVote.walk x0_0 x0_1 x0_2 x0_3 x0_4 a1 W f0_0 f0_1 f0_2 f0_3 f0_4 f1).mono fun e W' ⟨he, hg⟩ => ?_
  subst he
  exact ⟨_, rfl, post_below (pv := []) hW' (fun _ _ _ => (trodAll_cons_mk (shut_bool Try.underlying4 _) trodAll_mk0)) (fun sp hsp => (trodAll_cons_mk (WideElems.Trod_stays Facts.laidOut (by kernel_rfl) (of_decide_eq_true (by kernel_rfl)) k0 (fun x hx => hg.same (hlt x (by simp [hx]))) (fun x hx => hsp x (by simp [hx]))) (trodAll_cons_mk (WideElems.Trod_stays Facts.laidOut (by kernel_rfl) (of_decide_eq_true (by kernel_rfl)) k1 (fun x hx => hg.same (hlt x (by simp [hx]))) (fun x hx => hsp x (by simp [hx]))) trodAll_mk0))) (fun _ _ => rfl) rfl
    hg (ok_one (by kernel_rfl) rfl (okWide_bool_mk Try.underlying4 _))⟩

theorem lawDecodeVote.named : Try.pinned.checked.prog.funcNamed Rows.fnExactDecodeVoteRow.func = some 15 := by kernel_rfl
theorem lawDecodeVote.z9 : (Rows.fnExactDecodeVoteRow.inPlace == Try.prog.inPlace 15) = true := by kernel_rfl
theorem lawDecodeVote.z10 : (Rows.fnExactDecodeVoteRow.unfollowed == Try.prog.unfollowed 15) = true := by kernel_rfl
theorem lawDecodeVote.z11 : (Rows.fnExactDecodeVoteRow.recurses == Try.prog.recurses 15) = true := by kernel_rfl
theorem lawDecodeVote.z12 : (Rows.fnExactDecodeVoteRow.named == Try.prog.varsNamed 15) = true := by kernel_rfl
theorem lawDecodeVote.closed : joinedFacts Try.prog 15 Try.f15 Rows.fnExactDecodeVoteSpec Rows.fnExactDecodeVoteRow = true :=
  joined_of (by kernel_rfl) Facts.laidOut Facts.mapsRowed (by kernel_rfl) (by kernel_rfl) (by kernel_rfl) (by kernel_rfl) (by kernel_rfl) (by kernel_rfl) lawDecodeVote.z9 lawDecodeVote.z10 lawDecodeVote.z11 lawDecodeVote.z12 (by kernel_rfl) (by kernel_rfl) (by kernel_rfl) (by kernel_rfl) (by kernel_rfl) (by kernel_rfl) (by kernel_rfl) (by kernel_rfl) (by kernel_rfl) (by rw [Facts.plainKeys]; rfl) (by kernel_rfl) Facts.heard Facts.enter (by rw [Facts.lifts]; rfl) (by rw [Facts.make]; rfl) (by kernel_rfl) (by kernel_rfl) (by kernel_rfl) (by kernel_rfl)
theorem lawDecodeVote.inst : Try.f15.isInstance Try.pinned.checked.prog Rows.fnExactDecodeVoteRow.origin Rows.fnExactDecodeVoteRow.targs := of_decide_eq_true (by kernel_rfl)
theorem lawDecodeVote.wrap : Try.f15.isWrapper Try.pinned.checked.prog Rows.fnExactDecodeVoteRow.wrapper Rows.fnExactDecodeVoteRow.mainSum := by
  unfold Func.isWrapper; first | (rw [if_pos (by decide +kernel)]; kernel_rfl) | (rw [if_neg (by decide +kernel)]; exact ⟨rfl, rfl⟩)
theorem lawDecodeVote.over : Rows.fnExactDecodeVoteRow.holds Try.pinned (OpenSpec.ofChange Rows.fnExactDecodeVoteSpec) :=
  OpenClaim.holds_of_wide 15 Try.f15 rfl rfl rfl rfl rfl rfl rfl ⟨rfl, rfl, rfl, rfl, rfl⟩ rfl rfl rfl rfl rfl lawDecodeVote.named Try.func15 lawDecodeVote.closed
    lawDecodeVote.inst lawDecodeVote.wrap (fun os started H enc _ => lawDecodeVote.lifted os started H enc)

theorem lawDecodeVote.proved : Rows.FnExactDecodeVoteSaid := lawDecodeVote.over
#print axioms lawDecodeVote.proved
end Go.Proofs.Yticimniegecfeaa
