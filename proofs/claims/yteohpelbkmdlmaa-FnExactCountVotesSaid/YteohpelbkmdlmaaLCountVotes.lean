/- The law FnExactCountVotes returns true for every input. It holds without a condition. -/
import Derived.Test.YteohpelbkmdlmaaRows
import Derived.Test.YteohpelbkmdlmaaCnt2
import Derived.Test.YteohpelbkmdlmaaFacts
namespace Go.Proofs.Yteohpelbkmdlmaa
open Go.ChangeShapes Go.WideShapes Go.ChangeAt Go.RowKit
set_option linter.unusedVariables false

namespace lawCountVotes
set_option maxHeartbeats 1000000 in
theorem walk (x0_0 x0_1 x0_2 x0_3 x0_4 : Int) (w : World) (f0_0 : Fits x0_0) (f0_1 : Fits x0_1) (f0_2 : Fits x0_2) (f0_3 : Fits x0_3) (f0_4 : Fits x0_4) :
    Calls Try.prog 4 #[.agg #[.int .i64 x0_0, .int .i64 x0_1, .int .i64 x0_2, .int .i64 x0_3, .int .i64 x0_4]] w fun e w' => e = .returned (.bool true) ∧ Ext w w' := by
  go_enter Try.func4, Try.ntmps4
  go_wp2_with fail
  have B0 := Blk.new (w) 29 #[.int .i64 x0_0, .int .i64 x0_1, .int .i64 x0_2, .int .i64 x0_3, .int .i64 x0_4]
  have E := ((Ext.refl w).alloc (.cells #[.int .i64 x0_0, .int .i64 x0_1, .int .i64 x0_2, .int .i64 x0_3, .int .i64 x0_4] 29))
  generalize w.alloc (.cells #[.int .i64 x0_0, .int .i64 x0_1, .int .i64 x0_2, .int .i64 x0_3, .int .i64 x0_4] 29) = w0 at *
  have C0 := B0.cells
  go_wp2_with fail
  refine (toContest_any _ _ _ _ _ _).mono ?_
  rintro e w1 ⟨rfl, hb⟩
  replace E := E.trans hb
  replace B0 := B0.ext hb
  clear hb C0
  have C0 := B0.cells
  go_wp2_with fail
  refine (sCountVotes_any x0_0 x0_1 x0_2 x0_3 x0_4 _).mono ?_
  rintro e w2 ⟨rfl, hb⟩
  replace E := E.trans hb
  replace B0 := B0.ext hb
  clear hb C0
  have C0 := B0.cells
  go_wp2_with fail
  refine (toContest_any _ _ _ _ _ _).mono ?_
  rintro e w3 ⟨rfl, hb⟩
  replace E := E.trans hb
  replace B0 := B0.ext hb
  clear hb C0
  have C0 := B0.cells
  go_wp2_with fail
  refine (iCountVotes_any x0_0 x0_1 x0_2 x0_3 x0_4 _).mono ?_
  rintro e w4 ⟨rfl, hb⟩
  replace E := E.trans hb
  replace B0 := B0.ext hb
  clear hb C0
  go_wp2
  go_ret
  exact ⟨rfl, E⟩
end lawCountVotes

set_option maxRecDepth 100000 in
theorem lawCountVotes.lifted (os : Os) (started : os.Started) (H : Type) (enc : TypeId × Value → H) :
    ReturnsInHanded {} Try.checked os 4 .any (Rows.fnExactCountVotesSpec.pre6 enc Try.prog Try.f4 Rows.fnExactCountVotesRow.domain false) (Rows.fnExactCountVotesSpec.post enc Try.prog Try.f4 false true false false) := by
  refine returnsInHanded_of_change (C := Try.checked) Facts.own started (by kernel_rfl) Try.func4
    (ChangeSpec.witness6 (enc := enc) (C := Try.checked) false ⟨#[], #[.agg #[.int .i64 0, .int .i64 0, .int .i64 0, .int .i64 0, .int .i64 0]], []⟩ 8 (by kernel_rfl) (by kernel_rfl) (by kernel_rfl) (by kernel_rfl)) ?_
  intro W base args ds gs before hval0 hW _ _
  have hval : ∀ (j : Nat) t v, Try.f4.params[j]? = some t → args[j]? = some v → Value.okWide Try.prog W .any base t v := hval0
  have hW' := hW
  obtain ⟨p, q, hA0, hV, rfl, hfz, hnd⟩ := hW
  have hA : DataW.TrodAll enc Try.prog W 0 (fun _ => true) true Try.f4.params.toList args.toList ds p := hA0
  rw [Try.params4] at hA hval
  obtain ⟨v0, vs0, d0, ds0, p0, q0, hargs, rfl, rfl, h0, r0⟩ := trodAll_cons hA
  obtain ⟨rfl, rfl, rfl⟩ := trodAll_nil r0
  obtain rfl : args = #[v0] := by cases args; simp_all
  obtain ⟨rfl, rfl⟩ := trodVars_none hV
  have hlt := hW'.lt
  clear hA hA0 hval0 hargs r0
  have k0 := h0
  obtain ⟨x0_0, x0_1, x0_2, x0_3, x0_4, rfl, f0_0, f0_1, f0_2, f0_3, f0_4⟩ := openAgg5 Try.underlying29 (by kernel_rfl) (by kernel_rfl) rfl (hval 0 29 v0 rfl rfl) h0
  refine (lawCountVotes.walk x0_0 x0_1 x0_2 x0_3 x0_4 W f0_0 f0_1 f0_2 f0_3 f0_4).mono fun e W' ⟨he, hg⟩ => ?_
  subst he
  exact ⟨_, rfl, post_below (pv := []) hW' (fun _ _ _ => (trodAll_cons_mk (shut_bool Try.underlying4 _) trodAll_mk0)) (fun sp hsp => (trodAll_cons_mk (WideElems.Trod_stays Facts.laidOut (by kernel_rfl) (of_decide_eq_true (by kernel_rfl)) k0 (fun x hx => hg.same (hlt x (by simp [hx]))) (fun x hx => hsp x (by simp [hx]))) trodAll_mk0)) (fun _ _ => rfl) rfl
    hg (ok_one (by kernel_rfl) rfl (okWide_bool_mk Try.underlying4 _))⟩

theorem lawCountVotes.named : Try.pinned.checked.prog.funcNamed Rows.fnExactCountVotesRow.func = some 4 := by kernel_rfl
theorem lawCountVotes.z9 : (Rows.fnExactCountVotesRow.inPlace == Try.prog.inPlace 4) = true := by kernel_rfl
theorem lawCountVotes.z10 : (Rows.fnExactCountVotesRow.unfollowed == Try.prog.unfollowed 4) = true := by kernel_rfl
theorem lawCountVotes.z11 : (Rows.fnExactCountVotesRow.recurses == Try.prog.recurses 4) = true := by kernel_rfl
theorem lawCountVotes.z12 : (Rows.fnExactCountVotesRow.named == Try.prog.varsNamed 4) = true := by kernel_rfl
theorem lawCountVotes.closed : joinedFacts Try.prog 4 Try.f4 Rows.fnExactCountVotesSpec Rows.fnExactCountVotesRow = true :=
  joined_of (by kernel_rfl) Facts.laidOut Facts.mapsRowed (by kernel_rfl) (by kernel_rfl) (by kernel_rfl) (by kernel_rfl) (by kernel_rfl) (by kernel_rfl) lawCountVotes.z9 lawCountVotes.z10 lawCountVotes.z11 lawCountVotes.z12 (by kernel_rfl) (by kernel_rfl) (by kernel_rfl) (by kernel_rfl) (by kernel_rfl) (by kernel_rfl) (by kernel_rfl) (by kernel_rfl) (by kernel_rfl) (by rw [Facts.plainKeys]; rfl) (by kernel_rfl) Facts.heard Facts.enter (by rw [Facts.lifts]; rfl) (by rw [Facts.make]; rfl) (by kernel_rfl) (by kernel_rfl) (by kernel_rfl) (by kernel_rfl)
theorem lawCountVotes.inst : Try.f4.isInstance Try.pinned.checked.prog Rows.fnExactCountVotesRow.origin Rows.fnExactCountVotesRow.targs := of_decide_eq_true (by kernel_rfl)
theorem lawCountVotes.wrap : Try.f4.isWrapper Try.pinned.checked.prog Rows.fnExactCountVotesRow.wrapper Rows.fnExactCountVotesRow.mainSum := by
  unfold Func.isWrapper; first | (rw [if_pos (by decide +kernel)]; kernel_rfl) | (rw [if_neg (by decide +kernel)]; exact ⟨rfl, rfl⟩)
theorem lawCountVotes.over : Rows.fnExactCountVotesRow.holds Try.pinned (OpenSpec.ofChange Rows.fnExactCountVotesSpec) :=
  OpenClaim.holds_of_wide 4 Try.f4 rfl rfl rfl rfl rfl rfl rfl ⟨rfl, rfl, rfl, rfl, rfl⟩ rfl rfl rfl rfl rfl lawCountVotes.named Try.func4 lawCountVotes.closed
    lawCountVotes.inst lawCountVotes.wrap (fun os started H enc _ => lawCountVotes.lifted os started H enc)

theorem lawCountVotes.proved : Rows.FnExactCountVotesSaid := lawCountVotes.over
#print axioms lawCountVotes.proved
end Go.Proofs.Yteohpelbkmdlmaa
