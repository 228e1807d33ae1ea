/- The law FnExactIsSealable returns true for every input. It holds without a condition. -/
import Derived.Test.YteohpelbkmdlmaaRows
import Derived.Test.YteohpelbkmdlmaaSea3
import Derived.Test.YteohpelbkmdlmaaCon
import Derived.Test.YteohpelbkmdlmaaFacts
namespace Go.Proofs.Yteohpelbkmdlmaa
open Go.ChangeShapes Go.WideShapes Go.ChangeAt Go.RowKit
set_option linter.unusedVariables false

namespace lawIsSealable
set_option maxRecDepth 100000 in
set_option maxHeartbeats 2000000 in
theorem walk (p q g a b c d f : Int) (w : World) (fp_ : Fits p) (fq_ : Fits q) (fg_ : Fits g) (fa_ : Fits a) (fb_ : Fits b) (fc_ : Fits c) (fd_ : Fits d) (ff_ : Fits f) :
    Calls Try.prog 13 #[.agg #[.int .i64 p, .int .i64 q, .int .i64 g], .agg #[.int .i64 a, .int .i64 b, .int .i64 c, .int .i64 d, .int .i64 f]] w fun e w' => e = .returned (.bool true) ∧ Ext w w' := by
  have E := (((Ext.refl w).alloc (.cells #[.int .i64 p, .int .i64 q, .int .i64 g] 70)).alloc (.cells #[.int .i64 a, .int .i64 b, .int .i64 c, .int .i64 d, .int .i64 f] 29))
  have Bg := Blk.new (w) 70 #[.int .i64 p, .int .i64 q, .int .i64 g]
  have Bc := Blk.new (w.alloc (.cells #[.int .i64 p, .int .i64 q, .int .i64 g] 70)) 29 #[.int .i64 a, .int .i64 b, .int .i64 c, .int .i64 d, .int .i64 f]
  replace Bg := Bg.alloc (.cells #[.int .i64 a, .int .i64 b, .int .i64 c, .int .i64 d, .int .i64 f] 29)
  simp only [World.size_alloc] at Bc
  go_enter Try.func13, Try.ntmps13
  go_wp2_with fail
  generalize (w.alloc (.cells #[.int .i64 p, .int .i64 q, .int .i64 g] 70)).alloc (.cells #[.int .i64 a, .int .i64 b, .int .i64 c, .int .i64 d, .int .i64 f] 29) = w0 at *
  have Cg := Bg.cells
  have Cc := Bc.cells
  go_upto_region 1 with (fail)
  go_cut [5] from 7 to 12 (fun v wx => v = .bool (seaB p q g a b c d f) ∧ Ext w0.drew wx)
  case first =>
    (first | go_region_with (first | (go_at_call 62; refine (toGroup_any p q g _).mono ?_; rintro e w1 ⟨rfl, hb1⟩; have Cg1 := (Bg.drew.ext hb1).cells; have Cc1 := (Bc.drew.ext hb1).cells) | (go_at_call 27; refine (toContest_any a b c d f _).mono ?_; rintro e w2 ⟨rfl, hb2⟩) | (refine (sIsSealable_any p q g a b c d f _).mono ?_; rintro e w3 ⟨rfl, hb3⟩)) | fail)
    all_goals (go_wp2; go_meet; exact ⟨rfl, (hb1.trans hb2).trans hb3⟩)
  case rest =>
  obtain ⟨rfl, hbr1⟩ := hcut
  replace E := E.drew.trans hbr1
  replace Bg := Bg.drew.ext hbr1
  replace Bc := Bc.drew.ext hbr1
  clear hbr1 Cg Cc
  have Cg := Bg.cells
  have Cc := Bc.cells
  go_upto_region 2 with (fail)
  go_cut [6] from 12 to 17 (fun v wx => v = .bool (seaB p q g a b c d f) ∧ Ext wc.drew wx)
  case first =>
    (first | go_region_with (first | (go_at_call 62; refine (toGroup_any p q g _).mono ?_; rintro e w1 ⟨rfl, hb1⟩; have Cg1 := (Bg.drew.ext hb1).cells; have Cc1 := (Bc.drew.ext hb1).cells) | (go_at_call 27; refine (toContest_any a b c d f _).mono ?_; rintro e w2 ⟨rfl, hb2⟩) | (refine (iIsSealable_any p q g a b c d f _).mono ?_; rintro e w3 ⟨rfl, hb3⟩)) | fail)
    all_goals (go_wp2; go_meet; exact ⟨rfl, (hb1.trans hb2).trans hb3⟩)
  case rest =>
  obtain ⟨rfl, hbr2⟩ := hcut
  replace E := E.drew.trans hbr2
  go_wp2
  go_ret
  exact ⟨rfl, E⟩
end lawIsSealable

set_option maxRecDepth 100000 in
theorem lawIsSealable.lifted (os : Os) (started : os.Started) (H : Type) (enc : TypeId × Value → H) :
    ReturnsInHanded {} Try.checked os 13 .any (Rows.fnExactIsSealableSpec.pre6 enc Try.prog Try.f13 Rows.fnExactIsSealableRow.domain false) (Rows.fnExactIsSealableSpec.post enc Try.prog Try.f13 false true false false) := by
  refine returnsInHanded_of_change (C := Try.checked) Facts.own started (by kernel_rfl) Try.func13
    (ChangeSpec.witness6 (enc := enc) (C := Try.checked) false ⟨#[], #[.agg #[.int .i64 0, .int .i64 0, .int .i64 0], .agg #[.int .i64 0, .int .i64 0, .int .i64 0, .int .i64 0, .int .i64 0]], []⟩ 8 (by kernel_rfl) (by kernel_rfl) (by kernel_rfl) (by kernel_rfl)) ?_
  intro W base args ds gs before hval0 hW _ _
  have hval : ∀ (j : Nat) t v, Try.f13.params[j]? = some t → args[j]? = some v → Value.okWide Try.prog W .any base t v := hval0
  have hW' := hW
  obtain ⟨p, q, hA0, hV, rfl, hfz, hnd⟩ := hW
  have hA : DataW.TrodAll enc Try.prog W 0 (fun _ => true) true Try.f13.params.toList args.toList ds p := hA0
  rw [Try.params13] at hA hval
  obtain ⟨v0, vs0, d0, ds0, p0, q0, hargs, rfl, rfl, h0, r0⟩ := trodAll_cons hA
  obtain ⟨v1, vs1, d1, ds1, p1, q1, rfl, rfl, rfl, h1, r1⟩ := trodAll_cons r0
  obtain ⟨rfl, rfl, rfl⟩ := trodAll_nil r1
  obtain rfl : args = #[v0, v1] := by cases args; simp_all
  obtain ⟨rfl, rfl⟩ := trodVars_none hV
  have hlt := hW'.lt
  clear hA hA0 hval0 hargs r0 r1
  have k0 := h0
  have k1 := h1
  obtain ⟨x0_0, x0_1, x0_2, rfl, f0_0, f0_1, f0_2⟩ := openAgg3 Try.underlying70 (by kernel_rfl) (by kernel_rfl) rfl (hval 0 70 v0 rfl rfl) h0
  obtain ⟨x1_0, x1_1, x1_2, x1_3, x1_4, rfl, f1_0, f1_1, f1_2, f1_3, f1_4⟩ := openAgg5 Try.underlying29 (by kernel_rfl) (by kernel_rfl) rfl (hval 1 29 v1 rfl rfl) h1
  refine (lawIsSealable.walk x0_0 x0_1 x0_2 x1_0 x1_1 x1_2 x1_3 x1_4 W f0_0 f0_1 f0_2 f1_0 f1_1 f1_2 f1_3 f1_4).mono fun e W' ⟨he, hg⟩ => ?_
  subst he
  exact ⟨_, rfl, post_below (pv := []) hW' (fun _ _ _ => (trodAll_cons_mk (shut_bool Try.underlying4 _) trodAll_mk0)) (fun sp hsp => (trodAll_cons_mk (WideElems.Trod_stays Facts.laidOut (by kernel_rfl) (of_decide_eq_true (by kernel_rfl)) k0 (fun x hx => hg.same (hlt x (by simp [hx]))) (fun x hx => hsp x (by simp [hx]))) (trodAll_cons_mk (WideElems.Trod_stays Facts.laidOut (by kernel_rfl) (of_decide_eq_true (by kernel_rfl)) k1 (fun x hx => hg.same (hlt x (by simp [hx]))) (fun x hx => hsp x (by simp [hx]))) trodAll_mk0))) (fun _ _ => rfl) rfl
    hg (ok_one (by kernel_rfl) rfl (okWide_bool_mk Try.underlying4 _))⟩

theorem lawIsSealable.named : Try.pinned.checked.prog.funcNamed Rows.fnExactIsSealableRow.func = some 13 := by kernel_rfl
theorem lawIsSealable.z9 : (Rows.fnExactIsSealableRow.inPlace == Try.prog.inPlace 13) = true := by kernel_rfl
theorem lawIsSealable.z10 : (Rows.fnExactIsSealableRow.unfollowed == Try.prog.unfollowed 13) = true := by kernel_rfl
theorem lawIsSealable.z11 : (Rows.fnExactIsSealableRow.recurses == Try.prog.recurses 13) = true := by kernel_rfl
theorem lawIsSealable.z12 : (Rows.fnExactIsSealableRow.named == Try.prog.varsNamed 13) = true := by kernel_rfl
theorem lawIsSealable.closed : joinedFacts Try.prog 13 Try.f13 Rows.fnExactIsSealableSpec Rows.fnExactIsSealableRow = true :=
  joined_of (by kernel_rfl) Facts.laidOut Facts.mapsRowed (by kernel_rfl) (by kernel_rfl) (by kernel_rfl) (by kernel_rfl) (by kernel_rfl) (by kernel_rfl) lawIsSealable.z9 lawIsSealable.z10 lawIsSealable.z11 lawIsSealable.z12 (by kernel_rfl) (by kernel_rfl) (by kernel_rfl) (by kernel_rfl) (by kernel_rfl) (by kernel_rfl) (by kernel_rfl) (by kernel_rfl) (by kernel_rfl) (by rw [Facts.plainKeys]; rfl) (by kernel_rfl) Facts.heard Facts.enter (by rw [Facts.lifts]; rfl) (by rw [Facts.make]; rfl) (by kernel_rfl) (by kernel_rfl) (by kernel_rfl) (by kernel_rfl)
theorem lawIsSealable.inst : Try.f13.isInstance Try.pinned.checked.prog Rows.fnExactIsSealableRow.origin Rows.fnExactIsSealableRow.targs := of_decide_eq_true (by kernel_rfl)
theorem lawIsSealable.wrap : Try.f13.isWrapper Try.pinned.checked.prog Rows.fnExactIsSealableRow.wrapper Rows.fnExactIsSealableRow.mainSum := by
  unfold Func.isWrapper; first | (rw [if_pos (by decide +kernel)]; kernel_rfl) | (rw [if_neg (by decide +kernel)]; exact ⟨rfl, rfl⟩)
theorem lawIsSealable.over : Rows.fnExactIsSealableRow.holds Try.pinned (OpenSpec.ofChange Rows.fnExactIsSealableSpec) :=
  OpenClaim.holds_of_wide 13 Try.f13 rfl rfl rfl rfl rfl rfl rfl ⟨rfl, rfl, rfl, rfl, rfl⟩ rfl rfl rfl rfl rfl lawIsSealable.named Try.func13 lawIsSealable.closed
    lawIsSealable.inst lawIsSealable.wrap (fun os started H enc _ => lawIsSealable.lifted os started H enc)

theorem lawIsSealable.proved : Rows.FnExactIsSealableSaid := lawIsSealable.over
#print axioms lawIsSealable.proved
end Go.Proofs.Yteohpelbkmdlmaa
