/- The law FnExactParseVote returns true for every input, and so does its card. It holds without a condition. -/
import Derived.Test.YtnekpofaflpmdaaDoorRows
import Derived.Test.YtnekpofaflpmdaaDoorCards
import Derived.Test.YtnekpofaflpmdaaDoorTie
import Derived.SevenTiedAt
import Derived.Test.YtnekpofaflpmdaaDoorFacts
import Derived.Test.YtnekpofaflpmdaaDoorPri
import Derived.Test.YtnekpofaflpmdaaDoorLtc
import Derived.Test.YtnekpofaflpmdaaDoorEq
import Derived.ProofKit
import Derived.LaidMore
import Derived.OpenShut
import Derived.Stop.Joined
namespace Go.Proofs.YtnekpofaflpmdaaDoor
open Go.ChangeShapes Go.WideShapes Go.ChangeAt Go.RowKit
set_option linter.unusedVariables false
namespace lawParseVote
theorem sParseVote_any (a b c d f : Int) (s : ByteArray) (w : World) (hs : s.size ≤ 1048576) (_ : LibW w) :
    Calls Tryd.prog 5 #[.agg #[.int .i64 a, .int .i64 b, .int .i64 c, .int .i64 d, .int .i64 f], .string s] w fun e w' => ResI 3 w (pvO a b c d f s) e w' :=
  Go.Proofs.YtnekpofaflpmdaaDoor.sParseVote_any a b c d f s w hs
set_option maxHeartbeats 1000000 in
theorem walk (x0_0 x0_1 x0_2 x0_3 x0_4 : Int) (a1 : ByteArray) (w : World) (f0_0 : Fits x0_0) (f0_1 : Fits x0_1) (f0_2 : Fits x0_2) (f0_3 : Fits x0_3) (f0_4 : Fits x0_4) (f1 : a1.size ≤ maxLen) (hL : LibW w) :
    Calls Tryd.prog 3 #[.agg #[.int .i64 x0_0, .int .i64 x0_1, .int .i64 x0_2, .int .i64 x0_3, .int .i64 x0_4], .string a1] w fun e w' => e = .returned (.bool true) ∧ Ext w w' := by
  rcases Nat.lt_or_ge 1048576 a1.size with S1 | S1
  · go_enter Tryd.func3, Tryd.ntmps3
    go_wp2
    go_ret
    exact ⟨rfl, ((Ext.refl w).alloc _)⟩
  go_enter Tryd.func3, Tryd.ntmps3
  go_wp2_with fail
  have B0 := Blk.new (w) 23 #[.int .i64 x0_0, .int .i64 x0_1, .int .i64 x0_2, .int .i64 x0_3, .int .i64 x0_4]
  have E := ((Ext.refl w).alloc (.cells #[.int .i64 x0_0, .int .i64 x0_1, .int .i64 x0_2, .int .i64 x0_3, .int .i64 x0_4] 23))
  generalize w.alloc (.cells #[.int .i64 x0_0, .int .i64 x0_1, .int .i64 x0_2, .int .i64 x0_3, .int .i64 x0_4] 23) = w0 at *
  have C0 := B0.cells
  go_wp2_with fail
  refine (toContest_any _ _ _ _ _ _).mono ?_
  rintro e w1 ⟨rfl, hb⟩
  replace E := E.trans hb
  replace B0 := B0.ext hb
  clear hb C0
  have LB0_w0 := B0.lt
  have Zw0 := E.size
  have C0 := B0.cells
  go_wp2_with fail
  refine (sParseVote_any x0_0 x0_1 x0_2 x0_3 x0_4 a1 _ S1 (hL.ext E)).mono ?_
  rintro e w2 ⟨Aw0, nw0, cw0, rfl, w0, hb⟩
  replace E := E.trans hb
  replace B0 := B0.ext hb
  clear hb C0
  have Nw0 : nw0 ≤ 100000 := Nat.le_trans (Nat.le_of_eq w0.len.symm) (pvO_bd _ _ _ _ _ _)
  have C0 := B0.cells
  go_wp2_with fail
  refine (toContest_any _ _ _ _ _ _).mono ?_
  rintro e w3 ⟨rfl, hb⟩
  replace E := E.trans hb
  replace B0 := B0.ext hb
  replace w0 := w0.ext hb
  clear hb C0
  have Lw0_g0 := w0.low
  have LB0_g0 := B0.lt
  have Zg0 := E.size
  have C0 := B0.cells
  go_wp2_with fail
  refine (iParseVote_any x0_0 x0_1 x0_2 x0_3 x0_4 a1 _ S1 (hL.ext E)).mono ?_
  rintro e w4 ⟨Ag0, ng0, cg0, rfl, g0, hb⟩
  replace E := E.trans hb
  replace B0 := B0.ext hb
  replace w0 := w0.ext hb
  clear hb C0
  have Ng0 : ng0 ≤ 100000 := Nat.le_trans (Nat.le_of_eq g0.len.symm) (pvO_bd _ _ _ _ _ _)
  have C0 := B0.cells
  go_wp2_with fail
  refine (eqIntS_same g0.rd w0.rd g0.len w0.len g0.le w0.le).mono ?_
  rintro e w5 ⟨rfl, hb⟩
  replace E := E.trans hb
  replace B0 := B0.ext hb
  replace w0 := w0.ext hb
  replace g0 := g0.ext hb
  clear hb C0
  have C0 := B0.cells
  go_wp2_with fail
  refine (markIntS_any g0 (by omega) (by omega)).mono ?_
  rintro e w6 ⟨rfl, hm, hO⟩
  replace E := E.only hO (g0.high.mono Zg0)
  replace B0 := B0.only hO (fun hh => absurd (g0.high _ hh) (Nat.not_le.2 LB0_g0))
  replace w0 := w0.only hO (Apart.of_low Lw0_g0 g0.high)
  clear hO g0 C0
  have g0 := hm
  clear hm
  have C0 := B0.cells
  go_wp2_with fail
  refine (heldIntS_any g0.rd (by omega) (by omega)).mono ?_
  rintro e w7 ⟨rfl, hb⟩
  replace E := E.trans hb
  replace B0 := B0.ext hb
  replace w0 := w0.ext hb
  replace g0 := g0.ext hb
  clear hb C0
  have C0 := B0.cells
  go_wp2_with fail
  refine (toContest_any _ _ _ _ _ _).mono ?_
  rintro e w8 ⟨rfl, hb⟩
  replace E := E.trans hb
  replace B0 := B0.ext hb
  replace w0 := w0.ext hb
  replace g0 := g0.ext hb
  clear hb C0
  have Lw0_h0 := w0.low
  have Lg0_h0 := g0.low
  have LB0_h0 := B0.lt
  have Zh0 := E.size
  have C0 := B0.cells
  go_wp2_with fail
  refine (iParseVote_any x0_0 x0_1 x0_2 x0_3 x0_4 a1 _ S1 (hL.ext E)).mono ?_
  rintro e w9 ⟨Ah0, nh0, ch0, rfl, h0, hb⟩
  replace E := E.trans hb
  replace B0 := B0.ext hb
  replace w0 := w0.ext hb
  replace g0 := g0.ext hb
  clear hb C0
  have Nh0 : nh0 ≤ 100000 := Nat.le_trans (Nat.le_of_eq h0.len.symm) (pvO_bd _ _ _ _ _ _)
  have C0 := B0.cells
  go_wp2_with fail
  refine (eqIntS_same h0.rd w0.rd h0.len w0.len h0.le w0.le).mono ?_
  rintro e w10 ⟨rfl, hb⟩
  replace E := E.trans hb
  replace B0 := B0.ext hb
  replace w0 := w0.ext hb
  replace g0 := g0.ext hb
  replace h0 := h0.ext hb
  clear hb C0
  have C0 := B0.cells
  go_wp2_with fail
  refine (heldIntS_any g0.rd (by omega) (by omega)).mono ?_
  rintro e w11 ⟨rfl, hb⟩
  replace E := E.trans hb
  replace B0 := B0.ext hb
  replace w0 := w0.ext hb
  replace g0 := g0.ext hb
  replace h0 := h0.ext hb
  clear hb C0
  go_wp2
  go_ret
  exact ⟨rfl, E⟩
end lawParseVote

set_option maxRecDepth 100000 in
theorem lawParseVote.door_met (os : Os) (args : Array Value) : laidMetH Tryd.prog Rows.fnExactParseVoteRow.laid ((World.laidAll Tryd.prog os Rows.fnExactParseVoteRow.laid).forCall (fun _ _ => 0) ⟨#[], args, []⟩).memory := by
  rw [MakeChecks.laidMetH_plain _ _ _ (by kernel_rfl)]; exact laidMet_laidAll _ (by kernel_rfl) (by kernel_rfl)
set_option maxRecDepth 100000 in
theorem lawParseVote.lifted (os : Os) (started : os.Started) (H : Type) (enc : TypeId × Value → H) :
    ReturnsInHanded {} Tryd.checked os 3 .any (fun w args => (Rows.fnExactParseVoteSpec.pre enc Tryd.prog Tryd.f3 [] false w args ∧ laidMetH Tryd.prog Rows.fnExactParseVoteRow.laid w) ∧ sizedMet enc Tryd.prog Tryd.f3 (OpenSpec.ofChange Rows.fnExactParseVoteSpec) false w args) (Rows.fnExactParseVoteSpec.post enc Tryd.prog Tryd.f3 false true false false) := by
  refine returns_shaped (C := Tryd.checked) (X := (fun w _ => laidMetH Tryd.prog Rows.fnExactParseVoteRow.laid w)) (fun _ _ _ hh h => h.of_heap hh) Facts.own started (by kernel_rfl) Tryd.func3
    (ChangeSpec.witness_shaped (enc := enc) (C := Tryd.checked) (os := os) (X := (fun w _ => laidMetH Tryd.prog Rows.fnExactParseVoteRow.laid w)) false (World.laidAll Tryd.prog os Rows.fnExactParseVoteRow.laid) #[.agg #[.int .i64 0, .int .i64 0, .int .i64 0, .int .i64 0, .int .i64 0], .string ⟨#[]⟩] 8 (World.laidAll_os _ _ _) (World.shaped_of_ZipB (by kernel_rfl) (by kernel_rfl)) (by kernel_rfl) (by kernel_rfl) (by kernel_rfl) (lawParseVote.door_met os _)) ?_
  intro W base args ds gs before hval0 hW _ hL hsh
  have hval : ∀ (j : Nat) t v, Tryd.f3.params[j]? = some t → args[j]? = some v → Value.okWide Tryd.prog W .any base t v := hval0
  have hW' := hW
  obtain ⟨p, q, hA0, hV, rfl, hfz, hnd⟩ := hW
  have hA : DataW.TrodAll enc Tryd.prog W 0 (fun _ => true) true Tryd.f3.params.toList args.toList ds p := hA0
  rw [Tryd.params3] at hA hval
  obtain ⟨v0, vs0, d0, ds0, p0, q0, hargs, rfl, rfl, h0, r0⟩ := trodAll_cons hA
  obtain ⟨v1, vs1, d1, ds1, p1, q1, rfl, rfl, rfl, h1, r1⟩ := trodAll_cons r0
  obtain ⟨rfl, rfl, rfl⟩ := trodAll_nil r1
  obtain rfl : args = #[v0, v1] := by cases args; simp_all
  obtain ⟨rfl, rfl⟩ := trodVars_none hV
  have hlt := hW'.lt
  clear hA hA0 hval0 hargs r0 r1
  have k0 := h0
  have k1 := h1
  obtain ⟨x0_0, x0_1, x0_2, x0_3, x0_4, rfl, f0_0, f0_1, f0_2, f0_3, f0_4⟩ := openAgg5 Tryd.underlying23 (by kernel_rfl) (by kernel_rfl) rfl (hval 0 23 v0 rfl rfl) h0
  obtain ⟨s1, rfl, _, _, f1⟩ := Go.ChangeMaps.open_string Tryd.underlying9 (hval 1 9 v1 rfl rfl) h1
  refine (lawParseVote.walk x0_0 x0_1 x0_2 x0_3 x0_4 s1 W f0_0 f0_1 f0_2 f0_3 f0_4 f1 (libW_of hL hsh)).mono fun e W' ⟨he, hg⟩ => ?_
  subst he
  exact ⟨_, rfl, post_below (pv := []) hW' (fun _ _ _ => (trodAll_cons_mk (shut_bool Tryd.underlying4 _) trodAll_mk0)) (fun sp hsp => (trodAll_cons_mk (WideElems.Trod_stays Facts.laidOut (by kernel_rfl) (of_decide_eq_true (by kernel_rfl)) k0 (fun x hx => hg.same (hlt x (by simp [hx]))) (fun x hx => hsp x (by simp [hx]))) (trodAll_cons_mk (WideElems.Trod_stays Facts.laidOut (by kernel_rfl) (of_decide_eq_true (by kernel_rfl)) k1 (fun x hx => hg.same (hlt x (by simp [hx]))) (fun x hx => hsp x (by simp [hx]))) trodAll_mk0))) (fun _ _ => rfl) rfl
    hg (ok_one (by kernel_rfl) rfl (okWide_bool_mk Tryd.underlying4 _))⟩

theorem lawParseVote.named : Tryd.pinned.checked.prog.funcNamed Rows.fnExactParseVoteRow.func = some 3 := by kernel_rfl
theorem lawParseVote.z9 : (Rows.fnExactParseVoteRow.inPlace == Tryd.prog.inPlace 3) = true := by kernel_rfl
theorem lawParseVote.z10 : (Rows.fnExactParseVoteRow.unfollowed == Tryd.prog.unfollowed 3) = true := by kernel_rfl
theorem lawParseVote.z11 : (Rows.fnExactParseVoteRow.recurses == Tryd.prog.recurses 3) = true := by kernel_rfl
theorem lawParseVote.z12 : (Rows.fnExactParseVoteRow.named == Tryd.prog.varsNamed 3) = true := by kernel_rfl
theorem lawParseVote.closed : joinedFacts Tryd.prog 3 Tryd.f3 Rows.fnExactParseVoteSpec Rows.fnExactParseVoteRow = true :=
  joined_of (by kernel_rfl) Facts.laidOut Facts.mapsRowed (by kernel_rfl) (by kernel_rfl) (by kernel_rfl) (by kernel_rfl) (by kernel_rfl) (by kernel_rfl) lawParseVote.z9 lawParseVote.z10 lawParseVote.z11 lawParseVote.z12 (by kernel_rfl) (by kernel_rfl) (by kernel_rfl) (by kernel_rfl) (by kernel_rfl) (by kernel_rfl) (by kernel_rfl) (by kernel_rfl) (by kernel_rfl) (by rw [Facts.plainKeys]; rfl) (by kernel_rfl) Facts.heard Facts.enter (by rw [Facts.lifts]; rfl) (by rw [Facts.make]; rfl) (by kernel_rfl) (by kernel_rfl) (by kernel_rfl) (by kernel_rfl)
theorem lawParseVote.inst : Tryd.f3.isInstance Tryd.pinned.checked.prog Rows.fnExactParseVoteRow.origin Rows.fnExactParseVoteRow.targs := of_decide_eq_true (by kernel_rfl)
theorem lawParseVote.wrap : Tryd.f3.isWrapper Tryd.pinned.checked.prog Rows.fnExactParseVoteRow.wrapper Rows.fnExactParseVoteRow.mainSum := by
  unfold Func.isWrapper; first | (rw [if_pos (by decide +kernel)]; kernel_rfl) | (rw [if_neg (by decide +kernel)]; exact ⟨rfl, rfl⟩)
theorem lawParseVote.over : Rows.fnExactParseVoteRow.holds Tryd.pinned (OpenSpec.ofChange Rows.fnExactParseVoteSpec) :=
  OpenClaim.holds_of_wide 3 Tryd.f3 rfl rfl rfl rfl rfl rfl rfl ⟨rfl, rfl, rfl, rfl, rfl⟩ rfl rfl rfl rfl rfl lawParseVote.named Tryd.func3 lawParseVote.closed
    lawParseVote.inst lawParseVote.wrap (fun os started H enc _ => lawParseVote.lifted os started H enc)

theorem lawParseVote.proved : Rows.FnExactParseVoteSaid := lawParseVote.over
#print axioms lawParseVote.proved
theorem lawParseVote.card : Rows.FnExactParseVoteCardSaid :=
  Claim7.holds_tied_plain_at .later [] [.data, .data, .data, .data, .sentinel, .sentinel, .pinned] true (true, "da006d2338af7422832dd12c35189fd84343ebbf85098efa27d32d31d3436edf") true
    lawParseVote.proved (fun _ h => by cases h) (by kernel_rfl) (fun _ h => by cases h) fnExactParseVote_row_tie rfl ⟨rfl, rfl⟩ (by kernel_rfl) rfl
    (fun f fn hf hfn => by
      obtain rfl : f = 3 := Option.some.inj ((show Tryd.prog.funcNamed "loop.example/g00878/laws.FnExactParseVote" = some 3 by kernel_rfl).symm.trans hf) |>.symm
      obtain rfl : fn = Tryd.f3 := (Option.some.inj (Tryd.func3.symm.trans hfn)).symm
      exact ⟨by kernel_rfl, fun j t ht => by
        rw [Tryd.params3] at ht
        have hm : t ∈ [23, 9] := by simpa using Array.mem_of_getElem? ht
        have hall : ([23, 9].all fun u => !Tryd.prog.wantsStandIn u) = true := by kernel_rfl
        exact (show Tryd.prog.wantsStandIn t = false by simpa using List.all_eq_true.1 hall t hm)⟩)
    (by kernel_rfl)
#print axioms lawParseVote.card
end Go.Proofs.YtnekpofaflpmdaaDoor
