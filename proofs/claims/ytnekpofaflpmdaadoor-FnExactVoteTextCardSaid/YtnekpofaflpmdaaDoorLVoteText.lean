/- The law FnExactVoteText returns true for every input, and so does its card. It holds without a condition. -/
import Derived.Test.YtnekpofaflpmdaaDoorRows
import Derived.Test.YtnekpofaflpmdaaDoorCards
import Derived.Test.YtnekpofaflpmdaaDoorTie
import Derived.SevenTiedAt
import Derived.Test.YtnekpofaflpmdaaDoorFacts
import Derived.Test.YtnekpofaflpmdaaDoorVti
import Derived.Test.YtnekpofaflpmdaaDoorEq
import Derived.ProofKit
import Derived.LaidMore
import Derived.OpenShut
import Derived.Stop.Joined
namespace Go.Proofs.YtnekpofaflpmdaaDoor
open Go.ChangeShapes Go.WideShapes Go.ChangeAt Go.RowKit
set_option linter.unusedVariables false
namespace lawVoteText
def vtR (a b c d f : Int) (v : List Int) : ByteArray := if ivB a b c d f v = true then vtT a v else ⟨#[]⟩
theorem sVoteText_any (a b c d f : Int) (A : Option Addr) (n k : Nat) (v : List Int) (w : World) (ha : RdI w A v) (hl : v.length = n) (hn : n ≤ 1048576) (hk : n ≤ k ∧ k ≤ maxLen) :
    Calls Tryd.prog 11 #[.agg #[.int .i64 a, .int .i64 b, .int .i64 c, .int .i64 d, .int .i64 f], .slice A n k] w fun e w' => e = .returned (.tuple #[.string (vtR a b c d f v), .bool (ivB a b c d f v)]) ∧ Ext w w' :=
  Go.Proofs.YtnekpofaflpmdaaDoor.sVoteText_any a b c d f A n k v w ha hl hn hk
theorem iVoteText_any (a b c d f : Int) (A : Option Addr) (n k : Nat) (v : List Int) (w : World) (ha : RdI w A v) (hl : v.length = n) (hn : n ≤ 1048576) (hk : n ≤ k ∧ k ≤ maxLen) :
    Calls Tryd.prog 13 #[.agg #[.int .i64 a, .int .i64 b, .int .i64 c, .int .i64 d, .int .i64 f], .slice A n k] w fun e w' => e = .returned (.tuple #[.string (vtR a b c d f v), .bool (ivB a b c d f v)]) ∧ Ext w w' :=
  Go.Proofs.YtnekpofaflpmdaaDoor.iVoteText_any a b c d f A n k v w ha hl hn hk
set_option maxHeartbeats 1000000 in
theorem walk (x0_0 x0_1 x0_2 x0_3 x0_4 : Int) (A1 : Option Addr) (l1 : List Int) (c1 : Nat) (w : World) (f0_0 : Fits x0_0) (f0_1 : Fits x0_1) (f0_2 : Fits x0_2) (f0_3 : Fits x0_3) (f0_4 : Fits x0_4) (r1 : RdI w A1 l1) (b1 : l1.length ≤ c1) (m1 : c1 ≤ maxLen) (z1 : A1 = none → c1 = 0) (f1 : ∀ n ∈ l1, Fits n) :
    Calls Tryd.prog 4 #[.agg #[.int .i64 x0_0, .int .i64 x0_1, .int .i64 x0_2, .int .i64 x0_3, .int .i64 x0_4], .slice A1 l1.length c1] w fun e w' => e = .returned (.bool true) ∧ Ext w w' := by
  have M1 : l1.length ≤ 9223372036854775807 := by unfold maxLen at m1; omega
  clear z1 f1
  generalize hn1 : l1.length = n1 at *
  have Hn1 := Lib.hid hn1
  clear hn1
  rcases Nat.lt_or_ge 1048576 n1 with S1 | S1
  · go_enter Tryd.func4, Tryd.ntmps4
    go_wp2
    go_ret
    exact ⟨rfl, ((Ext.refl w).alloc _)⟩
  go_enter Tryd.func4, Tryd.ntmps4
  go_wp2_with fail
  have B0 := Blk.new (w) 23 #[.int .i64 x0_0, .int .i64 x0_1, .int .i64 x0_2, .int .i64 x0_3, .int .i64 x0_4]
  have E := ((Ext.refl w).alloc (.cells #[.int .i64 x0_0, .int .i64 x0_1, .int .i64 x0_2, .int .i64 x0_3, .int .i64 x0_4] 23))
  generalize w.alloc (.cells #[.int .i64 x0_0, .int .i64 x0_1, .int .i64 x0_2, .int .i64 x0_3, .int .i64 x0_4] 23) = w0 at *
  have C0 := B0.cells
  go_wp2_with fail
  refine (toContest_any _ _ _ _ _ _).mono ?_
  rintro e w1 ⟨rfl, hb⟩
  replace E := E.trans hb
  replace B0 := B0.ext hb
  clear hb C0
  have LB0_t1 := B0.lt
  have Zt1 := E.size
  have C0 := B0.cells
  go_wp2_with fail
  refine (toIntS_any _ _ _ _ _ (r1.ext E) Hn1 (by omega)).mono ?_
  rintro e w2 ⟨At1, ct1, rfl, t1, hb⟩
  replace E := E.trans hb
  replace B0 := B0.ext hb
  clear hb C0
  have C0 := B0.cells
  go_wp2_with fail
  refine (sVoteText_any x0_0 x0_1 x0_2 x0_3 x0_4 At1 n1 ct1 l1 _ t1.rd t1.len S1 t1.cap).mono ?_
  rintro e w3 ⟨rfl, hb⟩
  replace E := E.trans hb
  replace B0 := B0.ext hb
  replace t1 := t1.ext hb
  clear hb C0
  have LB0_x1 := B0.lt
  have Zx1 := E.size
  have C0 := B0.cells
  go_wp2_with fail
  refine (toIntS_any _ _ _ _ _ (r1.ext E) Hn1 (by omega)).mono ?_
  rintro e w4 ⟨Ax1, cx1, rfl, x1, hb⟩
  replace E := E.trans hb
  replace B0 := B0.ext hb
  clear hb C0
  have C0 := B0.cells
  go_wp2_with fail
  refine (toContest_any _ _ _ _ _ _).mono ?_
  rintro e w5 ⟨rfl, hb⟩
  replace E := E.trans hb
  replace B0 := B0.ext hb
  replace x1 := x1.ext hb
  clear hb C0
  have C0 := B0.cells
  go_wp2_with fail
  refine (iVoteText_any x0_0 x0_1 x0_2 x0_3 x0_4 Ax1 n1 cx1 l1 _ x1.rd x1.len S1 x1.cap).mono ?_
  rintro e w6 ⟨rfl, hb⟩
  replace E := E.trans hb
  replace B0 := B0.ext hb
  replace x1 := x1.ext hb
  clear hb C0
  have Lx1_t2 := x1.low
  have LB0_t2 := B0.lt
  have Zt2 := E.size
  have C0 := B0.cells
  go_wp2_with fail
  refine (toIntS_any _ _ _ _ _ (r1.ext E) Hn1 (by omega)).mono ?_
  rintro e w7 ⟨At2, ct2, rfl, t2, hb⟩
  replace E := E.trans hb
  replace B0 := B0.ext hb
  replace x1 := x1.ext hb
  clear hb C0
  have C0 := B0.cells
  go_wp2_with fail
  refine (eqIntS_same x1.rd t2.rd x1.len t2.len x1.le t2.le).mono ?_
  rintro e w8 ⟨rfl, hb⟩
  replace E := E.trans hb
  replace B0 := B0.ext hb
  replace x1 := x1.ext hb
  replace t2 := t2.ext hb
  clear hb C0
  go_wp2
  go_ret
  exact ⟨rfl, E⟩
end lawVoteText

set_option maxRecDepth 100000 in
theorem lawVoteText.door_met (os : Os) (args : Array Value) : laidMetH Tryd.prog Rows.fnExactVoteTextRow.laid ((World.doorLaid Tryd.prog 400 os).forCall (fun _ _ => 0) ⟨#[], args, []⟩).memory :=
  laidMetH_of_parts3 (fuel := 8) (laidMet_of_run' 8 (by kernel_rfl) (by kernel_rfl)) (by kernel_rfl) (by kernel_rfl)
set_option maxRecDepth 100000 in
theorem lawVoteText.lifted (os : Os) (started : os.Started) (H : Type) (enc : TypeId × Value → H) :
    ReturnsInHanded {} Tryd.checked os 4 .any (fun w args => (Rows.fnExactVoteTextSpec.pre enc Tryd.prog Tryd.f4 [] false w args ∧ laidMetH Tryd.prog Rows.fnExactVoteTextRow.laid w) ∧ sizedMet enc Tryd.prog Tryd.f4 (OpenSpec.ofChange Rows.fnExactVoteTextSpec) false w args) (Rows.fnExactVoteTextSpec.post enc Tryd.prog Tryd.f4 false true false false) := by
  refine returnsInHanded_of_change_and (C := Tryd.checked) (X := (fun w _ => laidMetH Tryd.prog Rows.fnExactVoteTextRow.laid w)) (fun _ _ _ hh h => h.of_heap hh) Facts.own started (by kernel_rfl) Tryd.func4
    (ChangeSpec.witness_shaped (enc := enc) (C := Tryd.checked) (os := os) (X := (fun w _ => laidMetH Tryd.prog Rows.fnExactVoteTextRow.laid w)) false (World.doorLaid Tryd.prog 400 os) #[.agg #[.int .i64 0, .int .i64 0, .int .i64 0, .int .i64 0, .int .i64 0], .slice none 0 0] 8 rfl (World.shaped_of_RefB (by kernel_rfl) (by kernel_rfl)) (by kernel_rfl) (by kernel_rfl) (by kernel_rfl) (lawVoteText.door_met os _)) ?_
  intro W base args ds gs before hval0 hW _ _ hL _
  have hval : ∀ (j : Nat) t v, Tryd.f4.params[j]? = some t → args[j]? = some v → Value.okWide Tryd.prog W .any base t v := hval0
  have hW' := hW
  obtain ⟨p, q, hA0, hV, rfl, hfz, hnd⟩ := hW
  have hA : DataW.TrodAll enc Tryd.prog W 0 (fun _ => true) true Tryd.f4.params.toList args.toList ds p := hA0
  rw [Tryd.params4] at hA hval
  obtain ⟨v0, vs0, d0, ds0, p0, q0, hargs, rfl, rfl, h0, r0⟩ := trodAll_cons hA
  obtain ⟨v1, vs1, d1, ds1, p1, q1, rfl, rfl, rfl, h1, r1⟩ := trodAll_cons r0
  obtain ⟨rfl, rfl, rfl⟩ := trodAll_nil r1
  obtain rfl : args = #[v0, v1] := by cases args; simp_all
  obtain ⟨rfl, rfl⟩ := trodVars_none hV
  have hlt := hW'.lt
  clear hA hA0 hval0 hargs r0 r1
  have k0 := h0
  have k1 := h1
  obtain ⟨x0_0, x0_1, x0_2, x0_3, x0_4, rfl, f0_0, f0_1, f0_2, f0_3, f0_4⟩ := openAgg5 Tryd.underlying23 (by kernel_rfl) (by kernel_rfl) rfl (hval 0 23 v0 rfl rfl) h0
  obtain ⟨A1, l1, c1, rfl, r1, b1, m1, z1, f1⟩ := openIS Tryd.underlying24 Tryd.underlying3 (by kernel_rfl) (hval 1 24 v1 rfl rfl) h1
  refine (lawVoteText.walk x0_0 x0_1 x0_2 x0_3 x0_4 A1 l1 c1 W f0_0 f0_1 f0_2 f0_3 f0_4 r1 b1 m1 z1 f1).mono fun e W' ⟨he, hg⟩ => ?_
  subst he
  exact ⟨_, rfl, post_below (pv := []) hW' (fun _ _ _ => (trodAll_cons_mk (shut_bool Tryd.underlying4 _) trodAll_mk0)) (fun sp hsp => (trodAll_cons_mk (WideElems.Trod_stays Facts.laidOut (by kernel_rfl) (of_decide_eq_true (by kernel_rfl)) k0 (fun x hx => hg.same (hlt x (by simp [hx]))) (fun x hx => hsp x (by simp [hx]))) (trodAll_cons_mk (WideElems.Trod_stays Facts.laidOut (by kernel_rfl) (of_decide_eq_true (by kernel_rfl)) k1 (fun x hx => hg.same (hlt x (by simp [hx]))) (fun x hx => hsp x (by simp [hx]))) trodAll_mk0))) (fun _ _ => rfl) rfl
    hg (ok_one (by kernel_rfl) rfl (okWide_bool_mk Tryd.underlying4 _))⟩

theorem lawVoteText.named : Tryd.pinned.checked.prog.funcNamed Rows.fnExactVoteTextRow.func = some 4 := by kernel_rfl
theorem lawVoteText.z9 : (Rows.fnExactVoteTextRow.inPlace == Tryd.prog.inPlace 4) = true := by kernel_rfl
theorem lawVoteText.z10 : (Rows.fnExactVoteTextRow.unfollowed == Tryd.prog.unfollowed 4) = true := by kernel_rfl
theorem lawVoteText.z11 : (Rows.fnExactVoteTextRow.recurses == Tryd.prog.recurses 4) = true := by kernel_rfl
theorem lawVoteText.z12 : (Rows.fnExactVoteTextRow.named == Tryd.prog.varsNamed 4) = true := by kernel_rfl
theorem lawVoteText.closed : joinedFacts Tryd.prog 4 Tryd.f4 Rows.fnExactVoteTextSpec Rows.fnExactVoteTextRow = true :=
  joined_of (by kernel_rfl) Facts.laidOut Facts.mapsRowed (by kernel_rfl) (by kernel_rfl) (by kernel_rfl) (by kernel_rfl) (by kernel_rfl) (by kernel_rfl) lawVoteText.z9 lawVoteText.z10 lawVoteText.z11 lawVoteText.z12 (by kernel_rfl) (by kernel_rfl) (by kernel_rfl) (by kernel_rfl) (by kernel_rfl) (by kernel_rfl) (by kernel_rfl) (by kernel_rfl) (by kernel_rfl) (by rw [Facts.plainKeys]; rfl) (by kernel_rfl) Facts.heard Facts.enter (by rw [Facts.lifts]; rfl) (by rw [Facts.make]; rfl) (by kernel_rfl) (by kernel_rfl) (by kernel_rfl) (by kernel_rfl)
theorem lawVoteText.inst : Tryd.f4.isInstance Tryd.pinned.checked.prog Rows.fnExactVoteTextRow.origin Rows.fnExactVoteTextRow.targs := of_decide_eq_true (by kernel_rfl)
theorem lawVoteText.wrap : Tryd.f4.isWrapper Tryd.pinned.checked.prog Rows.fnExactVoteTextRow.wrapper Rows.fnExactVoteTextRow.mainSum := by
  unfold Func.isWrapper; first | (rw [if_pos (by decide +kernel)]; kernel_rfl) | (rw [if_neg (by decide +kernel)]; exact ⟨rfl, rfl⟩)
theorem lawVoteText.over : Rows.fnExactVoteTextRow.holds Tryd.pinned (OpenSpec.ofChange Rows.fnExactVoteTextSpec) :=
  OpenClaim.holds_of_wide 4 Tryd.f4 rfl rfl rfl rfl rfl rfl rfl ⟨rfl, rfl, rfl, rfl, rfl⟩ rfl rfl rfl rfl rfl lawVoteText.named Tryd.func4 lawVoteText.closed
    lawVoteText.inst lawVoteText.wrap (fun os started H enc _ => lawVoteText.lifted os started H enc)

theorem lawVoteText.proved : Rows.FnExactVoteTextSaid := lawVoteText.over
#print axioms lawVoteText.proved
theorem lawVoteText.card : Rows.FnExactVoteTextCardSaid :=
  Claim7.holds_tied_plain_at .later [] [.data, .data, .data] true (true, "da006d2338af7422832dd12c35189fd84343ebbf85098efa27d32d31d3436edf") true
    lawVoteText.proved (fun _ h => by cases h) (by kernel_rfl) (fun _ h => by cases h) fnExactVoteText_row_tie rfl ⟨rfl, rfl⟩ (by kernel_rfl) rfl
    (fun f fn hf hfn => by
      obtain rfl : f = 4 := Option.some.inj ((show Tryd.prog.funcNamed "loop.example/g00878/laws.FnExactVoteText" = some 4 by kernel_rfl).symm.trans hf) |>.symm
      obtain rfl : fn = Tryd.f4 := (Option.some.inj (Tryd.func4.symm.trans hfn)).symm
      exact ⟨by kernel_rfl, fun j t ht => by
        rw [Tryd.params4] at ht
        have hm : t ∈ [23, 24] := by simpa using Array.mem_of_getElem? ht
        have hall : ([23, 24].all fun u => !Tryd.prog.wantsStandIn u) = true := by kernel_rfl
        exact (show Tryd.prog.wantsStandIn t = false by simpa using List.all_eq_true.1 hall t hm)⟩)
    (by kernel_rfl)
#print axioms lawVoteText.card
end Go.Proofs.YtnekpofaflpmdaaDoor
