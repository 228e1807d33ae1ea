/- The law FnGroups returns true for every input. It holds without a condition. -/
import Derived.Test.YticimniegecfeaaRows
import Derived.Test.YticimniegecfeaaGrpL
import Derived.Test.YticimniegecfeaaGrpO
import Derived.Test.YticimniegecfeaaCurG3
import Derived.Test.YticimniegecfeaaOpenB
import Derived.Test.YticimniegecfeaaFacts
namespace Go.Proofs.Yticimniegecfeaa
open Go.ChangeShapes Go.WideShapes Go.ChangeAt Go.RowKit
set_option linter.unusedVariables false

namespace lawGroups
set_option maxRecDepth 100000 in
set_option maxHeartbeats 4000000 in
theorem walk (A0 : Option Addr) (l0 : List Int) (c0 : Nat) (A1 : Option Addr) (l1 : List Int) (c1 : Nat) (w : World) (r0 : RdB w A0 l0) (b0 : l0.length ≤ c0) (m0 : c0 ≤ maxLen) (z0 : A0 = none → c0 = 0) (f0 : ∀ n ∈ l0, 0 ≤ n ∧ n ≤ 255) (r1 : RdB w A1 l1) (b1 : l1.length ≤ c1) (m1 : c1 ≤ maxLen) (z1 : A1 = none → c1 = 0) (f1 : ∀ n ∈ l1, 0 ≤ n ∧ n ≤ 255) :
    Calls Try.prog 5 #[.slice A0 l0.length c0, .slice A1 l1.length c1] w fun e w' => e = .returned (.bool true) ∧ Ext w w' := by
  clear z0 z1
  generalize hn0 : l0.length = n0 at *
  generalize hn1 : l1.length = n1 at *
  have Hn0 := Lib.hid hn0
  have Hn1 := Lib.hid hn1
  clear hn0 hn1
  unfold maxLen at m0 m1
  by_cases hbig : (1048576 : Int) < wrap64 ((n0 : Int) + n1)
  · go_enter Try.func5, Try.ntmps5
    go_wp2
    go_ret
    exact ⟨rfl, Ext.refl _⟩
  have hn1b : n1 ≤ 9223372036854775807 := by omega
  have hn0b : n0 ≤ 9223372036854775807 := by omega
  go_enter Try.func5, Try.ntmps5
  go_wp2_with fail
  refine (DrawInverseOf_any A0 n0 c0 l0 _ r0 Hn0.out hn0b f0).mono ?_
  rintro e w2 ⟨P, Q, G, x, rfl, hD, hx0, hx1, E⟩
  have B := Blk.new w2 43 #[.int .i64 P, .int .i64 Q, .int .i64 G]
  replace E := E.alloc (.cells #[.int .i64 P, .int .i64 Q, .int .i64 G] 43)
  cases hkk : grpB P Q G && elB P Q x
  · have HKK := Lib.hid hkk
    clear hkk
    have C := B.cells
    go_wp2_with fail
    refine (iInverseOf_any P Q G x _).mono ?_
    rintro e w3 ⟨he, hb⟩
    rw [HKK.out, if_neg (by decide)] at he
    subst he
    replace E := E.trans hb
    replace B := B.ext hb
    clear C hb
    have C := B.cells
    go_wp2_with fail
    refine (sInverseOf_any P Q G x _).mono ?_
    rintro e w4 ⟨he, hb⟩
    rw [HKK.out, if_neg (by decide)] at he
    subst he
    replace E := E.trans hb
    replace B := B.ext hb
    clear C hb
    go_wp2_with fail
    refine (DrawMakeGroup_any A1 n1 c1 l1 _ (r1.ext E) Hn1.out hn1b f1).mono ?_
    rintro e w5 ⟨oq, rfl, hb⟩

    replace E := E.trans hb
    replace B := B.ext hb
    clear hb

    go_wp2_with fail
    refine (iMakeGroup_any oq _).mono ?_
    rintro e w6 ⟨v, ok, rfl, ho, hb⟩

    replace E := E.trans hb
    replace B := B.ext hb
    clear hb

    obtain ⟨a, b, c, rfl, hok⟩ := mk_out ho
    have BM := Blk.new w6 43 #[.int .i64 a, .int .i64 b, .int .i64 c]
    have hbm := (Ext.refl w6).alloc (.cells #[.int .i64 a, .int .i64 b, .int .i64 c] 43)
    replace E := E.trans hbm
    replace B := B.ext hbm
    clear hbm
    have CM := BM.cells
    go_wp2_with fail
    refine (sMakeGroup_any oq _).mono ?_
    rintro e w7 ⟨v', ok', rfl, ho', hb⟩
    obtain ⟨hv, hk⟩ := MkOut.uniq ho ho'
    subst hv
    subst hk
    replace E := E.trans hb
    replace B := B.ext hb
    replace BM := BM.ext hb
    clear hb CM ho ho'
    have BN := Blk.new w7 43 #[.int .i64 a, .int .i64 b, .int .i64 c]
    have hbm := (Ext.refl w7).alloc (.cells #[.int .i64 a, .int .i64 b, .int .i64 c] 43)
    replace E := E.trans hbm
    replace B := B.ext hbm
    replace BM := BM.ext hbm
    have CM := BM.cells
    have CN := BN.cells
    have CB := B.cells
    clear hbm
    cases ok
    · clear hok
      go_wp2
      go_ret
      exact ⟨rfl, E⟩
    · obtain ⟨hgb, rfl⟩ := hok rfl
      have HGB := Lib.hid hgb
      clear hok hgb
      go_wp2_with fail
      refine (IsValidGroup_any a b c _).mono ?_
      rintro e w8 ⟨he, hb⟩
      rw [HGB.out] at he; subst he
      replace E := E.trans hb
      replace B := B.ext hb
      have CM2 := (BM.ext hb).cells
      clear hb CM CN CB BM BN
      have CB := B.cells
      go_wp2
      go_ret
      exact ⟨rfl, E⟩
  · have hk2 : grpB P Q G = true ∧ elB P Q x = true := by simpa using hkk
    obtain ⟨l1x, l2x, l3x⟩ := inv_law hk2.1 hk2.2
    obtain ⟨y, hy⟩ : ∃ y, gpw P Q x (-1) = y := ⟨_, rfl⟩
    rw [hy] at l1x l2x l3x
    have HKK := Lib.hid hkk
    have HYY := Lib.hid hy
    have HG1 := Lib.hid hk2.1
    have HE := Lib.hid hk2.2
    have HEY := Lib.hid l1x
    have HMU := Lib.hid l2x
    have HLA := Lib.hid l3x
    have hQQ : 2 ≤ Q ∧ Q ≤ 2000000000 := by have := grpB_in hk2.1; have h1 := this.q2; have h2 := this.qp; have h3 := this.p9; omega
    clear hkk hk2 hy l1x l2x l3x
    have C := B.cells
    go_wp2_with fail
    refine (iInverseOf_any P Q G x _).mono ?_
    rintro e w3 ⟨he, hb⟩
    rw [HKK.out, if_pos rfl, HYY.out] at he
    subst he
    replace E := E.trans hb
    replace B := B.ext hb
    clear C hb
    have C := B.cells
    go_wp2_with fail
    refine (sInverseOf_any P Q G x _).mono ?_
    rintro e w4 ⟨he, hb⟩
    rw [HKK.out, if_pos rfl, HYY.out] at he
    subst he
    replace E := E.trans hb
    replace B := B.ext hb
    clear C hb
    go_wp2_with fail
    refine (DrawMakeGroup_any A1 n1 c1 l1 _ (r1.ext E) Hn1.out hn1b f1).mono ?_
    rintro e w5 ⟨oq, rfl, hb⟩

    replace E := E.trans hb
    replace B := B.ext hb
    clear hb

    go_wp2_with fail
    refine (iMakeGroup_any oq _).mono ?_
    rintro e w6 ⟨v, ok, rfl, ho, hb⟩

    replace E := E.trans hb
    replace B := B.ext hb
    clear hb

    obtain ⟨a, b, c, rfl, hok⟩ := mk_out ho
    have BM := Blk.new w6 43 #[.int .i64 a, .int .i64 b, .int .i64 c]
    have hbm := (Ext.refl w6).alloc (.cells #[.int .i64 a, .int .i64 b, .int .i64 c] 43)
    replace E := E.trans hbm
    replace B := B.ext hbm
    clear hbm
    have CM := BM.cells
    go_wp2_with fail
    refine (sMakeGroup_any oq _).mono ?_
    rintro e w7 ⟨v', ok', rfl, ho', hb⟩
    obtain ⟨hv, hk⟩ := MkOut.uniq ho ho'
    subst hv
    subst hk
    replace E := E.trans hb
    replace B := B.ext hb
    replace BM := BM.ext hb
    clear hb CM ho ho'
    have BN := Blk.new w7 43 #[.int .i64 a, .int .i64 b, .int .i64 c]
    have hbm := (Ext.refl w7).alloc (.cells #[.int .i64 a, .int .i64 b, .int .i64 c] 43)
    replace E := E.trans hbm
    replace B := B.ext hbm
    replace BM := BM.ext hbm
    have CM := BM.cells
    have CN := BN.cells
    have CB := B.cells
    clear hbm
    cases ok
    · clear hok
      have hq2 : 2 ≤ Q ∧ Q ≤ 2000000000 := hQQ
      go_wp2_with fail
      refine (iIsElement_any P Q G y _).mono ?_
      rintro e wa ⟨he, hb⟩
      rw [HG1.out, HEY.out] at he
      subst he
      replace E := E.trans hb
      replace B := B.ext hb
      clear hb CB
      have CB := B.cells
      have hI : OwnI (wa.alloc (.cells #[.int .i64 x, .int .i64 y] 3)) wa.heap.size 3 (some ⟨wa.heap.size, 0, none⟩) 2 2 [x, y] := ownI_lit [x, y] rfl rfl (Nat.le_refl _) (by decide)
      replace E := E.alloc (.cells #[.int .i64 x, .int .i64 y] 3)
      replace B := B.alloc (.cells #[.int .i64 x, .int .i64 y] 3)
      go_wp2_with fail
      refine (iMulOf_any P Q G _ 2 2 [x, y] _ hI.rd rfl (by omega)).mono ?_
      rintro e wb ⟨he, hb⟩
      have hall : (grpB P Q G && [x, y].all (elB P Q)) = true := by simp [HG1.out, HE.out, HEY.out]
      rw [hall, if_pos rfl, HMU.out] at he
      subst he
      replace E := E.trans hb
      replace B := B.ext hb
      clear hb CB hI hall
      have CB := B.cells
      go_wp2_with fail
      refine (iExpOf_any P Q G x (Q - 1) _).mono ?_
      rintro e wc ⟨he, hb⟩
      have hall : (grpB P Q G && (elB P Q x && inR (Q - 1) 0 (Q - 1))) = true := by rw [HG1.out, HE.out, inR_iff.2 ⟨by omega, by omega⟩]; rfl
      rw [hall, if_pos rfl, HLA.out] at he
      subst he
      replace E := E.trans hb
      clear hb CB hall
      go_wp2
      go_ret
      exact ⟨ret_bool (by simp), E⟩
    · obtain ⟨hgb, rfl⟩ := hok rfl
      have HGB := Lib.hid hgb
      clear hok hgb
      go_wp2_with fail
      refine (IsValidGroup_any a b c _).mono ?_
      rintro e w8 ⟨he, hb⟩
      rw [HGB.out] at he; subst he
      replace E := E.trans hb
      replace B := B.ext hb
      have CM2 := (BM.ext hb).cells
      clear hb CM CN CB BM BN
      have CB := B.cells
      have hq2 : 2 ≤ Q ∧ Q ≤ 2000000000 := hQQ
      go_wp2_with fail
      refine (iIsElement_any P Q G y _).mono ?_
      rintro e wa ⟨he, hb⟩
      rw [HG1.out, HEY.out] at he
      subst he
      replace E := E.trans hb
      replace B := B.ext hb
      clear hb CB
      have CB := B.cells
      have hI : OwnI (wa.alloc (.cells #[.int .i64 x, .int .i64 y] 3)) wa.heap.size 3 (some ⟨wa.heap.size, 0, none⟩) 2 2 [x, y] := ownI_lit [x, y] rfl rfl (Nat.le_refl _) (by decide)
      replace E := E.alloc (.cells #[.int .i64 x, .int .i64 y] 3)
      replace B := B.alloc (.cells #[.int .i64 x, .int .i64 y] 3)
      go_wp2_with fail
      refine (iMulOf_any P Q G _ 2 2 [x, y] _ hI.rd rfl (by omega)).mono ?_
      rintro e wb ⟨he, hb⟩
      have hall : (grpB P Q G && [x, y].all (elB P Q)) = true := by simp [HG1.out, HE.out, HEY.out]
      rw [hall, if_pos rfl, HMU.out] at he
      subst he
      replace E := E.trans hb
      replace B := B.ext hb
      clear hb CB hI hall
      have CB := B.cells
      go_wp2_with fail
      refine (iExpOf_any P Q G x (Q - 1) _).mono ?_
      rintro e wc ⟨he, hb⟩
      have hall : (grpB P Q G && (elB P Q x && inR (Q - 1) 0 (Q - 1))) = true := by rw [HG1.out, HE.out, inR_iff.2 ⟨by omega, by omega⟩]; rfl
      rw [hall, if_pos rfl, HLA.out] at he
      subst he
      replace E := E.trans hb
      clear hb CB hall
      go_wp2
      go_ret
      exact ⟨ret_bool (by simp), E⟩
end lawGroups

set_option maxRecDepth 100000 in
theorem lawGroups.lifted (os : Os) (started : os.Started) (H : Type) (enc : TypeId × Value → H) :
    ReturnsInHanded {} Try.checked os 5 .any (Rows.fnGroupsSpec.pre6 enc Try.prog Try.f5 Rows.fnGroupsRow.domain false) (Rows.fnGroupsSpec.post enc Try.prog Try.f5 false true false false) := by
  refine returnsInHanded_of_change (C := Try.checked) Facts.own started (by kernel_rfl) Try.func5
    (ChangeSpec.witness6 (enc := enc) (C := Try.checked) false ⟨#[], #[.slice none 0 0, .slice none 0 0], []⟩ 8 (by kernel_rfl) (by kernel_rfl) (by kernel_rfl) (by kernel_rfl)) ?_
  intro W base args ds gs before hval0 hW _ _
  have hval : ∀ (j : Nat) t v, Try.f5.params[j]? = some t → args[j]? = some v → Value.okWide Try.prog W .any base t v := hval0
  have hW' := hW
  obtain ⟨p, q, hA0, hV, rfl, hfz, hnd⟩ := hW
  have hA : DataW.TrodAll enc Try.prog W 0 (fun _ => true) true Try.f5.params.toList args.toList ds p := hA0
  rw [Try.params5] at hA hval
  obtain ⟨v0, vs0, d0, ds0, p0, q0, hargs, rfl, rfl, h0, r0⟩ := trodAll_cons hA
  obtain ⟨v1, vs1, d1, ds1, p1, q1, rfl, rfl, rfl, h1, r1⟩ := trodAll_cons r0
  obtain ⟨rfl, rfl, rfl⟩ := trodAll_nil r1
  obtain rfl : args = #[v0, v1] := by cases args; simp_all
  obtain ⟨rfl, rfl⟩ := trodVars_none hV
  have hlt := hW'.lt
  clear hA hA0 hval0 hargs r0 r1
  have k0 := h0
  have k1 := h1
  obtain ⟨A0, l0, c0, rfl, r0, b0, m0, z0, f0⟩ := openBS Try.underlying28 Try.underlying5 (by kernel_rfl) (hval 0 28 v0 rfl rfl) h0
  obtain ⟨A1, l1, c1, rfl, r1, b1, m1, z1, f1⟩ := openBS Try.underlying28 Try.underlying5 (by kernel_rfl) (hval 1 28 v1 rfl rfl) h1
  refine (lawGroups.walk A0 l0 c0 A1 l1 c1 W r0 b0 m0 z0 f0 r1 b1 m1 z1 f1).mono fun e W' ⟨he, hg⟩ => ?_
  subst he
  exact ⟨_, rfl, post_below (pv := []) hW' (fun _ _ _ => (trodAll_cons_mk (shut_bool Try.underlying4 _) trodAll_mk0)) (fun sp hsp => (trodAll_cons_mk (WideElems.Trod_stays Facts.laidOut (by kernel_rfl) (of_decide_eq_true (by kernel_rfl)) k0 (fun x hx => hg.same (hlt x (by simp [hx]))) (fun x hx => hsp x (by simp [hx]))) (trodAll_cons_mk (WideElems.Trod_stays Facts.laidOut (by kernel_rfl) (of_decide_eq_true (by kernel_rfl)) k1 (fun x hx => hg.same (hlt x (by simp [hx]))) (fun x hx => hsp x (by simp [hx]))) trodAll_mk0))) (fun _ _ => rfl) rfl
    hg (ok_one (by kernel_rfl) rfl (okWide_bool_mk Try.underlying4 _))⟩

theorem lawGroups.named : Try.pinned.checked.prog.funcNamed Rows.fnGroupsRow.func = some 5 := by kernel_rfl
theorem lawGroups.z9 : (Rows.fnGroupsRow.inPlace == Try.prog.inPlace 5) = true := by kernel_rfl
theorem lawGroups.z10 : (Rows.fnGroupsRow.unfollowed == Try.prog.unfollowed 5) = true := by kernel_rfl
theorem lawGroups.z11 : (Rows.fnGroupsRow.recurses == Try.prog.recurses 5) = true := by kernel_rfl
theorem lawGroups.z12 : (Rows.fnGroupsRow.named == Try.prog.varsNamed 5) = true := by kernel_rfl
theorem lawGroups.closed : joinedFacts Try.prog 5 Try.f5 Rows.fnGroupsSpec Rows.fnGroupsRow = true :=
  joined_of (by kernel_rfl) Facts.laidOut Facts.mapsRowed (by kernel_rfl) (by kernel_rfl) (by kernel_rfl) (by kernel_rfl) (by kernel_rfl) (by kernel_rfl) lawGroups.z9 lawGroups.z10 lawGroups.z11 lawGroups.z12 (by kernel_rfl) (by kernel_rfl) (by kernel_rfl) (by kernel_rfl) (by kernel_rfl) (by kernel_rfl) (by kernel_rfl) (by kernel_rfl) (by kernel_rfl) (by rw [Facts.plainKeys]; rfl) (by kernel_rfl) Facts.heard Facts.enter (by rw [Facts.lifts]; rfl) (by rw [Facts.make]; rfl) (by kernel_rfl) (by kernel_rfl) (by kernel_rfl) (by kernel_rfl)
theorem lawGroups.inst : Try.f5.isInstance Try.pinned.checked.prog Rows.fnGroupsRow.origin Rows.fnGroupsRow.targs := of_decide_eq_true (by kernel_rfl)
theorem lawGroups.wrap : Try.f5.isWrapper Try.pinned.checked.prog Rows.fnGroupsRow.wrapper Rows.fnGroupsRow.mainSum := by
  unfold Func.isWrapper; first | (rw [if_pos (by decide +kernel)]; kernel_rfl) | (rw [if_neg (by decide +kernel)]; exact ⟨rfl, rfl⟩)
theorem lawGroups.over : Rows.fnGroupsRow.holds Try.pinned (OpenSpec.ofChange Rows.fnGroupsSpec) :=
  OpenClaim.holds_of_wide 5 Try.f5 rfl rfl rfl rfl rfl rfl rfl ⟨rfl, rfl, rfl, rfl, rfl⟩ rfl rfl rfl rfl rfl lawGroups.named Try.func5 lawGroups.closed
    lawGroups.inst lawGroups.wrap (fun os started H enc _ => lawGroups.lifted os started H enc)

theorem lawGroups.proved : Rows.FnGroupsSaid := lawGroups.over
#print axioms lawGroups.proved
end Go.Proofs.Yticimniegecfeaa
