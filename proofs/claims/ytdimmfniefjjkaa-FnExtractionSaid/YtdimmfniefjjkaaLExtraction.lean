/- The law FnExtraction returns true for every input. It holds without a condition. (Printed by tools/gen_lext.py.) -/
import Derived.Test.YtdimmfniefjjkaaRows
import Derived.Test.YtdimmfniefjjkaaCurX
import Derived.Test.YtdimmfniefjjkaaOpenB
import Derived.Test.YtdimmfniefjjkaaFacts
namespace Go.Proofs.Ytdimmfniefjjkaa
open Go.ChangeShapes Go.WideShapes Go.ChangeAt Go.RowKit
set_option linter.unusedVariables false

/-- Of an extraction: what the law asks. -/
theorem ext_fin {P Q G base y a1 a2 a3 b1 b2 b3 : Int} (h : (grpB P Q G && ((elB P Q base && elB P Q y) && ((elB P Q a1 && (inR a2 0 (Q - 1) && inR a3 0 (Q - 1))) && ((elB P Q b1 && (inR b2 0 (Q - 1) && inR b3 0 (Q - 1))) && (accB P Q base y a1 a2 a3 && (accB P Q base y b1 b2 b3 && ((a1 == b1) && !(a2 == b2)))))))) = true) : (grpB P Q G && (elB P Q base && inR (gext Q a2 a3 b2 b3) 0 (Q - 1))) = true ∧ gpw P Q base (gext Q a2 a3 b2 b3) = y := by
  simp only [Bool.and_eq_true, Bool.not_eq_true', beq_iff_eq, beq_eq_false_iff_ne] at h
  obtain ⟨h1, ⟨h2, h3⟩, ⟨h4, h5, h6⟩, ⟨h7, h8, h9⟩, h10, h11, h12, h13⟩ := h
  subst h12
  obtain ⟨e1, e2⟩ := ext_law h1 h2 h3 h4 h5 h6 h8 h9 h10 h11 h13
  exact ⟨by simp [h1, h2, e2], e1⟩
/-- Of a simulation. -/
theorem sim_fin {P2 Q2 G2 b v c z : Int} (h : (grpB P2 Q2 G2 && ((elB P2 Q2 b && elB P2 Q2 v) && (inR c 0 (Q2 - 1) && inR z 0 (Q2 - 1)))) = true) : (grpB P2 Q2 G2 && ((elB P2 Q2 b && elB P2 Q2 v) && (elB P2 Q2 (gmul P2 [gpw P2 Q2 b z, gpw P2 Q2 v (-c)]) && (inR c 0 (Q2 - 1) && inR z 0 (Q2 - 1))))) = true ∧ accB P2 Q2 b v (gmul P2 [gpw P2 Q2 b z, gpw P2 Q2 v (-c)]) c z = true := by
  simp only [Bool.and_eq_true] at h
  obtain ⟨h1, ⟨h2, h3⟩, h4, h5⟩ := h
  obtain ⟨e1, e2⟩ := sim_law h1 h2 h3 h4 h5
  exact ⟨by simp [h1, h2, h3, h4, h5, e2], e1⟩

namespace lawExtraction
set_option maxRecDepth 100000 in
set_option maxHeartbeats 4000000 in
theorem walk (A0 : Option Addr) (l0 : List Int) (c0 : Nat) (A1 : Option Addr) (l1 : List Int) (c1 : Nat) (w : World) (r0 : RdB w A0 l0) (b0 : l0.length ≤ c0) (m0 : c0 ≤ maxLen) (z0 : A0 = none → c0 = 0) (f0 : ∀ n ∈ l0, 0 ≤ n ∧ n ≤ 255) (r1 : RdB w A1 l1) (b1 : l1.length ≤ c1) (m1 : c1 ≤ maxLen) (z1 : A1 = none → c1 = 0) (f1 : ∀ n ∈ l1, 0 ≤ n ∧ n ≤ 255) :
    Calls Try.prog 6 #[.slice A0 l0.length c0, .slice A1 l1.length c1] w fun e w' => e = .returned (.bool true) ∧ Ext w w' := by
  clear z0 z1
  generalize hn0 : l0.length = n0 at *
  generalize hn1 : l1.length = n1 at *
  have Hn0 := Lib.hid hn0
  have Hn1 := Lib.hid hn1
  clear hn0 hn1
  unfold maxLen at m0 m1
  by_cases hbig : (1048576 : Int) < wrap64 ((n0 : Int) + n1)
  · go_enter Try.func6, Try.ntmps6
    go_wp2
    go_ret
    exact ⟨rfl, Ext.refl _⟩
  have hn1b : n1 ≤ 9223372036854775807 := by omega
  have hn0b : n0 ≤ 9223372036854775807 := by omega
  go_enter Try.func6, Try.ntmps6
  go_wp2_with fail
  refine (DrawExtractKnowledge_any A0 n0 c0 l0 _ r0 Hn0.out hn0b f0).mono ?_
  rintro e w1 ⟨P, Q, G, base, y, a1, a2, a3, b1, b2, b3, rfl, E⟩
  have B5 := Blk.new w1 37 #[.int .i64 P, .int .i64 Q, .int .i64 G]
  replace E := E.alloc (.cells #[.int .i64 P, .int .i64 Q, .int .i64 G] 37)
  have B8 := Blk.new (w1.alloc (.cells #[.int .i64 P, .int .i64 Q, .int .i64 G] 37)) 61 #[.int .i64 a1, .int .i64 a2, .int .i64 a3]
  replace E := E.alloc (.cells #[.int .i64 a1, .int .i64 a2, .int .i64 a3] 61)
  replace B5 := B5.alloc (.cells #[.int .i64 a1, .int .i64 a2, .int .i64 a3] 61)
  simp only [World.size_alloc] at B8
  have B9 := Blk.new ((w1.alloc (.cells #[.int .i64 P, .int .i64 Q, .int .i64 G] 37)).alloc (.cells #[.int .i64 a1, .int .i64 a2, .int .i64 a3] 61)) 61 #[.int .i64 b1, .int .i64 b2, .int .i64 b3]
  replace E := E.alloc (.cells #[.int .i64 b1, .int .i64 b2, .int .i64 b3] 61)
  replace B5 := B5.alloc (.cells #[.int .i64 b1, .int .i64 b2, .int .i64 b3] 61)
  replace B8 := B8.alloc (.cells #[.int .i64 b1, .int .i64 b2, .int .i64 b3] 61)
  simp only [World.size_alloc] at B9
  obtain ⟨ok, hok⟩ : ∃ ok, (grpB P Q G && ((elB P Q base && elB P Q y) && ((elB P Q a1 && (inR a2 0 (Q - 1) && inR a3 0 (Q - 1))) && ((elB P Q b1 && (inR b2 0 (Q - 1) && inR b3 0 (Q - 1))) && (accB P Q base y a1 a2 a3 && (accB P Q base y b1 b2 b3 && ((a1 == b1) && !(a2 == b2)))))))) = ok := ⟨_, rfl⟩
  obtain ⟨x, hx⟩ : ∃ x, (if ok = true then gext Q a2 a3 b2 b3 else 0) = x := ⟨_, rfl⟩
  have HXF : Hid (ok = true → (grpB P Q G && (elB P Q base && inR x 0 (Q - 1))) = true ∧ gpw P Q base x = y) := fun h => by
    rw [h] at hok hx
    rw [if_pos rfl] at hx
    rw [← hx]
    exact ext_fin hok
  have HOK := Lib.hid hok
  have HX := Lib.hid hx
  clear hok hx
  have C_B5 := B5.cells
  have C_B8 := B8.cells
  have C_B9 := B9.cells
  go_wp2_with fail
  refine (iExtractKnowledge_any P Q G base y a1 a2 a3 b1 b2 b3 _).mono ?_
  rintro e w2 ⟨he, hb⟩
  rw [HOK.out, HX.out] at he; subst he
  replace E := E.trans hb
  replace B5 := B5.ext hb
  replace B8 := B8.ext hb
  replace B9 := B9.ext hb
  clear hb C_B5 C_B8 C_B9
  have C_B5 := B5.cells
  have C_B8 := B8.cells
  have C_B9 := B9.cells
  go_wp2_with fail
  refine (sExtractKnowledge_any P Q G base y a1 a2 a3 b1 b2 b3 _).mono ?_
  rintro e w3 ⟨he, hb⟩
  rw [HOK.out, HX.out] at he; subst he
  replace E := E.trans hb
  replace B5 := B5.ext hb
  replace B8 := B8.ext hb
  replace B9 := B9.ext hb
  clear hb C_B5 C_B8 C_B9
  clear HOK HX B8 B9
  go_wp2_with fail
  refine (DrawSimulateKnowledge_any A1 n1 c1 l1 _ (r1.ext E) Hn1.out hn1b f1).mono ?_
  rintro e w4 ⟨P2, Q2, G2, b, v, c, z, rfl, hb⟩
  replace E := E.trans hb
  replace B5 := B5.ext hb
  clear hb
  have BH := Blk.new w4 37 #[.int .i64 P2, .int .i64 Q2, .int .i64 G2]
  replace E := E.alloc (.cells #[.int .i64 P2, .int .i64 Q2, .int .i64 G2] 37)
  replace B5 := B5.alloc (.cells #[.int .i64 P2, .int .i64 Q2, .int .i64 G2] 37)
  obtain ⟨one, hone⟩ : ∃ one, (grpB P2 Q2 G2 && ((elB P2 Q2 b && elB P2 Q2 v) && (inR c 0 (Q2 - 1) && inR z 0 (Q2 - 1)))) = one := ⟨_, rfl⟩
  obtain ⟨s1, hs1⟩ : ∃ s, (if one = true then gmul P2 [gpw P2 Q2 b z, gpw P2 Q2 v (-c)] else 0) = s := ⟨_, rfl⟩
  obtain ⟨s2, hs2⟩ : ∃ s, (if one = true then c else 0) = s := ⟨_, rfl⟩
  obtain ⟨s3, hs3⟩ : ∃ s, (if one = true then z else 0) = s := ⟨_, rfl⟩
  have HVC : Hid (one = true → (grpB P2 Q2 G2 && ((elB P2 Q2 b && elB P2 Q2 v) && (elB P2 Q2 s1 && (inR s2 0 (Q2 - 1) && inR s3 0 (Q2 - 1))))) = true ∧ accB P2 Q2 b v s1 s2 s3 = true) := fun h => by
    rw [h] at hone hs1 hs2 hs3
    rw [if_pos rfl] at hs1 hs2 hs3
    rw [← hs1, ← hs2, ← hs3]
    exact sim_fin hone
  have HONE := Lib.hid hone
  have HS1 := Lib.hid hs1
  have HS2 := Lib.hid hs2
  have HS3 := Lib.hid hs3
  clear hone hs1 hs2 hs3
  have C_B5 := B5.cells
  have C_BH := BH.cells
  go_wp2_with fail
  refine (iSimulateKnowledge_any P2 Q2 G2 b v c z _).mono ?_
  rintro e w5 ⟨he, hb⟩
  rw [HONE.out, HS1.out, HS2.out, HS3.out] at he; subst he
  replace E := E.trans hb
  replace B5 := B5.ext hb
  replace BH := BH.ext hb
  clear hb C_B5 C_BH
  have BT := Blk.new w5 61 #[.int .i64 s1, .int .i64 s2, .int .i64 s3]
  replace E := E.alloc (.cells #[.int .i64 s1, .int .i64 s2, .int .i64 s3] 61)
  replace B5 := B5.alloc (.cells #[.int .i64 s1, .int .i64 s2, .int .i64 s3] 61)
  replace BH := BH.alloc (.cells #[.int .i64 s1, .int .i64 s2, .int .i64 s3] 61)
  have C_B5 := B5.cells
  have C_BH := BH.cells
  have C_BT := BT.cells
  go_wp2_with fail
  refine (sSimulateKnowledge_any P2 Q2 G2 b v c z _).mono ?_
  rintro e w6 ⟨he, hb⟩
  rw [HONE.out, HS1.out, HS2.out, HS3.out] at he; subst he
  replace E := E.trans hb
  replace B5 := B5.ext hb
  replace BH := BH.ext hb
  replace BT := BT.ext hb
  clear hb C_B5 C_BH C_BT
  have BU := Blk.new w6 61 #[.int .i64 s1, .int .i64 s2, .int .i64 s3]
  replace E := E.alloc (.cells #[.int .i64 s1, .int .i64 s2, .int .i64 s3] 61)
  replace B5 := B5.alloc (.cells #[.int .i64 s1, .int .i64 s2, .int .i64 s3] 61)
  replace BH := BH.alloc (.cells #[.int .i64 s1, .int .i64 s2, .int .i64 s3] 61)
  replace BT := BT.alloc (.cells #[.int .i64 s1, .int .i64 s2, .int .i64 s3] 61)
  clear HONE HS1 HS2 HS3
  have C_B5 := B5.cells
  have C_BH := BH.cells
  have C_BT := BT.cells
  have C_BU := BU.cells
  cases one
  · clear HVC
    cases ok
    · clear HXF
      go_wp2
      go_ret
      exact ⟨rfl, E⟩
    · have HK := Lib.hid (HXF.out rfl).1
      have HY := Lib.hid (HXF.out rfl).2
      have hself : (y == y) = true := by simp
      clear HXF
      go_wp2_with fail
      refine (iExpOf_any P Q G base x _).mono ?_
      rintro e w8 ⟨he, hb⟩
      rw [HK.out, if_pos rfl, HY.out] at he; subst he
      go_wp2
      go_ret
      exact ⟨rfl, E.trans hb⟩
  · have HV := Lib.hid (HVC.out rfl).1
    have HA := Lib.hid (HVC.out rfl).2
    go_wp2_with fail
    refine (iIsAccepting_any P2 Q2 G2 b v s1 s2 s3 _).mono ?_
    rintro e w7 ⟨he, hb⟩
    rw [HV.out, if_pos rfl, HA.out] at he; subst he
    replace E := E.trans hb
    replace B5 := B5.ext hb
    replace BH := BH.ext hb
    replace BT := BT.ext hb
    replace BU := BU.ext hb
    clear hb C_B5 C_BH C_BT C_BU
    have C_B5 := B5.cells
    clear HVC
    cases ok
    · clear HXF
      go_wp2
      go_ret
      exact ⟨rfl, E⟩
    · have HK := Lib.hid (HXF.out rfl).1
      have HY := Lib.hid (HXF.out rfl).2
      have hself : (y == y) = true := by simp
      clear HXF
      go_wp2_with fail
      refine (iExpOf_any P Q G base x _).mono ?_
      rintro e w8 ⟨he, hb⟩
      rw [HK.out, if_pos rfl, HY.out] at he; subst he
      go_wp2
      go_ret
      exact ⟨rfl, E.trans hb⟩
end lawExtraction

set_option maxRecDepth 100000 in
theorem lawExtraction.lifted (os : Os) (started : os.Started) (H : Type) (enc : TypeId × Value → H) :
    ReturnsInHanded {} Try.checked os 6 .any (Rows.fnExtractionSpec.pre6 enc Try.prog Try.f6 Rows.fnExtractionRow.domain false) (Rows.fnExtractionSpec.post enc Try.prog Try.f6 false true false false) := by
  refine returnsInHanded_of_change (C := Try.checked) Facts.own started (by kernel_rfl) Try.func6
    (ChangeSpec.witness6 (enc := enc) (C := Try.checked) false ⟨#[], #[.slice none 0 0, .slice none 0 0], []⟩ 8 (by kernel_rfl) (by kernel_rfl) (by kernel_rfl) (by kernel_rfl)) ?_
  intro W base args ds gs before hval0 hW _ _
  have hval : ∀ (j : Nat) t v, Try.f6.params[j]? = some t → args[j]? = some v → Value.okWide Try.prog W .any base t v := hval0
  have hW' := hW
  obtain ⟨p, q, hA0, hV, rfl, hfz, hnd⟩ := hW
  have hA : DataW.TrodAll enc Try.prog W 0 (fun _ => true) true Try.f6.params.toList args.toList ds p := hA0
  rw [Try.params6] at hA hval
  obtain ⟨v0, vs0, d0, ds0, p0, q0, hargs, rfl, rfl, h0, r0⟩ := trodAll_cons hA
  obtain ⟨v1, vs1, d1, ds1, p1, q1, rfl, rfl, rfl, h1, r1⟩ := trodAll_cons r0
  obtain ⟨rfl, rfl, rfl⟩ := trodAll_nil r1
  obtain rfl : args = #[v0, v1] := by cases args; simp_all
  obtain ⟨rfl, rfl⟩ := trodVars_none hV
  have hlt := hW'.lt
  clear hA hA0 hval0 hargs r0 r1
  have k0 := h0
  have k1 := h1
  obtain ⟨A0, l0, c0, rfl, r0, b0, m0, z0, f0⟩ := openBS Try.underlying22 Try.underlying5 (by kernel_rfl) (hval 0 22 v0 rfl rfl) h0
  obtain ⟨A1, l1, c1, rfl, r1, b1, m1, z1, f1⟩ := openBS Try.underlying22 Try.underlying5 (by kernel_rfl) (hval 1 22 v1 rfl rfl) h1
  refine (lawExtraction.walk A0 l0 c0 A1 l1 c1 W r0 b0 m0 z0 f0 r1 b1 m1 z1 f1).mono fun e W' ⟨he, hg⟩ => ?_
  subst he
  exact ⟨_, rfl, post_below (pv := []) hW' (fun _ _ _ => (trodAll_cons_mk (shut_bool Try.underlying4 _) trodAll_mk0)) (fun sp hsp => (trodAll_cons_mk (WideElems.Trod_stays Facts.laidOut (by kernel_rfl) (of_decide_eq_true (by kernel_rfl)) k0 (fun x hx => hg.same (hlt x (by simp [hx]))) (fun x hx => hsp x (by simp [hx]))) (trodAll_cons_mk (WideElems.Trod_stays Facts.laidOut (by kernel_rfl) (of_decide_eq_true (by kernel_rfl)) k1 (fun x hx => hg.same (hlt x (by simp [hx]))) (fun x hx => hsp x (by simp [hx]))) trodAll_mk0))) (fun _ _ => rfl) rfl
    hg (ok_one (by kernel_rfl) rfl (okWide_bool_mk Try.underlying4 _))⟩

theorem lawExtraction.named : Try.pinned.checked.prog.funcNamed Rows.fnExtractionRow.func = some 6 := by kernel_rfl
theorem lawExtraction.z9 : (Rows.fnExtractionRow.inPlace == Try.prog.inPlace 6) = true := by kernel_rfl
theorem lawExtraction.z10 : (Rows.fnExtractionRow.unfollowed == Try.prog.unfollowed 6) = true := by kernel_rfl
theorem lawExtraction.z11 : (Rows.fnExtractionRow.recurses == Try.prog.recurses 6) = true := by kernel_rfl
theorem lawExtraction.z12 : (Rows.fnExtractionRow.named == Try.prog.varsNamed 6) = true := by kernel_rfl
theorem lawExtraction.closed : joinedFacts Try.prog 6 Try.f6 Rows.fnExtractionSpec Rows.fnExtractionRow = true :=
  joined_of (by kernel_rfl) Facts.laidOut Facts.mapsRowed (by kernel_rfl) (by kernel_rfl) (by kernel_rfl) (by kernel_rfl) (by kernel_rfl) (by kernel_rfl) lawExtraction.z9 lawExtraction.z10 lawExtraction.z11 lawExtraction.z12 (by kernel_rfl) (by kernel_rfl) (by kernel_rfl) (by kernel_rfl) (by kernel_rfl) (by kernel_rfl) (by kernel_rfl) (by kernel_rfl) (by kernel_rfl) (by rw [Facts.plainKeys]; rfl) (by kernel_rfl) Facts.heard Facts.enter (by rw [Facts.lifts]; rfl) (by rw [Facts.make]; rfl) (by kernel_rfl) (by kernel_rfl) (by kernel_rfl) (by kernel_rfl)
theorem lawExtraction.inst : Try.f6.isInstance Try.pinned.checked.prog Rows.fnExtractionRow.origin Rows.fnExtractionRow.targs := of_decide_eq_true (by kernel_rfl)
theorem lawExtraction.wrap : Try.f6.isWrapper Try.pinned.checked.prog Rows.fnExtractionRow.wrapper Rows.fnExtractionRow.mainSum := by
  unfold Func.isWrapper; first | (rw [if_pos (by decide +kernel)]; kernel_rfl) | (rw [if_neg (by decide +kernel)]; exact ⟨rfl, rfl⟩)
theorem lawExtraction.over : Rows.fnExtractionRow.holds Try.pinned (OpenSpec.ofChange Rows.fnExtractionSpec) :=
  OpenClaim.holds_of_wide 6 Try.f6 rfl rfl rfl rfl rfl rfl rfl ⟨rfl, rfl, rfl, rfl, rfl⟩ rfl rfl rfl rfl rfl lawExtraction.named Try.func6 lawExtraction.closed
    lawExtraction.inst lawExtraction.wrap (fun os started H enc _ => lawExtraction.lifted os started H enc)

theorem lawExtraction.proved : Rows.FnExtractionSaid := lawExtraction.over
#print axioms lawExtraction.proved
end Go.Proofs.Ytdimmfniefjjkaa
