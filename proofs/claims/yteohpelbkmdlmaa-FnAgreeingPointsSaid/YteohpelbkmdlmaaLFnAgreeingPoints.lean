/- The law FnAgreeingPoints returns true for every input. It holds without a condition. -/
import Derived.Test.YteohpelbkmdlmaaRows
import Derived.Test.YteohpelbkmdlmaaAgreeP
import Derived.Test.YteohpelbkmdlmaaCurA
import Derived.Test.YteohpelbkmdlmaaTgt
import Derived.Test.YteohpelbkmdlmaaOpenB
import Derived.Test.YteohpelbkmdlmaaFacts
namespace Go.Proofs.Yteohpelbkmdlmaa
open Go.ChangeShapes Go.WideShapes Go.ChangeAt Go.RowKit
set_option linter.unusedVariables false

theorem count_take {l : List Int} {x : Nat} (v : Int) (h : x < l.length) : (l.take (x + 1)).count v = (l.take x).count v + if l[x] = v then 1 else 0 := by
  rw [List.take_succ_eq_append_getElem h, List.count_append, List.count_singleton]
  simp
theorem count_take_le (l : List Int) (x : Nat) (v : Int) : (l.take x).count v ≤ l.length := Nat.le_trans List.count_le_length (by rw [List.length_take]; omega)
def sameT (a b : List Int) (j : Nat) : Bool := (a.take j).all fun v => decide (a.count v = b.count v)
theorem sameT_succ {a b : List Int} {j : Nat} (h : j < a.length) : sameT a b (j + 1) = (sameT a b j && decide (a.count a[j] = b.count a[j])) := by
  unfold sameT
  rw [List.take_succ_eq_append_getElem h, List.all_append]
  simp
theorem sameT_all {a b : List Int} : sameT a b a.length = sameB a b := by rw [sameT, List.take_length]; rfl

namespace lawFnAgreeingPoints
set_option maxRecDepth 100000 in
set_option maxHeartbeats 4000000 in
theorem walk (A0 : Option Addr) (l0 : List Int) (c0 : Nat) (A1 : Option Addr) (l1 : List Int) (c1 : Nat) (w : World) (r0 : RdB w A0 l0) (b0 : l0.length ≤ c0) (m0 : c0 ≤ maxLen) (z0 : A0 = none → c0 = 0) (f0 : ∀ n ∈ l0, 0 ≤ n ∧ n ≤ 255) (r1 : RdB w A1 l1) (b1 : l1.length ≤ c1) (m1 : c1 ≤ maxLen) (z1 : A1 = none → c1 = 0) (f1 : ∀ n ∈ l1, 0 ≤ n ∧ n ≤ 255) :
    Calls Try.prog 14 #[.slice A0 l0.length c0, .slice A1 l1.length c1] w fun e w' => e = .returned (.bool true) ∧ Ext w w' := by
  clear z0 z1
  generalize hn0 : l0.length = n0 at *
  generalize hn1 : l1.length = n1 at *
  have Hn0 := Lib.hid hn0
  have Hn1 := Lib.hid hn1
  clear hn0 hn1
  unfold maxLen at m0 m1
  by_cases hbig : (1048576 : Int) < wrap64 ((n0 : Int) + n1)
  · go_enter Try.func14, Try.ntmps14
    go_wp2
    go_ret
    exact ⟨rfl, Ext.refl _⟩
  have hn1b : n1 ≤ 9223372036854775807 := by omega
  have hn0b : n0 ≤ 9223372036854775807 := by omega
  go_enter Try.func14, Try.ntmps14
  go_wp2_with fail
  refine (DrawAgreeingPoints_any A0 n0 c0 l0 _ r0 Hn0.out hn0b f0).mono ?_
  rintro e w2 ⟨q, Ap, np, cp, a, Aq, nq, cq, b, rfl, hP, hnp, hQ, hnq, E⟩
  go_wp2_with fail
  refine (iAgreeingPoints_any q Ap np cp a Aq nq cq b _ hP.rd hP.len (by omega) hP.cap hQ.rd hQ.len (by omega) hQ.cap).mono ?_
  rintro e w3 ⟨rfl, hb⟩
  replace E := E.trans hb
  replace hP := hP.ext hb
  replace hQ := hQ.ext hb
  clear hb
  go_wp2_with fail
  refine (sAgreeingPoints_any q Ap np cp a Aq nq cq b _ hP.rd hP.len (by omega) hP.cap hQ.rd hQ.len (by omega) hQ.cap).mono ?_
  rintro e w4 ⟨rfl, hb⟩
  replace E := E.trans hb
  replace hP := hP.ext hb
  replace hQ := hQ.ext hb
  clear hb
  go_wp2_with fail
  refine (DrawTargetProduct_any A1 n1 c1 l1 _ (r1.ext E) Hn1.out hn1b f1).mono ?_
  rintro e w5 ⟨tq, tm, tx, ty, tz, rfl, hb⟩
  replace E := E.trans hb
  replace hP := hP.ext hb
  replace hQ := hQ.ext hb
  clear hb
  go_wp2_with fail
  refine (iTargetProduct_any tq tm tx ty tz _).mono ?_
  rintro e w6 ⟨rfl, hb⟩
  replace E := E.trans hb
  replace hP := hP.ext hb
  replace hQ := hQ.ext hb
  clear hb
  go_wp2_with fail
  refine (sTargetProduct_any tq tm tx ty tz _).mono ?_
  rintro e w7 ⟨rfl, hb⟩
  replace E := E.trans hb
  replace hP := hP.ext hb
  replace hQ := hQ.ext hb
  clear hb
  cases hg : agG q a b
  · go_wp2
    go_ret
    exact ⟨rfl, E⟩
  have hlaw := agree_law hg
  have hab : a.length = b.length := by
    simp only [agG, Bool.and_eq_true, decide_eq_true_eq] at hg
    exact hg.2.2.1
  have hpl := hP.len
  have hql := hQ.len
  obtain rfl : nq = np := by omega
  have HPL := Lib.hid hpl
  have HQL := Lib.hid hql
  have HLAW := Lib.hid hlaw
  clear hlaw hab hpl hql
  go_wp2_with fail
  go_loopw [21, 100] (fun s i wr => ∃ j : Nat, j ≤ nq ∧ i = .int .i64 j ∧ s = .bool (sameT a b j) ∧ Ext w7 wr) (fun _ i _ => nq - (intOf i).toNat)
  case atStart => exact ⟨0, Nat.zero_le _, rfl, by simp [sameT], Ext.refl _⟩
  case round =>
    obtain ⟨j, hj, rfl, rfl, hE⟩ := hrel
    by_cases hlt : j < nq
    · obtain ⟨ad, rfl, k1⟩ := (hP.rd.ext hE).at_ (k := j) (by rw [HPL.out]; exact hlt)
      obtain ⟨v, hv⟩ : ∃ v, a[j]'(by rw [HPL.out]; exact hlt) = v := ⟨_, rfl⟩
      have hss := sameT_succ (a := a) (b := b) (j := j) (by rw [HPL.out]; exact hlt)
      rw [hv] at k1 hss
      have HSS := Lib.hid hss
      clear hv hss
      go_wp2_with fail
      go_loopw [24, 106] (fun k i wr => ∃ x : Nat, x ≤ nq ∧ i = .int .i64 x ∧ k = .int .i64 (((a.take x).count v : Int) - (b.take x).count v) ∧ Ext w7 wr) (fun _ i _ => nq - (intOf i).toNat)
      case atStart => exact ⟨0, Nat.zero_le _, rfl, by simp, hE⟩
      case round =>
        obtain ⟨x, hx, rfl, rfl, hE2⟩ := hrel
        by_cases hlx : x < nq
        · obtain ⟨ad1, e1, k2⟩ := (hP.rd.ext hE2).at_ (k := x) (by rw [HPL.out]; exact hlx)
          obtain rfl : ad = ad1 := by simpa using e1
          obtain ⟨ad2, rfl, k3⟩ := (hQ.rd.ext hE2).at_ (k := x) (by rw [HQL.out]; exact hlx)
          have t1 := count_take v (l := a) (x := x) (by rw [HPL.out]; exact hlx)
          have t2 := count_take v (l := b) (x := x) (by rw [HQL.out]; exact hlx)
          have t3 := count_take_le a x v
          have t4 := count_take_le b x v
          rw [HPL.out] at t3
          rw [HQL.out] at t4
          obtain ⟨y, hy⟩ : ∃ y, a[x]'(by rw [HPL.out]; exact hlx) = y := ⟨_, rfl⟩
          obtain ⟨z, hz⟩ : ∃ z, b[x]'(by rw [HQL.out]; exact hlx) = z := ⟨_, rfl⟩
          rw [hy] at k2 t1
          rw [hz] at k3 t2
          generalize (a.take x).count v = ca at *
          generalize (b.take x).count v = cb at *
          have T1 := Lib.hid t1
          have T2 := Lib.hid t2
          clear t1 t2 hy hz e1
          by_cases hy : y = v
          · have hyb : (y == v) = true := by simp [hy]
            have HY := Lib.hid hy
            clear hy
            by_cases hz : z = v
            · have hzb : (z == v) = true := by simp [hz]
              have HZ := Lib.hid hz
              clear hz
              go_wp2
              go_roundw
              case rel => exact ⟨x + 1, by omega, by go_num, by rw [T1.out, T2.out, if_pos HY.out, if_pos HZ.out]; congr 1; omega, hE2⟩
              case measure => simp [intOf]; omega
            · have hzb : (z == v) = false := by simp [hz]
              have HZ := Lib.hid hz
              clear hz
              go_wp2
              go_roundw
              case rel => exact ⟨x + 1, by omega, by go_num, by rw [T1.out, T2.out, if_pos HY.out, if_neg HZ.out]; congr 1; omega, hE2⟩
              case measure => simp [intOf]; omega
          · have hyb : (y == v) = false := by simp [hy]
            have HY := Lib.hid hy
            clear hy
            by_cases hz : z = v
            · have hzb : (z == v) = true := by simp [hz]
              have HZ := Lib.hid hz
              clear hz
              go_wp2
              go_roundw
              case rel => exact ⟨x + 1, by omega, by go_num, by rw [T1.out, T2.out, if_neg HY.out, if_pos HZ.out]; congr 1; omega, hE2⟩
              case measure => simp [intOf]; omega
            · have hzb : (z == v) = false := by simp [hz]
              have HZ := Lib.hid hz
              clear hz
              go_wp2
              go_roundw
              case rel => exact ⟨x + 1, by omega, by go_num, by rw [T1.out, T2.out, if_neg HY.out, if_neg HZ.out]; congr 1, hE2⟩
              case measure => simp [intOf]; omega
        · obtain rfl : x = nq := by omega
          have hta : a.take x = a := by rw [← HPL.out, List.take_length]
          have htb : b.take x = b := by rw [← HQL.out, List.take_length]
          rw [hta, htb]
          have hkk : (((a.count v : Int) - b.count v) == 0) = decide (a.count v = b.count v) := by
            rw [Bool.eq_iff_iff]; simp; omega
          have HKK := Lib.hid hkk
          clear hta htb hkk
          cases hst : sameT a b j
          · have HST := Lib.hid hst
            clear hst
            go_wp2
            go_roundw
            case rel => exact ⟨j + 1, by omega, by go_num, by rw [HSS.out, HST.out]; rfl, hE2⟩
            case measure => simp [intOf]; omega
          · have HST := Lib.hid hst
            clear hst
            go_wp2
            go_roundw
            case rel => exact ⟨j + 1, by omega, by go_num, by rw [HSS.out, HST.out, ← HKK.out]; rfl, hE2⟩
            case measure => simp [intOf]; omega
    · obtain rfl : j = nq := by omega
      have hsa : sameT a b j = sameB a b := by rw [← HPL.out]; exact sameT_all
      rw [hsa]
      have hl := HLAW.out
      rw [HPL.out] at hl
      generalize agVal q a b = V at *
      cases hs : sameB a b
      · rw [hs] at hl
        have hV : V < (j : Int) := by simpa using hl
        clear hl hs hsa
        go_wp2
        go_ret
        exact ⟨rfl, E.trans hE⟩
      · rw [hs] at hl
        have hV : (V == q) = true := by simpa using hl
        clear hl hs hsa
        go_wp2
        go_ret
        exact ⟨rfl, E.trans hE⟩
end lawFnAgreeingPoints

set_option maxRecDepth 100000 in
theorem lawFnAgreeingPoints.lifted (os : Os) (started : os.Started) (H : Type) (enc : TypeId × Value → H) :
    ReturnsInHanded {} Try.checked os 14 .any (Rows.fnAgreeingPointsSpec.pre6 enc Try.prog Try.f14 Rows.fnAgreeingPointsRow.domain false) (Rows.fnAgreeingPointsSpec.post enc Try.prog Try.f14 false true false false) := by
  refine returnsInHanded_of_change (C := Try.checked) Facts.own started (by kernel_rfl) Try.func14
    (ChangeSpec.witness6 (enc := enc) (C := Try.checked) false ⟨#[], #[.slice none 0 0, .slice none 0 0], []⟩ 8 (by kernel_rfl) (by kernel_rfl) (by kernel_rfl) (by kernel_rfl)) ?_
  intro W base args ds gs before hval0 hW _ _
  have hval : ∀ (j : Nat) t v, Try.f14.params[j]? = some t → args[j]? = some v → Value.okWide Try.prog W .any base t v := hval0
  have hW' := hW
  obtain ⟨p, q, hA0, hV, rfl, hfz, hnd⟩ := hW
  have hA : DataW.TrodAll enc Try.prog W 0 (fun _ => true) true Try.f14.params.toList args.toList ds p := hA0
  rw [Try.params14] at hA hval
  obtain ⟨v0, vs0, d0, ds0, p0, q0, hargs, rfl, rfl, h0, r0⟩ := trodAll_cons hA
  obtain ⟨v1, vs1, d1, ds1, p1, q1, rfl, rfl, rfl, h1, r1⟩ := trodAll_cons r0
  obtain ⟨rfl, rfl, rfl⟩ := trodAll_nil r1
  obtain rfl : args = #[v0, v1] := by cases args; simp_all
  obtain ⟨rfl, rfl⟩ := trodVars_none hV
  have hlt := hW'.lt
  clear hA hA0 hval0 hargs r0 r1
  have k0 := h0
  have k1 := h1
  obtain ⟨A0, l0, c0, rfl, r0, b0, m0, z0, f0⟩ := openBS Try.underlying57 Try.underlying5 (by kernel_rfl) (hval 0 57 v0 rfl rfl) h0
  obtain ⟨A1, l1, c1, rfl, r1, b1, m1, z1, f1⟩ := openBS Try.underlying57 Try.underlying5 (by kernel_rfl) (hval 1 57 v1 rfl rfl) h1
  refine (lawFnAgreeingPoints.walk A0 l0 c0 A1 l1 c1 W r0 b0 m0 z0 f0 r1 b1 m1 z1 f1).mono fun e W' ⟨he, hg⟩ => ?_
  subst he
  exact ⟨_, rfl, post_below (pv := []) hW' (fun _ _ _ => (trodAll_cons_mk (shut_bool Try.underlying4 _) trodAll_mk0)) (fun sp hsp => (trodAll_cons_mk (WideElems.Trod_stays Facts.laidOut (by kernel_rfl) (of_decide_eq_true (by kernel_rfl)) k0 (fun x hx => hg.same (hlt x (by simp [hx]))) (fun x hx => hsp x (by simp [hx]))) (trodAll_cons_mk (WideElems.Trod_stays Facts.laidOut (by kernel_rfl) (of_decide_eq_true (by kernel_rfl)) k1 (fun x hx => hg.same (hlt x (by simp [hx]))) (fun x hx => hsp x (by simp [hx]))) trodAll_mk0))) (fun _ _ => rfl) rfl
    hg (ok_one (by kernel_rfl) rfl (okWide_bool_mk Try.underlying4 _))⟩

theorem lawFnAgreeingPoints.named : Try.pinned.checked.prog.funcNamed Rows.fnAgreeingPointsRow.func = some 14 := by kernel_rfl
theorem lawFnAgreeingPoints.z9 : (Rows.fnAgreeingPointsRow.inPlace == Try.prog.inPlace 14) = true := by kernel_rfl
theorem lawFnAgreeingPoints.z10 : (Rows.fnAgreeingPointsRow.unfollowed == Try.prog.unfollowed 14) = true := by kernel_rfl
theorem lawFnAgreeingPoints.z11 : (Rows.fnAgreeingPointsRow.recurses == Try.prog.recurses 14) = true := by kernel_rfl
theorem lawFnAgreeingPoints.z12 : (Rows.fnAgreeingPointsRow.named == Try.prog.varsNamed 14) = true := by kernel_rfl
theorem lawFnAgreeingPoints.closed : joinedFacts Try.prog 14 Try.f14 Rows.fnAgreeingPointsSpec Rows.fnAgreeingPointsRow = true :=
  joined_of (by kernel_rfl) Facts.laidOut Facts.mapsRowed (by kernel_rfl) (by kernel_rfl) (by kernel_rfl) (by kernel_rfl) (by kernel_rfl) (by kernel_rfl) lawFnAgreeingPoints.z9 lawFnAgreeingPoints.z10 lawFnAgreeingPoints.z11 lawFnAgreeingPoints.z12 (by kernel_rfl) (by kernel_rfl) (by kernel_rfl) (by kernel_rfl) (by kernel_rfl) (by kernel_rfl) (by kernel_rfl) (by kernel_rfl) (by kernel_rfl) (by rw [Facts.plainKeys]; rfl) (by kernel_rfl) Facts.heard Facts.enter (by rw [Facts.lifts]; rfl) (by rw [Facts.make]; rfl) (by kernel_rfl) (by kernel_rfl) (by kernel_rfl) (by kernel_rfl)
theorem lawFnAgreeingPoints.inst : Try.f14.isInstance Try.pinned.checked.prog Rows.fnAgreeingPointsRow.origin Rows.fnAgreeingPointsRow.targs := of_decide_eq_true (by kernel_rfl)
theorem lawFnAgreeingPoints.wrap : Try.f14.isWrapper Try.pinned.checked.prog Rows.fnAgreeingPointsRow.wrapper Rows.fnAgreeingPointsRow.mainSum := by
  unfold Func.isWrapper; first | (rw [if_pos (by decide +kernel)]; kernel_rfl) | (rw [if_neg (by decide +kernel)]; exact ⟨rfl, rfl⟩)
theorem lawFnAgreeingPoints.over : Rows.fnAgreeingPointsRow.holds Try.pinned (OpenSpec.ofChange Rows.fnAgreeingPointsSpec) :=
  OpenClaim.holds_of_wide 14 Try.f14 rfl rfl rfl rfl rfl rfl rfl ⟨rfl, rfl, rfl, rfl, rfl⟩ rfl rfl rfl rfl rfl lawFnAgreeingPoints.named Try.func14 lawFnAgreeingPoints.closed
    lawFnAgreeingPoints.inst lawFnAgreeingPoints.wrap (fun os started H enc _ => lawFnAgreeingPoints.lifted os started H enc)

theorem lawFnAgreeingPoints.proved : Rows.FnAgreeingPointsSaid := lawFnAgreeingPoints.over
#print axioms lawFnAgreeingPoints.proved
end Go.Proofs.Yteohpelbkmdlmaa
