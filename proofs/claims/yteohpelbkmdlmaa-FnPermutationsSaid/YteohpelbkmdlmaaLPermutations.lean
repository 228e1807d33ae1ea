/- The law FnPermutations returns true for every input. It holds without a condition. (Printed by tools/gen_perms.py.) -/
import Derived.Test.YteohpelbkmdlmaaRows
import Derived.Test.YteohpelbkmdlmaaPermP
import Derived.Test.YteohpelbkmdlmaaCurP
import Derived.Test.YteohpelbkmdlmaaSame
import Derived.Test.YteohpelbkmdlmaaCyc2
import Derived.Test.YteohpelbkmdlmaaOpenB
import Derived.Test.YteohpelbkmdlmaaFacts
namespace Go.Proofs.Yteohpelbkmdlmaa
open Go.ChangeShapes Go.WideShapes Go.ChangeAt Go.RowKit
set_option linter.unusedVariables false

theorem compose_parts {p q r : List Int} (h : composeR p q = some r) : permB p = true ∧ permB q = true ∧ p.length = q.length ∧ applyL q p = r := by
  unfold composeR at h
  split at h
  · rename_i hc
    rw [Bool.and_eq_true, Bool.and_eq_true, decide_eq_true_eq] at hc
    simp only [Option.some.injEq] at h
    exact ⟨hc.1, hc.2.1, hc.2.2, h⟩
  · cases h

namespace lawPermutations
set_option maxRecDepth 100000 in
set_option maxHeartbeats 4000000 in
theorem walk (A0 : Option Addr) (l0 : List Int) (c0 : Nat) (A1 : Option Addr) (l1 : List Int) (c1 : Nat) (w : World) (r0 : RdB w A0 l0) (b0 : l0.length ≤ c0) (m0 : c0 ≤ maxLen) (z0 : A0 = none → c0 = 0) (f0 : ∀ n ∈ l0, 0 ≤ n ∧ n ≤ 255) (r1 : RdB w A1 l1) (b1 : l1.length ≤ c1) (m1 : c1 ≤ maxLen) (z1 : A1 = none → c1 = 0) (f1 : ∀ n ∈ l1, 0 ≤ n ∧ n ≤ 255) :
    Calls Try.prog 19 #[.slice A0 l0.length c0, .slice A1 l1.length c1] w fun e w' => e = .returned (.bool true) ∧ Ext w w' := by
  clear z0 z1
  generalize hn0 : l0.length = n0 at *
  generalize hn1 : l1.length = n1 at *
  have Hn0 := Lib.hid hn0
  have Hn1 := Lib.hid hn1
  clear hn0 hn1
  by_cases hbig : 1048576 < n0 + n1
  · go_enter Try.func19, Try.ntmps19
    go_wp2_with fail
    refine (big_any A0 A1 n0 n1 c0 c1 _ (Nat.le_trans b0 m0) (Nat.le_trans b1 m1)).mono ?_
    rintro e w1 ⟨he, rfl⟩
    rw [decide_eq_true hbig] at he
    subst he
    go_wp2
    go_ret
    exact ⟨rfl, Ext.refl _⟩
  have hn1b : n1 ≤ 1048576 := by omega
  go_enter Try.func19, Try.ntmps19
  go_wp2_with fail
  refine (big_any A0 A1 n0 n1 c0 c1 _ (Nat.le_trans b0 m0) (Nat.le_trans b1 m1)).mono ?_
  rintro e w1 ⟨he, rfl⟩
  rw [decide_eq_false hbig] at he
  subst he
  go_wp2_with fail
  refine (DrawComposePermutations_any A0 n0 c0 l0 _ r0 Hn0.out (by omega) f0).mono ?_
  rintro e w2 ⟨Ap, np, cp, p, Aq, nq, cq, q, rfl, hP, hnp, hQ, hnq, E⟩
  go_wp2_with fail
  refine (iComposePermutations_any Ap np cp p Aq nq cq q _ hP.rd hP.len (by omega) hP.cap hQ.rd hQ.len (by omega) hQ.cap).mono ?_
  rintro e w3 ⟨Ar, nr, cr, he, hR, hb⟩
  replace E := E.trans hb
  replace hP := hP.ext hb
  replace hQ := hQ.ext hb
  clear hb
  obtain ⟨rr, hr0⟩ : ∃ rr, composeR p q = rr := ⟨_, rfl⟩
  rw [hr0] at he hR
  cases rr with
  | none =>
    simp only [Option.isSome_none, Option.getD_none] at he hR
    subst he
    have HR0 := Lib.hid hr0
    clear hr0
    go_wp2_with fail
    refine (sComposePermutations_any Ap np cp p Aq nq cq q _ hP.rd hP.len (by omega) hP.cap hQ.rd hQ.len (by omega) hQ.cap).mono ?_
    rintro e w4 ⟨Aw, nw, cw, he, hWn, hb⟩
    rw [HR0.out] at he hWn
    simp only [Option.isSome_none, Option.getD_none] at he hWn
    subst he
    replace E := E.trans hb
    replace hR := hR.ext hb
    clear hb
    go_wp2_with fail
    refine (sameInts_same hR.rd hWn.rd hR.len hWn.len hR.le hWn.le).mono ?_
    rintro e w5 ⟨rfl, hb⟩
    replace E := E.trans hb
    clear hb hWn hR hP hQ
    go_wp2_with fail
    refine (DrawCyclesOf_any A1 n1 c1 l1 _ (r1.ext E) Hn1.out hn1b f1).mono ?_
    rintro e ws ⟨As, ns, cs, s, rfl, hS, hns, hb⟩
    replace E := E.trans hb
    clear hb
    go_wp2_with fail
    refine (iCyclesOf_any As ns cs s _ hS.rd hS.len (by omega) hS.cap).mono ?_
    rintro e wi ⟨Ai, ni, ci, Pi, he, hI, hb⟩
    replace E := E.trans hb
    replace hS := hS.ext hb
    clear hb
    obtain ⟨rc, hrc⟩ : ∃ rc, cycR s = rc := ⟨_, rfl⟩
    have HRC := Lib.hid hrc
    rw [hrc] at he hI
    clear hrc
    cases rc with
    | none =>
      simp only [Option.isSome_none, Option.getD_none] at he hI
      subst he
      go_wp2_with fail
      refine (sCyclesOf_any As ns cs s _ hS.rd hS.len (by omega) hS.cap).mono ?_
      rintro e wj ⟨Aj, nj, cj, Pj, he, hJ, hb⟩
      rw [HRC.out] at he hJ
      simp only [Option.isSome_none, Option.getD_none] at he hJ
      subst he
      replace E := E.trans hb
      replace hI := hI.ext hb
      clear hb
      go_wp2_with fail
      refine (sameLists_same hI.rd hJ.rd hI.len hJ.len hI.le hJ.le).mono ?_
      rintro e wk ⟨rfl, hb⟩
      replace E := E.trans hb
      have hJn := hJ.len
      simp only [List.length_nil] at hJn
      subst hJn
      clear hb hJ hI hS
      go_wp2
      go_loopw [139] (fun i wr => i = .int .i64 0 ∧ Ext w wr) (fun i _ => (intOf i).toNat)
      case atStart => exact ⟨rfl, E⟩
      case round =>
        obtain ⟨rfl, hE⟩ := hrel
        go_wp2
        go_ret
        exact ⟨rfl, hE⟩
    | some ls =>
      simp only [Option.isSome_some, Option.getD_some] at he hI
      subst he
      have htot := cyc_tot HRC.out
      have hsl := hS.len
      go_wp2_with fail
      refine (sCyclesOf_any As ns cs s _ hS.rd hS.len (by omega) hS.cap).mono ?_
      rintro e wj ⟨Aj, nj, cj, Pj, he, hJ, hb⟩
      rw [HRC.out] at he hJ
      simp only [Option.isSome_some, Option.getD_some] at he hJ
      subst he
      replace E := E.trans hb
      replace hI := hI.ext hb
      clear hb
      go_wp2_with fail
      refine (sameLists_same hI.rd hJ.rd hI.len hJ.len hI.le hJ.le).mono ?_
      rintro e wk ⟨rfl, hb⟩
      replace E := E.trans hb
      replace hJ := hJ.ext hb
      have hJn := hJ.len
      have hJm := hJ.le
      unfold maxLen at hJm
      have htn : tot ls = ns := by omega
      have HTN := Lib.hid htn
      subst hJn
      clear hb hI hS htot hsl htn HRC
      go_wp2
      go_loopw [26, 139] (fun q i wr => ∃ j : Nat, j ≤ ls.length ∧ i = .int .i64 j ∧ q = .int .i64 (tot (ls.take j)) ∧ Ext wk wr) (fun _ i _ => ls.length - (intOf i).toNat)
      case atStart => exact ⟨0, Nat.zero_le _, rfl, by simp [tot], Ext.refl _⟩
      case round =>
        obtain ⟨j, hj, rfl, rfl, hE⟩ := hrel
        by_cases hlt : j < ls.length
        · obtain ⟨ad, rfl, Ar, nr, cr, hca, hra, hnr, hcr, hcm⟩ := (hJ.rd.ext hE).at_ hlt
          have ht := tot_take hlt
          have ht2 := tot_at hlt
          have ht3 := HTN.out
          rw [hnr] at ht ht2
          generalize tot (ls.take j) = y at *
          have HT := Lib.hid ht
          have hyb : y + nr ≤ 24 := by omega
          clear ht ht2 ht3 hra hnr
          go_wp2
          go_roundw
          case rel => exact ⟨j + 1, by omega, by go_num, by rw [HT.out]; push_cast; rfl, hE⟩
          case measure => simp [intOf]; omega
        · obtain rfl : j = ls.length := by omega
          rw [List.take_length]
          have ht3 := HTN.out
          generalize tot ls = y at *
          obtain rfl : y = ns := ht3
          go_wp2
          go_ret
          exact ⟨ret_bool (by simp), E.trans hE⟩
  | some r =>
    have hp := (compose_parts hr0).1
    have hq := (compose_parts hr0).2.1
    have hlpq := (compose_parts hr0).2.2.1
    obtain rfl := (compose_parts hr0).2.2.2
    have HP := Lib.hid hp
    have HQ := Lib.hid hq
    have HR := Lib.hid (perm_comp hp hq hlpq)
    have HMUL := Lib.hid (sgnVal_mul hp hq hlpq)
    have HINV := Lib.hid (comp_inv hp hq hlpq)
    have HIQ : Hid (invR q = some (invL q)) := by rw [invR, HQ.out]; exact rfl
    have ba := sgnVal_bd p
    have bb := sgnVal_bd q
    have bc := sgnVal_bd (applyL q p)
    have HR0 := Lib.hid hr0
    clear hp hq hlpq hr0
    generalize hra : applyL q p = r at *
    clear hra
    obtain ⟨sp, hsp⟩ : ∃ x, sgnVal p = x := ⟨_, rfl⟩
    obtain ⟨sq, hsq⟩ : ∃ x, sgnVal q = x := ⟨_, rfl⟩
    obtain ⟨sr, hsr⟩ : ∃ x, sgnVal r = x := ⟨_, rfl⟩
    have HSP := Lib.hid hsp
    have HSQ := Lib.hid hsq
    have HSR := Lib.hid hsr
    rw [hsp] at ba
    rw [hsq] at bb
    rw [hsr] at bc
    have hmul := HMUL.out
    rw [hsp, hsq, hsr] at hmul
    have hm1 : IntKind.i64.wrap (sp * sq) = sp * sq := by rw [hmul, IntKind.wrap_i64]; omega
    have hm2 : (sp * sq != sr) = false := by rw [hmul]; simp
    have hm3 : -1 ≤ sp * sq ∧ sp * sq ≤ 1 := by rw [hmul]; exact bc
    clear hsp hsq hsr hmul
    simp only [Option.isSome_some, Option.getD_some] at he hR
    subst he
    go_wp2_with fail
    refine (sComposePermutations_any Ap np cp p Aq nq cq q _ hP.rd hP.len (by omega) hP.cap hQ.rd hQ.len (by omega) hQ.cap).mono ?_
    rintro e w4 ⟨Aw, nw, cw, he, hWn, hb⟩
    rw [HR0.out] at he hWn
    simp only [Option.isSome_some, Option.getD_some] at he hWn
    subst he
    replace E := E.trans hb
    replace hP := hP.ext hb
    replace hQ := hQ.ext hb
    replace hR := hR.ext hb
    clear hb
    have hnr24 : nr ≤ 1048576 := by have h1 := composeR_bd p q; rw [HR0.out] at h1; have := hR.len; simp only [Option.getD_some] at h1; omega
    go_wp2_with fail
    refine (sameInts_same hR.rd hWn.rd hR.len hWn.len hR.le hWn.le).mono ?_
    rintro e w5 ⟨rfl, hb⟩
    replace E := E.trans hb
    replace hP := hP.ext hb
    replace hQ := hQ.ext hb
    replace hR := hR.ext hb
    clear hb hWn
    go_wp2_with fail
    refine (iSignOf_any Ap np cp p _ hP.rd hP.len (by omega) hP.cap).mono ?_
    rintro e w6 ⟨he, hb⟩
    rw [HSP.out, HP.out] at he
    subst he
    replace E := E.trans hb
    replace hP := hP.ext hb
    replace hQ := hQ.ext hb
    replace hR := hR.ext hb
    clear hb
    go_wp2_with fail
    refine (iSignOf_any Aq nq cq q _ hQ.rd hQ.len (by omega) hQ.cap).mono ?_
    rintro e w7 ⟨he, hb⟩
    rw [HSQ.out, HQ.out] at he
    subst he
    replace E := E.trans hb
    replace hP := hP.ext hb
    replace hQ := hQ.ext hb
    replace hR := hR.ext hb
    clear hb
    go_wp2_with fail
    refine (iSignOf_any Ar nr cr r _ hR.rd hR.len (by omega) hR.cap).mono ?_
    rintro e w8 ⟨he, hb⟩
    rw [HSR.out, HR.out] at he
    subst he
    replace E := E.trans hb
    replace hP := hP.ext hb
    replace hQ := hQ.ext hb
    replace hR := hR.ext hb
    clear hb
    go_wp2_with fail
    refine (iInversePermutation_any Aq nq cq q _ hQ.rd hQ.len (by omega) hQ.cap).mono ?_
    rintro e w9 ⟨Av, nv, cv, he, hV, hb⟩
    rw [HIQ.out] at he hV
    simp only [Option.isSome_some, Option.getD_some] at he hV
    subst he
    replace E := E.trans hb
    replace hP := hP.ext hb
    replace hR := hR.ext hb
    clear hb
    have hnv24 : nv ≤ 1048576 := by have h1 := invR_bd q; rw [HIQ.out] at h1; have := hV.len; simp only [Option.getD_some] at h1; omega
    go_wp2_with fail
    refine (iComposePermutations_any Ar nr cr r Av nv cv (invL q) _ hR.rd hR.len (by omega) hR.cap hV.rd hV.len (by omega) hV.cap).mono ?_
    rintro e w10 ⟨Ab, nb, cb, he, hB, hb⟩
    rw [HINV.out] at he hB
    simp only [Option.isSome_some, Option.getD_some] at he hB
    subst he
    replace E := E.trans hb
    replace hP := hP.ext hb
    clear hb hR hV hQ
    go_wp2_with fail
    refine (sameInts_same hB.rd hP.rd hB.len hP.len hB.le hP.le).mono ?_
    rintro e w11 ⟨rfl, hb⟩
    replace E := E.trans hb
    clear hb hB hP
    go_wp2_with fail
    refine (DrawCyclesOf_any A1 n1 c1 l1 _ (r1.ext E) Hn1.out hn1b f1).mono ?_
    rintro e ws ⟨As, ns, cs, s, rfl, hS, hns, hb⟩
    replace E := E.trans hb
    clear hb
    go_wp2_with fail
    refine (iCyclesOf_any As ns cs s _ hS.rd hS.len (by omega) hS.cap).mono ?_
    rintro e wi ⟨Ai, ni, ci, Pi, he, hI, hb⟩
    replace E := E.trans hb
    replace hS := hS.ext hb
    clear hb
    obtain ⟨rc, hrc⟩ : ∃ rc, cycR s = rc := ⟨_, rfl⟩
    have HRC := Lib.hid hrc
    rw [hrc] at he hI
    clear hrc
    cases rc with
    | none =>
      simp only [Option.isSome_none, Option.getD_none] at he hI
      subst he
      go_wp2_with fail
      refine (sCyclesOf_any As ns cs s _ hS.rd hS.len (by omega) hS.cap).mono ?_
      rintro e wj ⟨Aj, nj, cj, Pj, he, hJ, hb⟩
      rw [HRC.out] at he hJ
      simp only [Option.isSome_none, Option.getD_none] at he hJ
      subst he
      replace E := E.trans hb
      replace hI := hI.ext hb
      clear hb
      go_wp2_with fail
      refine (sameLists_same hI.rd hJ.rd hI.len hJ.len hI.le hJ.le).mono ?_
      rintro e wk ⟨rfl, hb⟩
      replace E := E.trans hb
      have hJn := hJ.len
      simp only [List.length_nil] at hJn
      subst hJn
      clear hb hJ hI hS
      go_wp2
      go_loopw [139] (fun i wr => i = .int .i64 0 ∧ Ext w wr) (fun i _ => (intOf i).toNat)
      case atStart => exact ⟨rfl, E⟩
      case round =>
        obtain ⟨rfl, hE⟩ := hrel
        go_wp2
        go_ret
        exact ⟨rfl, hE⟩
    | some ls =>
      simp only [Option.isSome_some, Option.getD_some] at he hI
      subst he
      have htot := cyc_tot HRC.out
      have hsl := hS.len
      go_wp2_with fail
      refine (sCyclesOf_any As ns cs s _ hS.rd hS.len (by omega) hS.cap).mono ?_
      rintro e wj ⟨Aj, nj, cj, Pj, he, hJ, hb⟩
      rw [HRC.out] at he hJ
      simp only [Option.isSome_some, Option.getD_some] at he hJ
      subst he
      replace E := E.trans hb
      replace hI := hI.ext hb
      clear hb
      go_wp2_with fail
      refine (sameLists_same hI.rd hJ.rd hI.len hJ.len hI.le hJ.le).mono ?_
      rintro e wk ⟨rfl, hb⟩
      replace E := E.trans hb
      replace hJ := hJ.ext hb
      have hJn := hJ.len
      have hJm := hJ.le
      unfold maxLen at hJm
      have htn : tot ls = ns := by omega
      have HTN := Lib.hid htn
      subst hJn
      clear hb hI hS htot hsl htn HRC
      go_wp2
      go_loopw [26, 139] (fun q i wr => ∃ j : Nat, j ≤ ls.length ∧ i = .int .i64 j ∧ q = .int .i64 (tot (ls.take j)) ∧ Ext wk wr) (fun _ i _ => ls.length - (intOf i).toNat)
      case atStart => exact ⟨0, Nat.zero_le _, rfl, by simp [tot], Ext.refl _⟩
      case round =>
        obtain ⟨j, hj, rfl, rfl, hE⟩ := hrel
        by_cases hlt : j < ls.length
        · obtain ⟨ad, rfl, Ar, nr, cr, hca, hra, hnr, hcr, hcm⟩ := (hJ.rd.ext hE).at_ hlt
          have ht := tot_take hlt
          have ht2 := tot_at hlt
          have ht3 := HTN.out
          rw [hnr] at ht ht2
          generalize tot (ls.take j) = y at *
          have HT := Lib.hid ht
          have hyb : y + nr ≤ 24 := by omega
          clear ht ht2 ht3 hra hnr
          go_wp2
          go_roundw
          case rel => exact ⟨j + 1, by omega, by go_num, by rw [HT.out]; push_cast; rfl, hE⟩
          case measure => simp [intOf]; omega
        · obtain rfl : j = ls.length := by omega
          rw [List.take_length]
          have ht3 := HTN.out
          generalize tot ls = y at *
          obtain rfl : y = ns := ht3
          go_wp2
          go_ret
          exact ⟨ret_bool (by simp), E.trans hE⟩
end lawPermutations

set_option maxRecDepth 100000 in
theorem lawPermutations.lifted (os : Os) (started : os.Started) (H : Type) (enc : TypeId × Value → H) :
    ReturnsInHanded {} Try.checked os 19 .any (Rows.fnPermutationsSpec.pre6 enc Try.prog Try.f19 Rows.fnPermutationsRow.domain false) (Rows.fnPermutationsSpec.post enc Try.prog Try.f19 false true false false) := by
  refine returnsInHanded_of_change (C := Try.checked) Facts.own started (by kernel_rfl) Try.func19
    (ChangeSpec.witness6 (enc := enc) (C := Try.checked) false ⟨#[], #[.slice none 0 0, .slice none 0 0], []⟩ 8 (by kernel_rfl) (by kernel_rfl) (by kernel_rfl) (by kernel_rfl)) ?_
  intro W base args ds gs before hval0 hW _ _
  have hval : ∀ (j : Nat) t v, Try.f19.params[j]? = some t → args[j]? = some v → Value.okWide Try.prog W .any base t v := hval0
  have hW' := hW
  obtain ⟨p, q, hA0, hV, rfl, hfz, hnd⟩ := hW
  have hA : DataW.TrodAll enc Try.prog W 0 (fun _ => true) true Try.f19.params.toList args.toList ds p := hA0
  rw [Try.params19] at hA hval
  obtain ⟨v0, vs0, d0, ds0, p0, q0, hargs, rfl, rfl, h0, r0⟩ := trodAll_cons hA
  obtain ⟨v1, vs1, d1, ds1, p1, q1, rfl, rfl, rfl, h1, r1⟩ := trodAll_cons r0
  obtain ⟨rfl, rfl, rfl⟩ := trodAll_nil r1
  obtain rfl : args = #[v0, v1] := by cases args; simp_all
  obtain ⟨rfl, rfl⟩ := trodVars_none hV
  have hlt := hW'.lt
  clear hA hA0 hval0 hargs r0 r1
  have k0 := h0
  have k1 := h1
  obtain ⟨A0, l0, c0, rfl, r0, b0, m0, z0, f0⟩ := openBS Try.underlying57 Try.underlying5 (by kernel_rfl) (hval 0 57 v0 rfl rfl) h0
  obtain ⟨A1, l1, c1, rfl, r1, b1, m1, z1, f1⟩ := openBS Try.underlying57 Try.underlying5 (by kernel_rfl) (hval 1 57 v1 rfl rfl) h1
  refine (lawPermutations.walk A0 l0 c0 A1 l1 c1 W r0 b0 m0 z0 f0 r1 b1 m1 z1 f1).mono fun e W' ⟨he, hg⟩ => ?_
  subst he
  exact ⟨_, rfl, post_below (pv := []) hW' (fun _ _ _ => (trodAll_cons_mk (shut_bool Try.underlying4 _) trodAll_mk0)) (fun sp hsp => (trodAll_cons_mk (WideElems.Trod_stays Facts.laidOut (by kernel_rfl) (of_decide_eq_true (by kernel_rfl)) k0 (fun x hx => hg.same (hlt x (by simp [hx]))) (fun x hx => hsp x (by simp [hx]))) (trodAll_cons_mk (WideElems.Trod_stays Facts.laidOut (by kernel_rfl) (of_decide_eq_true (by kernel_rfl)) k1 (fun x hx => hg.same (hlt x (by simp [hx]))) (fun x hx => hsp x (by simp [hx]))) trodAll_mk0))) (fun _ _ => rfl) rfl
    hg (ok_one (by kernel_rfl) rfl (okWide_bool_mk Try.underlying4 _))⟩

theorem lawPermutations.named : Try.pinned.checked.prog.funcNamed Rows.fnPermutationsRow.func = some 19 := by kernel_rfl
theorem lawPermutations.z9 : (Rows.fnPermutationsRow.inPlace == Try.prog.inPlace 19) = true := by kernel_rfl
theorem lawPermutations.z10 : (Rows.fnPermutationsRow.unfollowed == Try.prog.unfollowed 19) = true := by kernel_rfl
theorem lawPermutations.z11 : (Rows.fnPermutationsRow.recurses == Try.prog.recurses 19) = true := by kernel_rfl
theorem lawPermutations.z12 : (Rows.fnPermutationsRow.named == Try.prog.varsNamed 19) = true := by kernel_rfl
theorem lawPermutations.closed : joinedFacts Try.prog 19 Try.f19 Rows.fnPermutationsSpec Rows.fnPermutationsRow = true :=
  joined_of (by kernel_rfl) Facts.laidOut Facts.mapsRowed (by kernel_rfl) (by kernel_rfl) (by kernel_rfl) (by kernel_rfl) (by kernel_rfl) (by kernel_rfl) lawPermutations.z9 lawPermutations.z10 lawPermutations.z11 lawPermutations.z12 (by kernel_rfl) (by kernel_rfl) (by kernel_rfl) (by kernel_rfl) (by kernel_rfl) (by kernel_rfl) (by kernel_rfl) (by kernel_rfl) (by kernel_rfl) (by rw [Facts.plainKeys]; rfl) (by kernel_rfl) Facts.heard Facts.enter (by rw [Facts.lifts]; rfl) (by rw [Facts.make]; rfl) (by kernel_rfl) (by kernel_rfl) (by kernel_rfl) (by kernel_rfl)
theorem lawPermutations.inst : Try.f19.isInstance Try.pinned.checked.prog Rows.fnPermutationsRow.origin Rows.fnPermutationsRow.targs := of_decide_eq_true (by kernel_rfl)
theorem lawPermutations.wrap : Try.f19.isWrapper Try.pinned.checked.prog Rows.fnPermutationsRow.wrapper Rows.fnPermutationsRow.mainSum := by
  unfold Func.isWrapper; first | (rw [if_pos (by decide +kernel)]; kernel_rfl) | (rw [if_neg (by decide +kernel)]; exact ⟨rfl, rfl⟩)
theorem lawPermutations.over : Rows.fnPermutationsRow.holds Try.pinned (OpenSpec.ofChange Rows.fnPermutationsSpec) :=
  OpenClaim.holds_of_wide 19 Try.f19 rfl rfl rfl rfl rfl rfl rfl ⟨rfl, rfl, rfl, rfl, rfl⟩ rfl rfl rfl rfl rfl lawPermutations.named Try.func19 lawPermutations.closed
    lawPermutations.inst lawPermutations.wrap (fun os started H enc _ => lawPermutations.lifted os started H enc)

theorem lawPermutations.proved : Rows.FnPermutationsSaid := lawPermutations.over
#print axioms lawPermutations.proved
end Go.Proofs.Yteohpelbkmdlmaa
