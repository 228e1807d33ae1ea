/- The law FnRanks returns true for every input. It holds without a condition. -/
import Derived.Test.YticimniegecfeaaRows
import Derived.Test.YticimniegecfeaaRankP
import Derived.Test.YticimniegecfeaaUnr
import Derived.Test.YticimniegecfeaaCurP
import Derived.Test.YticimniegecfeaaCurW
import Derived.Test.YticimniegecfeaaSame
import Derived.Test.YticimniegecfeaaOpenB
import Derived.Test.YticimniegecfeaaFacts
namespace Go.Proofs.Yticimniegecfeaa
open Go.ChangeShapes Go.WideShapes Go.ChangeAt Go.RowKit
set_option linter.unusedVariables false

theorem DrawRankOf_any (A : Option Addr) (n c : Nat) (l : List Int) (w : World) (hR : RdB w A l) (hl : l.length = n) (hn : n ≤ 9223372036854775807) (hx : ∀ x ∈ l, 0 ≤ x ∧ x ≤ 255) :
    Calls Try.prog 67 #[.slice A n c] w fun e w' => DrawnI w e w' := by
  have HL := Lib.hid hl
  clear hl
  go_enter Try.func67, Try.ntmps67
  go_wp2_with fail
  refine (DrawIsPermutation_any A n c l _ hR HL.out hn hx).mono ?_
  rintro e w1 ⟨A1, n1, c1, p, rfl, hP, hn1, hE⟩
  go_wp2
  go_ret
  exact ⟨_, _, _, _, rfl, hP, hn1, hE⟩
theorem rk_fits {p : List Int} : Fits (rkVal p) := by
  unfold rkVal Fits
  split
  · rename_i h
    unfold rkOk at h
    rw [Bool.and_eq_true, decide_eq_true_eq] at h
    have h1 := rkS_lt p
    have h2 := factN_mono h.2
    rw [factN_12] at h2
    omega
  · omega

namespace lawRanks
set_option maxRecDepth 100000 in
set_option maxHeartbeats 4000000 in
theorem walk (A0 : Option Addr) (l0 : List Int) (c0 : Nat) (A1 : Option Addr) (l1 : List Int) (c1 : Nat) (w : World) (r0 : RdB w A0 l0) (b0 : l0.length ≤ c0) (m0 : c0 ≤ maxLen) (z0 : A0 = none → c0 = 0) (f0 : ∀ n ∈ l0, 0 ≤ n ∧ n ≤ 255) (r1 : RdB w A1 l1) (b1 : l1.length ≤ c1) (m1 : c1 ≤ maxLen) (z1 : A1 = none → c1 = 0) (f1 : ∀ n ∈ l1, 0 ≤ n ∧ n ≤ 255) :
    Calls Try.prog 9 #[.slice A0 l0.length c0, .slice A1 l1.length c1] w fun e w' => e = .returned (.bool true) ∧ Ext w w' := by
  clear z0 z1
  generalize hn0 : l0.length = n0 at *
  generalize hn1 : l1.length = n1 at *
  have Hn0 := Lib.hid hn0
  have Hn1 := Lib.hid hn1
  clear hn0 hn1
  by_cases hbig : 1048576 < n0 + n1
  · go_enter Try.func9, Try.ntmps9
    go_wp2_with fail
    refine (big_any A0 A1 n0 n1 c0 c1 _ (Nat.le_trans b0 m0) (Nat.le_trans b1 m1)).mono ?_
    rintro e w1 ⟨he, rfl⟩
    rw [decide_eq_true hbig] at he
    subst he
    go_wp2
    go_ret
    exact ⟨rfl, Ext.refl _⟩
  have hn1b : n1 ≤ 1048576 := by omega
  go_enter Try.func9, Try.ntmps9
  go_wp2_with fail
  refine (big_any A0 A1 n0 n1 c0 c1 _ (Nat.le_trans b0 m0) (Nat.le_trans b1 m1)).mono ?_
  rintro e w1 ⟨he, rfl⟩
  rw [decide_eq_false hbig] at he
  subst he
  go_wp2_with fail
  refine (DrawRankOf_any A0 n0 c0 l0 _ r0 Hn0.out (by omega) f0).mono ?_
  rintro e w2 ⟨Ap, np, cp, p, rfl, hP, hnp, E⟩
  go_wp2_with fail
  refine (iRankOf_any Ap np cp p _ hP.rd hP.len (by omega) hP.cap).mono ?_
  rintro e w3 ⟨rfl, hb⟩
  replace E := E.trans hb
  replace hP := hP.ext hb
  clear hb
  go_wp2_with fail
  refine (sRankOf_any Ap np cp p _ hP.rd hP.len (by omega) hP.cap).mono ?_
  rintro e w4 ⟨rfl, hb⟩
  replace E := E.trans hb
  replace hP := hP.ext hb
  clear hb
  cases hok : rkOk p
  case' true =>
    have hpp : permB p = true ∧ p.length ≤ 12 := by unfold rkOk at hok; rw [Bool.and_eq_true, decide_eq_true_eq] at hok; exact hok
    have hun := unr_rank hpp.1 hpp.2
    rw [hP.len] at hun
    have HUN := Lib.hid hun
    have hfit := rk_fits (p := p)
    have hnf : Fits (np : Int) := by unfold Fits; omega
    generalize rkVal p = rk at *
    clear hun hok hpp
    go_wp2_with fail
    refine (iPermutationOf_any np rk _ hnf hfit).mono ?_
    rintro e w5 ⟨Aq, nq, cq, he, hQ, hb⟩
    rw [HUN.out] at he hQ
    simp only [Option.isSome_some, Option.getD_some] at he hQ
    subst he
    replace E := E.trans hb
    replace hP := hP.ext hb
    clear hb
    go_wp2_with fail
    refine (sameInts_same hP.rd hQ.rd hP.len hQ.len hP.le hQ.le).mono ?_
    rintro e w6 ⟨rfl, hb⟩
    replace E := E.trans hb
    replace hP := hP.ext hb
    clear hb hQ HUN hfit hnf
  case' false =>
    generalize rkVal p = rk at *
    clear hok
  all_goals
    go_wp2_with fail
    refine (iMatrixOf_any Ap np cp p _ hP.rd hP.len (by omega) hP.cap).mono ?_
    rintro e w7 ⟨Am, nm, cm, Pm, he, hM, hb⟩
    replace E := E.trans hb
    replace hP := hP.ext hb
    clear hb
    cases hperm : permB p
    case' true =>
      have hm : matR p = some (matL p) := by simp [matR, hperm]
      have hpm := pm_mat hperm
      have hbd := (matR_bd p).2
      rw [hm] at he hM hbd
      simp only [Option.isSome_some, Option.getD_some] at he hM hbd
      subst he
      have HPM := Lib.hid hpm
      clear hm hpm hperm
      have hbd2 : nm + tot (matL p) ≤ 1048576 := by have h1 := hM.len; have h2 : (matL p).length = p.length := by simp [matL]
                                                    have h3 := hP.len; omega
      go_wp2_with fail
      refine (iPermutationOfMatrix_any Am nm cm (matL p) _ hM.rd hM.len hbd2 hM.cap).mono ?_
      rintro e w8 ⟨Aq, nq, cq, he, hQ, hb⟩
      rw [HPM.out] at he hQ
      simp only [Option.isSome_some, Option.getD_some] at he hQ
      subst he
      replace E := E.trans hb
      replace hP := hP.ext hb
      clear hb hM HPM hbd hbd2
      go_wp2_with fail
      refine (sameInts_same hP.rd hQ.rd hP.len hQ.len hP.le hQ.le).mono ?_
      rintro e w9 ⟨rfl, hb⟩
      replace E := E.trans hb
      clear hb hQ hP
    case' false =>
      have hm : matR p = none := by simp [matR, hperm]
      rw [hm] at he hM
      simp only [Option.isSome_none, Option.getD_none] at he hM
      subst he
      clear hm hperm hM hP
    all_goals
      go_wp2_with fail
      refine (DrawShuffleCoins_any A1 n1 c1 l1 _ (r1.ext E) Hn1.out (by omega) f1).mono ?_
      rintro e wa ⟨m, As, ns, cs, s, rfl, hS, hns, hb⟩
      replace E := E.trans hb
      clear hb
      go_wp2_with fail
      refine (iShuffleCoins_any m As ns cs s _ hS.rd hS.len (by omega) hS.cap).mono ?_
      rintro e wb ⟨Ai, ni, ci, he, hI, hb⟩
      replace E := E.trans hb
      replace hS := hS.ext hb
      clear hb
      obtain ⟨rr, hrr⟩ : ∃ rr, shufR m s = rr := ⟨_, rfl⟩
      have HRR := Lib.hid hrr
      rw [hrr] at he hI
      clear hrr
      cases rr with
      | none =>
        simp only [Option.isSome_none, Option.getD_none] at he hI
        subst he
        go_wp2_with fail
        refine (sShuffleCoins_any m As ns cs s _ hS.rd hS.len (by omega) hS.cap).mono ?_
        rintro e wc ⟨Aj, nj, cj, he, hJ, hb⟩
        rw [HRR.out] at he hJ
        simp only [Option.isSome_none, Option.getD_none] at he hJ
        subst he
        replace E := E.trans hb
        replace hI := hI.ext hb
        clear hb hS
        go_wp2_with fail
        refine (sameInts_same hI.rd hJ.rd hI.len hJ.len hI.le hJ.le).mono ?_
        rintro e wd ⟨rfl, hb⟩
        replace E := E.trans hb
        go_wp2
        go_ret
        exact ⟨rfl, E⟩
      | some t =>
        obtain ⟨hpt, hlt⟩ := shuf_perm HRR.out
        have HPT := Lib.hid hpt
        simp only [Option.isSome_some, Option.getD_some] at he hI
        subst he
        go_wp2_with fail
        refine (sShuffleCoins_any m As ns cs s _ hS.rd hS.len (by omega) hS.cap).mono ?_
        rintro e wc ⟨Aj, nj, cj, he, hJ, hb⟩
        rw [HRR.out] at he hJ
        simp only [Option.isSome_some, Option.getD_some] at he hJ
        subst he
        replace E := E.trans hb
        replace hI := hI.ext hb
        have hil := hI.len
        have hm : m = (ni : Int) := by omega
        have HM := Lib.hid hm
        clear hb hS hpt hlt hil hm
        go_wp2_with fail
        refine (sameInts_same hI.rd hJ.rd hI.len hJ.len hI.le hJ.le).mono ?_
        rintro e wd ⟨rfl, hb⟩
        replace E := E.trans hb
        replace hI := hI.ext hb
        clear hb hJ
        go_wp2_with fail
        refine (iIsPermutation_b Ai ni ci t _ hI.rd hI.len hI.cap.1 hI.cap.2).mono ?_
        rintro e we ⟨he, hb⟩
        rw [HPT.out] at he
        subst he
        have hme : ((ni : Int) == m) = true := by rw [HM.out]; simp
        go_wp2
        go_ret
        exact ⟨rfl, E.trans hb⟩
end lawRanks

set_option maxRecDepth 100000 in
theorem lawRanks.lifted (os : Os) (started : os.Started) (H : Type) (enc : TypeId × Value → H) :
    ReturnsInHanded {} Try.checked os 9 .any (Rows.fnRanksSpec.pre6 enc Try.prog Try.f9 Rows.fnRanksRow.domain false) (Rows.fnRanksSpec.post enc Try.prog Try.f9 false true false false) := by
  refine returnsInHanded_of_change (C := Try.checked) Facts.own started (by kernel_rfl) Try.func9
    (ChangeSpec.witness6 (enc := enc) (C := Try.checked) false ⟨#[], #[.slice none 0 0, .slice none 0 0], []⟩ 8 (by kernel_rfl) (by kernel_rfl) (by kernel_rfl) (by kernel_rfl)) ?_
  intro W base args ds gs before hval0 hW _ _
  have hval : ∀ (j : Nat) t v, Try.f9.params[j]? = some t → args[j]? = some v → Value.okWide Try.prog W .any base t v := hval0
  have hW' := hW
  obtain ⟨p, q, hA0, hV, rfl, hfz, hnd⟩ := hW
  have hA : DataW.TrodAll enc Try.prog W 0 (fun _ => true) true Try.f9.params.toList args.toList ds p := hA0
  rw [Try.params9] at hA hval
  obtain ⟨v0, vs0, d0, ds0, p0, q0, hargs, rfl, rfl, h0, r0⟩ := trodAll_cons hA
  obtain ⟨v1, vs1, d1, ds1, p1, q1, rfl, rfl, rfl, h1, r1⟩ := trodAll_cons r0
  obtain ⟨rfl, rfl, rfl⟩ := trodAll_nil r1
  obtain rfl : args = #[v0, v1] := by cases args; simp_all
  obtain ⟨rfl, rfl⟩ := trodVars_none hV
  have hlt := hW'.lt
  clear hA hA0 hval0 hargs r0 r1
  have k0 := h0
  have k1 := h1
  obtain ⟨A0, l0, c0, rfl, r0, b0, m0, z0, f0⟩ := openBS Try.underlying28 Try.underlying5 (by kernel_rfl) (hval 0 28 v0 rfl rfl) h0
  obtain ⟨A1, l1, c1, rfl, r1, b1, m1, z1, f1⟩ := openBS Try.underlying28 Try.underlying5 (by kernel_rfl) (hval 1 28 v1 rfl rfl) h1
  refine (lawRanks.walk A0 l0 c0 A1 l1 c1 W r0 b0 m0 z0 f0 r1 b1 m1 z1 f1).mono fun e W' ⟨he, hg⟩ => ?_
  subst he
  exact ⟨_, rfl, post_below (pv := []) hW' (fun _ _ _ => (trodAll_cons_mk (shut_bool Try.underlying4 _) trodAll_mk0)) (fun sp hsp => (trodAll_cons_mk (WideElems.Trod_stays Facts.laidOut (by kernel_rfl) (of_decide_eq_true (by kernel_rfl)) k0 (fun x hx => hg.same (hlt x (by simp [hx]))) (fun x hx => hsp x (by simp [hx]))) (trodAll_cons_mk (WideElems.Trod_stays Facts.laidOut (by kernel_rfl) (of_decide_eq_true (by kernel_rfl)) k1 (fun x hx => hg.same (hlt x (by simp [hx]))) (fun x hx => hsp x (by simp [hx]))) trodAll_mk0))) (fun _ _ => rfl) rfl
    hg (ok_one (by kernel_rfl) rfl (okWide_bool_mk Try.underlying4 _))⟩

theorem lawRanks.named : Try.pinned.checked.prog.funcNamed Rows.fnRanksRow.func = some 9 := by kernel_rfl
theorem lawRanks.z9 : (Rows.fnRanksRow.inPlace == Try.prog.inPlace 9) = true := by kernel_rfl
theorem lawRanks.z10 : (Rows.fnRanksRow.unfollowed == Try.prog.unfollowed 9) = true := by kernel_rfl
theorem lawRanks.z11 : (Rows.fnRanksRow.recurses == Try.prog.recurses 9) = true := by kernel_rfl
theorem lawRanks.z12 : (Rows.fnRanksRow.named == Try.prog.varsNamed 9) = true := by kernel_rfl
theorem lawRanks.closed : joinedFacts Try.prog 9 Try.f9 Rows.fnRanksSpec Rows.fnRanksRow = true :=
  joined_of (by kernel_rfl) Facts.laidOut Facts.mapsRowed (by kernel_rfl) (by kernel_rfl) (by kernel_rfl) (by kernel_rfl) (by kernel_rfl) (by kernel_rfl) lawRanks.z9 lawRanks.z10 lawRanks.z11 lawRanks.z12 (by kernel_rfl) (by kernel_rfl) (by kernel_rfl) (by kernel_rfl) (by kernel_rfl) (by kernel_rfl) (by kernel_rfl) (by kernel_rfl) (by kernel_rfl) (by rw [Facts.plainKeys]; rfl) (by kernel_rfl) Facts.heard Facts.enter (by rw [Facts.lifts]; rfl) (by rw [Facts.make]; rfl) (by kernel_rfl) (by kernel_rfl) (by kernel_rfl) (by kernel_rfl)
theorem lawRanks.inst : Try.f9.isInstance Try.pinned.checked.prog Rows.fnRanksRow.origin Rows.fnRanksRow.targs := of_decide_eq_true (by kernel_rfl)
theorem lawRanks.wrap : Try.f9.isWrapper Try.pinned.checked.prog Rows.fnRanksRow.wrapper Rows.fnRanksRow.mainSum := by
  unfold Func.isWrapper; first | (rw [if_pos (by decide +kernel)]; kernel_rfl) | (rw [if_neg (by decide +kernel)]; exact ⟨rfl, rfl⟩)
theorem lawRanks.over : Rows.fnRanksRow.holds Try.pinned (OpenSpec.ofChange Rows.fnRanksSpec) :=
  OpenClaim.holds_of_wide 9 Try.f9 rfl rfl rfl rfl rfl rfl rfl ⟨rfl, rfl, rfl, rfl, rfl⟩ rfl rfl rfl rfl rfl lawRanks.named Try.func9 lawRanks.closed
    lawRanks.inst lawRanks.wrap (fun os started H enc _ => lawRanks.lifted os started H enc)

theorem lawRanks.proved : Rows.FnRanksSaid := lawRanks.over
#print axioms lawRanks.proved
end Go.Proofs.Yticimniegecfeaa
