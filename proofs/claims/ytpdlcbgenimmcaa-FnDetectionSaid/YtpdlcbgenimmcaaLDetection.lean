/- The law FnDetection returns true for every input. It holds without a condition. -/
import Derived.Test.YtpdlcbgenimmcaaRows
import Derived.Test.YtpdlcbgenimmcaaDch
import Derived.Test.YtpdlcbgenimmcaaAud
import Derived.Test.YtpdlcbgenimmcaaCurD
import Derived.Test.YtpdlcbgenimmcaaSame
import Derived.Test.YtpdlcbgenimmcaaOpenB
import Derived.Test.YtpdlcbgenimmcaaFacts
import Derived.Deep.CutRange
import Derived.Deep.QuietTactic
import Derived.BigQuiet
import Derived.IntWalk
namespace Go.Proofs.Ytpdlcbgenimmcaa
open Go.ChangeShapes Go.WideShapes Go.ChangeAt Go.RowKit
set_option linter.unusedVariables false

theorem det_law {n b k : Int} (h : goodCh n b k = true) :
    (choose (n - b) k == 0) = decide (n - b < k) ∧ (chN n b k / chG n b k == choose n k / chG n b k) = decide (n - b < k) := by
  have h' := (goodCh_iff n b k).1 h
  have hw : choose (n - b) k = 0 ↔ n - b < k := by
    constructor
    · intro h0
      apply Int.not_le.1
      intro hle
      have := choose_pos (n := n - b) (k := k) (by omega) hle (by omega)
      omega
    · intro hlt
      unfold choose
      rw [if_pos (.inr hlt)]
  have hG := chG_pos h'
  have d1 : chG n b k ∣ chN n b k := Int.gcd_dvd_left _ _
  have d2 : chG n b k ∣ choose n k := Int.gcd_dvd_right _ _
  have hX : chN n b k / chG n b k = choose n k / chG n b k ↔ n - b < k := by
    rw [← hw]
    obtain ⟨x, hx⟩ := d1
    obtain ⟨y, hy⟩ := d2
    have hne : chG n b k ≠ 0 := by omega
    rw [show chN n b k / chG n b k = x by rw [hx, Int.mul_ediv_cancel_left _ hne], show choose n k / chG n b k = y by rw [hy, Int.mul_ediv_cancel_left _ hne]]
    have hN : chN n b k = choose n k - choose (n - b) k := rfl
    constructor
    · rintro rfl; omega
    · intro h0
      rw [h0, Int.sub_zero, hx, hy] at hN
      exact Int.eq_of_mul_eq_mul_left hne hN
  refine ⟨?_, ?_⟩
  · rw [Bool.eq_iff_iff]; simp [hw]
  · rw [Bool.eq_iff_iff]; simp [hX]
theorem least_form (n b x y : Int) : ∃ (m : Int) (v : Bool), leastRes n b x y = .tuple #[.int .i64 m, .bool v] := by
  unfold leastRes
  split
  · split
    · exact ⟨_, _, rfl⟩
    · exact ⟨_, _, rfl⟩
  · exact ⟨_, _, rfl⟩
theorem auR_facts {s n k : Int} {L : List Int} {K : Bool} (hL : (auR s n k).getD [] = L) (hK : (auR s n k).isSome = K) :
    (∀ j, (h : j < L.length) → 0 ≤ L[j] ∧ L[j] < n) ∧ (∀ j, (h : j + 1 < L.length) → L[j] < L[j + 1]) ∧ (K = true → (L.length : Int) = k) := by
  unfold auR at hL hK
  by_cases h : auG s n k = true
  · rw [if_pos h] at hL hK
    simp only [Option.getD_some] at hL
    simp only [auG, Bool.and_eq_true] at h
    have h2 := inR_iff.1 h.2.1
    have h3 := inR_iff.1 h.2.2
    have h4 := auL_rise s (n := n.toNat) (k := k.toNat) (by omega)
    have h5 := auL_rng s (n := n.toNat) (k := k.toNat) (by omega)
    have h6 := auL_length s (n := n.toNat) (k := k.toNat) (by omega)
    rw [hL] at h4 h5 h6
    refine ⟨fun j hj => ?_, fun j hj => List.pairwise_iff_getElem.1 h4 j (j + 1) (by omega) hj (by omega), fun _ => by omega⟩
    have := h5 _ (List.getElem_mem hj)
    omega
  · rw [if_neg h] at hL hK
    simp only [Option.getD_none] at hL
    subst hL
    exact ⟨fun j hj => absurd hj (by simp), fun j hj => absurd hj (by simp), fun h => by subst h; cases hK⟩

namespace lawDetection
set_option maxRecDepth 100000 in
set_option maxHeartbeats 8000000 in
theorem walk (A0 : Option Addr) (l0 : List Int) (c0 : Nat) (A1 : Option Addr) (l1 : List Int) (c1 : Nat) (w : World) (r0 : RdB w A0 l0) (b0 : l0.length ≤ c0) (m0 : c0 ≤ maxLen) (z0 : A0 = none → c0 = 0) (f0 : ∀ n ∈ l0, 0 ≤ n ∧ n ≤ 255) (r1 : RdB w A1 l1) (b1 : l1.length ≤ c1) (m1 : c1 ≤ maxLen) (z1 : A1 = none → c1 = 0) (f1 : ∀ n ∈ l1, 0 ≤ n ∧ n ≤ 255) :
    Calls Try.prog 8 #[.slice A0 l0.length c0, .slice A1 l1.length c1] w fun e w' => e = .returned (.bool true) ∧ Ext w w' := by
  clear z0 z1
  generalize hn0 : l0.length = n0 at *
  generalize hn1 : l1.length = n1 at *
  have Hn0 := Lib.hid hn0
  have Hn1 := Lib.hid hn1
  clear hn0 hn1
  have q0 : n0 ≤ maxLen := Nat.le_trans b0 m0
  have q1 : n1 ≤ maxLen := Nat.le_trans b1 m1
  have HF0 := Lib.hid f0
  have HF1 := Lib.hid f1
  clear f0 f1
  have hn0b : n0 ≤ 9223372036854775807 := by unfold maxLen at q0; omega
  have hn1b : n1 ≤ 9223372036854775807 := by unfold maxLen at q1; omega
  cases hbig : decide (1048576 < n0 + n1)
  case true =>
    have HB := Lib.hid hbig
    clear hbig
    go_enter Try.func8, Try.ntmps8
    go_wp2_with fail
    refine (big_any A0 A1 n0 n1 c0 c1 _ q0 q1).mono ?_
    rintro e w1 ⟨he, rfl⟩
    rw [HB.out] at he; subst he
    go_wp2
    go_ret
    exact ⟨rfl, Ext.refl _⟩
  have HB := Lib.hid hbig
  clear hbig
  go_enter Try.func8, Try.ntmps8
  go_wp2_with fail
  refine (big_any A0 A1 n0 n1 c0 c1 _ q0 q1).mono ?_
  rintro e w1 ⟨he, rfl⟩
  rw [HB.out] at he; subst he
  go_wp2_with fail
  refine (DrawDetectionChance_any A0 n0 c0 l0 _ r0 Hn0.out hn0b HF0.out).mono ?_
  rintro e w2 ⟨x, y, z, rfl, E⟩
  obtain ⟨K, hK⟩ : ∃ K, goodCh x y z = K := ⟨_, rfl⟩
  have HK := Lib.hid hK
  clear hK
  obtain ⟨X, Y, hXY, hlaw⟩ : ∃ X Y : Int, chRes x y z = .tuple #[.int .i64 X, .int .i64 Y, .bool K] ∧ (K = true → (choose (x - y) z == 0) = decide (x - y < z) ∧ (X == Y) = decide (x - y < z)) := by
    cases K
    · exact ⟨0, 0, by simp [chRes, HK.out], fun h => by cases h⟩
    · exact ⟨chN x y z / chG x y z, choose x z / chG x y z, by simp [chRes, HK.out], fun _ => det_law HK.out⟩
  have HXY := Lib.hid hXY
  have HLW := Lib.hid hlaw
  clear hXY hlaw
  go_wp2_with fail
  refine (iDetectionChance_any x y z _).mono ?_
  rintro e w3 ⟨he, hb⟩
  rw [HXY.out] at he; subst he
  replace E := E.trans hb
  clear hb
  have hselfK : (K != K) = false := by simp
  have hselfX : (X != X) = false := by simp
  have hselfY : (Y != Y) = false := by simp
  go_upto_if 70 with (go_at_call 53; refine (sDetectionChance_any x y z _).mono ?_; rintro e w4 ⟨he, hb⟩; rw [HXY.out] at he; subst he)
  replace E := E.trans hb
  clear hb hselfX hselfY
  go_cut [14, 15] from 71 to 97 (fun s1 s2 wx => Ext w4 wx)
  case first =>
    cases K
    · go_wp2_with fail
      go_meet
      exact Ext.refl _
    · obtain ⟨k1, k2⟩ := HLW.out rfl
      have hg := (goodCh_iff x y z).1 HK.out
      obtain ⟨V, hV⟩ : ∃ V, choose (x - y) z = V := ⟨_, rfl⟩
      rw [hV] at k1
      have HV := Lib.hid hV
      clear hV
      have hx9 : 0 ≤ x - y ∧ x - y ≤ 24 := by omega
      cases hc : decide (x - y < z)
      · rw [hc] at k1 k2
        have hc2 := hc
        go_wp2_with fail
        refine (iUndetectedWays_any x y z _).mono ?_
        rintro e w5 ⟨he, rfl⟩
        rw [HK.out, if_pos rfl, HV.out] at he; subst he
        go_wp2
        go_meet
        exact Ext.refl _
      · rw [hc] at k1 k2
        go_wp2_with fail
        refine (iUndetectedWays_any x y z _).mono ?_
        rintro e w5 ⟨he, rfl⟩
        rw [HK.out, if_pos rfl, HV.out] at he; subst he
        go_wp2
        go_meet
        exact Ext.refl _
  case' rest =>
    replace E := E.trans hcut
    clear hcut HXY HLW HK
    go_wp2_with fail
    refine (DrawLeastAudits_any A1 n1 c1 l1 _ (r1.ext E) Hn1.out hn1b HF1.out).mono ?_
    rintro e w5 ⟨x1, y1, z1, u1, rfl, hb⟩
    replace E := E.trans hb
    clear hb
    obtain ⟨M, V, hM⟩ := least_form x1 y1 z1 u1
    have HM := Lib.hid hM
    clear hM
    go_wp2_with fail
    refine (iLeastAudits_any x1 y1 z1 u1 _).mono ?_
    rintro e w6 ⟨he, hb⟩
    rw [HM.out] at he; subst he
    replace E := E.trans hb
    clear hb
    have hselfV : (V != V) = false := by simp
    have hselfM : (M != M) = false := by simp
    go_wp2_with fail
    refine (sLeastAudits_any x1 y1 z1 u1 _).mono ?_
    rintro e w7 ⟨he, hb⟩
    rw [HM.out] at he; subst he
    replace E := E.trans hb
    clear hb
    go_wp2_with fail
    refine (DrawSampleAudits_any A1 n1 c1 l1 _ (r1.ext E) Hn1.out hn1b HF1.out).mono ?_
    rintro e w8 ⟨sd, sz, sk, rfl, hb⟩
    replace E := E.trans hb
    clear hb hselfV hselfM
    obtain ⟨T, hT⟩ : ∃ T, (auR sd sz sk).isSome = T := ⟨_, rfl⟩
    obtain ⟨L, hL⟩ : ∃ L, (auR sd sz sk).getD [] = L := ⟨_, rfl⟩
    have hfa := auR_facts hL hT
    have hLb := auR_bd sd sz sk
    rw [hL] at hLb
    have HT := Lib.hid hT
    have HL := Lib.hid hL
    have HFA := Lib.hid hfa
    clear hT hL hfa
    go_wp2_with fail
    refine (iSampleAudits_any sd sz sk _).mono ?_
    rintro e w9 ⟨P, m, mc, he, hP, hb⟩
    rw [HT.out] at he; subst he
    rw [HL.out] at hP
    replace E := E.trans hb
    clear hb
    have hPl := hP.len
    have HPL := Lib.hid hPl
    clear hPl
    have hselfT : (T != T) = false := by simp
    go_wp2_with fail
    refine (sSampleAudits_any sd sz sk _).mono ?_
    rintro e w10 ⟨Q, m', mc', he, hQ, hb⟩
    rw [HT.out] at he; subst he
    rw [HL.out] at hQ
    replace E := E.trans hb
    replace hP := hP.ext hb
    clear hb
    have hQl := hQ.len
    have hm : m = m' := by have := HPL.out; omega
    subst hm
    have hm9 : m ≤ 100000 := by omega
    clear hQl hLb
    go_wp2_with fail
    refine (sameInts_same hP.rd hQ.rd HPL.out HPL.out (by unfold maxLen; omega) (by unfold maxLen; omega)).mono ?_
    rintro e w11 ⟨rfl, hb⟩
    replace E := E.trans hb
    replace hQ := hQ.ext hb
    clear hb hP hselfT
    go_wp2
    go_loopw [160] (fun i wr => ∃ j : Nat, j ≤ m ∧ i = .int .i64 j ∧ Ext w11 wr) (fun i _ => m - (intOf i).toNat)
    case atStart => exact ⟨0, Nat.zero_le _, rfl, Ext.refl _⟩
    case round =>
      obtain ⟨j, hj, rfl, hE⟩ := hrel
      by_cases hlt : j < m
      · have hjl : j < L.length := by rw [HPL.out]; exact hlt
        obtain ⟨ad, rfl, hc⟩ := (hQ.rd.ext hE).at_ hjl
        obtain ⟨f1, f2⟩ := HFA.out.1 j hjl
        have g1 : decide (L[j] < 0) = false := by simp; omega
        have g2 : decide (sz ≤ L[j]) = false := by simp; omega
        have b1 : (0 : Int) ≤ (j : Int) := by omega
        have b2 : (j : Int) < (m : Int) := by omega
        by_cases hj0 : j = 0
        · have g3 : decide ((0 : Int) < (j : Int)) = false := by simp; omega
          have g5 : decide (0 < j) = false := by simp; omega
          generalize L[j] = xx at *
          clear f1 f2 hj0
          go_wp2
          go_quiet (fail)
          go_wp2
          go_roundw
          case rel => exact ⟨j + 1, by omega, by go_num, hE.drewN _⟩
          case measure => simp [intOf]; omega
        · obtain ⟨i, hij⟩ : ∃ i, j = i + 1 := ⟨j - 1, by omega⟩
          have g3 : decide ((0 : Int) < (j : Int)) = true := by simp; omega
          have g5 : decide (0 < j) = true := by simp; omega
          obtain ⟨ad', hA, hc2⟩ := (hQ.rd.ext hE).at_ (show i < L.length by omega)
          obtain rfl : ad = ad' := by simpa using hA
          have f3 := HFA.out.2.1 i (by omega)
          have f4 : L[i + 1]'(by omega) = L[j] := by simp only [hij]
          rw [f4] at f3
          have g4 : decide (L[j] ≤ L[i]'(by omega)) = false := by simp; omega
          have b3 : IntKind.i64.wrap ((j : Int) - 1) = (i : Int) := by rw [IntWalk.i64_in _ (by omega)]; omega
          have b4 : (0 : Int) ≤ (i : Int) := by omega
          have b5 : (i : Int) < (m : Int) := by omega
          generalize L[j] = xx at *
          generalize L[i]'(by omega) = yy at *
          clear f1 f2 f3 f4 hj0 hij hA
          go_wp2
          go_quiet (fail)
          go_wp2
          go_roundw
          case rel => exact ⟨j + 1, by omega, by go_num, hE.drewN _⟩
          case measure => simp [intOf]; omega
      · obtain rfl : j = m := by omega
        cases T
        · go_wp2
          go_ret
          exact ⟨rfl, E.trans hE⟩
        · have hk : ((j : Int) == sk) = true := by have := HFA.out.2.2 rfl; have := HPL.out; simp; omega
          go_wp2
          go_ret
          exact ⟨rfl, E.trans hE⟩
end lawDetection

set_option maxRecDepth 100000 in
theorem lawDetection.lifted (os : Os) (started : os.Started) (H : Type) (enc : TypeId × Value → H) :
    ReturnsInHanded {} Try.checked os 8 .any (Rows.fnDetectionSpec.pre6 enc Try.prog Try.f8 Rows.fnDetectionRow.domain false) (Rows.fnDetectionSpec.post enc Try.prog Try.f8 false true false false) := by
  refine returnsInHanded_of_change (C := Try.checked) Facts.own started (by kernel_rfl) Try.func8
    (ChangeSpec.witness6 (enc := enc) (C := Try.checked) false ⟨#[], #[.slice none 0 0, .slice none 0 0], []⟩ 8 (by kernel_rfl) (by kernel_rfl) (by kernel_rfl) (by kernel_rfl)) ?_
  intro W base args ds gs before hval0 hW _ _
  have hval : ∀ (j : Nat) t v, Try.f8.params[j]? = some t → args[j]? = some v → Value.okWide Try.prog W .any base t v := hval0
  have hW' := hW
  obtain ⟨p, q, hA0, hV, rfl, hfz, hnd⟩ := hW
  have hA : DataW.TrodAll enc Try.prog W 0 (fun _ => true) true Try.f8.params.toList args.toList ds p := hA0
  rw [Try.params8] at hA hval
  obtain ⟨v0, vs0, d0, ds0, p0, q0, hargs, rfl, rfl, h0, r0⟩ := trodAll_cons hA
  obtain ⟨v1, vs1, d1, ds1, p1, q1, rfl, rfl, rfl, h1, r1⟩ := trodAll_cons r0
  obtain ⟨rfl, rfl, rfl⟩ := trodAll_nil r1
  obtain rfl : args = #[v0, v1] := by cases args; simp_all
  obtain ⟨rfl, rfl⟩ := trodVars_none hV
  have hlt := hW'.lt
  clear hA hA0 hval0 hargs r0 r1
  have k0 := h0
  have k1 := h1
  obtain ⟨A0, l0, c0, rfl, r0, b0, m0, z0, f0⟩ := openBS Try.underlying56 Try.underlying5 (by kernel_rfl) (hval 0 56 v0 rfl rfl) h0
  obtain ⟨A1, l1, c1, rfl, r1, b1, m1, z1, f1⟩ := openBS Try.underlying56 Try.underlying5 (by kernel_rfl) (hval 1 56 v1 rfl rfl) h1
  refine (lawDetection.walk A0 l0 c0 A1 l1 c1 W r0 b0 m0 z0 f0 r1 b1 m1 z1 f1).mono fun e W' ⟨he, hg⟩ => ?_
  subst he
  exact ⟨_, rfl, post_below (pv := []) hW' (fun _ _ _ => (trodAll_cons_mk (shut_bool Try.underlying4 _) trodAll_mk0)) (fun sp hsp => (trodAll_cons_mk (WideElems.Trod_stays Facts.laidOut (by kernel_rfl) (of_decide_eq_true (by kernel_rfl)) k0 (fun x hx => hg.same (hlt x (by simp [hx]))) (fun x hx => hsp x (by simp [hx]))) (trodAll_cons_mk (WideElems.Trod_stays Facts.laidOut (by kernel_rfl) (of_decide_eq_true (by kernel_rfl)) k1 (fun x hx => hg.same (hlt x (by simp [hx]))) (fun x hx => hsp x (by simp [hx]))) trodAll_mk0))) (fun _ _ => rfl) rfl
    hg (ok_one (by kernel_rfl) rfl (okWide_bool_mk Try.underlying4 _))⟩

theorem lawDetection.named : Try.pinned.checked.prog.funcNamed Rows.fnDetectionRow.func = some 8 := by kernel_rfl
theorem lawDetection.z9 : (Rows.fnDetectionRow.inPlace == Try.prog.inPlace 8) = true := by kernel_rfl
theorem lawDetection.z10 : (Rows.fnDetectionRow.unfollowed == Try.prog.unfollowed 8) = true := by kernel_rfl
theorem lawDetection.z11 : (Rows.fnDetectionRow.recurses == Try.prog.recurses 8) = true := by kernel_rfl
theorem lawDetection.z12 : (Rows.fnDetectionRow.named == Try.prog.varsNamed 8) = true := by kernel_rfl
theorem lawDetection.closed : joinedFacts Try.prog 8 Try.f8 Rows.fnDetectionSpec Rows.fnDetectionRow = true :=
  joined_of (by kernel_rfl) Facts.laidOut Facts.mapsRowed (by kernel_rfl) (by kernel_rfl) (by kernel_rfl) (by kernel_rfl) (by kernel_rfl) (by kernel_rfl) lawDetection.z9 lawDetection.z10 lawDetection.z11 lawDetection.z12 (by kernel_rfl) (by kernel_rfl) (by kernel_rfl) (by kernel_rfl) (by kernel_rfl) (by kernel_rfl) (by kernel_rfl) (by kernel_rfl) (by kernel_rfl) (by rw [Facts.plainKeys]; rfl) (by kernel_rfl) Facts.heard Facts.enter (by rw [Facts.lifts]; rfl) (by rw [Facts.make]; rfl) (by kernel_rfl) (by kernel_rfl) (by kernel_rfl) (by kernel_rfl)
theorem lawDetection.inst : Try.f8.isInstance Try.pinned.checked.prog Rows.fnDetectionRow.origin Rows.fnDetectionRow.targs := of_decide_eq_true (by kernel_rfl)
theorem lawDetection.wrap : Try.f8.isWrapper Try.pinned.checked.prog Rows.fnDetectionRow.wrapper Rows.fnDetectionRow.mainSum := by
  unfold Func.isWrapper; first | (rw [if_pos (by decide +kernel)]; kernel_rfl) | (rw [if_neg (by decide +kernel)]; exact ⟨rfl, rfl⟩)
theorem lawDetection.over : Rows.fnDetectionRow.holds Try.pinned (OpenSpec.ofChange Rows.fnDetectionSpec) :=
  OpenClaim.holds_of_wide 8 Try.f8 rfl rfl rfl rfl rfl rfl rfl ⟨rfl, rfl, rfl, rfl, rfl⟩ rfl rfl rfl rfl rfl lawDetection.named Try.func8 lawDetection.closed
    lawDetection.inst lawDetection.wrap (fun os started H enc _ => lawDetection.lifted os started H enc)

theorem lawDetection.proved : Rows.FnDetectionSaid := lawDetection.over
#print axioms lawDetection.proved
end Go.Proofs.Ytpdlcbgenimmcaa
