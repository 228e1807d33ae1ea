/- The law FnResidues returns true for every input. It holds without a condition. -/
import Derived.Test.YticimniegecfeaaRows
import Derived.Test.YticimniegecfeaaRes2
import Derived.Test.YticimniegecfeaaOpenB
import Derived.Test.YticimniegecfeaaFacts
namespace Go.Proofs.Yticimniegecfeaa
open Go.ChangeShapes Go.WideShapes Go.ChangeAt Go.RowKit
set_option linter.unusedVariables false

theorem im_yes {a m : Int} (h : imK a m = true) : (2 ≤ m ∧ m ≤ 2000000000) ∧ (0 ≤ a ∧ a ≤ m - 1) ∧ (0 ≤ imV a m ∧ imV a m ≤ m - 1) ∧ a * imV a m % m = 1 := by
  unfold imK at h
  have hg : imG a m = true ∧ invV a m ≠ 0 := by simpa using h
  have hv : imV a m = invV a m := by simp [imV, hg.1]
  have h1 := hg.1
  unfold imG at h1
  rw [Bool.and_eq_true, inR_iff, inR_iff] at h1
  have h2 := invV_spec ((invV_pos h1.1.1).1 hg.2)
  rw [hv]
  exact ⟨h1.1, h1.2, ⟨h2.1, by omega⟩, h2.2.2⟩
theorem mod_one {m : Int} (hm : 2 ≤ m) : (1 : Int) % m = 1 := Int.emod_eq_of_lt (by omega) (by omega)

namespace lawResidues
set_option maxRecDepth 100000 in
set_option maxHeartbeats 4000000 in
theorem walk (A0 : Option Addr) (l0 : List Int) (c0 : Nat) (A1 : Option Addr) (l1 : List Int) (c1 : Nat) (w : World) (r0 : RdB w A0 l0) (b0 : l0.length ≤ c0) (m0 : c0 ≤ maxLen) (z0 : A0 = none → c0 = 0) (f0 : ∀ n ∈ l0, 0 ≤ n ∧ n ≤ 255) (r1 : RdB w A1 l1) (b1 : l1.length ≤ c1) (m1 : c1 ≤ maxLen) (z1 : A1 = none → c1 = 0) (f1 : ∀ n ∈ l1, 0 ≤ n ∧ n ≤ 255) :
    Calls Try.prog 6 #[.slice A0 l0.length c0, .slice A1 l1.length c1] w fun e w' => e = .returned (.bool true) ∧ Ext w w' := by
  clear z0 z1
  generalize hn0 : l0.length = n0 at *
  generalize hn1 : l1.length = n1 at *
  have Hn0 := Lib.hid hn0
  have Hn1 := Lib.hid hn1
  clear hn0 hn1
  unfold maxLen at m0 m1
  by_cases hbig : (1048576 : Int) < wrap64 ((n0 : Int) + n1)
  · go_enter Try.func6, Try.ntmps6
    go_wp2
    go_ret
    exact ⟨rfl, Ext.refl _⟩
  have hn1b : n1 ≤ 9223372036854775807 := by omega
  have hn0b : n0 ≤ 9223372036854775807 := by omega
  go_enter Try.func6, Try.ntmps6
  go_wp2_with fail
  refine (DrawInverseMod_any A0 n0 c0 l0 _ r0 Hn0.out hn0b f0).mono ?_
  rintro e w1 ⟨a, m, rfl, E⟩
  obtain ⟨x, hx⟩ : ∃ x, imV a m = x := ⟨_, rfl⟩
  obtain ⟨ok, hok⟩ : ∃ ok, imK a m = ok := ⟨_, rfl⟩
  have HXV := Lib.hid hx
  have HOK := Lib.hid hok
  clear hx hok
  go_wp2_with fail
  refine (iInverseMod_any a m _).mono ?_
  rintro e w2 ⟨he, rfl⟩
  rw [HXV.out, HOK.out] at he
  subst he
  go_wp2_with fail
  refine (sInverseMod_any a m _).mono ?_
  rintro e w2 ⟨he, rfl⟩
  rw [HXV.out, HOK.out] at he
  subst he
  go_wp2_with fail
  refine (DrawInvertAll_any A1 n1 c1 l1 _ (r1.ext E) Hn1.out hn1b f1).mono ?_
  rintro e w2 ⟨Al, nl, cl, l, n, rfl, hL, hnl, hb⟩
  replace E := E.trans hb
  clear hb
  go_wp2_with fail
  refine (iInvertAll_any Al nl cl l n _ hL.rd hL.len (by omega)).mono ?_
  rintro e w3 ⟨Ar, nr, cr, p, one, rfl, hP, hp, hb⟩
  replace E := E.trans hb
  replace hL := hL.ext hb
  clear hb
  go_wp2_with fail
  refine (sInvertAll_any Al nl cl l n _ hL.rd hL.len (by omega)).mono ?_
  rintro e w4 ⟨As, ns, cs, q, two, rfl, hQ, hq, hb⟩
  replace E := E.trans hb
  replace hL := hL.ext hb
  replace hP := hP.ext hb
  clear hb
  have hcase : one = two ∧ q = p ∧ (one = true ∧ InvOK l n ∧ p = l.map (fun x => invV x n) ∨ one = false) := by
    rcases hp with ⟨rfl, h1, rfl⟩ | ⟨rfl, h1, rfl⟩ <;> rcases hq with ⟨rfl, h2, rfl⟩ | ⟨rfl, h2, rfl⟩
    · exact ⟨rfl, rfl, .inl ⟨rfl, h1, rfl⟩⟩
    · exact absurd h1 h2
    · exact absurd h2 h1
    · exact ⟨rfl, rfl, .inr rfl⟩
  obtain ⟨rfl, rfl, hone⟩ := hcase
  clear hp hq
  have HONE := Lib.hid hone
  clear hone
  go_wp2_with fail
  refine (qInts_same hP.rd hQ.rd hP.len hQ.len hP.le hQ.le).mono ?_
  rintro e w5 ⟨rfl, hb⟩
  replace E := E.trans hb
  replace hL := hL.ext hb
  replace hP := hP.ext hb
  clear hb hQ
  cases one
  case' true =>
    have hy : InvOK l n ∧ q = l.map (fun x => invV x n) := by
      rcases HONE.out with h | h
      · exact h.2
      · cases h
    obtain ⟨hI, hpe⟩ := hy
    obtain ⟨h1, h2, h3⟩ := trmB_iff.1 hI.1
    have hlen : nr = nl := by have e1 := hP.len; rw [hpe, List.length_map, hL.len] at e1; exact e1.symm
    have hq3 : ∀ y ∈ q, 0 ≤ y ∧ y ≤ n - 1 := by
      rw [hpe]
      intro y hy
      rw [List.mem_map] at hy
      obtain ⟨z, _, rfl⟩ := hy
      have := invV_bd (a := z) (m := n) (by omega)
      omega
    have hql : q.length = nr := hP.len
    have htq : trmB q n = true := trmB_iff.2 ⟨h1, by have e1 := hL.len; omega, hq3⟩
    have hd : dotV l q n nl = (nl : Int) % n := by
      have e1 := dot_inv h1.1 hI.2 nl (by rw [hL.len]; exact Nat.le_refl _)
      rw [← hpe] at e1
      exact e1
    subst hlen
    have HTL := Lib.hid hI.1
    have HTQ := Lib.hid htq
    have HD := Lib.hid hd
    have HQ3 := Lib.hid hq3
    have hn0' : (n == 0) = false := by simp; omega
    clear hI hpe h2 h3 hq3 htq hd HONE
    go_wp2_with fail
    refine (DotMod_yes Al Ar nr cl cr l q n _ hL.rd hP.rd hL.len hP.len HTL.out HTQ.out).mono ?_
    rintro e w6 ⟨rfl, hb⟩
    rw [HD.out]
    replace E := E.trans hb
    replace hP := hP.ext hb
    replace hL := hL.ext hb
    clear hb
    go_wp2_with fail
    refine (SumMod_yes Ar nr cr q n _ hP.rd hP.len HTQ.out).mono ?_
    rintro e w7 ⟨rfl, hb⟩
    replace E := E.trans hb
    replace hP := hP.ext hb
    replace hL := hL.ext hb
    clear hb
    obtain ⟨S, hS⟩ : ∃ S, sumV q n nr = S := ⟨_, rfl⟩
    have HS := Lib.hid hS
    rw [hS]
    clear hS
    have hR := hP.rd
    have hnm := Int.emod_nonneg (nr : Int) (show n ≠ 0 by omega)
    have hnm2 := Int.emod_lt_of_pos (nr : Int) (show 0 < n by omega)
    go_wp2
    go_loop [21, 103] (fun o i => ∃ (j : Nat) (s : Int), j ≤ nr ∧ i = .int .i64 j ∧ o = .int .i64 s ∧ 0 ≤ s ∧ s < n ∧ Hid (s = sumV q n j)) (fun _ i => nr - (intOf i).toNat)
    case atStart => exact ⟨0, 0, Nat.zero_le _, rfl, rfl, by omega, by omega, rfl⟩
    case round =>
      obtain ⟨j, s, hj, rfl, rfl, hs1, hs2, HSJ⟩ := hrel
      by_cases hlt : j < nr
      · have hlt' : j < q.length := by rw [hql]; exact hlt
        obtain ⟨ad, rfl, hc⟩ := hR.at_ hlt'
        have hx := HQ3.out _ (List.getElem_mem hlt')
        have H1 := Lib.hid (sumV_succ q n hlt')
        generalize q[j] = y at *
        have hb := Int.emod_lt_of_pos (s + y) (show 0 < n by omega)
        have hb2 := Int.emod_nonneg (s + y) (show n ≠ 0 by omega)
        go_wp2
        go_round
        case rel => exact ⟨j + 1, (s + y) % n, by omega, by go_num, rfl, hb2, hb, by rw [Hid, H1.out, HSJ.out]⟩
        case measure => simp [intOf]; omega
      · obtain rfl : j = nr := by omega
        obtain rfl : s = S := by rw [HSJ.out, HS.out]
        clear HSJ
        cases ok
        · go_wp2
          go_ret
          exact ⟨rfl, E⟩
        · obtain ⟨g1, g2, g3, g4⟩ := im_yes HOK.out
          rw [HXV.out] at g3 g4
          have g5 := pow_inv g1.1 g2.1 g3.1 g4
          have g6 := powM_bd (a := a) (k := 3) g1.1
          have g7 := powM_bd (a := x) (k := 3) g1.1
          have g8 := mod_one g1.1
          have hm0 : (m == 0) = false := by simp; omega
          have hax := intmul_bd a x g2.1 g3.1 (by omega) (by omega)
          go_wp2_with fail
          refine (PowerMod_yes a 3 m _ g1 g2 (by omega)).mono ?_
          rintro e w8 ⟨rfl, rfl⟩
          go_wp2_with fail
          refine (PowerMod_yes x 3 m _ g1 g3 (by omega)).mono ?_
          rintro e w8 ⟨rfl, rfl⟩
          generalize powM a 3 m = u at *
          generalize powM x 3 m = v at *
          have huv := intmul_bd u v g6.1 g7.1 (by omega) (by omega)
          go_wp2
          go_quiet (fail)
          go_wp2
          go_ret
          exact ⟨rfl, E.drewN _⟩
  case' false =>
    clear HONE hL hP
    cases ok
    · go_wp2
      go_ret
      exact ⟨rfl, E⟩
    · obtain ⟨g1, g2, g3, g4⟩ := im_yes HOK.out
      rw [HXV.out] at g3 g4
      have g5 := pow_inv g1.1 g2.1 g3.1 g4
      have g6 := powM_bd (a := a) (k := 3) g1.1
      have g7 := powM_bd (a := x) (k := 3) g1.1
      have g8 := mod_one g1.1
      have hm0 : (m == 0) = false := by simp; omega
      have hax := intmul_bd a x g2.1 g3.1 (by omega) (by omega)
      go_wp2_with fail
      refine (PowerMod_yes a 3 m _ g1 g2 (by omega)).mono ?_
      rintro e w8 ⟨rfl, rfl⟩
      go_wp2_with fail
      refine (PowerMod_yes x 3 m _ g1 g3 (by omega)).mono ?_
      rintro e w8 ⟨rfl, rfl⟩
      generalize powM a 3 m = u at *
      generalize powM x 3 m = v at *
      have huv := intmul_bd u v g6.1 g7.1 (by omega) (by omega)
      go_wp2
      go_quiet (fail)
      go_wp2
      go_ret
      exact ⟨rfl, E.drewN _⟩
end lawResidues

set_option maxRecDepth 100000 in
theorem lawResidues.lifted (os : Os) (started : os.Started) (H : Type) (enc : TypeId × Value → H) :
    ReturnsInHanded {} Try.checked os 6 .any (Rows.fnResiduesSpec.pre6 enc Try.prog Try.f6 Rows.fnResiduesRow.domain false) (Rows.fnResiduesSpec.post enc Try.prog Try.f6 false true false false) := by
  refine returnsInHanded_of_change (C := Try.checked) Facts.own started (by kernel_rfl) Try.func6
    (ChangeSpec.witness6 (enc := enc) (C := Try.checked) false ⟨#[], #[.slice none 0 0, .slice none 0 0], []⟩ 8 (by kernel_rfl) (by kernel_rfl) (by kernel_rfl) (by kernel_rfl)) ?_
  intro W base args ds gs before hval0 hW _ _
  have hval : ∀ (j : Nat) t v, Try.f6.params[j]? = some t → args[j]? = some v → Value.okWide Try.prog W .any base t v := hval0
  have hW' := hW
  obtain ⟨p, q, hA0, hV, rfl, hfz, hnd⟩ := hW
  have hA : DataW.TrodAll enc Try.prog W 0 (fun _ => true) true Try.f6.params.toList args.toList ds p := hA0
  rw [Try.params6] at hA hval
  obtain ⟨v0, vs0, d0, ds0, p0, q0, hargs, rfl, rfl, h0, r0⟩ := trodAll_cons hA
  obtain ⟨v1, vs1, d1, ds1, p1, q1, rfl, rfl, rfl, h1, r1⟩ := trodAll_cons r0
  obtain ⟨rfl, rfl, rfl⟩ := trodAll_nil r1
  obtain rfl : args = #[v0, v1] := by cases args; simp_all
  obtain ⟨rfl, rfl⟩ := trodVars_none hV
  have hlt := hW'.lt
  clear hA hA0 hval0 hargs r0 r1
  have k0 := h0
  have k1 := h1
  obtain ⟨A0, l0, c0, rfl, r0, b0, m0, z0, f0⟩ := openBS Try.underlying28 Try.underlying5 (by kernel_rfl) (hval 0 28 v0 rfl rfl) h0
  obtain ⟨A1, l1, c1, rfl, r1, b1, m1, z1, f1⟩ := openBS Try.underlying28 Try.underlying5 (by kernel_rfl) (hval 1 28 v1 rfl rfl) h1
  refine (lawResidues.walk A0 l0 c0 A1 l1 c1 W r0 b0 m0 z0 f0 r1 b1 m1 z1 f1).mono fun e W' ⟨he, hg⟩ => ?_
  subst he
  exact ⟨_, rfl, post_below (pv := []) hW' (fun _ _ _ => (trodAll_cons_mk (shut_bool Try.underlying4 _) trodAll_mk0)) (fun sp hsp => (trodAll_cons_mk (WideElems.Trod_stays Facts.laidOut (by kernel_rfl) (of_decide_eq_true (by kernel_rfl)) k0 (fun x hx => hg.same (hlt x (by simp [hx]))) (fun x hx => hsp x (by simp [hx]))) (trodAll_cons_mk (WideElems.Trod_stays Facts.laidOut (by kernel_rfl) (of_decide_eq_true (by kernel_rfl)) k1 (fun x hx => hg.same (hlt x (by simp [hx]))) (fun x hx => hsp x (by simp [hx]))) trodAll_mk0))) (fun _ _ => rfl) rfl
    hg (ok_one (by kernel_rfl) rfl (okWide_bool_mk Try.underlying4 _))⟩

theorem lawResidues.named : Try.pinned.checked.prog.funcNamed Rows.fnResiduesRow.func = some 6 := by kernel_rfl
theorem lawResidues.z9 : (Rows.fnResiduesRow.inPlace == Try.prog.inPlace 6) = true := by kernel_rfl
theorem lawResidues.z10 : (Rows.fnResiduesRow.unfollowed == Try.prog.unfollowed 6) = true := by kernel_rfl
theorem lawResidues.z11 : (Rows.fnResiduesRow.recurses == Try.prog.recurses 6) = true := by kernel_rfl
theorem lawResidues.z12 : (Rows.fnResiduesRow.named == Try.prog.varsNamed 6) = true := by kernel_rfl
theorem lawResidues.closed : joinedFacts Try.prog 6 Try.f6 Rows.fnResiduesSpec Rows.fnResiduesRow = true :=
  joined_of (by kernel_rfl) Facts.laidOut Facts.mapsRowed (by kernel_rfl) (by kernel_rfl) (by kernel_rfl) (by kernel_rfl) (by kernel_rfl) (by kernel_rfl) lawResidues.z9 lawResidues.z10 lawResidues.z11 lawResidues.z12 (by kernel_rfl) (by kernel_rfl) (by kernel_rfl) (by kernel_rfl) (by kernel_rfl) (by kernel_rfl) (by kernel_rfl) (by kernel_rfl) (by kernel_rfl) (by rw [Facts.plainKeys]; rfl) (by kernel_rfl) Facts.heard Facts.enter (by rw [Facts.lifts]; rfl) (by rw [Facts.make]; rfl) (by kernel_rfl) (by kernel_rfl) (by kernel_rfl) (by kernel_rfl)
theorem lawResidues.inst : Try.f6.isInstance Try.pinned.checked.prog Rows.fnResiduesRow.origin Rows.fnResiduesRow.targs := of_decide_eq_true (by kernel_rfl)
theorem lawResidues.wrap : Try.f6.isWrapper Try.pinned.checked.prog Rows.fnResiduesRow.wrapper Rows.fnResiduesRow.mainSum := by
  unfold Func.isWrapper; first | (rw [if_pos (by decide +kernel)]; kernel_rfl) | (rw [if_neg (by decide +kernel)]; exact ⟨rfl, rfl⟩)
theorem lawResidues.over : Rows.fnResiduesRow.holds Try.pinned (OpenSpec.ofChange Rows.fnResiduesSpec) :=
  OpenClaim.holds_of_wide 6 Try.f6 rfl rfl rfl rfl rfl rfl rfl ⟨rfl, rfl, rfl, rfl, rfl⟩ rfl rfl rfl rfl rfl lawResidues.named Try.func6 lawResidues.closed
    lawResidues.inst lawResidues.wrap (fun os started H enc _ => lawResidues.lifted os started H enc)

theorem lawResidues.proved : Rows.FnResiduesSaid := lawResidues.over
#print axioms lawResidues.proved
end Go.Proofs.Yticimniegecfeaa
