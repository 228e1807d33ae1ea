/- The law FnPolynomials returns true for every input. It holds without a condition. -/
import Derived.Test.YticimniegecfeaaRows
import Derived.Test.YticimniegecfeaaRes2
import Derived.Test.YticimniegecfeaaPoly4
import Derived.Test.YticimniegecfeaaCurQ2
import Derived.Test.YticimniegecfeaaOpenB
import Derived.Test.YticimniegecfeaaFacts
namespace Go.Proofs.Yticimniegecfeaa
open Go.ChangeShapes Go.WideShapes Go.ChangeAt Go.RowKit
set_option linter.unusedVariables false

theorem add_poly {p : Int} {a b : List Int} (h1 : polyB p a = true) (h2 : polyB p b = true) : polyB p (addI p a b) = true := by
  obtain ⟨g1, g2, g3⟩ := polyB_iff.1 h1
  obtain ⟨_, g4, g5⟩ := polyB_iff.1 h2
  have hq := fieldB_rng g1
  exact polyB_iff.2 ⟨g1, by rw [addI_length]; omega, addI_bd (by omega) g3 g5⟩
theorem mul_poly {q : Int} {f g : List Int} (h : mulG q f g = true) : polyB q f = true ∧ polyB q g = true ∧ polyB q (mulV q f g) = true := by
  unfold mulG at h
  rw [Bool.and_eq_true, Bool.and_eq_true, decide_eq_true_iff] at h
  obtain ⟨g1, g2, g3⟩ := polyB_iff.1 h.1.1
  have hq := fieldB_rng g1
  refine ⟨h.1.1, h.1.2, polyB_iff.2 ⟨g1, h.2, ?_⟩⟩
  unfold mulV
  split
  · intro x hx; simp at hx
  · exact mulOut_bd (by omega) f g _
theorem mul_law {q : Int} {f g : List Int} (x : Int) : ev (mulV q f g) x % q = ev f x % q * (ev g x % q) % q := by
  rw [← Int.mul_emod]
  unfold mulV
  split
  · rename_i h
    rcases h with h | h
    · rw [List.eq_nil_of_length_eq_zero h]; simp [ev]
    · rw [List.eq_nil_of_length_eq_zero h]; simp [ev]
  · rw [mulOut_ev _ _ _ _ _ (Nat.le_refl _), List.take_length]
theorem add_law {p : Int} {a b : List Int} (x : Int) : ev (addI p a b) x % p = (ev a x % p + ev b x % p) % p := by
  rw [addI_ev, Int.add_emod]

namespace lawPolynomials
set_option maxRecDepth 100000 in
set_option maxHeartbeats 4000000 in
theorem walk (A0 : Option Addr) (l0 : List Int) (c0 : Nat) (A1 : Option Addr) (l1 : List Int) (c1 : Nat) (w : World) (r0 : RdB w A0 l0) (b0 : l0.length ≤ c0) (m0 : c0 ≤ maxLen) (z0 : A0 = none → c0 = 0) (f0 : ∀ n ∈ l0, 0 ≤ n ∧ n ≤ 255) (r1 : RdB w A1 l1) (b1 : l1.length ≤ c1) (m1 : c1 ≤ maxLen) (z1 : A1 = none → c1 = 0) (f1 : ∀ n ∈ l1, 0 ≤ n ∧ n ≤ 255) :
    Calls Try.prog 7 #[.slice A0 l0.length c0, .slice A1 l1.length c1] w fun e w' => e = .returned (.bool true) ∧ Ext w w' := by
  clear z0 z1
  generalize hn0 : l0.length = n0 at *
  generalize hn1 : l1.length = n1 at *
  have Hn0 := Lib.hid hn0
  have Hn1 := Lib.hid hn1
  clear hn0 hn1
  unfold maxLen at m0 m1
  by_cases hbig : (1048576 : Int) < wrap64 ((n0 : Int) + n1)
  · go_enter Try.func7, Try.ntmps7
    go_wp2
    go_ret
    exact ⟨rfl, Ext.refl _⟩
  have hn1b : n1 ≤ 9223372036854775807 := by omega
  have hn0b : n0 ≤ 9223372036854775807 := by omega
  go_enter Try.func7, Try.ntmps7
  go_wp2_with fail
  refine (DrawMulPolys_any A0 n0 c0 l0 _ r0 Hn0.out hn0b f0).mono ?_
  rintro e w1 ⟨q, Af, nf, cf, f, Ag, ng, cg, g, rfl, hF, hnf, hG, hng, E⟩
  go_wp2_with fail
  refine (iMulPolys_any q Af Ag nf cf ng cg f g _ hF.rd hF.len (by omega) hG.rd hG.len (by omega)).mono ?_
  rintro e w2 ⟨Ah, nh, ch, h, rfl, hH, hh, hb⟩
  replace E := E.trans hb
  replace hF := hF.ext hb
  replace hG := hG.ext hb
  clear hb
  go_wp2_with fail
  refine (sMulPolys_any q Af Ag nf cf ng cg f g _ hF.rd hF.len hF.cap hG.rd hG.len hG.cap).mono ?_
  rintro e w3 ⟨Ah2, nh2, ch2, h2, rfl, hH2, hh2, hb⟩
  replace E := E.trans hb
  replace hF := hF.ext hb
  replace hG := hG.ext hb
  replace hH := hH.ext hb
  clear hb
  obtain rfl : h2 = h := by rw [hh2, hh]
  clear hh2
  obtain ⟨ok, hok⟩ : ∃ ok, mulG q f g = ok := ⟨_, rfl⟩
  rw [hok]
  rw [hok] at hh
  have HOK := Lib.hid hok
  have HH := Lib.hid hh
  clear hok hh
  go_wp2_with fail
  refine (DrawAddPolys_any A1 n1 c1 l1 _ (r1.ext E) Hn1.out hn1b f1).mono ?_
  rintro e w4 ⟨p, Aa, na, ca, a, Ab, nb, cb, b, rfl, hA, hna, hB, hnb, hb⟩
  replace E := E.trans hb
  replace hF := hF.ext hb
  replace hG := hG.ext hb
  replace hH := hH.ext hb
  replace hH2 := hH2.ext hb
  clear hb
  go_wp2_with fail
  refine (iAddPolys_any p Aa Ab na ca nb cb a b _ hA.rd hA.len (by omega) hB.rd hB.len (by omega)).mono ?_
  rintro e w5 ⟨As, ns, cs, s, rfl, hS, hs, hb⟩
  replace E := E.trans hb
  replace hF := hF.ext hb
  replace hG := hG.ext hb
  replace hH := hH.ext hb
  replace hH2 := hH2.ext hb
  replace hA := hA.ext hb
  replace hB := hB.ext hb
  clear hb
  go_wp2_with fail
  refine (sAddPolys_any p Aa Ab na ca nb cb a b _ hA.rd hA.len hA.cap hB.rd hB.len hB.cap).mono ?_
  rintro e w6 ⟨As2, ns2, cs2, s2, rfl, hS2, hs2, hb⟩
  replace E := E.trans hb
  replace hF := hF.ext hb
  replace hG := hG.ext hb
  replace hH := hH.ext hb
  replace hH2 := hH2.ext hb
  replace hA := hA.ext hb
  replace hB := hB.ext hb
  replace hS := hS.ext hb
  clear hb
  obtain rfl : s2 = s := by rw [hs2, hs]
  clear hs2
  obtain ⟨one, hone⟩ : ∃ one, (polyB p a && polyB p b) = one := ⟨_, rfl⟩
  rw [hone]
  rw [hone] at hs
  have HONE := Lib.hid hone
  have HS := Lib.hid hs
  clear hone hs
  go_wp2_with fail
  refine (qInts_same hH.rd hH2.rd hH.len hH2.len hH.le hH2.le).mono ?_
  rintro e w7 ⟨rfl, hb⟩
  replace E := E.trans hb
  replace hF := hF.ext hb
  replace hG := hG.ext hb
  replace hH := hH.ext hb
  replace hA := hA.ext hb
  replace hB := hB.ext hb
  replace hS := hS.ext hb
  replace hS2 := hS2.ext hb
  clear hb hH2
  go_wp2_with fail
  refine (qInts_same hS.rd hS2.rd hS.len hS2.len hS.le hS2.le).mono ?_
  rintro e w8 ⟨rfl, hb⟩
  replace E := E.trans hb
  replace hF := hF.ext hb
  replace hG := hG.ext hb
  replace hH := hH.ext hb
  replace hA := hA.ext hb
  replace hB := hB.ext hb
  replace hS := hS.ext hb
  clear hb hS2
  cases one
  case' true =>
    have ho := HONE.out
    rw [Bool.and_eq_true] at ho
    obtain ⟨o1, o2⟩ := ho
    have o3 := add_poly o1 o2
    have hsv : s2 = addI p a b := HS.out
    rw [← hsv] at o3
    have hp := fieldB_rng (polyB_iff.1 o1).1
    have hlaw := add_law (p := p) (a := a) (b := b) (p - 1)
    rw [← hsv] at hlaw
    have hp0 : (p == 0) = false := by simp; omega
    have O1 := Lib.hid o1
    have O2 := Lib.hid o2
    have O3 := Lib.hid o3
    have HLAW := Lib.hid hlaw
    clear o1 o2 o3 hsv hlaw HS HONE
    go_wp2_with fail
    refine (EvalPoly_yes p (p - 1) Aa na ca a _ hA.rd hA.len O1.out (by omega)).mono ?_
    rintro e w9 ⟨rfl, hb⟩
    replace E := E.trans hb
    replace hF := hF.ext hb
    replace hG := hG.ext hb
    replace hH := hH.ext hb
    replace hB := hB.ext hb
    replace hS := hS.ext hb
    clear hb hA
    go_wp2_with fail
    refine (EvalPoly_yes p (p - 1) Ab nb cb b _ hB.rd hB.len O2.out (by omega)).mono ?_
    rintro e wa ⟨rfl, hb⟩
    replace E := E.trans hb
    replace hF := hF.ext hb
    replace hG := hG.ext hb
    replace hH := hH.ext hb
    replace hS := hS.ext hb
    clear hb hB
    go_wp2_with fail
    refine (EvalPoly_yes p (p - 1) As ns cs s2 _ hS.rd hS.len O3.out (by omega)).mono ?_
    rintro e wb ⟨rfl, hb⟩
    rw [HLAW.out]
    replace E := E.trans hb
    replace hF := hF.ext hb
    replace hG := hG.ext hb
    replace hH := hH.ext hb
    clear hb hS
    have k1 := Int.emod_nonneg (ev a (p - 1)) (show p ≠ 0 by omega)
    have k2 := Int.emod_lt_of_pos (ev a (p - 1)) (show 0 < p by omega)
    have k3 := Int.emod_nonneg (ev b (p - 1)) (show p ≠ 0 by omega)
    have k4 := Int.emod_lt_of_pos (ev b (p - 1)) (show 0 < p by omega)
    generalize ev a (p - 1) % p = X at *
    generalize ev b (p - 1) % p = Y at *
    have k5 := Int.emod_nonneg (X + Y) (show p ≠ 0 by omega)
    have k6 := Int.emod_lt_of_pos (X + Y) (show 0 < p by omega)
    clear HLAW O1 O2 O3
  case' false =>
    clear HONE HS hA hB hS
  all_goals
    cases ok
    · go_wp2
      go_ret
      exact ⟨rfl, E⟩
    · obtain ⟨o1, o2, o3⟩ := mul_poly HOK.out
      have hsv : h2 = mulV q f g := HH.out
      rw [← hsv] at o3
      have hq := fieldB_rng (polyB_iff.1 o1).1
      have hlaw := mul_law (q := q) (f := f) (g := g) 1
      rw [← hsv] at hlaw
      have hq0 : (q == 0) = false := by simp; omega
      have O1 := Lib.hid o1
      have O2 := Lib.hid o2
      have O3 := Lib.hid o3
      have HLAW := Lib.hid hlaw
      clear o1 o2 o3 hsv hlaw HH HOK
      go_wp2_with fail
      refine (EvalPoly_yes q 1 Af nf cf f _ hF.rd hF.len O1.out (by omega)).mono ?_
      rintro e wc ⟨rfl, hb⟩
      replace E := E.trans hb
      replace hG := hG.ext hb
      replace hH := hH.ext hb
      clear hb hF
      go_wp2_with fail
      refine (EvalPoly_yes q 1 Ag ng cg g _ hG.rd hG.len O2.out (by omega)).mono ?_
      rintro e wd ⟨rfl, hb⟩
      replace E := E.trans hb
      replace hH := hH.ext hb
      clear hb hG
      go_wp2_with fail
      refine (EvalPoly_yes q 1 Ah nh ch h2 _ hH.rd hH.len O3.out (by omega)).mono ?_
      rintro e we ⟨rfl, hb⟩
      rw [HLAW.out]
      replace E := E.trans hb
      clear hb hH
      have k1 := Int.emod_nonneg (ev f 1) (show q ≠ 0 by omega)
      have k2 := Int.emod_lt_of_pos (ev f 1) (show 0 < q by omega)
      have k3 := Int.emod_nonneg (ev g 1) (show q ≠ 0 by omega)
      have k4 := Int.emod_lt_of_pos (ev g 1) (show 0 < q by omega)
      clear HLAW O1 O2 O3
      generalize ev f 1 % q = U at *
      generalize ev g 1 % q = V at *
      have huv := intmul_bd U V k1 k3 (by omega) (by omega)
      go_wp2
      go_ret
      exact ⟨ret_bool (by simp), E⟩
end lawPolynomials

set_option maxRecDepth 100000 in
theorem lawPolynomials.lifted (os : Os) (started : os.Started) (H : Type) (enc : TypeId × Value → H) :
    ReturnsInHanded {} Try.checked os 7 .any (Rows.fnPolynomialsSpec.pre6 enc Try.prog Try.f7 Rows.fnPolynomialsRow.domain false) (Rows.fnPolynomialsSpec.post enc Try.prog Try.f7 false true false false) := by
  refine returnsInHanded_of_change (C := Try.checked) Facts.own started (by kernel_rfl) Try.func7
    (ChangeSpec.witness6 (enc := enc) (C := Try.checked) false ⟨#[], #[.slice none 0 0, .slice none 0 0], []⟩ 8 (by kernel_rfl) (by kernel_rfl) (by kernel_rfl) (by kernel_rfl)) ?_
  intro W base args ds gs before hval0 hW _ _
  have hval : ∀ (j : Nat) t v, Try.f7.params[j]? = some t → args[j]? = some v → Value.okWide Try.prog W .any base t v := hval0
  have hW' := hW
  obtain ⟨p, q, hA0, hV, rfl, hfz, hnd⟩ := hW
  have hA : DataW.TrodAll enc Try.prog W 0 (fun _ => true) true Try.f7.params.toList args.toList ds p := hA0
  rw [Try.params7] at hA hval
  obtain ⟨v0, vs0, d0, ds0, p0, q0, hargs, rfl, rfl, h0, r0⟩ := trodAll_cons hA
  obtain ⟨v1, vs1, d1, ds1, p1, q1, rfl, rfl, rfl, h1, r1⟩ := trodAll_cons r0
  obtain ⟨rfl, rfl, rfl⟩ := trodAll_nil r1
  obtain rfl : args = #[v0, v1] := by cases args; simp_all
  obtain ⟨rfl, rfl⟩ := trodVars_none hV
  have hlt := hW'.lt
  clear hA hA0 hval0 hargs r0 r1
  have k0 := h0
  have k1 := h1
  obtain ⟨A0, l0, c0, rfl, r0, b0, m0, z0, f0⟩ := openBS Try.underlying28 Try.underlying5 (by kernel_rfl) (hval 0 28 v0 rfl rfl) h0
  obtain ⟨A1, l1, c1, rfl, r1, b1, m1, z1, f1⟩ := openBS Try.underlying28 Try.underlying5 (by kernel_rfl) (hval 1 28 v1 rfl rfl) h1
  refine (lawPolynomials.walk A0 l0 c0 A1 l1 c1 W r0 b0 m0 z0 f0 r1 b1 m1 z1 f1).mono fun e W' ⟨he, hg⟩ => ?_
  subst he
  exact ⟨_, rfl, post_below (pv := []) hW' (fun _ _ _ => (trodAll_cons_mk (shut_bool Try.underlying4 _) trodAll_mk0)) (fun sp hsp => (trodAll_cons_mk (WideElems.Trod_stays Facts.laidOut (by kernel_rfl) (of_decide_eq_true (by kernel_rfl)) k0 (fun x hx => hg.same (hlt x (by simp [hx]))) (fun x hx => hsp x (by simp [hx]))) (trodAll_cons_mk (WideElems.Trod_stays Facts.laidOut (by kernel_rfl) (of_decide_eq_true (by kernel_rfl)) k1 (fun x hx => hg.same (hlt x (by simp [hx]))) (fun x hx => hsp x (by simp [hx]))) trodAll_mk0))) (fun _ _ => rfl) rfl
    hg (ok_one (by kernel_rfl) rfl (okWide_bool_mk Try.underlying4 _))⟩

theorem lawPolynomials.named : Try.pinned.checked.prog.funcNamed Rows.fnPolynomialsRow.func = some 7 := by kernel_rfl
theorem lawPolynomials.z9 : (Rows.fnPolynomialsRow.inPlace == Try.prog.inPlace 7) = true := by kernel_rfl
theorem lawPolynomials.z10 : (Rows.fnPolynomialsRow.unfollowed == Try.prog.unfollowed 7) = true := by kernel_rfl
theorem lawPolynomials.z11 : (Rows.fnPolynomialsRow.recurses == Try.prog.recurses 7) = true := by kernel_rfl
theorem lawPolynomials.z12 : (Rows.fnPolynomialsRow.named == Try.prog.varsNamed 7) = true := by kernel_rfl
theorem lawPolynomials.closed : joinedFacts Try.prog 7 Try.f7 Rows.fnPolynomialsSpec Rows.fnPolynomialsRow = true :=
  joined_of (by kernel_rfl) Facts.laidOut Facts.mapsRowed (by kernel_rfl) (by kernel_rfl) (by kernel_rfl) (by kernel_rfl) (by kernel_rfl) (by kernel_rfl) lawPolynomials.z9 lawPolynomials.z10 lawPolynomials.z11 lawPolynomials.z12 (by kernel_rfl) (by kernel_rfl) (by kernel_rfl) (by kernel_rfl) (by kernel_rfl) (by kernel_rfl) (by kernel_rfl) (by kernel_rfl) (by kernel_rfl) (by rw [Facts.plainKeys]; rfl) (by kernel_rfl) Facts.heard Facts.enter (by rw [Facts.lifts]; rfl) (by rw [Facts.make]; rfl) (by kernel_rfl) (by kernel_rfl) (by kernel_rfl) (by kernel_rfl)
theorem lawPolynomials.inst : Try.f7.isInstance Try.pinned.checked.prog Rows.fnPolynomialsRow.origin Rows.fnPolynomialsRow.targs := of_decide_eq_true (by kernel_rfl)
theorem lawPolynomials.wrap : Try.f7.isWrapper Try.pinned.checked.prog Rows.fnPolynomialsRow.wrapper Rows.fnPolynomialsRow.mainSum := by
  unfold Func.isWrapper; first | (rw [if_pos (by decide +kernel)]; kernel_rfl) | (rw [if_neg (by decide +kernel)]; exact ⟨rfl, rfl⟩)
theorem lawPolynomials.over : Rows.fnPolynomialsRow.holds Try.pinned (OpenSpec.ofChange Rows.fnPolynomialsSpec) :=
  OpenClaim.holds_of_wide 7 Try.f7 rfl rfl rfl rfl rfl rfl rfl ⟨rfl, rfl, rfl, rfl, rfl⟩ rfl rfl rfl rfl rfl lawPolynomials.named Try.func7 lawPolynomials.closed
    lawPolynomials.inst lawPolynomials.wrap (fun os started H enc _ => lawPolynomials.lifted os started H enc)

theorem lawPolynomials.proved : Rows.FnPolynomialsSaid := lawPolynomials.over
#print axioms lawPolynomials.proved
end Go.Proofs.Yticimniegecfeaa
