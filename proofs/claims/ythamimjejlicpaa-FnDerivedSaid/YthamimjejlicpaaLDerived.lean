/- The law FnDerived returns true for every input. It holds without a condition. -/
import Derived.Test.YthamimjejlicpaaRows
import Derived.Test.YthamimjejlicpaaBof
import Derived.Test.YthamimjejlicpaaCurL
import Derived.Test.YthamimjejlicpaaGrpO
import Derived.Test.YthamimjejlicpaaSame
import Derived.Test.YthamimjejlicpaaOpenB
import Derived.Test.YthamimjejlicpaaFacts
namespace Go.Proofs.Ythamimjejlicpaa
open Go.ChangeShapes Go.WideShapes Go.ChangeAt Go.RowKit
set_option linter.unusedVariables false

theorem des_at {p q g n : Int} {s : ByteArray} {j : Nat} (hj : j < (desL p q g s n).length) : ∃ x, (desL p q g s n)[j] = x ∧ derV p q g s j = x ∧ x ≠ 0 ∧ x ≠ 1 ∧ elB p q x = true ∧ grpB p q g = true ∧ s.size ≤ 40 ∧ j ≤ 1000 := by
  cases hk : desK p q g s n
  · unfold desL at hj
    simp [hk] at hj
  · have he : desL p q g s n = derL p q g s n.toNat := by unfold desL; rw [hk]; rfl
    have hj2 : j < (derL p q g s n.toNat).length := by rw [← he]; exact hj
    have hk2 := hk
    simp only [desK, Bool.and_eq_true, decide_eq_true_eq] at hk2
    obtain ⟨h1, h2, h3, h4⟩ := hk2
    have h3 := inR_iff.1 h3
    have hjn : j < n.toNat := by simpa [derL_length] using hj2
    have h0 := derA_mem h4 hjn
    obtain ⟨h5, h6⟩ := derV_out h1 s j h0
    refine ⟨derV p q g s j, ?_, rfl, h0, h6, h5, h1, h2, by omega⟩
    rw [← derL_at hj2]
    congr 1
theorem bas_all {p q g : Int} {n : Nat} (h : grpB p q g = true) (hk : basK p q g n = true) : ∀ x ∈ derV p q g ⟨#[104]⟩ 0 :: derL p q g ⟨#[104, 115]⟩ n, x ≠ 1 ∧ elB p q x = true := by
  simp only [basK, Bool.and_eq_true, bne_iff_ne, ne_eq] at hk
  intro x hx
  rcases List.mem_cons.1 hx with rfl | hx
  · obtain ⟨h1, h2⟩ := derV_out h _ _ hk.1
    exact ⟨h2, h1⟩
  · obtain ⟨i, hi, rfl⟩ := List.getElem_of_mem hx
    have hi2 : i < n := by simpa [derL_length] using hi
    rw [derL_at hi]
    obtain ⟨h1, h2⟩ := derV_out h _ _ (derA_mem hk.2 hi2)
    exact ⟨h2, h1⟩

namespace lawDerived
set_option maxRecDepth 100000 in
set_option maxHeartbeats 8000000 in
theorem walk (A0 : Option Addr) (l0 : List Int) (c0 : Nat) (A1 : Option Addr) (l1 : List Int) (c1 : Nat) (w : World) (r0 : RdB w A0 l0) (b0 : l0.length ≤ c0) (m0 : c0 ≤ maxLen) (z0 : A0 = none → c0 = 0) (f0 : ∀ n ∈ l0, 0 ≤ n ∧ n ≤ 255) (r1 : RdB w A1 l1) (b1 : l1.length ≤ c1) (m1 : c1 ≤ maxLen) (z1 : A1 = none → c1 = 0) (f1 : ∀ n ∈ l1, 0 ≤ n ∧ n ≤ 255) :
    Calls Try.prog 3 #[.slice A0 l0.length c0, .slice A1 l1.length c1] w fun e w' => e = .returned (.bool true) ∧ Ext w w' := by
  clear z0 z1
  generalize hn0 : l0.length = n0 at *
  generalize hn1 : l1.length = n1 at *
  have Hn0 := Lib.hid hn0
  have Hn1 := Lib.hid hn1
  clear hn0 hn1
  have q0 : n0 ≤ maxLen := Nat.le_trans b0 m0
  have q1 : n1 ≤ maxLen := Nat.le_trans b1 m1
  have HF0 := Lib.hid f0
  have HF1 := Lib.hid f1
  clear f0 f1
  have hn0b : n0 ≤ 9223372036854775807 := by unfold maxLen at q0; omega
  have hn1b : n1 ≤ 9223372036854775807 := by unfold maxLen at q1; omega
  cases hbig : decide (1048576 < n0 + n1)
  case true =>
    have HB := Lib.hid hbig
    clear hbig
    go_enter Try.func3, Try.ntmps3
    go_wp2_with fail
    refine (big_any A0 A1 n0 n1 c0 c1 _ q0 q1).mono ?_
    rintro e w1 ⟨he, rfl⟩
    rw [HB.out] at he; subst he
    go_wp2
    go_ret
    exact ⟨rfl, Ext.refl _⟩
  have HB := Lib.hid hbig
  clear hbig
  go_enter Try.func3, Try.ntmps3
  go_wp2_with fail
  refine (big_any A0 A1 n0 n1 c0 c1 _ q0 q1).mono ?_
  rintro e w1 ⟨he, rfl⟩
  rw [HB.out] at he; subst he
  go_wp2_with fail
  refine (DrawDeriveElements_any A0 n0 c0 l0 _ r0 Hn0.out hn0b HF0.out).mono ?_
  rintro e w2 ⟨P, Q, G, s, n, rfl, hD, hs, hn, E⟩
  have B := Blk.new w2 25 #[.int .i64 P, .int .i64 Q, .int .i64 G]
  replace E := E.alloc (.cells #[.int .i64 P, .int .i64 Q, .int .i64 G] 25)
  obtain ⟨K, hK⟩ : ∃ K, desK P Q G s n = K := ⟨_, rfl⟩
  have HK := Lib.hid hK
  clear hK
  have C := B.cells
  go_wp2_with fail
  refine (iDeriveElements_any P Q G s n _ (by omega)).mono ?_
  rintro e w3 ⟨X, m, c, he, hX, hb⟩
  rw [HK.out] at he; subst he
  replace E := E.trans hb
  replace B := B.ext hb
  clear C hb
  have C := B.cells
  go_wp2_with fail
  refine (sDeriveElements_any P Q G s n _ (by omega)).mono ?_
  rintro e w4 ⟨Y, m2, c2, he, hY, hb⟩
  rw [HK.out] at he; subst he
  replace E := E.trans hb
  replace B := B.ext hb
  replace hX := hX.ext hb
  clear C hb
  have hself : (K != K) = false := by simp
  have hXl := hX.le
  have hYl := hY.le
  have HXL := Lib.hid hX.len
  have HYL := Lib.hid hY.len
  go_wp2_with fail
  refine (sameInts_same hX.rd hY.rd HXL.out HYL.out hXl hYl).mono ?_
  rintro e w5 ⟨rfl, hb⟩
  replace E := E.trans hb
  replace B := B.ext hb
  replace hY := hY.ext hb
  clear hb hX
  unfold maxLen at hYl hXl
  go_wp2
  go_loopw [58] (fun k wr => ∃ j : Nat, j ≤ m2 ∧ k = .int .i64 j ∧ Ext w5 wr) (fun k _ => m2 - (intOf k).toNat)
  case atStart => exact ⟨0, Nat.zero_le _, rfl, Ext.refl _⟩
  case round =>
    obtain ⟨j, hj, rfl, E2⟩ := hrel
    by_cases hlt : j < m2
    · have hjl : j < (desL P Q G s n).length := by rw [HYL.out]; exact hlt
      obtain ⟨ad, rfl, hc⟩ := (hY.ext E2).rd.at_ hjl
      obtain ⟨x, hx1, hx2, hx3, hx4, hx5, hx6, hx7, hx8⟩ := des_at hjl
      rw [hx1] at hc
      have HV := Lib.hid hx2
      have hel : (grpB P Q G && elB P Q x) = true := by rw [hx6, hx5]; rfl
      have HEL := Lib.hid hel
      have HG := Lib.hid hx6
      have hne : (x == 1) = false := by simp [hx4]
      have hnz : (x != 0) = true := by simp [hx3]
      have hxx : (x != x) = false := by simp
      clear hx1 hx2 hx3 hx4 hx5 hx6 hel
      have C := (B.ext E2).cells
      go_wp2_with fail
      refine (iIsElement_any P Q G x _).mono ?_
      rintro e w6 ⟨he, hb⟩
      rw [HEL.out, HG.out] at he; subst he
      replace E2 := E2.trans hb
      clear C hb
      have C := (B.ext E2).cells
      go_wp2_with fail
      refine (iDeriveElement_yes P Q G s j _ HG.out hx7 (by omega)).mono ?_
      rintro e w7 ⟨he, hb⟩
      rw [HV.out, hnz] at he; subst he
      replace E2 := E2.trans hb
      go_wp2
      go_roundw
      case rel => exact ⟨j + 1, by omega, by go_num, E2⟩
      case measure => simp [intOf]; omega
    · obtain rfl : m2 = j := by omega
      replace E := E.trans E2
      clear hY B
      go_wp2_with fail
      refine (DrawBasesOf_any A1 n1 c1 l1 _ (r1.ext E) Hn1.out hn1b HF1.out).mono ?_
      rintro e w8 ⟨P2, Q2, G2, n2, rfl, hD2, hn2, hb⟩
      replace E := E.trans hb
      have B := Blk.new w8 25 #[.int .i64 P2, .int .i64 Q2, .int .i64 G2]
      replace E := E.alloc (.cells #[.int .i64 P2, .int .i64 Q2, .int .i64 G2] 25)
      clear hb
      obtain ⟨L, hL⟩ : ∃ L, (grpB P2 Q2 G2 && (inR n2 0 24 && basK P2 Q2 G2 n2.toNat)) = L := ⟨_, rfl⟩
      have HL := Lib.hid hL
      have C := B.cells
      go_wp2_with fail
      refine (iBasesOf_any P2 Q2 G2 n2 _).mono ?_
      rintro e w9 ⟨H, U, u, uc, he, hy, hno, hb⟩
      rw [hL] at he hy hno
      subst he
      replace E := E.trans hb
      replace B := B.ext hb
      have BI := Blk.new w9 39 #[.int .i64 H, .slice U u uc]
      have hal := (Ext.refl w9).alloc (.cells #[.int .i64 H, .slice U u uc] 39)
      replace E := E.trans hal
      replace B := B.ext hal
      clear C hb
      have C := B.cells
      go_wp2_with fail
      refine (sBasesOf_any P2 Q2 G2 n2 _).mono ?_
      rintro e w10 ⟨H', U', u', uc', he, hy', hno', hb⟩
      rw [hL] at he hy' hno'
      subst he
      replace E := E.trans hb
      replace B := B.ext hb
      replace BI := BI.ext hb
      have BS := Blk.new w10 39 #[.int .i64 H', .slice U' u' uc']
      have hal2 := (Ext.refl w10).alloc (.cells #[.int .i64 H', .slice U' u' uc'] 39)
      replace E := E.trans hal2
      replace B := B.ext hal2
      replace BI := BI.ext hal2
      clear C
      have C := B.cells
      have CI := BI.cells
      have CS := BS.cells
      cases L
      · obtain ⟨rfl, rfl, rfl, rfl⟩ := hno rfl
        obtain ⟨rfl, rfl, rfl, rfl⟩ := hno' rfl
        clear hy hy' hno hno' hL
        go_wp2_with fail
        refine (sameInts_same (RdI.nil _ _) (RdI.nil _ _) rfl rfl (Nat.zero_le _) (Nat.zero_le _)).mono ?_
        rintro e w11 ⟨rfl, hb3⟩
        go_wp2
        go_ret
        exact ⟨rfl, E.trans hb3⟩
      · obtain ⟨rfl, hO⟩ := hy rfl
        obtain ⟨rfl, hO'⟩ := hy' rfl
        simp only [Bool.and_eq_true] at hL
        obtain ⟨g1, g2, g3⟩ := hL
        have g2 := inR_iff.1 g2
        have hall := Lib.hid (bas_all g1 g3)
        have hlen : (derL P2 Q2 G2 ⟨#[104, 115]⟩ n2.toNat).length ≤ 24 := by rw [derL_length]; omega
        have HG1 := Lib.hid g1
        replace hO := hO.ext ((hal.trans hb).trans hal2)
        replace hO' := hO'.ext hal2
        have hOl := hO.len
        have hOl' := hO'.len
        have hu24 : u ≤ 24 := by omega
        have hu24' : u' ≤ 24 := by omega
        generalize derV P2 Q2 G2 ⟨#[104]⟩ 0 = V0 at *
        have hvv : (V0 != V0) = false := by simp
        have HOL := Lib.hid hOl
        have HOL' := Lib.hid hOl'
        clear hy hy' hno hno' g1 g3 hOl hOl' hlen hal hal2
        go_wp2_with fail
        refine (sameInts_same hO.rd hO'.rd HOL.out HOL'.out (by unfold maxLen; omega) (by unfold maxLen; omega)).mono ?_
        rintro e w11 ⟨rfl, hb3⟩
        replace E := E.trans hb3
        clear C CI CS
        have C := (B.ext hb3).cells
        have CI := (BI.ext hb3).cells
        go_wp2_with fail
        refine (IsValidBases_yes P2 Q2 G2 V0 U u uc _ _ HG1.out (hO.ext hb3).rd HOL.out hu24 hall.out).mono ?_
        rintro e w12 ⟨rfl, hb4⟩
        go_wp2
        go_ret
        exact ⟨rfl, E.trans hb4⟩
end lawDerived

set_option maxRecDepth 100000 in
theorem lawDerived.lifted (os : Os) (started : os.Started) (H : Type) (enc : TypeId × Value → H) :
    ReturnsInHanded {} Try.checked os 3 .any (Rows.fnDerivedSpec.pre6 enc Try.prog Try.f3 Rows.fnDerivedRow.domain false) (Rows.fnDerivedSpec.post enc Try.prog Try.f3 false true false false) := by
  refine returnsInHanded_of_change (C := Try.checked) Facts.own started (by kernel_rfl) Try.func3
    (ChangeSpec.witness6 (enc := enc) (C := Try.checked) false ⟨#[], #[.slice none 0 0, .slice none 0 0], []⟩ 8 (by kernel_rfl) (by kernel_rfl) (by kernel_rfl) (by kernel_rfl)) ?_
  intro W base args ds gs before hval0 hW _ _
  have hval : ∀ (j : Nat) t v, Try.f3.params[j]? = some t → args[j]? = some v → Value.okWide Try.prog W .any base t v := hval0
  have hW' := hW
  obtain ⟨p, q, hA0, hV, rfl, hfz, hnd⟩ := hW
  have hA : DataW.TrodAll enc Try.prog W 0 (fun _ => true) true Try.f3.params.toList args.toList ds p := hA0
  rw [Try.params3] at hA hval
  obtain ⟨v0, vs0, d0, ds0, p0, q0, hargs, rfl, rfl, h0, r0⟩ := trodAll_cons hA
  obtain ⟨v1, vs1, d1, ds1, p1, q1, rfl, rfl, rfl, h1, r1⟩ := trodAll_cons r0
  obtain ⟨rfl, rfl, rfl⟩ := trodAll_nil r1
  obtain rfl : args = #[v0, v1] := by cases args; simp_all
  obtain ⟨rfl, rfl⟩ := trodVars_none hV
  have hlt := hW'.lt
  clear hA hA0 hval0 hargs r0 r1
  have k0 := h0
  have k1 := h1
  obtain ⟨A0, l0, c0, rfl, r0, b0, m0, z0, f0⟩ := openBS Try.underlying22 Try.underlying5 (by kernel_rfl) (hval 0 22 v0 rfl rfl) h0
  obtain ⟨A1, l1, c1, rfl, r1, b1, m1, z1, f1⟩ := openBS Try.underlying22 Try.underlying5 (by kernel_rfl) (hval 1 22 v1 rfl rfl) h1
  refine (lawDerived.walk A0 l0 c0 A1 l1 c1 W r0 b0 m0 z0 f0 r1 b1 m1 z1 f1).mono fun e W' ⟨he, hg⟩ => ?_
  subst he
  exact ⟨_, rfl, post_below (pv := []) hW' (fun _ _ _ => (trodAll_cons_mk (shut_bool Try.underlying4 _) trodAll_mk0)) (fun sp hsp => (trodAll_cons_mk (WideElems.Trod_stays Facts.laidOut (by kernel_rfl) (of_decide_eq_true (by kernel_rfl)) k0 (fun x hx => hg.same (hlt x (by simp [hx]))) (fun x hx => hsp x (by simp [hx]))) (trodAll_cons_mk (WideElems.Trod_stays Facts.laidOut (by kernel_rfl) (of_decide_eq_true (by kernel_rfl)) k1 (fun x hx => hg.same (hlt x (by simp [hx]))) (fun x hx => hsp x (by simp [hx]))) trodAll_mk0))) (fun _ _ => rfl) rfl
    hg (ok_one (by kernel_rfl) rfl (okWide_bool_mk Try.underlying4 _))⟩

theorem lawDerived.named : Try.pinned.checked.prog.funcNamed Rows.fnDerivedRow.func = some 3 := by kernel_rfl
theorem lawDerived.z9 : (Rows.fnDerivedRow.inPlace == Try.prog.inPlace 3) = true := by kernel_rfl
theorem lawDerived.z10 : (Rows.fnDerivedRow.unfollowed == Try.prog.unfollowed 3) = true := by kernel_rfl
theorem lawDerived.z11 : (Rows.fnDerivedRow.recurses == Try.prog.recurses 3) = true := by kernel_rfl
theorem lawDerived.z12 : (Rows.fnDerivedRow.named == Try.prog.varsNamed 3) = true := by kernel_rfl
theorem lawDerived.closed : joinedFacts Try.prog 3 Try.f3 Rows.fnDerivedSpec Rows.fnDerivedRow = true :=
  joined_of (by kernel_rfl) Facts.laidOut Facts.mapsRowed (by kernel_rfl) (by kernel_rfl) (by kernel_rfl) (by kernel_rfl) (by kernel_rfl) (by kernel_rfl) lawDerived.z9 lawDerived.z10 lawDerived.z11 lawDerived.z12 (by kernel_rfl) (by kernel_rfl) (by kernel_rfl) (by kernel_rfl) (by kernel_rfl) (by kernel_rfl) (by kernel_rfl) (by kernel_rfl) (by kernel_rfl) (by rw [Facts.plainKeys]; rfl) (by kernel_rfl) Facts.heard Facts.enter (by rw [Facts.lifts]; rfl) (by rw [Facts.make]; rfl) (by kernel_rfl) (by kernel_rfl) (by kernel_rfl) (by kernel_rfl)
theorem lawDerived.inst : Try.f3.isInstance Try.pinned.checked.prog Rows.fnDerivedRow.origin Rows.fnDerivedRow.targs := of_decide_eq_true (by kernel_rfl)
theorem lawDerived.wrap : Try.f3.isWrapper Try.pinned.checked.prog Rows.fnDerivedRow.wrapper Rows.fnDerivedRow.mainSum := by
  unfold Func.isWrapper; first | (rw [if_pos (by decide +kernel)]; kernel_rfl) | (rw [if_neg (by decide +kernel)]; exact ⟨rfl, rfl⟩)
theorem lawDerived.over : Rows.fnDerivedRow.holds Try.pinned (OpenSpec.ofChange Rows.fnDerivedSpec) :=
  OpenClaim.holds_of_wide 3 Try.f3 rfl rfl rfl rfl rfl rfl rfl ⟨rfl, rfl, rfl, rfl, rfl⟩ rfl rfl rfl rfl rfl lawDerived.named Try.func3 lawDerived.closed
    lawDerived.inst lawDerived.wrap (fun os started H enc _ => lawDerived.lifted os started H enc)

theorem lawDerived.proved : Rows.FnDerivedSaid := lawDerived.over
#print axioms lawDerived.proved
end Go.Proofs.Ythamimjejlicpaa
