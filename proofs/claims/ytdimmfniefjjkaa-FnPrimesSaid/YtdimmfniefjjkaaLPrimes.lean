/- The law FnPrimes returns true for every input. It holds without a condition. -/
import Derived.Test.YtdimmfniefjjkaaRows
import Derived.Test.YtdimmfniefjjkaaPrim
import Derived.Test.YtdimmfniefjjkaaOpenB
import Derived.Test.YtdimmfniefjjkaaFacts
namespace Go.Proofs.Ytdimmfniefjjkaa
open Go.ChangeShapes Go.WideShapes Go.ChangeAt Go.RowKit
set_option linter.unusedVariables false

theorem pp_succ {l : List (Nat × Nat)} {i : Nat} (hi : i < l.length) : prodF (l.take (i + 1)) = prodF (l.take i) * l[i].1 ^ l[i].2 := by
  rw [List.take_succ_eq_append_getElem hi, prodF_append]
  simp [prodF]
theorem prodF_pos : ∀ {l : List (Nat × Nat)}, (∀ f ∈ l, 1 ≤ f.1) → 1 ≤ prodF l
  | [], _ => Nat.le_refl _
  | f :: l, h => Nat.mul_pos (Nat.pow_pos (h f (by simp))) (prodF_pos fun g hg => h g (by simp [hg]))
theorem pp_le {l : List (Nat × Nat)} {i k : Nat} (h : ∀ f ∈ l, 1 ≤ f.1) (hi : i < l.length) (hk : k ≤ l[i].2) : prodF (l.take i) * l[i].1 ^ k ≤ prodF l := by
  have h1 : prodF l = prodF (l.take (i + 1)) * prodF (l.drop (i + 1)) := by rw [← prodF_append, List.take_append_drop]
  rw [h1, pp_succ hi]
  have h2 := prodF_pos (l := l.drop (i + 1)) (fun f hf => h f (List.mem_of_mem_drop hf))
  have h3 : l[i].1 ^ k ≤ l[i].1 ^ l[i].2 := Nat.pow_le_pow_right (h _ (List.getElem_mem hi)) hk
  refine Nat.le_trans (Nat.mul_le_mul (Nat.le_refl _) h3) ?_
  exact Nat.le_mul_of_pos_right _ h2
theorem fz_at {l : List (Nat × Nat)} {j : Nat} (hj : j < (fz l).length) : (fz l)[j] = (((l[j]'(by simpa [fz] using hj)).1 : Int), ((l[j]'(by simpa [fz] using hj)).2 : Int)) := by
  simp [fz]
theorem fz_length (l : List (Nat × Nat)) : (fz l).length = l.length := by simp [fz]
/-- What the factorisation of n is. -/
theorem facR_facts (n : Int) : (∀ f ∈ facR n, PrimeN f.1 ∧ f.1 ≤ 2000000000) ∧ prodF (facR n) ≤ 2000000000 ∧ (inR n 1 2000000000 = true → (prodF (facR n) : Int) = n) := by
  unfold facR
  split
  · rename_i h
    have hb := inR_iff.1 h
    obtain ⟨h1, h2⟩ := fac_facts _ n.toNat 2 (Nat.le_refl _) (by omega) (Nat.le_refl _) (fun e h1 h3 => absurd h3 (by omega))
    refine ⟨fun f hf => ⟨(h2 f hf).1, ?_⟩, by omega, fun _ => by omega⟩
    have := (fac_mem (by omega) hf).2
    omega
  · rename_i h
    exact ⟨fun f hf => (by cases hf), (by simp [prodF]), fun h2 => absurd h2 h⟩
theorem root_out {p : Int} {w w' : World} {e : Ending} (h : RootPost p w e w') : ∃ (g : Int) (one : Bool), e = .returned (.tuple #[.int .i64 g, .bool one]) ∧ (fieldB p = false ∧ one = false ∧ g = 0 ∨ fieldB p = true ∧ one = true ∧ ∃ G : Nat, g = G ∧ IsLst p.toNat G) ∧ Ext w w' := by
  obtain ⟨h1 | ⟨h1, G, h2, h3⟩, h4⟩ := h
  · exact ⟨0, false, h1.2, .inl ⟨h1.1, rfl, rfl⟩, h4⟩
  · exact ⟨G, true, h3, .inr ⟨h1, rfl, G, rfl, h2⟩, h4⟩

namespace lawPrimes
set_option maxRecDepth 100000 in
set_option maxHeartbeats 8000000 in
theorem walk (A0 : Option Addr) (l0 : List Int) (c0 : Nat) (A1 : Option Addr) (l1 : List Int) (c1 : Nat) (w : World) (r0 : RdB w A0 l0) (b0 : l0.length ≤ c0) (m0 : c0 ≤ maxLen) (z0 : A0 = none → c0 = 0) (f0 : ∀ n ∈ l0, 0 ≤ n ∧ n ≤ 255) (r1 : RdB w A1 l1) (b1 : l1.length ≤ c1) (m1 : c1 ≤ maxLen) (z1 : A1 = none → c1 = 0) (f1 : ∀ n ∈ l1, 0 ≤ n ∧ n ≤ 255) :
    Calls Try.prog 3 #[.slice A0 l0.length c0, .slice A1 l1.length c1] w fun e w' => e = .returned (.bool true) ∧ Ext w w' := by
  clear z0 z1
  generalize hn0 : l0.length = n0 at *
  generalize hn1 : l1.length = n1 at *
  have Hn0 := Lib.hid hn0
  have Hn1 := Lib.hid hn1
  clear hn0 hn1
  unfold maxLen at m0 m1
  by_cases hbig : (1048576 : Int) < wrap64 ((n0 : Int) + n1)
  · go_enter Try.func3, Try.ntmps3
    go_wp2
    go_ret
    exact ⟨rfl, Ext.refl _⟩
  have hn1b : n1 ≤ 9223372036854775807 := by omega
  have hn0b : n0 ≤ 9223372036854775807 := by omega
  go_enter Try.func3, Try.ntmps3
  go_wp2_with fail
  refine (DrawFactorOf_any A0 n0 c0 l0 _ r0 Hn0.out hn0b f0).mono ?_
  rintro e w1 ⟨n, rfl, hn1, hn2, E⟩
  obtain ⟨hF1, hF2, hF3⟩ := facR_facts n
  obtain ⟨ok, hok⟩ : ∃ ok, inR n 1 2000000000 = ok := ⟨_, rfl⟩
  obtain ⟨L, hL⟩ : ∃ L, facR n = L := ⟨_, rfl⟩
  rw [hL, hok] at hF3
  rw [hL] at hF1 hF2
  have HOK := Lib.hid hok
  have HL := Lib.hid hL
  have HF1 := Lib.hid hF1
  have HF3 := Lib.hid hF3
  clear hok hL hF1 hF3
  go_wp2_with fail
  refine (iFactorOf_any n _).mono ?_
  rintro e w2 ⟨A, k, c, he, hO, hb⟩
  rw [HOK.out] at he; subst he
  rw [HL.out] at hO
  replace E := E.trans hb
  clear hb
  go_wp2_with fail
  refine (sFactorOf_any n _).mono ?_
  rintro e w3 ⟨D, m, d, he, hP, hb⟩
  rw [HOK.out] at he; subst he
  rw [HL.out] at hP
  replace E := E.trans hb
  replace hO := hO.ext hb
  clear hb
  go_wp2_with fail
  refine (DrawPrimitiveRoot_any A1 n1 c1 l1 _ (r1.ext E) Hn1.out hn1b f1).mono ?_
  rintro e w4 ⟨p, rfl, hp1, hp2, hb⟩
  replace E := E.trans hb
  replace hO := hO.ext hb
  replace hP := hP.ext hb
  clear hb
  go_wp2_with fail
  refine (iPrimitiveRoot_any p _).mono ?_
  intro e w5 h5
  obtain ⟨g, one, rfl, hg, hb⟩ := root_out h5
  replace E := E.trans hb
  replace hO := hO.ext hb
  replace hP := hP.ext hb
  have HGG := Lib.hid hg
  clear hb h5 hg
  go_wp2_with fail
  refine (sPrimitiveRoot_any p _).mono ?_
  intro e w6 h6
  obtain ⟨root, two, rfl, hg', hb⟩ := root_out h6
  replace E := E.trans hb
  replace hO := hO.ext hb
  replace hP := hP.ext hb
  have hsame : two = one ∧ root = g := by
    rcases HGG.out with ⟨a1, rfl, rfl⟩ | ⟨a1, rfl, G, rfl, a2⟩ <;> rcases hg' with ⟨b1, rfl, rfl⟩ | ⟨b1, rfl, G', rfl, b2⟩
    · exact ⟨rfl, rfl⟩
    · rw [a1] at b1; cases b1
    · rw [a1] at b1; cases b1
    · exact ⟨rfl, by rw [a2.uniq b2]⟩
  obtain ⟨rfl, rfl⟩ := hsame
  clear hb h6 hg'
  have hkm : k = L.length := by have := hO.len; rw [fz_length] at this; exact this.symm
  have hmm : m = L.length := by have := hP.len; rw [fz_length] at this; exact this.symm
  have hkl := hO.le
  unfold maxLen at hkl
  have RO := hO.rd
  have RP := hP.rd
  clear hO hP
  obtain ⟨K, hK⟩ : ∃ K, L.length = K := ⟨_, rfl⟩
  rw [hK] at hkm hmm
  subst hkm hmm
  have HK := Lib.hid hK
  clear hK
  go_wp2
  go_loopw [15, 77] (fun o i wr => ∃ (j P : Nat), j ≤ m ∧ i = .int .i64 j ∧ o = .int .i64 P ∧ P ≤ 2000000000 ∧ Hid (P = prodF (L.take j)) ∧ Ext w6 wr) (fun _ i _ => m - (intOf i).toNat)
  case atStart => exact ⟨0, 1, Nat.zero_le _, rfl, rfl, by omega, rfl, Ext.refl _⟩
  case round =>
    obtain ⟨j, P, hj, rfl, rfl, hPb, HP, E2⟩ := hrel
    by_cases hlt : j < m
    · have hlt0 : j < L.length := by rw [HK.out]; exact hlt
      have hlt' : j < (fz L).length := by rw [fz_length]; exact hlt0
      obtain ⟨ad, rfl, hc, hd⟩ := (RO.ext E2).at_ hlt'
      obtain ⟨bd, rfl, he, hf⟩ := (RP.ext E2).at_ hlt'
      have h7 := HF1.out _ (List.getElem_mem hlt0)
      have h8 := Lib.hid (fun k hk => pp_le (k := k) (fun f hf => by have := (HF1.out f hf).1.1; omega) hlt0 hk)
      have h9 := Lib.hid (pp_succ hlt0)
      rw [fz_at hlt'] at hc hd he hf
      simp only at hc hd he hf
      obtain ⟨F, hF⟩ : ∃ F, L[j] = F := ⟨_, rfl⟩
      rw [hF] at h7 h8 h9
      simp only [hF] at hc hd he hf
      obtain ⟨x, y⟩ := F
      simp only at h7 h8 h9 hc hd he hf
      have hfl : fieldB (x : Int) = true := by
        rw [fieldB_prime (by have := h7.1.1; omega) (by omega)]
        exact primeB_iff.2 (by rw [Int.toNat_natCast]; exact h7.1)
      have HFL := Lib.hid hfl
      have hxb := h7.2
      have hx2 := h7.1.1
      have hyb : y ≤ 2000000000 := by
        have a1 := h8.out y (Nat.le_refl _)
        have a2 : 2 ^ y ≤ x ^ y := Nat.pow_le_pow_left hx2 y
        have a3 : y < 2 ^ y := Nat.lt_two_pow_self
        have a4 : 1 ≤ prodF (L.take j) := prodF_pos fun f hf => by have := (HF1.out f (List.mem_of_mem_take hf)).1.1; omega
        have a5 : x ^ y ≤ prodF (L.take j) * x ^ y := Nat.le_mul_of_pos_left _ a4
        omega
      have hE3 := (Ext.refl wr).alloc (.cells #[.int .i64 x, .int .i64 y] 30)
      have B3 := Blk.new wr 30 #[.int .i64 x, .int .i64 y]
      have C3 := B3.cells
      have hc' := hE3.cell hc
      have hd' := hE3.cell hd
      have he' := hE3.cell he
      have hf' := hE3.cell hf
      clear hF hfl h7
      go_wp2_with fail
      refine (iIsPrime_any x _ (by omega) (by omega)).mono ?_
      rintro e w7 ⟨he7, rfl⟩
      rw [HFL.out] at he7; subst he7
      go_wp2
      go_quiet (fail)
      have C3n := fun i => (B3.drewN 1).cells i
      go_wp2
      go_loop [15, 20] (fun o i => ∃ (t R : Nat), t ≤ y ∧ i = .int .i64 t ∧ o = .int .i64 R ∧ R ≤ 2000000000 ∧ Hid (R = P * x ^ t)) (fun _ i => y - (intOf i).toNat)
      case atStart => exact ⟨0, P, Nat.zero_le _, rfl, rfl, hPb, by show P = P * x ^ 0; rw [Nat.pow_zero, Nat.mul_one]⟩
      case round =>
        obtain ⟨t, R, ht, rfl, rfl, hRb, HR⟩ := hrel
        by_cases hty : t < y
        · have hnx : R * x ≤ 2000000000 := by
            have h10 := h8.out (t + 1) hty
            rw [← HP.out, Nat.pow_succ, ← Nat.mul_assoc, ← HR.out] at h10
            omega
          have hnx2 : (R : Int) * x = ((R * x : Nat) : Int) := by rw [Int.natCast_mul]
          obtain ⟨S, hS⟩ : ∃ S, R * x = S := ⟨_, rfl⟩
          rw [hS] at hnx hnx2
          have HS := Lib.hid hS
          clear hS
          go_wp2
          go_round
          case rel => exact ⟨t + 1, S, by omega, by go_num, rfl, hnx, by show S = P * x ^ (t + 1); rw [← HS.out, HR.out, Nat.pow_succ, Nat.mul_assoc]⟩
          case measure => simp [intOf]; omega
        · obtain rfl : t = y := by omega
          go_wp2
          go_roundw
          case rel => exact ⟨j + 1, R, by omega, by go_num, rfl, hRb, by show R = _; rw [h9.out, ← HP.out]; exact HR.out, (E2.trans hE3).drewN _⟩
          case measure => simp [intOf]; omega
    · obtain rfl : j = m := by omega
      have hfin := HP.out
      rw [List.take_of_length_le (by rw [HK.out]; exact Nat.le_refl _)] at hfin
      have hprod : ok = true → (P : Int) = n := fun h => by rw [hfin]; exact HF3.out h
      clear HP hfin
      rcases HGG.out with ⟨a1, rfl, rfl⟩ | ⟨a1, rfl, G, rfl, a2⟩
      · cases ok
        · go_wp2
          go_ret
          exact ⟨rfl, E.trans E2⟩
        · have hpn := hprod rfl
          subst hpn
          have hz : ((P : Int) != (P : Int)) = false := by simp
          clear hprod
          go_wp2
          go_ret
          exact ⟨rfl, E.trans E2⟩
      · have hff := a1
        unfold fieldB at hff
        rw [Bool.and_eq_true] at hff
        have hpb := inR_iff.1 hff.1
        obtain ⟨Q, rfl⟩ := Int.eq_ofNat_of_zero_le (show 0 ≤ p by omega)
        rw [Int.toNat_natCast] at a2
        have hQ : PrimeN Q := by have := primeB_iff.1 hff.2; rwa [Int.toNat_natCast] at this
        have hlt := a2.lt hQ
        have hge := a2.1
        have HA1 := Lib.hid a1
        have HM := Lib.hid hff.1
        have hval : 3 ≤ Q → powM (G : Int) (((Q : Int) - 1) / 2) Q = (Q : Int) - 1 := fun h3 => by
          have := root_half hQ h3 hge hlt a2.2.1
          rw [show ((Q : Int) - 1) / 2 = (((Q - 1) / 2 : Nat) : Int) by omega, powM_nat, this]
          omega
        have HVAL := Lib.hid hval
        clear hff a1 a2 hQ hval HGG
        have hcase : ok = false ∨ ok = true ∧ (P : Int) = n := by
          cases ok
          · exact .inl rfl
          · exact .inr ⟨rfl, hprod rfl⟩
        have hz : ((P : Int) != (P : Int)) = false := by simp
        clear hprod
        by_cases h3 : 3 ≤ Q
        · have HV := Lib.hid (HVAL.out h3)
          have hi1 : inR (G : Int) 0 ((Q : Int) - 1) = true := inR_iff.2 ⟨by omega, by omega⟩
          have hi2 : inR (((Q : Int) - 1) / 2) 0 2000000000 = true := inR_iff.2 ⟨by omega, by omega⟩
          have HI1 := Lib.hid hi1
          have HI2 := Lib.hid hi2
          have hself : ((Q : Int) - 1 == (Q : Int) - 1) = true := by simp
          clear hi1 hi2 HVAL
          rcases hcase with rfl | ⟨rfl, rfl⟩
          · go_wp2_with fail
            refine (iPowerMod_ok _ _ _ _ HM.out HI1.out HI2.out).mono ?_
            rintro e wa ⟨he, rfl⟩
            rw [HV.out] at he; subst he
            go_wp2_with fail
            refine (iLegendreOf_neg _ _ _ HA1.out (by omega) HI1.out HV.out).mono ?_
            rintro e wa ⟨rfl, rfl⟩
            go_wp2
            go_ret
            exact ⟨rfl, E.trans E2⟩
          · go_wp2_with fail
            refine (iPowerMod_ok _ _ _ _ HM.out HI1.out HI2.out).mono ?_
            rintro e wa ⟨he, rfl⟩
            rw [HV.out] at he; subst he
            go_wp2_with fail
            refine (iLegendreOf_neg _ _ _ HA1.out (by omega) HI1.out HV.out).mono ?_
            rintro e wa ⟨rfl, rfl⟩
            go_wp2
            go_ret
            exact ⟨rfl, E.trans E2⟩
        · have hq3 : (Q : Int) < 3 := by omega
          rcases hcase with rfl | ⟨rfl, rfl⟩
          · go_wp2
            go_ret
            exact ⟨rfl, E.trans E2⟩
          · go_wp2
            go_ret
            exact ⟨rfl, E.trans E2⟩
end lawPrimes

set_option maxRecDepth 100000 in
theorem lawPrimes.lifted (os : Os) (started : os.Started) (H : Type) (enc : TypeId × Value → H) :
    ReturnsInHanded {} Try.checked os 3 .any (Rows.fnPrimesSpec.pre6 enc Try.prog Try.f3 Rows.fnPrimesRow.domain false) (Rows.fnPrimesSpec.post enc Try.prog Try.f3 false true false false) := by
  refine returnsInHanded_of_change (C := Try.checked) Facts.own started (by kernel_rfl) Try.func3
    (ChangeSpec.witness6 (enc := enc) (C := Try.checked) false ⟨#[], #[.slice none 0 0, .slice none 0 0], []⟩ 8 (by kernel_rfl) (by kernel_rfl) (by kernel_rfl) (by kernel_rfl)) ?_
  intro W base args ds gs before hval0 hW _ _
  have hval : ∀ (j : Nat) t v, Try.f3.params[j]? = some t → args[j]? = some v → Value.okWide Try.prog W .any base t v := hval0
  have hW' := hW
  obtain ⟨p, q, hA0, hV, rfl, hfz, hnd⟩ := hW
  have hA : DataW.TrodAll enc Try.prog W 0 (fun _ => true) true Try.f3.params.toList args.toList ds p := hA0
  rw [Try.params3] at hA hval
  obtain ⟨v0, vs0, d0, ds0, p0, q0, hargs, rfl, rfl, h0, r0⟩ := trodAll_cons hA
  obtain ⟨v1, vs1, d1, ds1, p1, q1, rfl, rfl, rfl, h1, r1⟩ := trodAll_cons r0
  obtain ⟨rfl, rfl, rfl⟩ := trodAll_nil r1
  obtain rfl : args = #[v0, v1] := by cases args; simp_all
  obtain ⟨rfl, rfl⟩ := trodVars_none hV
  have hlt := hW'.lt
  clear hA hA0 hval0 hargs r0 r1
  have k0 := h0
  have k1 := h1
  obtain ⟨A0, l0, c0, rfl, r0, b0, m0, z0, f0⟩ := openBS Try.underlying22 Try.underlying5 (by kernel_rfl) (hval 0 22 v0 rfl rfl) h0
  obtain ⟨A1, l1, c1, rfl, r1, b1, m1, z1, f1⟩ := openBS Try.underlying22 Try.underlying5 (by kernel_rfl) (hval 1 22 v1 rfl rfl) h1
  refine (lawPrimes.walk A0 l0 c0 A1 l1 c1 W r0 b0 m0 z0 f0 r1 b1 m1 z1 f1).mono fun e W' ⟨he, hg⟩ => ?_
  subst he
  exact ⟨_, rfl, post_below (pv := []) hW' (fun _ _ _ => (trodAll_cons_mk (shut_bool Try.underlying4 _) trodAll_mk0)) (fun sp hsp => (trodAll_cons_mk (WideElems.Trod_stays Facts.laidOut (by kernel_rfl) (of_decide_eq_true (by kernel_rfl)) k0 (fun x hx => hg.same (hlt x (by simp [hx]))) (fun x hx => hsp x (by simp [hx]))) (trodAll_cons_mk (WideElems.Trod_stays Facts.laidOut (by kernel_rfl) (of_decide_eq_true (by kernel_rfl)) k1 (fun x hx => hg.same (hlt x (by simp [hx]))) (fun x hx => hsp x (by simp [hx]))) trodAll_mk0))) (fun _ _ => rfl) rfl
    hg (ok_one (by kernel_rfl) rfl (okWide_bool_mk Try.underlying4 _))⟩

theorem lawPrimes.named : Try.pinned.checked.prog.funcNamed Rows.fnPrimesRow.func = some 3 := by kernel_rfl
theorem lawPrimes.z9 : (Rows.fnPrimesRow.inPlace == Try.prog.inPlace 3) = true := by kernel_rfl
theorem lawPrimes.z10 : (Rows.fnPrimesRow.unfollowed == Try.prog.unfollowed 3) = true := by kernel_rfl
theorem lawPrimes.z11 : (Rows.fnPrimesRow.recurses == Try.prog.recurses 3) = true := by kernel_rfl
theorem lawPrimes.z12 : (Rows.fnPrimesRow.named == Try.prog.varsNamed 3) = true := by kernel_rfl
theorem lawPrimes.closed : joinedFacts Try.prog 3 Try.f3 Rows.fnPrimesSpec Rows.fnPrimesRow = true :=
  joined_of (by kernel_rfl) Facts.laidOut Facts.mapsRowed (by kernel_rfl) (by kernel_rfl) (by kernel_rfl) (by kernel_rfl) (by kernel_rfl) (by kernel_rfl) lawPrimes.z9 lawPrimes.z10 lawPrimes.z11 lawPrimes.z12 (by kernel_rfl) (by kernel_rfl) (by kernel_rfl) (by kernel_rfl) (by kernel_rfl) (by kernel_rfl) (by kernel_rfl) (by kernel_rfl) (by kernel_rfl) (by rw [Facts.plainKeys]; rfl) (by kernel_rfl) Facts.heard Facts.enter (by rw [Facts.lifts]; rfl) (by rw [Facts.make]; rfl) (by kernel_rfl) (by kernel_rfl) (by kernel_rfl) (by kernel_rfl)
theorem lawPrimes.inst : Try.f3.isInstance Try.pinned.checked.prog Rows.fnPrimesRow.origin Rows.fnPrimesRow.targs := of_decide_eq_true (by kernel_rfl)
theorem lawPrimes.wrap : Try.f3.isWrapper Try.pinned.checked.prog Rows.fnPrimesRow.wrapper Rows.fnPrimesRow.mainSum := by
  unfold Func.isWrapper; first | (rw [if_pos (by decide +kernel)]; kernel_rfl) | (rw [if_neg (by decide +kernel)]; exact ⟨rfl, rfl⟩)
theorem lawPrimes.over : Rows.fnPrimesRow.holds Try.pinned (OpenSpec.ofChange Rows.fnPrimesSpec) :=
  OpenClaim.holds_of_wide 3 Try.f3 rfl rfl rfl rfl rfl rfl rfl ⟨rfl, rfl, rfl, rfl, rfl⟩ rfl rfl rfl rfl rfl lawPrimes.named Try.func3 lawPrimes.closed
    lawPrimes.inst lawPrimes.wrap (fun os started H enc _ => lawPrimes.lifted os started H enc)

theorem lawPrimes.proved : Rows.FnPrimesSaid := lawPrimes.over
#print axioms lawPrimes.proved
end Go.Proofs.Ytdimmfniefjjkaa
