/- The law FnHashes returns true for every input. It holds without a condition. -/
import Derived.Test.YthamimjejlicpaaRows
import Derived.Test.YthamimjejlicpaaDigT
import Derived.Test.YthamimjejlicpaaHashS
import Derived.Test.YthamimjejlicpaaCurH
import Derived.Test.YthamimjejlicpaaSame
import Derived.Test.YthamimjejlicpaaOpenB
import Derived.Test.YthamimjejlicpaaFacts
namespace Go.Proofs.Ythamimjejlicpaa
open Go.ChangeShapes Go.WideShapes Go.ChangeAt Go.RowKit
set_option linter.unusedVariables false

theorem chs_at {K : Bool} {p q g k : Int} {s : ByteArray} {l : List Int} {j : Nat} (hK : (grpB p q g && (inR k 0 100 && chN 4 s l)) = K) (hj : j < (if K then chsL p q g s l k.toNat else []).length) :
    ∃ x : Nat, (if K then chsL p q g s l k.toNat else [])[j] = (x : Int) ∧ chV p q g s (l ++ [(j : Int)]) = (x : Int) ∧ chK p q g s (l ++ [(j : Int)]) = true ∧ (x : Int) < q ∧ grpB p q g = true := by
  cases K
  · simp at hj
  · simp only [Bool.and_eq_true] at hK
    obtain ⟨h1, h2, h3⟩ := hK
    have hk := inR_iff.1 h2
    simp only [if_true] at hj ⊢
    have hj2 : j < k.toNat := by simpa [chsL_length] using hj
    rw [chsL_at]
    obtain ⟨h4, h5⟩ := chV_rg h1 s (l ++ [(j : Int)])
    obtain ⟨x, hx⟩ := Int.eq_ofNat_of_zero_le h4
    exact ⟨x, hx, hx, by rw [chK_i h1 s l (by omega)]; exact h3, by omega, h1⟩

theorem step_appLF {P : Program} {w : World} {ops : Array Oper} {o : Oper} {a : Act} {K : Act → World → Prop} {Q : Exit → Act → World → Prop} {E : Prop} {t e : TypeId} (S : IntSl P t e)
    (hg : o.guard = none) (s x : Operand) (ho : o.op = .call { callee := .builtin .append, args := #[s, x], argTypes := #[t, t] })
    {base : Nat} {A : Option Addr} {n c : Nat} {l : List Int} (hown : OwnI w base e A n c l) (hs : a.eval s = .slice A n c)
    {B : Option Addr} {m c' : Nat} {ys : List Int} (hr : RdI w B ys) (hl : ys.length = m) (hx : a.eval x = .slice B m c') (hn : n + m ≤ 1000000000) (hb : base ≤ w.heap.size)
    (hK : ∀ A' d w', OwnI w' base e A' (n + m) d (l ++ ys) → Only (fpI A) w w' → K (a.put o.dst (.slice A' (n + m) d)) w') :
    if Region.wanted o (yielded ops a.tmps) = true then Oper.wp P o a w K Q else E := by
  have hw : Region.wanted o (yielded ops a.tmps) = true := by simp [Region.wanted, hg]
  rw [if_pos hw]
  obtain ⟨i, h2, h3, h4, h5⟩ := S.hi
  rcases B with _ | ad
  · have hy : ys = [] := by
      rcases hr with h | ⟨ad, h, _⟩
      · simpa [ints] using h
      · cases h
    subst hy
    simp only [List.length_nil] at hl
    subst hl
    unfold Oper.wp execOp
    simp only [ho, resolve, invoke, builtin, Sem.run_bind, Sem.run_pure, Result.andThen_ok, List.map_toArray, List.map_cons, List.map_nil, hs, hx, run_app_nil S.ht h2 hown c']
    refine hK A c w ?_ (Only.refl _ w)
    simpa using hown
  · have hcells : ∀ j u, (ints ys)[j]? = some u → w.cell? (ad.add j) = some u := by
      rcases hr with h | ⟨ad', h, hc⟩
      · rw [h]; intro j u hu; simp at hu
      · injection h with h; subst h; exact hc
    refine wp_append_own w s x t ho base e i (.int .i64 0) 1 8 S.ht h2 h3 h4 h5 rfl (by omega) (.slice A n c) n (ints l) hs hown ad m c' (ints ys) hx (by simp [ints, hl]) hcells (ints_oneCell ys) (by unfold maxLen; omega) (by omega) hb ?_
    intro v' w' h6 h7 h8
    rw [← ints_append] at h6
    have hv : ∃ A' d, v' = .slice A' (n + m) d := by
      rcases h6.2 with ⟨hv, hnm⟩ | ⟨g, cap, cur, hv, _⟩
      · exact ⟨none, 0, by rw [hv, hnm]⟩
      · exact ⟨_, _, hv⟩
    obtain ⟨A', d, rfl⟩ := hv
    exact hK A' d w' h6 (only_of_grown h7)
theorem lit0 {w V : World} {base k : Nat} {e : TypeId} (hk : k = w.heap.size) (hb : base ≤ w.heap.size) (h : Ext (w.alloc (.cells #[] e)) V) : OwnI V base e (some ⟨k, 0, none⟩) 0 0 [] :=
  OwnI.ext (ownI_lit (n := 0) (w := w) (base := base) [] rfl hk hb (Nat.zero_le _)) h
theorem only_cell {V w4 : World} {fp : List Nat} {p : Addr} {u : Value} (h : Only fp V w4) (h1 : V.cell? p = some u) (h2 : p.block ∉ fp) : w4.cell? p = some u := by
  rw [← h1]
  exact World.cell?_of_block (h.block p.block (World.block_lt_of_cell? V _ h1) h2)

namespace lawHashes
set_option maxRecDepth 100000 in
set_option maxHeartbeats 8000000 in
theorem walk (A0 : Option Addr) (l0 : List Int) (c0 : Nat) (A1 : Option Addr) (l1 : List Int) (c1 : Nat) (w : World) (r0 : RdB w A0 l0) (b0 : l0.length ≤ c0) (m0 : c0 ≤ maxLen) (z0 : A0 = none → c0 = 0) (f0 : ∀ n ∈ l0, 0 ≤ n ∧ n ≤ 255) (r1 : RdB w A1 l1) (b1 : l1.length ≤ c1) (m1 : c1 ≤ maxLen) (z1 : A1 = none → c1 = 0) (f1 : ∀ n ∈ l1, 0 ≤ n ∧ n ≤ 255) :
    Calls Try.prog 4 #[.slice A0 l0.length c0, .slice A1 l1.length c1] w fun e w' => e = .returned (.bool true) ∧ Ext w w' := by
  clear z0 z1
  generalize hn0 : l0.length = n0 at *
  generalize hn1 : l1.length = n1 at *
  have Hn0 := Lib.hid hn0
  have Hn1 := Lib.hid hn1
  clear hn0 hn1
  have q0 : n0 ≤ maxLen := Nat.le_trans b0 m0
  have q1 : n1 ≤ maxLen := Nat.le_trans b1 m1
  have HF0 := Lib.hid f0
  have HF1 := Lib.hid f1
  clear f0 f1
  have hn0b : n0 ≤ 9223372036854775807 := by unfold maxLen at q0; omega
  have hn1b : n1 ≤ 9223372036854775807 := by unfold maxLen at q1; omega
  cases hbig : decide (1048576 < n0 + n1)
  case true =>
    have HB := Lib.hid hbig
    clear hbig
    go_enter Try.func4, Try.ntmps4
    go_wp2_with fail
    refine (big_any A0 A1 n0 n1 c0 c1 _ q0 q1).mono ?_
    rintro e w1 ⟨he, rfl⟩
    rw [HB.out] at he; subst he
    go_wp2
    go_ret
    exact ⟨rfl, Ext.refl _⟩
  have HB := Lib.hid hbig
  clear hbig
  go_enter Try.func4, Try.ntmps4
  go_wp2_with fail
  refine (big_any A0 A1 n0 n1 c0 c1 _ q0 q1).mono ?_
  rintro e w1 ⟨he, rfl⟩
  rw [HB.out] at he; subst he
  go_wp2_with fail
  refine (DrawHashInts_any A0 n0 c0 l0 _ r0 Hn0.out hn0b HF0.out).mono ?_
  rintro e w2 ⟨X, n, c, p, rfl, hX, hn, E⟩
  have HXL := Lib.hid hX.len
  obtain ⟨K, hK⟩ : ∃ K, hiOk n p = K := ⟨_, rfl⟩
  obtain ⟨d, hd, hd9⟩ : ∃ d : Nat, hiVal n p = (d : Int) ∧ d ≤ 4611686018427387903 := by
    have h := hInt_bd p
    unfold hiVal
    split
    · obtain ⟨x, hx⟩ := Int.eq_ofNat_of_zero_le h.1
      exact ⟨x, hx, by omega⟩
    · exact ⟨0, rfl, by omega⟩
  have HK := Lib.hid hK
  have HD := Lib.hid hd
  clear hK hd
  go_wp2_with fail
  refine (iHashInts_ok X n c p _ hX.rd HXL.out (by omega)).mono ?_
  rintro e w3 ⟨he, hb⟩
  rw [HK.out, HD.out] at he; subst he
  replace E := E.trans hb
  replace hX := hX.ext hb
  clear hb
  have hself : (K != K) = false := by simp
  have hdd : ((d : Int) != (d : Int)) = false := by simp
  obtain ⟨T, hT, hTs⟩ : ∃ T, hexT d = T ∧ T.size = 16 := ⟨_, rfl, hexT_size d⟩
  have HT := Lib.hid hT
  have HPD : Hid (∀ w, Calls Try.prog 26 #[.string T] w fun e w' => e = .returned (.tuple #[.int .i64 d, .bool true]) ∧ w = w') := fun w => by rw [← hT]; exact ParseDigest_yes d w hd9
  clear hT
  have h16 : ((T.size : Int) != 16) = false := by simp; omega
  go_upto_if 49 with (refine (sHashInts_ok X n c p _ hX.rd HXL.out (by omega)).mono ?_; rintro e w4 ⟨he, hb⟩; rw [HK.out, HD.out] at he; subst he)
  replace E := E.trans hb
  clear hb hX
  go_cut [10, 11, 12, 13] from 50 to 75 (fun s1 o1 b1 o2 wx => Ext w4 wx)
  case first =>
    cases K
    · go_wp2_with fail
      go_meet
      exact Ext.refl _
    · go_wp2_with fail
      refine (DigestText_yes d _ hd9).mono ?_
      rintro e w5 ⟨he, hb⟩
      rw [HT.out] at he; subst he
      go_wp2_with fail
      refine (HPD.out _).mono ?_
      rintro e w6 ⟨rfl, rfl⟩
      go_wp2
      go_meet
      exact hb
  case' rest =>
    replace E := E.trans hcut
    clear hcut
    go_wp2_with fail
    refine (DrawChallenges_any A1 n1 c1 l1 _ (r1.ext E) Hn1.out hn1b HF1.out).mono ?_
    rintro e w7 ⟨P, Q, G, s, Z, m, mc, q, k, rfl, hD, hs, hZ, hm, hk, hb⟩
    have hal := (Ext.refl w7).alloc (.cells #[.int .i64 P, .int .i64 Q, .int .i64 G] 25)
    have B := Blk.new w7 25 #[.int .i64 P, .int .i64 Q, .int .i64 G]
    replace E := (E.trans hb).trans hal
    replace hZ := hZ.ext hal
    have HZL := Lib.hid hZ.len
    obtain ⟨L, hL⟩ : ∃ L, (grpB P Q G && (inR k 0 100 && chN 4 s q)) = L := ⟨_, rfl⟩
    obtain ⟨R, hR⟩ : ∃ R, (if L then chsL P Q G s q k.toNat else []) = R := ⟨_, rfl⟩
    have HAT : Hid (∀ j, (h : j < R.length) → ∃ x : Nat, R[j] = (x : Int) ∧ chV P Q G s (q ++ [(j : Int)]) = (x : Int) ∧ chK P Q G s (q ++ [(j : Int)]) = true ∧ (x : Int) < Q ∧ grpB P Q G = true) := fun j h => by subst hR; exact chs_at hL h
    have HLL := Lib.hid hL
    have HRR := Lib.hid hR
    clear hb hal hL hR
    have C := B.cells
    go_wp2_with fail
    refine (iChallenges_any P Q G s Z m mc q k _ hZ.rd HZL.out (by omega) (by omega)).mono ?_
    rintro e w8 ⟨U, u, uc, he, hU, hul, hu9, hb⟩
    rw [HLL.out] at he hU hul
    rw [HRR.out] at hU hul
    subst he
    replace E := E.trans hb
    replace B := B.ext hb
    replace hZ := hZ.ext hb
    clear C hb
    have C := B.cells
    go_wp2_with fail
    refine (sChallenges_any P Q G s Z m mc q k _ hZ.rd HZL.out (by omega) (by omega)).mono ?_
    rintro e w9 ⟨V, v, vc, he, hV, hvl, hv9, hb⟩
    rw [HLL.out] at he hV hvl
    rw [HRR.out] at hV hvl
    subst he
    replace E := E.trans hb
    replace B := B.ext hb
    replace hZ := hZ.ext hb
    replace hU := hU.ext hb
    clear C hb
    have hselfL : (L != L) = false := by simp
    have HUL := Lib.hid hul
    have HVL := Lib.hid hvl
    clear hul hvl
    go_wp2_with fail
    refine (sameInts_same hU hV HUL.out HVL.out (by unfold maxLen; omega) (by unfold maxLen; omega)).mono ?_
    rintro e w10 ⟨rfl, hb⟩
    replace E := E.trans hb
    replace B := B.ext hb
    replace hZ := hZ.ext hb
    replace hV := hV.ext hb
    clear hb hU
    go_wp2
    go_loopw [110] (fun i wr => ∃ j : Nat, j ≤ v ∧ i = .int .i64 j ∧ Ext w10 wr) (fun i _ => v - (intOf i).toNat)
    case atStart => exact ⟨0, Nat.zero_le _, rfl, Ext.refl _⟩
    case round =>
      obtain ⟨j, hj, rfl, E2⟩ := hrel
      by_cases hlt : j < v
      · have hjl : j < R.length := by rw [HVL.out]; exact hlt
        obtain ⟨ad, rfl, hc⟩ := (hV.ext E2).at_ hjl
        obtain ⟨x, hx1, hx2, hx3, hx4, hx5⟩ := HAT.out j hjl
        rw [hx1] at hc
        have HX2 := Lib.hid hx2
        have HX3 := Lib.hid hx3
        have HG := Lib.hid hx5
        have hxx : ((x : Int) != (x : Int)) = false := by simp
        have hZr := (hZ.ext E2).rd
        clear hx1 hx2 hx3 hx5
        have hcells : ∀ V, Ext wr V → V.cell? ⟨w7.heap.size, 0, none⟩ = some (.int .i64 P) ∧ V.cell? ⟨w7.heap.size, 1, none⟩ = some (.int .i64 Q) ∧ V.cell? ⟨w7.heap.size, 2, none⟩ = some (.int .i64 G) := fun V hV => by
          have a0 := (B.ext (E2.trans hV)).cells
          exact ⟨a0 0, a0 1, a0 2⟩
        obtain ⟨k0, k1, k2⟩ := hcells _ (Ext.refl wr)
        obtain ⟨j0, j1, j2⟩ := hcells _ ((Ext.refl wr).drew)
        obtain ⟨i0, i1, i2⟩ := hcells _ ((Ext.refl wr).alloc (.cells #[] 3))
        obtain ⟨m0, m1', m2⟩ := hcells _ ((Ext.refl wr).alloc (.cells #[.int .i64 (j : Int)] 3))
        obtain ⟨n0', n1', n2⟩ := hcells _ (((Ext.refl wr).alloc (.cells #[] 3)).alloc (.cells #[.int .i64 (j : Int)] 3))
        obtain ⟨o0, o1, o2⟩ := hcells _ (((Ext.refl wr).alloc (.cells #[.int .i64 (j : Int)] 3)).alloc (.cells #[] 3))
        go_wp2_with fail
        go_region_law (first
          | (refine step_appLF intSl (by rfl) _ _ (by rfl) (base := wr.heap.size) (lit0 (w := wr) rfl (Nat.le_refl _) (by (repeat (first | with_reducible assumption | with_reducible exact Ext.refl _ | with_reducible apply Ext.alloc | with_reducible apply Ext.drew | with_reducible apply Ext.drewN)); done)) (by rfl) (B := Z) (m := m) (c' := mc) (ys := q) (RdI.ext hZr (by (repeat (first | with_reducible assumption | with_reducible exact Ext.refl _ | with_reducible apply Ext.alloc | with_reducible apply Ext.drew | with_reducible apply Ext.drewN)); done)) HZL.out (by rfl) (by omega) (by first | exact Nat.le_refl _ | omega | (simp; done) | (simp; omega)) ?_; intro A4 c4 w4 hO4 hon4; rw [Nat.zero_add, List.nil_append] at hO4; have hx4 := Ext.only (w := wr) (by (repeat (first | with_reducible assumption | with_reducible exact Ext.refl _ | with_reducible apply Ext.alloc | with_reducible apply Ext.drew | with_reducible apply Ext.drewN)); done) hon4 (by intro b hb; simp [fpI] at hb; omega); obtain ⟨q0, q1, q2⟩ := hcells _ hx4; obtain ⟨s0, s1, s2⟩ := hcells _ (hx4.alloc (.cells #[.int .i64 (j : Int)] 3)); first | have hB4 : w4.cell? ⟨wr.heap.size + 1, 0, none⟩ = some (.int .i64 (j : Int)) := by exact only_cell hon4 (cell_new (w := wr.alloc (.cells #[] 3)) (by simp) (by (repeat (first | with_reducible assumption | with_reducible exact Ext.refl _ | with_reducible apply Ext.alloc | with_reducible apply Ext.drew | with_reducible apply Ext.drewN)); done)) (by simp [fpI]) | have hB4 := hx4)
          | (refine step_appLF intSl (by rfl) _ _ (by rfl) (base := wr.heap.size) (lit0 (w := wr.alloc (.cells #[.int .i64 (j : Int)] 3)) (by rfl) (by simp) (by (repeat (first | with_reducible assumption | with_reducible exact Ext.refl _ | with_reducible apply Ext.alloc | with_reducible apply Ext.drew | with_reducible apply Ext.drewN)); done)) (by simp [go_sem]) (B := Z) (m := m) (c' := mc) (ys := q) (RdI.ext hZr (by (repeat (first | with_reducible assumption | with_reducible exact Ext.refl _ | with_reducible apply Ext.alloc | with_reducible apply Ext.drew | with_reducible apply Ext.drewN)); done)) HZL.out (by rfl) (by omega) (by first | exact Nat.le_refl _ | omega | (simp; done) | (simp; omega)) ?_; intro A4 c4 w4 hO4 hon4; rw [Nat.zero_add, List.nil_append] at hO4; have hx4 := Ext.only (w := wr) (by (repeat (first | with_reducible assumption | with_reducible exact Ext.refl _ | with_reducible apply Ext.alloc | with_reducible apply Ext.drew | with_reducible apply Ext.drewN)); done) hon4 (by intro b hb; simp [fpI] at hb; omega); obtain ⟨q0, q1, q2⟩ := hcells _ hx4; obtain ⟨s0, s1, s2⟩ := hcells _ (hx4.alloc (.cells #[.int .i64 (j : Int)] 3)); have hB4 : w4.cell? ⟨wr.heap.size, 0, none⟩ = some (.int .i64 (j : Int)) := by exact only_cell hon4 (cell_new (w := wr) rfl (by (repeat (first | with_reducible assumption | with_reducible exact Ext.refl _ | with_reducible apply Ext.alloc | with_reducible apply Ext.drew | with_reducible apply Ext.drewN)); done)) (by simp [fpI]))
          | (refine step_app1L intSl (by rfl) _ _ (by rfl) (hO4.ext (by (repeat (first | with_reducible assumption | with_reducible exact Ext.refl _ | with_reducible apply Ext.alloc | with_reducible apply Ext.drew | with_reducible apply Ext.drewN)); done)) (by rfl) _ (by rfl) (by first | exact (show Ext w4 _ from (by (repeat (first | with_reducible assumption | with_reducible exact Ext.refl _ | with_reducible apply Ext.alloc | with_reducible apply Ext.drew | with_reducible apply Ext.drewN)); done)).cell hB4 | exact cell_new (w := w4) rfl (by (repeat (first | with_reducible assumption | with_reducible exact Ext.refl _ | with_reducible apply Ext.alloc | with_reducible apply Ext.drew | with_reducible apply Ext.drewN)); done)) (by omega) (by first | exact hx4.size | (have := hx4.size; simp; omega)) ?_; intro A5 c5 w5 hO5 hon5 hli5; have hx5 := Ext.only (w := wr) (Ext.trans hx4 (by (repeat (first | with_reducible assumption | with_reducible exact Ext.refl _ | with_reducible apply Ext.alloc | with_reducible apply Ext.drew | with_reducible apply Ext.drewN)); done)) hon5 (High.mono hO4.high (Nat.le_refl _)); obtain ⟨p0, p1, p2⟩ := hcells _ hx5)
          | (go_simp; go_at_call 30; refine (iChallenge_yes P Q G s A5 _ c5 (q ++ [(j : Int)]) _ HG.out (RdI.ext hO5.rd (by (repeat (first | with_reducible assumption | with_reducible exact Ext.refl _ | with_reducible apply Ext.alloc | with_reducible apply Ext.drew | with_reducible apply Ext.drewN)); done)) (by simp; have := HZL.out; omega) (by omega) (by omega)).mono ?_; rintro en w6 ⟨he, hb6⟩; rw [HX3.out, HX2.out] at he; subst he; have hx6 := Ext.trans (w := wr) (Ext.trans hx5 (by (repeat (first | with_reducible assumption | with_reducible exact Ext.refl _ | with_reducible apply Ext.alloc | with_reducible apply Ext.drew | with_reducible apply Ext.drewN)); done)) hb6)
          | fail)
        all_goals
          go_wp2
          go_roundw
          case rel => exact ⟨j + 1, by omega, by go_num, E2.trans hx6⟩
          case measure => simp [intOf]; omega
      · obtain rfl : v = j := by omega
        go_wp2
        go_ret
        exact ⟨rfl, E.trans E2⟩
end lawHashes

set_option maxRecDepth 100000 in
theorem lawHashes.lifted (os : Os) (started : os.Started) (H : Type) (enc : TypeId × Value → H) :
    ReturnsInHanded {} Try.checked os 4 .any (Rows.fnHashesSpec.pre6 enc Try.prog Try.f4 Rows.fnHashesRow.domain false) (Rows.fnHashesSpec.post enc Try.prog Try.f4 false true false false) := by
  refine returnsInHanded_of_change (C := Try.checked) Facts.own started (by kernel_rfl) Try.func4
    (ChangeSpec.witness6 (enc := enc) (C := Try.checked) false ⟨#[], #[.slice none 0 0, .slice none 0 0], []⟩ 8 (by kernel_rfl) (by kernel_rfl) (by kernel_rfl) (by kernel_rfl)) ?_
  intro W base args ds gs before hval0 hW _ _
  have hval : ∀ (j : Nat) t v, Try.f4.params[j]? = some t → args[j]? = some v → Value.okWide Try.prog W .any base t v := hval0
  have hW' := hW
  obtain ⟨p, q, hA0, hV, rfl, hfz, hnd⟩ := hW
  have hA : DataW.TrodAll enc Try.prog W 0 (fun _ => true) true Try.f4.params.toList args.toList ds p := hA0
  rw [Try.params4] at hA hval
  obtain ⟨v0, vs0, d0, ds0, p0, q0, hargs, rfl, rfl, h0, r0⟩ := trodAll_cons hA
  obtain ⟨v1, vs1, d1, ds1, p1, q1, rfl, rfl, rfl, h1, r1⟩ := trodAll_cons r0
  obtain ⟨rfl, rfl, rfl⟩ := trodAll_nil r1
  obtain rfl : args = #[v0, v1] := by cases args; simp_all
  obtain ⟨rfl, rfl⟩ := trodVars_none hV
  have hlt := hW'.lt
  clear hA hA0 hval0 hargs r0 r1
  have k0 := h0
  have k1 := h1
  obtain ⟨A0, l0, c0, rfl, r0, b0, m0, z0, f0⟩ := openBS Try.underlying22 Try.underlying5 (by kernel_rfl) (hval 0 22 v0 rfl rfl) h0
  obtain ⟨A1, l1, c1, rfl, r1, b1, m1, z1, f1⟩ := openBS Try.underlying22 Try.underlying5 (by kernel_rfl) (hval 1 22 v1 rfl rfl) h1
  refine (lawHashes.walk A0 l0 c0 A1 l1 c1 W r0 b0 m0 z0 f0 r1 b1 m1 z1 f1).mono fun e W' ⟨he, hg⟩ => ?_
  subst he
  exact ⟨_, rfl, post_below (pv := []) hW' (fun _ _ _ => (trodAll_cons_mk (shut_bool Try.underlying4 _) trodAll_mk0)) (fun sp hsp => (trodAll_cons_mk (WideElems.Trod_stays Facts.laidOut (by kernel_rfl) (of_decide_eq_true (by kernel_rfl)) k0 (fun x hx => hg.same (hlt x (by simp [hx]))) (fun x hx => hsp x (by simp [hx]))) (trodAll_cons_mk (WideElems.Trod_stays Facts.laidOut (by kernel_rfl) (of_decide_eq_true (by kernel_rfl)) k1 (fun x hx => hg.same (hlt x (by simp [hx]))) (fun x hx => hsp x (by simp [hx]))) trodAll_mk0))) (fun _ _ => rfl) rfl
    hg (ok_one (by kernel_rfl) rfl (okWide_bool_mk Try.underlying4 _))⟩

theorem lawHashes.named : Try.pinned.checked.prog.funcNamed Rows.fnHashesRow.func = some 4 := by kernel_rfl
theorem lawHashes.z9 : (Rows.fnHashesRow.inPlace == Try.prog.inPlace 4) = true := by kernel_rfl
theorem lawHashes.z10 : (Rows.fnHashesRow.unfollowed == Try.prog.unfollowed 4) = true := by kernel_rfl
theorem lawHashes.z11 : (Rows.fnHashesRow.recurses == Try.prog.recurses 4) = true := by kernel_rfl
theorem lawHashes.z12 : (Rows.fnHashesRow.named == Try.prog.varsNamed 4) = true := by kernel_rfl
theorem lawHashes.closed : joinedFacts Try.prog 4 Try.f4 Rows.fnHashesSpec Rows.fnHashesRow = true :=
  joined_of (by kernel_rfl) Facts.laidOut Facts.mapsRowed (by kernel_rfl) (by kernel_rfl) (by kernel_rfl) (by kernel_rfl) (by kernel_rfl) (by kernel_rfl) lawHashes.z9 lawHashes.z10 lawHashes.z11 lawHashes.z12 (by kernel_rfl) (by kernel_rfl) (by kernel_rfl) (by kernel_rfl) (by kernel_rfl) (by kernel_rfl) (by kernel_rfl) (by kernel_rfl) (by kernel_rfl) (by rw [Facts.plainKeys]; rfl) (by kernel_rfl) Facts.heard Facts.enter (by rw [Facts.lifts]; rfl) (by rw [Facts.make]; rfl) (by kernel_rfl) (by kernel_rfl) (by kernel_rfl) (by kernel_rfl)
theorem lawHashes.inst : Try.f4.isInstance Try.pinned.checked.prog Rows.fnHashesRow.origin Rows.fnHashesRow.targs := of_decide_eq_true (by kernel_rfl)
theorem lawHashes.wrap : Try.f4.isWrapper Try.pinned.checked.prog Rows.fnHashesRow.wrapper Rows.fnHashesRow.mainSum := by
  unfold Func.isWrapper; first | (rw [if_pos (by decide +kernel)]; kernel_rfl) | (rw [if_neg (by decide +kernel)]; exact ⟨rfl, rfl⟩)
theorem lawHashes.over : Rows.fnHashesRow.holds Try.pinned (OpenSpec.ofChange Rows.fnHashesSpec) :=
  OpenClaim.holds_of_wide 4 Try.f4 rfl rfl rfl rfl rfl rfl rfl ⟨rfl, rfl, rfl, rfl, rfl⟩ rfl rfl rfl rfl rfl lawHashes.named Try.func4 lawHashes.closed
    lawHashes.inst lawHashes.wrap (fun os started H enc _ => lawHashes.lifted os started H enc)

theorem lawHashes.proved : Rows.FnHashesSaid := lawHashes.over
#print axioms lawHashes.proved
end Go.Proofs.Ythamimjejlicpaa
