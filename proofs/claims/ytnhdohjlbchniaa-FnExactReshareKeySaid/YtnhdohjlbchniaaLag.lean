/- Contracts for Lagrange coefficients: the program's and the reference's. -/
import Derived.Test.YtnhdohjlbchniaaProg
import Derived.Test.YtnhdohjlbchniaaLagP
import Derived.Test.YtnhdohjlbchniaaDel
namespace Go.Proofs.Ytnhdohjlbchniaa
open Go.RowKit

set_option maxRecDepth 100000 in
set_option maxHeartbeats 4000000 in
theorem fromRoots_any (q : Int) (A : Option Addr) (n c : Nat) (l : List Int) (w : World) (ha : RdI w A l) (hl : l.length = n) (hn : n ≤ 20) (hq : 2 ≤ q) (hq2 : q ≤ 2000000000) (hr : ∀ y ∈ l, 0 ≤ y ∧ y ≤ q - 1) :
    Calls Try.prog 122 #[.int .i64 q, .slice A n c] w fun e w' => ∃ A' n' c', e = .returned (.slice A' n' c') ∧ OwnI w' w.heap.size 3 A' n' c' (rootV q l n) ∧ Ext w w' := by
  subst hl
  have HR := Lib.hid hr
  clear hr
  go_enter Try.func122, Try.ntmps122
  go_wp2
  have hO0 : OwnI (w.alloc (.cells #[.int .i64 1] 3)) w.heap.size 3 (some ⟨w.heap.size, 0, none⟩) 1 1 (rootV q l 0) := ownI_lit (n := 1) [1] rfl rfl (Nat.le_refl _) (by unfold maxLen; simp)
  go_loopw [5, 11] (fun o i wr => ∃ (j : Nat) (B : Option Addr) (m d : Nat), j ≤ l.length ∧ i = .int .i64 j ∧ o = .slice B m d ∧ OwnI wr w.heap.size 3 B m d (rootV q l j) ∧ Ext w wr) (fun _ i _ => l.length - (intOf i).toNat)
  case atStart => exact ⟨0, _, 1, 1, Nat.zero_le _, rfl, rfl, hO0, (Ext.refl w).alloc _⟩
  case round =>
    clear hO0
    obtain ⟨j, B, m, d, hj, rfl, rfl, hO, hE⟩ := hrel
    by_cases hlt : j < l.length
    · have hm := hO.len
      rw [rootV_length] at hm
      obtain ⟨ad, rfl, hcell⟩ := (ha.ext hE).at_ hlt
      obtain ⟨r1, r2⟩ := HR.out _ (List.getElem_mem hlt)
      have hst : rootV q l (j + 1) = mulV q (rootV q l j) [(-l[j]) % q, 1] := by rw [rootV, getD_get hlt]
      have HST := Lib.hid hst
      clear hst
      generalize l[j] = x at *
      have hsz := hE.size
      have z1 := Int.emod_nonneg (-x) (show q ≠ 0 by omega)
      have z2 := Int.emod_lt_of_pos (-x) (show 0 < q by omega)
      go_wp2_with fail
      refine (mod_any (-x) q _ (by omega) (by omega) (by omega) (by omega)).mono ?_
      rintro e w1 ⟨rfl, rfl⟩
      go_wp2_with fail
      refine (mulPolys_any q _ _ _ _ 2 2 (rootV q l j) [(-x) % q, 1] _ (hO.rd.ext ((Ext.refl _).alloc _)) hO.len (by omega) (rd_two rfl) rfl (by omega) hq hq2 (rootV_bd hq l j) (by intro y hy; simp only [List.mem_cons, List.not_mem_nil, or_false] at hy; rcases hy with rfl | rfl <;> omega)).mono ?_
      rintro e w2 ⟨B2, m2, d2, rfl, hO2, hb⟩
      rw [← HST.out] at hO2
      go_wp2
      go_roundw
      case rel => exact ⟨j + 1, B2, m2, d2, by omega, by go_num, rfl, hO2.more (by simp; omega), (hE.alloc _).trans hb⟩
      case measure => simp [intOf]; omega
    · obtain rfl : j = l.length := by omega
      go_wp2
      go_ret
      exact ⟨_, _, _, rfl, hO, hE⟩
set_option maxRecDepth 100000 in
set_option maxHeartbeats 4000000 in
theorem basisAt_any (q : Int) (A : Option Addr) (n c : Nat) (xs : List Int) (i : Nat) (w : World) (ha : RdI w A xs) (hl : xs.length = n) (hn : n ≤ 20) (hi : i < n) (hq : 2 ≤ q) (hq2 : q ≤ 2000000000) (hr : ∀ y ∈ xs, 0 ≤ y ∧ y ≤ q - 1) :
    Calls Try.prog 87 #[.int .i64 q, .slice A n c, .int .i64 i] w fun e w' => ∃ A' n' c', e = .returned (.slice A' n' c') ∧ OwnI w' w.heap.size 3 A' n' c' (basV q xs i) ∧ Ext w w' := by
  subst hl
  have hle : (xs.eraseIdx i).length = xs.length - 1 := List.length_eraseIdx_of_lt hi
  have HRE := Lib.hid fun y (hy : y ∈ xs.eraseIdx i) => hr y (List.mem_of_mem_eraseIdx hy)
  obtain ⟨r1, r2⟩ := hr _ (List.getElem_mem hi)
  obtain ⟨F, hF⟩ : ∃ F, rootV q (xs.eraseIdx i) (xs.length - 1) = F := ⟨_, rfl⟩
  have hFl : F.length = xs.length := by rw [← hF, rootV_length]; omega
  have hFb : ∀ y ∈ F, 0 ≤ y ∧ y ≤ q - 1 := by rw [← hF]; exact rootV_bd hq _ _
  have hbas : basV q xs i = mulV q F [invV (ev F xs[i] % q) q] := by unfold basV; rw [hF, getD_get hi]
  have HF := Lib.hid hF
  have HFB := Lib.hid hFb
  have HBAS := Lib.hid hbas
  have HLE := Lib.hid hle
  clear hr hF hFb hbas hle
  go_enter Try.func87, Try.ntmps87
  go_wp2_with fail
  refine (Clone_any A xs.length c xs _ ha rfl (by omega)).mono ?_
  rintro e w1 ⟨B, d, rfl, hO, hE⟩
  go_wp2_with fail
  refine (Delete_own hO i hi).mono ?_
  rintro e w2 ⟨rfl, hO2, hon⟩
  replace hE := hE.only hon hO.high
  go_wp2_with fail
  refine (fromRoots_any q B (xs.length - 1) d (xs.eraseIdx i) _ hO2.rd HLE.out (by omega) hq hq2 HRE.out).mono ?_
  rintro e w3 ⟨B3, n3, c3, rfl, hO3, hE3⟩
  rw [HF.out] at hO3
  replace hO3 := hO3.more hE.size
  replace hE := hE.trans hE3
  have hn3 := hO3.len
  obtain ⟨ad, rfl, hcell⟩ := (ha.ext hE).at_ hi
  generalize xs[i] = x at *
  go_wp2_with fail
  refine (evalPoly_any q x B3 n3 c3 F _ hO3.rd hO3.len (by omega) hq hq2 HFB.out ⟨r1, r2⟩).mono ?_
  rintro e w4 ⟨rfl, hE4⟩
  have v1 := Int.emod_nonneg (ev F x) (show q ≠ 0 by omega)
  have v2 := Int.emod_lt_of_pos (ev F x) (show 0 < q by omega)
  generalize ev F x % q = V at *
  have i1 := invV_bd (a := V) (show 0 < q by omega)
  go_wp2_with fail
  refine (inverse_int V q _ v1 v2 hq hq2).mono ?_
  rintro e w5 ⟨rfl, rfl⟩
  have hz4 := (hE.trans hE4).size
  go_wp2_with fail
  refine (mulPolys_any q B3 _ n3 c3 1 1 F [invV V q] _ ((hO3.ext hE4).rd.ext ((Ext.refl _).alloc _)) hO3.len (by omega) (rd_one rfl) rfl (by omega) hq hq2 HFB.out (by intro y hy; simp only [List.mem_cons, List.not_mem_nil, or_false] at hy; subst hy; omega)).mono ?_
  rintro e w6 ⟨B6, n6, c6, rfl, hO6, hE6⟩
  rw [← HBAS.out] at hO6
  go_wp2
  go_ret
  exact ⟨_, _, _, rfl, hO6.more (by simp; omega), ((hE.trans hE4).alloc _).trans hE6⟩
set_option maxRecDepth 100000 in
set_option maxHeartbeats 4000000 in
theorem lagrange_any (q x : Int) (A : Option Addr) (n c : Nat) (xs : List Int) (w : World) (ha : RdI w A xs) (hl : xs.length = n) (hn : n ≤ 20) (hq : 2 ≤ q) (hq2 : q ≤ 2000000000) (hr : ∀ y ∈ xs, 0 ≤ y ∧ y ≤ q - 1) (hx : 0 ≤ x ∧ x ≤ q - 1) :
    Calls Try.prog 48 #[.int .i64 q, .slice A n c, .int .i64 x] w fun e w' => ∃ A' c', e = .returned (.slice A' n c') ∧ OwnI w' w.heap.size 3 A' n c' (lagL q xs x n) ∧ Ext w w' := by
  subst hl
  have HR := Lib.hid hr
  clear hr
  go_enter Try.func48, Try.ntmps48
  go_wp2
  go_loopw [7, 12] (fun o i wr => ∃ (j : Nat) (B : Option Addr) (d : Nat), j ≤ xs.length ∧ i = .int .i64 j ∧ o = .slice B j d ∧ OwnI wr w.heap.size 3 B j d (lagL q xs x j) ∧ Ext w wr) (fun _ i _ => xs.length - (intOf i).toNat)
  case atStart => exact ⟨0, _, _, Nat.zero_le _, rfl, rfl, ownI_lit [] rfl rfl (Nat.le_refl _) (Nat.zero_le _), (Ext.refl w).alloc _⟩
  case round =>
    obtain ⟨j, B, d, hj, rfl, rfl, hO, hE⟩ := hrel
    by_cases hlt : j < xs.length
    · have HBE := Lib.hid (bas_ev q hlt x)
      have hlb := basV_length q hlt
      go_wp2_with fail
      refine (basisAt_any q A xs.length c xs j _ (ha.ext hE) rfl hn hlt hq hq2 HR.out).mono ?_
      rintro e w1 ⟨B1, n1, c1, rfl, hO1, hE1⟩
      have hl1 : n1 ≤ 20 := by have := hO1.len; omega
      clear hlb
      go_wp2_with fail
      refine (evalPoly_any q x B1 n1 c1 (basV q xs j) _ hO1.rd hO1.len (by omega) hq hq2 (basV_bd hq xs j) hx).mono ?_
      rintro e w2 ⟨he, hE2⟩
      rw [HBE.out] at he; subst he
      replace hO := (hO.ext hE1).ext hE2
      replace hE := (hE.trans hE1).trans hE2
      have hsz := hE.size
      go_wp2_with (at_builtin; refine wpList_app1 intSl rfl _ _ rfl hO rfl rfl (by omega) hsz ?_; intro A2 c2 w4 hO4 hb4)
      rw [← lagL_succ] at hO4
      go_roundw
      case rel => exact ⟨j + 1, A2, c2, by omega, by go_num, rfl, hO4, hE.then hb4 (Nat.le_refl _)⟩
      case measure => simp [intOf]; omega
    · obtain rfl : j = xs.length := by omega
      go_wp2
      go_ret
      exact ⟨_, _, rfl, hO, hE⟩
set_option maxRecDepth 100000 in
set_option maxHeartbeats 4000000 in
theorem yLagrange_any (p q g x : Int) (A : Option Addr) (n c : Nat) (xs : List Int) (w : World) (hG : grpB p q g = true) (ha : RdI w A xs) (hl : xs.length = n) (hn : n ≤ 20) (hd : xs.Nodup) (hr : ∀ y ∈ xs, 0 ≤ y ∧ y ≤ q - 1) (hx : 0 ≤ x ∧ x ≤ q - 1) :
    Calls Try.prog 37 #[.int .i64 q, .slice A n c, .int .i64 x] w fun e w' => ∃ A' c', e = .returned (.slice A' n c') ∧ OwnI w' w.heap.size 3 A' n c' (lagL q xs x n) ∧ Ext w w' := by
  subst hl
  have hGI := grpB_in hG
  have hq := hGI.q2
  have hq2 : q ≤ 2000000000 := by have := hGI.qp; have := hGI.p9; omega
  have HIN : ∀ i, (h : i < xs.length) → Hid (invV (upP xs xs[i] i xs.length % q) q ≠ 0) := fun i h => Lib.hid (up_inv hG hd (fun y hy => by have := hr y hy; omega) h)
  have HR := Lib.hid hr
  have hq0 : (q == 0) = false := by simp; omega
  have hone : (1 : Int) = 1 % q := by rw [Int.emod_eq_of_lt (by omega) (by omega)]
  have HONE := Lib.hid hone
  clear hr hd hGI hG hone
  go_enter Try.func37, Try.ntmps37
  go_wp2
  go_loopw [7, 18] (fun o i wr => ∃ (j : Nat) (B : Option Addr) (d : Nat), j ≤ xs.length ∧ i = .int .i64 j ∧ o = .slice B j d ∧ OwnI wr w.heap.size 3 B j d (lagL q xs x j) ∧ Ext w wr) (fun _ i _ => xs.length - (intOf i).toNat)
  case atStart => exact ⟨0, none, 0, Nat.zero_le _, rfl, rfl, OwnI.nil _ _ _, Ext.refl _⟩
  case round =>
    obtain ⟨i, B, d, hi, rfl, rfl, hO, hE⟩ := hrel
    by_cases hlt : i < xs.length
    · obtain ⟨ad, rfl, hca⟩ := (ha.ext hE).at_ hlt
      have hin := HIN i hlt
      have HLC : Hid (lagC q xs x i = upP xs x i xs.length % q * invV (upP xs xs[i] i xs.length % q) q % q) := by show _ = _; rw [lagC, getD_get hlt]
      obtain ⟨ra1, ra2⟩ := HR.out _ (List.getElem_mem hlt)
      generalize xs[i] = a at *
      go_wp2
      clear hca
      go_loopw [10, 11, 25] (fun u v k wk => ∃ (j : Nat) (U D : Int), j ≤ xs.length ∧ k = .int .i64 j ∧ u = .int .i64 U ∧ v = .int .i64 D ∧ wk = wr ∧ 0 ≤ U ∧ U < q ∧ 0 ≤ D ∧ D < q ∧ Hid (U = upP xs x i j % q) ∧ Hid (D = upP xs a i j % q)) (fun _ _ k _ => xs.length - (intOf k).toNat)
      case atStart => exact ⟨0, 1, 1, Nat.zero_le _, rfl, rfl, rfl, rfl, by omega, by omega, by omega, by omega, by rw [Hid, upP_zero]; exact HONE.out, by rw [Hid, upP_zero]; exact HONE.out⟩
      case round =>
        obtain ⟨j, U, D, hj, rfl, rfl, rfl, rfl, u1, u2, d1, d2, HU, HD⟩ := hrel
        by_cases hj2 : j < xs.length
        · obtain ⟨bd, hbd, hcb⟩ := (ha.ext hE).at_ hj2
          cases hbd
          by_cases hij : j = i
          · have HS1 := Lib.hid (upP_skip (xs := xs) x hlt)
            have HS2 := Lib.hid (upP_skip (xs := xs) a hlt)
            subst hij
            have hne : ((j : Int) != (j : Int)) = false := by simp
            go_wp2
            go_roundw
            case rel => exact ⟨j + 1, U, D, by omega, by go_num, rfl, rfl, trivial, u1, u2, d1, d2, by rw [Hid, HS1.out]; exact HU.out, by rw [Hid, HS2.out]; exact HD.out⟩
            case measure => simp [intOf]; omega
          · have hne : ((j : Int) != (i : Int)) = true := by simp; omega
            have hne2 : ((j : Int) == (i : Int)) = false := by simp; omega
            obtain ⟨rb1, rb2⟩ := HR.out _ (List.getElem_mem hj2)
            have HS1 := Lib.hid (upP_step (xs := xs) x hj2 hij)
            have HS2 := Lib.hid (upP_step (xs := xs) a hj2 hij)
            generalize xs[j] = b at *
            have e1 := Int.emod_nonneg (x - b) (show q ≠ 0 by omega)
            have e2 := Int.emod_lt_of_pos (x - b) (show 0 < q by omega)
            have e3 := Int.emod_nonneg (a - b) (show q ≠ 0 by omega)
            have e4 := Int.emod_lt_of_pos (a - b) (show 0 < q by omega)
            have m1 := intmul_bd U ((x - b) % q) u1 e1 (by omega) (by omega)
            have m2 := intmul_bd D ((a - b) % q) d1 e3 (by omega) (by omega)
            have f1 := Int.emod_nonneg (U * ((x - b) % q)) (show q ≠ 0 by omega)
            have f2 := Int.emod_lt_of_pos (U * ((x - b) % q)) (show 0 < q by omega)
            have f3 := Int.emod_nonneg (D * ((a - b) % q)) (show q ≠ 0 by omega)
            have f4 := Int.emod_lt_of_pos (D * ((a - b) % q)) (show 0 < q by omega)
            go_wp2_with fail
            refine (nMod_any (x - b) q _ (by omega) (by omega) (by omega) (by omega)).mono ?_
            rintro e w1 ⟨rfl, rfl⟩
            go_wp2_with fail
            refine (nMod_any (a - b) q _ (by omega) (by omega) (by omega) (by omega)).mono ?_
            rintro e w1 ⟨rfl, rfl⟩
            go_wp2
            go_roundw
            case rel => exact ⟨j + 1, U * ((x - b) % q) % q, D * ((a - b) % q) % q, by omega, by go_num, rfl, rfl, trivial, f1, f2, f3, f4, by rw [Hid, HS1.out, HU.out, ← Int.mul_emod], by rw [Hid, HS2.out, HD.out, ← Int.mul_emod]⟩
            case measure => simp [intOf]; omega
        · obtain rfl : j = xs.length := by omega
          have hDm : D % q = D := Int.emod_eq_of_lt d1 d2
          have hin2 : invV (D % q) q ≠ 0 := by rw [hDm, HD.out]; exact hin.out
          have HN := Lib.hid hin2
          have HDM := Lib.hid hDm
          have HLC2 : Hid (lagC q xs x i = U * invV D q % q) := by show _ = _; rw [HU.out, HD.out]; exact HLC.out
          clear hin2 hDm
          go_wp2_with fail
          refine (nInverse_int D q _ (by omega) (by omega) hq hq2 HN.out).mono ?_
          rintro e w1 ⟨he, rfl⟩
          rw [HDM.out] at he; subst he
          have i1 := invV_bd (a := D) (show 0 < q by omega)
          generalize invV D q = V at *
          have m1 := intmul_bd U V u1 i1.1 (by omega) (by omega)
          have hsz := hE.size
          go_wp2_with (at_builtin; refine wpList_app1 intSl rfl _ _ rfl hO rfl rfl (by omega) hsz ?_; intro A2 c2 w4 hO4 hb4)
          rw [← HLC2.out, ← lagL_succ] at hO4
          go_roundw
          case rel => exact ⟨i + 1, A2, c2, by omega, by go_num, rfl, hO4, hE.then hb4 (Nat.le_refl _)⟩
          case measure => simp [intOf]; omega
    · obtain rfl : i = xs.length := by omega
      go_wp2
      go_ret
      exact ⟨_, _, rfl, hO, hE⟩
end Go.Proofs.Ytnhdohjlbchniaa
