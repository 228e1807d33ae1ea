/- Contracts for verifyMatrix, the program's. (Printed by tools/gen_vmx4.py.) -/
import Derived.Test.YtnhdohjlbchniaaProg
import Derived.Test.YtnhdohjlbchniaaVmw
import Derived.Deep.CutRange
namespace Go.Proofs.Ytnhdohjlbchniaa
open Go.RowKit
set_option linter.unusedVariables false
set_option linter.unusedSimpArgs false
set_option maxRecDepth 100000 in
set_option maxHeartbeats 16000000 in
theorem iVerify_any (p q g key H : Int) (AH : Option Addr) (cH : Nat) (hs : List Int) (A : Option Addr) (n c : Nat) (B : Option Addr) (m d : Nat) (a b : List (Int × Int)) (C1 : Option Addr) (k1 e1 : Nat) (C2 : Option Addr) (k2 e2 : Nat) (C3 : Option Addr) (k3 e3 : Nat) (C4 : Option Addr) (k4 e4 : Nat) (C5 : Option Addr) (k5 e5 : Nat) (co cn cm ch rs : List Int) (w : World) (hG : grpB p q g = true) (hk : elB p q key = true) (hH : elB p q H = true) (rh : RdI w AH hs) (lh : hs.length = n) (eh : hs.all (elB p q) = true) (ha : RdC w A a) (hla : a.length = n) (am : amB p q a = true) (hb : RdC w B b) (hlb : b.length = m) (bm : amB p q b = true) (s1 : SlI w C1 k1 e1 co) (s2 : SlI w C2 k2 e2 cn) (s3 : SlI w C3 k3 e3 cm) (s4 : SlI w C4 k4 e4 ch) (s5 : SlI w C5 k5 e5 rs) :
    Calls Try.prog 62 #[.agg #[.int .i64 p, .int .i64 q, .int .i64 g], .agg #[.int .i64 H, .slice AH n cH], .int .i64 key, .slice A n c, .slice B m d, .agg #[.slice C1 k1 e1, .slice C2 k2 e2, .slice C3 k3 e3, .slice C4 k4 e4, .slice C5 k5 e5]] w fun en w' => en = .returned (.bool (vmW p q g key H hs a b co cn cm ch rs)) ∧ Ext w w' := by
  have hI := grpB_in hG
  have hB := hI.bd
  have hp := hI.p9
  have hq2 := hI.q2
  have hqp := hI.qp
  have hgp := hI.gp
  have hg2 := hI.g2
  obtain ⟨a1, a12, aci⟩ := amB_in am
  obtain ⟨b1, b12, bci⟩ := amB_in bm
  rw [hla] at a1 a12
  rw [hlb] at b1 b12
  have HA := Lib.hid hla
  have HBL := Lib.hid hlb
  have HH := Lib.hid lh
  have HG := Lib.hid hG
  have HK := Lib.hid hk
  have HAM := Lib.hid am
  have HBM := Lib.hid bm
  have HEH := Lib.hid eh
  have HHE := Lib.hid hH
  have hHb := el_bd hp hH
  have hkb := el_bd hp hk
  have hgb : 0 ≤ g ∧ g ≤ 3000000000 := by omega
  have BHS := Lib.hid (els_bd hp eh)
  have BA := Lib.hid (ci_bd hp aci)
  have BB := Lib.hid (ci_bd hp bci)
  have HW : Hid (vmW p q g key H hs a b co cn cm ch rs = (decide (m = n) && (vmF p q n co cn cm ch rs && ((ch.getD 0 0 == vmZ p q g key a b co cn cm) &&
      (List.range (5 + a.length)).all (vmQ p q (vmZ p q g key a b co cn cm) cm (vmL p q H hs a co cn (vmE p q g key a b co)) (vmR p q g key H hs b cn rs (rs.drop (a.length + 4)) a.length)))))) := by show _ = _; unfold vmW; rw [hla, hlb]
  clear hG hk hH lh eh hla hlb am bm aci bci
  have E := ((((Ext.refl w).alloc (.cells #[.int .i64 p, .int .i64 q, .int .i64 g] 31)).alloc (.cells #[.int .i64 H, .slice AH n cH] 86)).alloc (.cells #[.slice C1 k1 e1, .slice C2 k2 e2, .slice C3 k3 e3, .slice C4 k4 e4, .slice C5 k5 e5] 56))
  have B0 := (((Blk.new w 31 #[.int .i64 p, .int .i64 q, .int .i64 g]).alloc (.cells #[.int .i64 H, .slice AH n cH] 86)).alloc (.cells #[.slice C1 k1 e1, .slice C2 k2 e2, .slice C3 k3 e3, .slice C4 k4 e4, .slice C5 k5 e5] 56))
  have B1 := ((Blk.new (w.alloc (.cells #[.int .i64 p, .int .i64 q, .int .i64 g] 31)) 86 #[.int .i64 H, .slice AH n cH]).alloc (.cells #[.slice C1 k1 e1, .slice C2 k2 e2, .slice C3 k3 e3, .slice C4 k4 e4, .slice C5 k5 e5] 56))
  have B2 := (Blk.new ((w.alloc (.cells #[.int .i64 p, .int .i64 q, .int .i64 g] 31)).alloc (.cells #[.int .i64 H, .slice AH n cH] 86)) 56 #[.slice C1 k1 e1, .slice C2 k2 e2, .slice C3 k3 e3, .slice C4 k4 e4, .slice C5 k5 e5])
  simp only [World.size_alloc] at B1 B2
  by_cases f1 : m = n
  case neg =>
    have d1 : ((m : Int) != (n : Int)) = true := by simp; omega
    have HV : Hid (vmW p q g key H hs a b co cn cm ch rs = false) := by show _ = _; rw [HW.out, decide_eq_false f1, Bool.false_and]
    clear f1 HW
    go_enter Try.func62, Try.ntmps62
    simp only [List.append_eq, List.cons_append, List.nil_append]
    have CC0 := B0.cells
    have CC1 := B1.cells
    have CC2 := B2.cells
    go_wp2
    go_ret
    exact ⟨by rw [HV.out]; rfl, E⟩
  have d1 : ((m : Int) != (n : Int)) = false := by simp; omega
  have HMN := Lib.hid f1
  clear f1
  cases f2 : vmF p q n co cn cm ch rs
  case false =>
    have HF := Lib.hid f2
    have HV : Hid (vmW p q g key H hs a b co cn cm ch rs = false) := by show _ = _; rw [HW.out, f2, Bool.false_and, Bool.and_false]
    clear f2 HW
    go_enter Try.func62, Try.ntmps62
    simp only [List.append_eq, List.cons_append, List.nil_append]
    have CC0 := B0.cells
    have CC1 := B1.cells
    have CC2 := B2.cells
    go_wp2_with fail
    refine (isMatrixForm_any p q g C1 k1 e1 C2 k2 e2 C3 k3 e3 C4 k4 e4 C5 k5 e5 co cn cm ch rs n _ hB (s1.ext E) (s2.ext E) (s3.ext E) (s4.ext E) (s5.ext E) (by omega)).mono ?_
    rintro en w9 ⟨hen, hb9⟩
    rw [HF.out] at hen; subst hen
    replace E := E.trans hb9
    replace B0 := B0.ext hb9
    replace B1 := B1.ext hb9
    replace B2 := B2.ext hb9
    clear hb9 CC0 CC1 CC2
    go_wp2
    go_ret
    exact ⟨by rw [HV.out]; rfl, E⟩
  have HF := Lib.hid f2
  obtain ⟨l1, l2, l3, l4, l5, eco, ecn, ecm, rrs⟩ := vmF_in f2
  have hck := vm_chs HG.out HK.out HAM.out HBM.out (by rw [HBL.out, HA.out, HMN.out]) (by rw [HA.out, l1]) eco
  obtain ⟨hck2, hcr2⟩ := vm_ch HG.out HK.out HAM.out HBM.out (by rw [HBL.out, HA.out, HMN.out]) (by rw [HA.out, l1]) eco (by rw [HA.out, l2]) ecn (by rw [HA.out, l3]) ecm
  have HCK := Lib.hid hck
  have HCK2 := Lib.hid hck2
  have hlm : m = n := HMN.out
  have t1 : k1 = n := s1.len.symm.trans l1
  have t2 : k2 = n := s2.len.symm.trans l2
  have t3 : k3 = n + 5 := s3.len.symm.trans l3
  have t4 : k4 = 1 := s4.len.symm.trans l4
  have t5 : k5 = 2 * n + 4 := s5.len.symm.trans l5
  obtain ⟨hk1, hk2, hk3, hk4, hk5⟩ : (k1 ≤ 12 ∧ 1 ≤ k1) ∧ (k2 ≤ 12 ∧ 1 ≤ k2) ∧ (k3 ≤ 17 ∧ 6 ≤ k3) ∧ (k4 ≤ 1 ∧ 1 ≤ k4) ∧ (k5 ≤ 28 ∧ 6 ≤ k5) := by omega
  have T1 := Lib.hid t1
  have T2 := Lib.hid t2
  have T3 := Lib.hid t3
  have T5 := Lib.hid t5
  have BCO := Lib.hid (els_bd hp eco)
  have BCN := Lib.hid (els_bd hp ecn)
  have BCM := Lib.hid (els_bd hp ecm)
  have BRS := Lib.hid (allR_iff.1 rrs)
  obtain ⟨z, hz⟩ : ∃ z, vmZ p q g key a b co cn cm = z := ⟨_, rfl⟩
  have hzr : 0 ≤ z ∧ z ≤ 2000000000 := by have := chV_rg HG.out endS (mlL key a b co ++ cn ++ cm); rw [← hz]; unfold vmZ; omega
  have HZ := Lib.hid hz
  have hmlen : (mlL key a b co).length ≤ 100 := by rw [mlL_length, HA.out, HBL.out, l1]; omega
  have htot : tot [mlL key a b co, cn, cm] ≤ 200 := by have h8 := s2.len; have h9 := s3.len; simp only [tot, List.map_cons, List.map_nil, List.sum_cons, List.sum_nil]; omega
  have BE := Lib.hid (chs_bd HG.out colS (mlL key a b co) n)
  have HE : Hid (chsL p q g colS (mlL key a b co) n = vmE p q g key a b co) := by show _ = _; unfold vmE; rw [HA.out]
  rw [HE.out] at BE
  have HEL : Hid ((vmE p q g key a b co).length = n) := by show _ = _; rw [← HE.out, chsL_length]
  generalize vmE p q g key a b co = es at *
  have hp4 : 0 < ch.length := by omega
  clear f2 hck hck2 hcr2 t1 t2 t3 t4 t5 l1 l2 l3 l4 l5 eco ecn ecm rrs hz hlm
  go_enter Try.func62, Try.ntmps62
  simp only [List.append_eq, List.cons_append, List.nil_append]
  have CC0 := B0.cells
  have CC1 := B1.cells
  have CC2 := B2.cells
  go_wp2_with fail
  refine (isMatrixForm_any p q g C1 k1 e1 C2 k2 e2 C3 k3 e3 C4 k4 e4 C5 k5 e5 co cn cm ch rs n _ hB (s1.ext E) (s2.ext E) (s3.ext E) (s4.ext E) (s5.ext E) (by omega)).mono ?_
  rintro en w9 ⟨hen, hb9⟩
  rw [HF.out] at hen; subst hen
  replace E := E.trans hb9
  replace B0 := B0.ext hb9
  replace B1 := B1.ext hb9
  replace B2 := B2.ext hb9
  clear hb9 CC0 CC1 CC2
  have CC0 := B0.cells
  have CC1 := B1.cells
  have CC2 := B2.cells
  go_wp2_with fail
  refine (mixList_any key A n c B m d C1 k1 e1 a b co _ (ha.ext E) HA.out (hb.ext E) HBL.out (s1.rd.ext E) s1.len (by omega) (by omega) (by omega)).mono ?_
  rintro en w1 ⟨U, u, uc, rfl, hU, hb1⟩
  clear CC0 CC1 CC2
  replace E := E.trans hb1
  replace B0 := B0.ext hb1
  replace B1 := B1.ext hb1
  replace B2 := B2.ext hb1
  have hul : u ≤ 100 := by have := hU.len; omega
  clear hb1
  have CC0 := B0.cells
  have CC1 := B1.cells
  have CC2 := B2.cells
  go_wp2_with fail
  refine (challenges_any p q g colS U u uc (mlL key a b co) n _ HG.out hU.rd hU.len (by omega) (by decide) (by omega)).mono ?_
  rintro en w2 ⟨D, dn, dc, hen, hD, hDl, hD9, hb2⟩
  rw [HCK.out] at hen hD hDl
  simp only [if_true] at hD hDl
  rw [HE.out] at hD hDl
  subst hen
  replace hU := hU.ext hb2
  clear CC0 CC1 CC2
  replace E := E.trans hb2
  replace B0 := B0.ext hb2
  replace B1 := B1.ext hb2
  replace B2 := B2.ext hb2
  clear hb2
  have hdn : n = dn := by rw [← hDl, HEL.out]
  subst hdn
  go_upto_region 6 with (fail)
  generalize hw2 : w2 = Wb at *
  clear hw2
  have hS : ∀ V, Ext Wb V → V.cell? ⟨w.heap.size, 0, none⟩ = some (.int .i64 p) ∧ V.cell? ⟨w.heap.size, 1, none⟩ = some (.int .i64 q) ∧ V.cell? ⟨w.heap.size, 2, none⟩ = some (.int .i64 g) ∧ V.cell? ⟨w.heap.size + 1 + 1, 0, none⟩ = some (.slice C1 k1 e1) ∧ V.cell? ⟨w.heap.size + 1 + 1, 1, none⟩ = some (.slice C2 k2 e2) ∧ V.cell? ⟨w.heap.size + 1 + 1, 2, none⟩ = some (.slice C3 k3 e3) ∧ V.cell? ⟨w.heap.size + 1 + 1, 3, none⟩ = some (.slice C4 k4 e4) ∧ V.cell? ⟨w.heap.size + 1 + 1, 4, none⟩ = some (.slice C5 k5 e5) := fun V hV => by
    have a0 := (B0.ext hV).cells
    have a2 := (B2.ext hV).cells
    exact ⟨a0 0, a0 1, a0 2, a2 0, a2 1, a2 2, a2 3, a2 4⟩
  go_cut [17, 18] from 59 to 71 (fun c0 c1 wx => ∃ gz, c0 = .pointer (some ⟨gz, 0, none⟩) ∧ c1 = .bool true ∧ Blk wx gz 3 #[.int .i64 z] ∧ Wb.heap.size ≤ gz ∧ Ext Wb wx)
  case first =>
    as_aux_lemma =>
      refine wp_region_heldL (S := fun V => V.cell? ⟨w.heap.size, 0, none⟩ = some (.int .i64 p) ∧ V.cell? ⟨w.heap.size, 1, none⟩ = some (.int .i64 q) ∧ V.cell? ⟨w.heap.size, 2, none⟩ = some (.int .i64 g) ∧ V.cell? ⟨w.heap.size + 1 + 1, 0, none⟩ = some (.slice C1 k1 e1) ∧ V.cell? ⟨w.heap.size + 1 + 1, 1, none⟩ = some (.slice C2 k2 e2) ∧ V.cell? ⟨w.heap.size + 1 + 1, 2, none⟩ = some (.slice C3 k3 e3) ∧ V.cell? ⟨w.heap.size + 1 + 1, 3, none⟩ = some (.slice C4 k4 e4) ∧ V.cell? ⟨w.heap.size + 1 + 1, 4, none⟩ = some (.slice C5 k5 e5)) 14 (by kernel_rfl) ?_ (fun hHeld => ?_)
      · exact hS _ (by repeat (first | with_reducible assumption | with_reducible exact Ext.refl _ | with_reducible apply Ext.alloc | with_reducible apply Ext.drew | with_reducible apply Ext.drewN))
      refine' wpAnyL_take (i := 0) (v := _) ?hi0 (by kernel_rfl) (by kernel_rfl) (by kernel_rfl) [14] (by kernel_rfl) ?hQ0 ?hy0 (by assumption) ?_
      case hi0 => (simp only [List.getElem?_toArray, List.getElem?_cons_zero]; rfl)
      case hy0 => refine Or.inl ⟨by rfl, ?_⟩; intro w hSw; (try dsimp only at hSw); go_simp <;> with_reducible rfl
      case hQ0 => exact fun _ _ _ h => h
      try simp only [Act.put, List.setIfInBounds_toArray, List.set_cons_zero, List.set_cons_succ]
      refine' wpAnyL_take (i := 1) (v := _) ?hi1 (by kernel_rfl) (by kernel_rfl) (by kernel_rfl) [14] (by kernel_rfl) ?hQ1 ?hy1 (by assumption) ?_
      case hi1 => (simp only [List.getElem?_toArray, List.getElem?_cons_succ, List.getElem?_cons_zero]; rfl)
      case hy1 => refine Or.inl ⟨by rfl, ?_⟩; intro w hSw; (try dsimp only at hSw); go_simp <;> with_reducible rfl
      case hQ1 => exact fun _ _ _ h => h
      try simp only [Act.put, List.setIfInBounds_toArray, List.set_cons_zero, List.set_cons_succ]
      refine' wpAnyL_take (i := 2) (v := _) ?hi2 (by kernel_rfl) (by kernel_rfl) (by kernel_rfl) [14] (by kernel_rfl) ?hQ2 ?hy2 (by assumption) ?_
      case hi2 => (simp only [List.getElem?_toArray, List.getElem?_cons_succ, List.getElem?_cons_zero]; rfl)
      case hy2 => refine Or.inl ⟨by rfl, ?_⟩; intro w hSw; (try dsimp only at hSw); go_simp <;> with_reducible rfl
      case hQ2 => exact fun _ _ _ h => h
      try simp only [Act.put, List.setIfInBounds_toArray, List.set_cons_zero, List.set_cons_succ]
      refine' wpAnyL_take (i := 3) (v := _) ?hi3 (by kernel_rfl) (by kernel_rfl) (by kernel_rfl) [14] (by kernel_rfl) ?hQ3 ?hy3 (by assumption) ?_
      case hi3 => (simp only [List.getElem?_toArray, List.getElem?_cons_succ, List.getElem?_cons_zero]; rfl)
      case hy3 => refine Or.inl ⟨by rfl, ?_⟩; intro w hSw; (try dsimp only at hSw); go_simp <;> with_reducible rfl
      case hQ3 => exact fun _ _ _ h => h
      try simp only [Act.put, List.setIfInBounds_toArray, List.set_cons_zero, List.set_cons_succ]
      refine' wpAnyL_take (i := 4) (v := _) ?hi4 (by kernel_rfl) (by kernel_rfl) (by kernel_rfl) [14] (by kernel_rfl) ?hQ4 ?hy4 (by assumption) ?_
      case hi4 => (simp only [List.getElem?_toArray, List.getElem?_cons_succ, List.getElem?_cons_zero]; rfl)
      case hy4 => refine Or.inl ⟨by rfl, ?_⟩; intro w hSw; (try dsimp only at hSw); go_simp <;> with_reducible rfl
      case hQ4 => exact fun _ _ _ h => h
      try simp only [Act.put, List.setIfInBounds_toArray, List.set_cons_zero, List.set_cons_succ]
      refine' wpAnyL_take (i := 5) (v := _) ?hi5 (by kernel_rfl) (by kernel_rfl) (by kernel_rfl) [14] (by kernel_rfl) ?hQ5 ?hy5 (by assumption) ?_
      case hi5 => (simp only [List.getElem?_toArray, List.getElem?_cons_succ, List.getElem?_cons_zero]; rfl)
      case hy5 => refine Or.inl ⟨by rfl, ?_⟩; intro w hSw; (try dsimp only at hSw); go_simp <;> with_reducible rfl
      case hQ5 => exact fun _ _ _ h => h
      try simp only [Act.put, List.setIfInBounds_toArray, List.set_cons_zero, List.set_cons_succ]
      refine' wpAnyL_take (i := 6) (v := _) ?hi6 (by kernel_rfl) (by kernel_rfl) (by kernel_rfl) [14] (by kernel_rfl) ?hQ6 ?hy6 (by assumption) ?_
      case hi6 => (simp only [List.getElem?_toArray, List.getElem?_cons_succ, List.getElem?_cons_zero]; rfl)
      case hy6 => refine Or.inl ⟨by rfl, ?_⟩; intro w hSw; (try dsimp only at hSw); go_simp <;> with_reducible rfl
      case hQ6 => exact fun _ _ _ h => h
      try simp only [Act.put, List.setIfInBounds_toArray, List.set_cons_zero, List.set_cons_succ]
      refine wpAnyL_ready (rs := [7, 13]) (by kernel_rfl) (by simp) ?_
      refine AllReadyL.cons rfl (by kernel_rfl) (fun KK hKK => ?_) ?_
      · go_simp
        refine hKK.out _ _ ?_ (fun hHeld => ?_)
        · exact hS _ (by repeat (first | with_reducible assumption | with_reducible exact Ext.refl _ | with_reducible apply Ext.alloc | with_reducible apply Ext.drew | with_reducible apply Ext.drewN))
        clear hKK KK
        try simp only [Act.put, List.setIfInBounds_toArray, List.set_cons_zero, List.set_cons_succ]
        refine wpAnyL_ready (rs := [8, 13]) (by kernel_rfl) (by simp) ?_
        refine AllReadyL.cons rfl (by kernel_rfl) (fun KK hKK => ?_) ?_
        · go_simp
          go_at_call 108
          refine (Concat_any _ 3 3 [mlL key a b co, cn, cm] _ (rdSS_lit3 (w := Wb) (by first | rfl | (simp; done)) (by repeat (first | with_reducible assumption | with_reducible exact Ext.refl _ | with_reducible apply Ext.alloc | with_reducible apply Ext.drew | with_reducible apply Ext.drewN)) (hU.sl.ext (by repeat (first | with_reducible assumption | with_reducible exact Ext.refl _ | with_reducible apply Ext.alloc | with_reducible apply Ext.drew | with_reducible apply Ext.drewN))) ((s2.ext E).ext (by repeat (first | with_reducible assumption | with_reducible exact Ext.refl _ | with_reducible apply Ext.alloc | with_reducible apply Ext.drew | with_reducible apply Ext.drewN))) ((s3.ext E).ext (by repeat (first | with_reducible assumption | with_reducible exact Ext.refl _ | with_reducible apply Ext.alloc | with_reducible apply Ext.drew | with_reducible apply Ext.drewN)))) rfl (by omega) (by omega)).mono ?_
          rintro ek wk8 ⟨K8, d8, rfl, hO8, hbk8⟩
          have hxk8 := Ext.trans (w := Wb) (by repeat (first | with_reducible assumption | with_reducible exact Ext.refl _ | with_reducible apply Ext.alloc | with_reducible apply Ext.drew | with_reducible apply Ext.drewN)) hbk8
          have hl8 := hO8.len
          rw [show ([mlL key a b co, cn, cm] : List (List Int)).flatten = mlL key a b co ++ cn ++ cm by simp only [List.flatten_cons, List.flatten_nil, List.append_nil, List.append_assoc]] at hO8 hl8
          refine hKK.out _ _ ?_ (fun hHeld => ?_)
          · exact hS _ (by repeat (first | with_reducible assumption | with_reducible exact Ext.refl _ | with_reducible apply Ext.alloc | with_reducible apply Ext.drew | with_reducible apply Ext.drewN))
          clear hKK KK
          try simp only [Act.put, List.setIfInBounds_toArray, List.set_cons_zero, List.set_cons_succ]
          refine wpAnyL_ready (rs := [9, 13]) (by kernel_rfl) (by simp) ?_
          refine AllReadyL.cons rfl (by kernel_rfl) (fun KK hKK => ?_) ?_
          · go_simp
            go_at_call 107
            refine (challenge_any p q g endS K8 _ d8 (mlL key a b co ++ cn ++ cm) _ HG.out (hO8.rd.ext (by repeat (first | with_reducible assumption | with_reducible exact Ext.refl _ | with_reducible apply Ext.alloc | with_reducible apply Ext.drew | with_reducible apply Ext.drewN))) hl8 (by omega) (by decide)).mono ?_
            rintro ek wk9 ⟨hek, hbk9⟩
            rw [HCK2.out, if_pos rfl] at hek
            rw [show chV p q g endS (mlL key a b co ++ cn ++ cm) = z from HZ.out] at hek
            subst hek
            have hxk9 := Ext.trans (w := Wb) (Ext.trans hxk8 (by repeat (first | with_reducible assumption | with_reducible exact Ext.refl _ | with_reducible apply Ext.alloc | with_reducible apply Ext.drew | with_reducible apply Ext.drewN))) hbk9
            refine hKK.out _ _ ?_ (fun hHeld => ?_)
            · exact hS _ (by repeat (first | with_reducible assumption | with_reducible exact Ext.refl _ | with_reducible apply Ext.alloc | with_reducible apply Ext.drew | with_reducible apply Ext.drewN))
            clear hKK KK
            try simp only [Act.put, List.setIfInBounds_toArray, List.set_cons_zero, List.set_cons_succ]
            refine' wpAnyL_take (i := 10) (v := _) ?hi10 (by kernel_rfl) (by kernel_rfl) (by kernel_rfl) [14] (by kernel_rfl) ?hQ10 ?hy10 (by assumption) ?_
            case hi10 => (simp only [List.getElem?_toArray, List.getElem?_cons_succ, List.getElem?_cons_zero]; rfl)
            case hy10 => refine Or.inl ⟨by rfl, ?_⟩; intro w hSw; (try dsimp only at hSw); go_simp <;> with_reducible rfl
            case hQ10 => exact fun _ _ _ h => h
            try simp only [Act.put, List.setIfInBounds_toArray, List.set_cons_zero, List.set_cons_succ]
            refine' wpAnyL_take (i := 11) (v := _) ?hi11 (by kernel_rfl) (by kernel_rfl) (by kernel_rfl) [14] (by kernel_rfl) ?hQ11 ?hy11 (by assumption) ?_
            case hi11 => (simp only [List.getElem?_toArray, List.getElem?_cons_succ, List.getElem?_cons_zero]; rfl)
            case hy11 => refine Or.inl ⟨by rfl, ?_⟩; intro w hSw; (try dsimp only at hSw); go_simp <;> with_reducible rfl
            case hQ11 => exact fun _ _ _ h => h
            try simp only [Act.put, List.setIfInBounds_toArray, List.set_cons_zero, List.set_cons_succ]
            refine' wpAnyL_takeP (i := 12) (v := _) ?hi12 (by kernel_rfl) (by kernel_rfl) (by kernel_rfl) (by kernel_rfl) ?hQ12 ?hy12 (by assumption) ?_
            case hi12 => (simp only [List.getElem?_toArray, List.getElem?_cons_succ, List.getElem?_cons_zero]; rfl)
            case hy12 => refine Or.inl ⟨by rfl, ?_⟩; intro w; go_simp <;> with_reducible rfl
            case hQ12 => exact fun _ _ _ h => h
            try simp only [Act.put, List.setIfInBounds_toArray, List.set_cons_zero, List.set_cons_succ]
            refine wpAnyL_ready (rs := [13]) (by kernel_rfl) (by simp) ?_
            refine AllReadyL.cons rfl (by kernel_rfl) (fun KK hKK => ?_) ?_
            · go_simp
              have BN := Blk.new wk9 3 #[.int .i64 0]
              have HGN : Wb.heap.size ≤ (wk9).heap.size := Ext.size (w := Wb) (by repeat (first | with_reducible assumption | with_reducible exact Ext.refl _ | with_reducible apply Ext.alloc | with_reducible apply Ext.drew | with_reducible apply Ext.drewN))
              try simp only [World.size_alloc] at BN HGN
              refine hKK.out _ _ ?_ (fun hHeld => ?_)
              · exact hS _ (by repeat (first | with_reducible assumption | with_reducible exact Ext.refl _ | with_reducible apply Ext.alloc | with_reducible apply Ext.drew | with_reducible apply Ext.drewN))
              clear hKK KK
              try simp only [Act.put, List.setIfInBounds_toArray, List.set_cons_zero, List.set_cons_succ]
              refine wpAnyL_ready (rs := [14]) (by kernel_rfl) (by simp) ?_
              refine AllReadyL.last rfl (by kernel_rfl) (fun KK hKK => ?_) ?_
              · have FN := BN.frozen
                have CN := BN.cells
                go_simp
                refine hKK.out _ _ ?_
                clear hKK KK
                try simp only [Act.put, List.setIfInBounds_toArray, List.set_cons_zero, List.set_cons_succ]
                refine' wpAny_take (i := 15) (v := _) ?hi15 (by kernel_rfl) (by kernel_rfl) (by kernel_rfl) ?hQ15 ?hy15 ?_
                case hi15 => (simp only [List.getElem?_toArray, List.getElem?_cons_succ, List.getElem?_cons_zero]; rfl)
                case hy15 => refine Or.inl ⟨by rfl, ?_⟩; intro w; go_simp <;> with_reducible rfl
                case hQ15 => exact fun _ _ _ h => h
                try simp only [Act.put, List.setIfInBounds_toArray, List.set_cons_zero, List.set_cons_succ]
                refine wpAny_done (by kernel_rfl) ?_ _
                go_wp2
                go_meet
                exact ⟨_, rfl, rfl, Blk.new wk9 3 #[.int .i64 z], Ext.size (w := Wb) hxk9, Ext.alloc (Ext.trans (w := Wb) hxk9 (Ext.refl wk9)) _⟩
              exact AllReadyL.nil
            exact AllReadyL.nil
          refine AllReadyL.cons rfl (by kernel_rfl) (fun KK hKK => ?_) ?_
          · go_simp
            have BN := Blk.new wk8 3 #[.int .i64 0]
            have HGN : Wb.heap.size ≤ (wk8).heap.size := Ext.size (w := Wb) (by repeat (first | with_reducible assumption | with_reducible exact Ext.refl _ | with_reducible apply Ext.alloc | with_reducible apply Ext.drew | with_reducible apply Ext.drewN))
            try simp only [World.size_alloc] at BN HGN
            refine hKK.out _ _ ?_ (fun hHeld => ?_)
            · exact hS _ (by repeat (first | with_reducible assumption | with_reducible exact Ext.refl _ | with_reducible apply Ext.alloc | with_reducible apply Ext.drew | with_reducible apply Ext.drewN))
            clear hKK KK
            try simp only [Act.put, List.setIfInBounds_toArray, List.set_cons_zero, List.set_cons_succ]
            refine wpAnyL_ready (rs := [9]) (by kernel_rfl) (by simp) ?_
            refine AllReadyL.cons rfl (by kernel_rfl) (fun KK hKK => ?_) ?_
            · go_simp
              go_at_call 107
              refine (challenge_any p q g endS K8 _ d8 (mlL key a b co ++ cn ++ cm) _ HG.out (hO8.rd.ext (by repeat (first | with_reducible assumption | with_reducible exact Ext.refl _ | with_reducible apply Ext.alloc | with_reducible apply Ext.drew | with_reducible apply Ext.drewN))) hl8 (by omega) (by decide)).mono ?_
              rintro ek wk9 ⟨hek, hbk9⟩
              rw [HCK2.out, if_pos rfl] at hek
              rw [show chV p q g endS (mlL key a b co ++ cn ++ cm) = z from HZ.out] at hek
              subst hek
              have hxk9 := Ext.trans (w := Wb) (Ext.trans hxk8 (by repeat (first | with_reducible assumption | with_reducible exact Ext.refl _ | with_reducible apply Ext.alloc | with_reducible apply Ext.drew | with_reducible apply Ext.drewN))) hbk9
              replace BN := BN.ext (Ext.trans (by repeat (first | with_reducible assumption | with_reducible exact Ext.refl _ | with_reducible apply Ext.alloc | with_reducible apply Ext.drew | with_reducible apply Ext.drewN)) hbk9)
              refine hKK.out _ _ ?_ (fun hHeld => ?_)
              · exact hS _ (by repeat (first | with_reducible assumption | with_reducible exact Ext.refl _ | with_reducible apply Ext.alloc | with_reducible apply Ext.drew | with_reducible apply Ext.drewN))
              clear hKK KK
              try simp only [Act.put, List.setIfInBounds_toArray, List.set_cons_zero, List.set_cons_succ]
              refine' wpAnyL_take (i := 10) (v := _) ?hi10 (by kernel_rfl) (by kernel_rfl) (by kernel_rfl) [14] (by kernel_rfl) ?hQ10 ?hy10 (by assumption) ?_
              case hi10 => (simp only [List.getElem?_toArray, List.getElem?_cons_succ, List.getElem?_cons_zero]; rfl)
              case hy10 => refine Or.inl ⟨by rfl, ?_⟩; intro w hSw; (try dsimp only at hSw); go_simp <;> with_reducible rfl
              case hQ10 => exact fun _ _ _ h => h
              try simp only [Act.put, List.setIfInBounds_toArray, List.set_cons_zero, List.set_cons_succ]
              refine' wpAnyL_take (i := 11) (v := _) ?hi11 (by kernel_rfl) (by kernel_rfl) (by kernel_rfl) [14] (by kernel_rfl) ?hQ11 ?hy11 (by assumption) ?_
              case hi11 => (simp only [List.getElem?_toArray, List.getElem?_cons_succ, List.getElem?_cons_zero]; rfl)
              case hy11 => refine Or.inl ⟨by rfl, ?_⟩; intro w hSw; (try dsimp only at hSw); go_simp <;> with_reducible rfl
              case hQ11 => exact fun _ _ _ h => h
              try simp only [Act.put, List.setIfInBounds_toArray, List.set_cons_zero, List.set_cons_succ]
              refine' wpAnyL_takeP (i := 12) (v := _) ?hi12 (by kernel_rfl) (by kernel_rfl) (by kernel_rfl) (by kernel_rfl) ?hQ12 ?hy12 (by assumption) ?_
              case hi12 => (simp only [List.getElem?_toArray, List.getElem?_cons_succ, List.getElem?_cons_zero]; rfl)
              case hy12 => refine Or.inl ⟨by rfl, ?_⟩; intro w; go_simp <;> with_reducible rfl
              case hQ12 => exact fun _ _ _ h => h
              try simp only [Act.put, List.setIfInBounds_toArray, List.set_cons_zero, List.set_cons_succ]
              refine wpAnyL_ready (rs := [14]) (by kernel_rfl) (by simp) ?_
              refine AllReadyL.last rfl (by kernel_rfl) (fun KK hKK => ?_) ?_
              · have FN := BN.frozen
                have CN := BN.cells
                go_simp
                refine hKK.out _ _ ?_
                clear hKK KK
                try simp only [Act.put, List.setIfInBounds_toArray, List.set_cons_zero, List.set_cons_succ]
                refine' wpAny_take (i := 15) (v := _) ?hi15 (by kernel_rfl) (by kernel_rfl) (by kernel_rfl) ?hQ15 ?hy15 ?_
                case hi15 => (simp only [List.getElem?_toArray, List.getElem?_cons_succ, List.getElem?_cons_zero]; rfl)
                case hy15 => refine Or.inl ⟨by rfl, ?_⟩; intro w; go_simp <;> with_reducible rfl
                case hQ15 => exact fun _ _ _ h => h
                try simp only [Act.put, List.setIfInBounds_toArray, List.set_cons_zero, List.set_cons_succ]
                refine wpAny_done (by kernel_rfl) ?_ _
                go_wp2
                go_meet
                exact ⟨_, rfl, rfl, BN.set_ 0 (.int .i64 z), HGN, Ext.setCell (Ext.trans (w := Wb) (by repeat (first | with_reducible assumption | with_reducible exact Ext.refl _ | with_reducible apply Ext.alloc | with_reducible apply Ext.drew | with_reducible apply Ext.drewN)) (Ext.refl wk9)) (p := ⟨_, 0, none⟩) HGN (.int .i64 z)⟩
              exact AllReadyL.nil
            exact AllReadyL.nil
          exact AllReadyL.nil
        refine AllReadyL.cons rfl (by kernel_rfl) (fun KK hKK => ?_) ?_
        · go_simp
          have BN := Blk.new (Wb.alloc (.cells #[.slice U u uc, .slice C2 k2 e2, .slice C3 k3 e3] 24)) 3 #[.int .i64 0]
          have HGN : Wb.heap.size ≤ ((Wb.alloc (.cells #[.slice U u uc, .slice C2 k2 e2, .slice C3 k3 e3] 24))).heap.size := Ext.size (w := Wb) (by repeat (first | with_reducible assumption | with_reducible exact Ext.refl _ | with_reducible apply Ext.alloc | with_reducible apply Ext.drew | with_reducible apply Ext.drewN))
          try simp only [World.size_alloc] at BN HGN
          refine hKK.out _ _ ?_ (fun hHeld => ?_)
          · exact hS _ (by repeat (first | with_reducible assumption | with_reducible exact Ext.refl _ | with_reducible apply Ext.alloc | with_reducible apply Ext.drew | with_reducible apply Ext.drewN))
          clear hKK KK
          try simp only [Act.put, List.setIfInBounds_toArray, List.set_cons_zero, List.set_cons_succ]
          refine wpAnyL_ready (rs := [8]) (by kernel_rfl) (by simp) ?_
          refine AllReadyL.cons rfl (by kernel_rfl) (fun KK hKK => ?_) ?_
          · go_simp
            go_at_call 108
            refine (Concat_any _ 3 3 [mlL key a b co, cn, cm] _ (rdSS_lit3 (w := Wb) (by first | rfl | (simp; done)) (by repeat (first | with_reducible assumption | with_reducible exact Ext.refl _ | with_reducible apply Ext.alloc | with_reducible apply Ext.drew | with_reducible apply Ext.drewN)) (hU.sl.ext (by repeat (first | with_reducible assumption | with_reducible exact Ext.refl _ | with_reducible apply Ext.alloc | with_reducible apply Ext.drew | with_reducible apply Ext.drewN))) ((s2.ext E).ext (by repeat (first | with_reducible assumption | with_reducible exact Ext.refl _ | with_reducible apply Ext.alloc | with_reducible apply Ext.drew | with_reducible apply Ext.drewN))) ((s3.ext E).ext (by repeat (first | with_reducible assumption | with_reducible exact Ext.refl _ | with_reducible apply Ext.alloc | with_reducible apply Ext.drew | with_reducible apply Ext.drewN)))) rfl (by omega) (by omega)).mono ?_
            rintro ek wk8 ⟨K8, d8, rfl, hO8, hbk8⟩
            have hxk8 := Ext.trans (w := Wb) (by repeat (first | with_reducible assumption | with_reducible exact Ext.refl _ | with_reducible apply Ext.alloc | with_reducible apply Ext.drew | with_reducible apply Ext.drewN)) hbk8
            have hl8 := hO8.len
            rw [show ([mlL key a b co, cn, cm] : List (List Int)).flatten = mlL key a b co ++ cn ++ cm by simp only [List.flatten_cons, List.flatten_nil, List.append_nil, List.append_assoc]] at hO8 hl8
            replace BN := BN.ext (Ext.trans (by repeat (first | with_reducible assumption | with_reducible exact Ext.refl _ | with_reducible apply Ext.alloc | with_reducible apply Ext.drew | with_reducible apply Ext.drewN)) hbk8)
            refine hKK.out _ _ ?_ (fun hHeld => ?_)
            · exact hS _ (by repeat (first | with_reducible assumption | with_reducible exact Ext.refl _ | with_reducible apply Ext.alloc | with_reducible apply Ext.drew | with_reducible apply Ext.drewN))
            clear hKK KK
            try simp only [Act.put, List.setIfInBounds_toArray, List.set_cons_zero, List.set_cons_succ]
            refine wpAnyL_ready (rs := [9]) (by kernel_rfl) (by simp) ?_
            refine AllReadyL.cons rfl (by kernel_rfl) (fun KK hKK => ?_) ?_
            · go_simp
              go_at_call 107
              refine (challenge_any p q g endS K8 _ d8 (mlL key a b co ++ cn ++ cm) _ HG.out (hO8.rd.ext (by repeat (first | with_reducible assumption | with_reducible exact Ext.refl _ | with_reducible apply Ext.alloc | with_reducible apply Ext.drew | with_reducible apply Ext.drewN))) hl8 (by omega) (by decide)).mono ?_
              rintro ek wk9 ⟨hek, hbk9⟩
              rw [HCK2.out, if_pos rfl] at hek
              rw [show chV p q g endS (mlL key a b co ++ cn ++ cm) = z from HZ.out] at hek
              subst hek
              have hxk9 := Ext.trans (w := Wb) (Ext.trans hxk8 (by repeat (first | with_reducible assumption | with_reducible exact Ext.refl _ | with_reducible apply Ext.alloc | with_reducible apply Ext.drew | with_reducible apply Ext.drewN))) hbk9
              replace BN := BN.ext (Ext.trans (by repeat (first | with_reducible assumption | with_reducible exact Ext.refl _ | with_reducible apply Ext.alloc | with_reducible apply Ext.drew | with_reducible apply Ext.drewN)) hbk9)
              refine hKK.out _ _ ?_ (fun hHeld => ?_)
              · exact hS _ (by repeat (first | with_reducible assumption | with_reducible exact Ext.refl _ | with_reducible apply Ext.alloc | with_reducible apply Ext.drew | with_reducible apply Ext.drewN))
              clear hKK KK
              try simp only [Act.put, List.setIfInBounds_toArray, List.set_cons_zero, List.set_cons_succ]
              refine' wpAnyL_take (i := 10) (v := _) ?hi10 (by kernel_rfl) (by kernel_rfl) (by kernel_rfl) [14] (by kernel_rfl) ?hQ10 ?hy10 (by assumption) ?_
              case hi10 => (simp only [List.getElem?_toArray, List.getElem?_cons_succ, List.getElem?_cons_zero]; rfl)
              case hy10 => refine Or.inl ⟨by rfl, ?_⟩; intro w hSw; (try dsimp only at hSw); go_simp <;> with_reducible rfl
              case hQ10 => exact fun _ _ _ h => h
              try simp only [Act.put, List.setIfInBounds_toArray, List.set_cons_zero, List.set_cons_succ]
              refine' wpAnyL_take (i := 11) (v := _) ?hi11 (by kernel_rfl) (by kernel_rfl) (by kernel_rfl) [14] (by kernel_rfl) ?hQ11 ?hy11 (by assumption) ?_
              case hi11 => (simp only [List.getElem?_toArray, List.getElem?_cons_succ, List.getElem?_cons_zero]; rfl)
              case hy11 => refine Or.inl ⟨by rfl, ?_⟩; intro w hSw; (try dsimp only at hSw); go_simp <;> with_reducible rfl
              case hQ11 => exact fun _ _ _ h => h
              try simp only [Act.put, List.setIfInBounds_toArray, List.set_cons_zero, List.set_cons_succ]
              refine' wpAnyL_takeP (i := 12) (v := _) ?hi12 (by kernel_rfl) (by kernel_rfl) (by kernel_rfl) (by kernel_rfl) ?hQ12 ?hy12 (by assumption) ?_
              case hi12 => (simp only [List.getElem?_toArray, List.getElem?_cons_succ, List.getElem?_cons_zero]; rfl)
              case hy12 => refine Or.inl ⟨by rfl, ?_⟩; intro w; go_simp <;> with_reducible rfl
              case hQ12 => exact fun _ _ _ h => h
              try simp only [Act.put, List.setIfInBounds_toArray, List.set_cons_zero, List.set_cons_succ]
              refine wpAnyL_ready (rs := [14]) (by kernel_rfl) (by simp) ?_
              refine AllReadyL.last rfl (by kernel_rfl) (fun KK hKK => ?_) ?_
              · have FN := BN.frozen
                have CN := BN.cells
                go_simp
                refine hKK.out _ _ ?_
                clear hKK KK
                try simp only [Act.put, List.setIfInBounds_toArray, List.set_cons_zero, List.set_cons_succ]
                refine' wpAny_take (i := 15) (v := _) ?hi15 (by kernel_rfl) (by kernel_rfl) (by kernel_rfl) ?hQ15 ?hy15 ?_
                case hi15 => (simp only [List.getElem?_toArray, List.getElem?_cons_succ, List.getElem?_cons_zero]; rfl)
                case hy15 => refine Or.inl ⟨by rfl, ?_⟩; intro w; go_simp <;> with_reducible rfl
                case hQ15 => exact fun _ _ _ h => h
                try simp only [Act.put, List.setIfInBounds_toArray, List.set_cons_zero, List.set_cons_succ]
                refine wpAny_done (by kernel_rfl) ?_ _
                go_wp2
                go_meet
                exact ⟨_, rfl, rfl, BN.set_ 0 (.int .i64 z), HGN, Ext.setCell (Ext.trans (w := Wb) (by repeat (first | with_reducible assumption | with_reducible exact Ext.refl _ | with_reducible apply Ext.alloc | with_reducible apply Ext.drew | with_reducible apply Ext.drewN)) (Ext.refl wk9)) (p := ⟨_, 0, none⟩) HGN (.int .i64 z)⟩
              exact AllReadyL.nil
            exact AllReadyL.nil
          exact AllReadyL.nil
        exact AllReadyL.nil
      refine AllReadyL.cons rfl (by kernel_rfl) (fun KK hKK => ?_) ?_
      · go_simp
        have BN := Blk.new Wb 3 #[.int .i64 0]
        have HGN : Wb.heap.size ≤ (Wb).heap.size := Ext.size (w := Wb) (by repeat (first | with_reducible assumption | with_reducible exact Ext.refl _ | with_reducible apply Ext.alloc | with_reducible apply Ext.drew | with_reducible apply Ext.drewN))
        try simp only [World.size_alloc] at BN HGN
        refine hKK.out _ _ ?_ (fun hHeld => ?_)
        · exact hS _ (by repeat (first | with_reducible assumption | with_reducible exact Ext.refl _ | with_reducible apply Ext.alloc | with_reducible apply Ext.drew | with_reducible apply Ext.drewN))
        clear hKK KK
        try simp only [Act.put, List.setIfInBounds_toArray, List.set_cons_zero, List.set_cons_succ]
        refine wpAnyL_ready (rs := [7]) (by kernel_rfl) (by simp) ?_
        refine AllReadyL.cons rfl (by kernel_rfl) (fun KK hKK => ?_) ?_
        · go_simp
          refine hKK.out _ _ ?_ (fun hHeld => ?_)
          · exact hS _ (by repeat (first | with_reducible assumption | with_reducible exact Ext.refl _ | with_reducible apply Ext.alloc | with_reducible apply Ext.drew | with_reducible apply Ext.drewN))
          clear hKK KK
          try simp only [Act.put, List.setIfInBounds_toArray, List.set_cons_zero, List.set_cons_succ]
          refine wpAnyL_ready (rs := [8]) (by kernel_rfl) (by simp) ?_
          refine AllReadyL.cons rfl (by kernel_rfl) (fun KK hKK => ?_) ?_
          · go_simp
            go_at_call 108
            refine (Concat_any _ 3 3 [mlL key a b co, cn, cm] _ (rdSS_lit3 (w := (Wb.alloc (.cells #[.int .i64 0] 3))) (by first | rfl | (simp; done)) (by repeat (first | with_reducible assumption | with_reducible exact Ext.refl _ | with_reducible apply Ext.alloc | with_reducible apply Ext.drew | with_reducible apply Ext.drewN)) (hU.sl.ext (by repeat (first | with_reducible assumption | with_reducible exact Ext.refl _ | with_reducible apply Ext.alloc | with_reducible apply Ext.drew | with_reducible apply Ext.drewN))) ((s2.ext E).ext (by repeat (first | with_reducible assumption | with_reducible exact Ext.refl _ | with_reducible apply Ext.alloc | with_reducible apply Ext.drew | with_reducible apply Ext.drewN))) ((s3.ext E).ext (by repeat (first | with_reducible assumption | with_reducible exact Ext.refl _ | with_reducible apply Ext.alloc | with_reducible apply Ext.drew | with_reducible apply Ext.drewN)))) rfl (by omega) (by omega)).mono ?_
            rintro ek wk8 ⟨K8, d8, rfl, hO8, hbk8⟩
            have hxk8 := Ext.trans (w := Wb) (by repeat (first | with_reducible assumption | with_reducible exact Ext.refl _ | with_reducible apply Ext.alloc | with_reducible apply Ext.drew | with_reducible apply Ext.drewN)) hbk8
            have hl8 := hO8.len
            rw [show ([mlL key a b co, cn, cm] : List (List Int)).flatten = mlL key a b co ++ cn ++ cm by simp only [List.flatten_cons, List.flatten_nil, List.append_nil, List.append_assoc]] at hO8 hl8
            replace BN := BN.ext (Ext.trans (by repeat (first | with_reducible assumption | with_reducible exact Ext.refl _ | with_reducible apply Ext.alloc | with_reducible apply Ext.drew | with_reducible apply Ext.drewN)) hbk8)
            refine hKK.out _ _ ?_ (fun hHeld => ?_)
            · exact hS _ (by repeat (first | with_reducible assumption | with_reducible exact Ext.refl _ | with_reducible apply Ext.alloc | with_reducible apply Ext.drew | with_reducible apply Ext.drewN))
            clear hKK KK
            try simp only [Act.put, List.setIfInBounds_toArray, List.set_cons_zero, List.set_cons_succ]
            refine wpAnyL_ready (rs := [9]) (by kernel_rfl) (by simp) ?_
            refine AllReadyL.cons rfl (by kernel_rfl) (fun KK hKK => ?_) ?_
            · go_simp
              go_at_call 107
              refine (challenge_any p q g endS K8 _ d8 (mlL key a b co ++ cn ++ cm) _ HG.out (hO8.rd.ext (by repeat (first | with_reducible assumption | with_reducible exact Ext.refl _ | with_reducible apply Ext.alloc | with_reducible apply Ext.drew | with_reducible apply Ext.drewN))) hl8 (by omega) (by decide)).mono ?_
              rintro ek wk9 ⟨hek, hbk9⟩
              rw [HCK2.out, if_pos rfl] at hek
              rw [show chV p q g endS (mlL key a b co ++ cn ++ cm) = z from HZ.out] at hek
              subst hek
              have hxk9 := Ext.trans (w := Wb) (Ext.trans hxk8 (by repeat (first | with_reducible assumption | with_reducible exact Ext.refl _ | with_reducible apply Ext.alloc | with_reducible apply Ext.drew | with_reducible apply Ext.drewN))) hbk9
              replace BN := BN.ext (Ext.trans (by repeat (first | with_reducible assumption | with_reducible exact Ext.refl _ | with_reducible apply Ext.alloc | with_reducible apply Ext.drew | with_reducible apply Ext.drewN)) hbk9)
              refine hKK.out _ _ ?_ (fun hHeld => ?_)
              · exact hS _ (by repeat (first | with_reducible assumption | with_reducible exact Ext.refl _ | with_reducible apply Ext.alloc | with_reducible apply Ext.drew | with_reducible apply Ext.drewN))
              clear hKK KK
              try simp only [Act.put, List.setIfInBounds_toArray, List.set_cons_zero, List.set_cons_succ]
              refine' wpAnyL_take (i := 10) (v := _) ?hi10 (by kernel_rfl) (by kernel_rfl) (by kernel_rfl) [14] (by kernel_rfl) ?hQ10 ?hy10 (by assumption) ?_
              case hi10 => (simp only [List.getElem?_toArray, List.getElem?_cons_succ, List.getElem?_cons_zero]; rfl)
              case hy10 => refine Or.inl ⟨by rfl, ?_⟩; intro w hSw; (try dsimp only at hSw); go_simp <;> with_reducible rfl
              case hQ10 => exact fun _ _ _ h => h
              try simp only [Act.put, List.setIfInBounds_toArray, List.set_cons_zero, List.set_cons_succ]
              refine' wpAnyL_take (i := 11) (v := _) ?hi11 (by kernel_rfl) (by kernel_rfl) (by kernel_rfl) [14] (by kernel_rfl) ?hQ11 ?hy11 (by assumption) ?_
              case hi11 => (simp only [List.getElem?_toArray, List.getElem?_cons_succ, List.getElem?_cons_zero]; rfl)
              case hy11 => refine Or.inl ⟨by rfl, ?_⟩; intro w hSw; (try dsimp only at hSw); go_simp <;> with_reducible rfl
              case hQ11 => exact fun _ _ _ h => h
              try simp only [Act.put, List.setIfInBounds_toArray, List.set_cons_zero, List.set_cons_succ]
              refine' wpAnyL_takeP (i := 12) (v := _) ?hi12 (by kernel_rfl) (by kernel_rfl) (by kernel_rfl) (by kernel_rfl) ?hQ12 ?hy12 (by assumption) ?_
              case hi12 => (simp only [List.getElem?_toArray, List.getElem?_cons_succ, List.getElem?_cons_zero]; rfl)
              case hy12 => refine Or.inl ⟨by rfl, ?_⟩; intro w; go_simp <;> with_reducible rfl
              case hQ12 => exact fun _ _ _ h => h
              try simp only [Act.put, List.setIfInBounds_toArray, List.set_cons_zero, List.set_cons_succ]
              refine wpAnyL_ready (rs := [14]) (by kernel_rfl) (by simp) ?_
              refine AllReadyL.last rfl (by kernel_rfl) (fun KK hKK => ?_) ?_
              · have FN := BN.frozen
                have CN := BN.cells
                go_simp
                refine hKK.out _ _ ?_
                clear hKK KK
                try simp only [Act.put, List.setIfInBounds_toArray, List.set_cons_zero, List.set_cons_succ]
                refine' wpAny_take (i := 15) (v := _) ?hi15 (by kernel_rfl) (by kernel_rfl) (by kernel_rfl) ?hQ15 ?hy15 ?_
                case hi15 => (simp only [List.getElem?_toArray, List.getElem?_cons_succ, List.getElem?_cons_zero]; rfl)
                case hy15 => refine Or.inl ⟨by rfl, ?_⟩; intro w; go_simp <;> with_reducible rfl
                case hQ15 => exact fun _ _ _ h => h
                try simp only [Act.put, List.setIfInBounds_toArray, List.set_cons_zero, List.set_cons_succ]
                refine wpAny_done (by kernel_rfl) ?_ _
                go_wp2
                go_meet
                exact ⟨_, rfl, rfl, BN.set_ 0 (.int .i64 z), HGN, Ext.setCell (Ext.trans (w := Wb) (by repeat (first | with_reducible assumption | with_reducible exact Ext.refl _ | with_reducible apply Ext.alloc | with_reducible apply Ext.drew | with_reducible apply Ext.drewN)) (Ext.refl wk9)) (p := ⟨_, 0, none⟩) HGN (.int .i64 z)⟩
              exact AllReadyL.nil
            exact AllReadyL.nil
          exact AllReadyL.nil
        exact AllReadyL.nil
      exact AllReadyL.nil
  case' rest =>
  obtain ⟨gz, rfl, rfl, BZ, hgz, hbc⟩ := hcut
  replace E := E.trans hbc
  replace B0 := B0.ext hbc
  replace B1 := B1.ext hbc
  replace B2 := B2.ext hbc
  replace hU := hU.ext hbc
  replace hD := hD.ext hbc
  clear hbc hS
  generalize wc = w3 at *
  have hp4 : 0 < ch.length := by have := s4.len; omega
  have hp3 : 5 < cm.length := by have := s3.len; omega
  have hp5 : 5 < rs.length := by have := s5.len; omega
  have hp2 : n - 1 < cn.length := by have := s2.len; have := T2.out; omega
  obtain ⟨ad4, hA4, hc40⟩ := s4.rd.at_ hp4
  subst hA4
  rw [show ad4.add 0 = ad4 from rfl] at hc40
  obtain ⟨ac, hA3, hm0⟩ := s3.rd.at_ (k := 0) (by omega)
  subst hA3
  obtain ⟨ar, hA5, hr0⟩ := s5.rd.at_ (k := 0) (by omega)
  subst hA5
  obtain ⟨an, hA2, hn0⟩ := s2.rd.at_ hp2
  subst hA2
  have hcA : ∀ k, (hk : k < cm.length) → w.cell? (ac.add k) = some (.int .i64 cm[k]) := fun k hk => by
    obtain ⟨a9, h9, h8⟩ := s3.rd.at_ hk
    injection h9 with h9; subst h9; exact h8
  have hrA : ∀ k, (hk : k < rs.length) → w.cell? (ar.add k) = some (.int .i64 rs[k]) := fun k hk => by
    obtain ⟨a9, h9, h8⟩ := s5.rd.at_ hk
    injection h9 with h9; subst h9; exact h8
  have hnA : ∀ k, (hk : k < cn.length) → w.cell? (an.add k) = some (.int .i64 cn[k]) := fun k hk => by
    obtain ⟨a9, h9, h8⟩ := s2.rd.at_ hk
    injection h9 with h9; subst h9; exact h8
  have hc4v : ch.getD 0 0 = ch[0] := getD_lt hp4
  obtain ⟨x0, hx0⟩ : ∃ x0, ch[0] = x0 := ⟨_, rfl⟩
  rw [hx0] at hc40 hc4v
  have HX0 := Lib.hid hc4v
  have hc4 := E.cell hc40
  have HCA := Lib.hid hcA
  have HRA := Lib.hid hrA
  have HNA := Lib.hid hnA
  have HP3 := Lib.hid hp3
  have HP5 := Lib.hid hp5
  have HP2 := Lib.hid hp2
  have b40 : (0 : Int) < (k4 : Int) := by omega
  have b40n : 0 < k4 := by omega
  clear hc4v hx0 hp4 hcA hrA hnA hm0 hr0 hn0 hp3 hp5 hp2 hc40
  cases hq : (x0 == z)
  case false =>
    have dz : (x0 != z) = true := by unfold bne; rw [hq]; rfl
    have HV : Hid (vmW p q g key H hs a b co cn cm ch rs = false) := by show _ = _; rw [HW.out, HX0.out, HZ.out, hq, Bool.false_and, Bool.and_false, Bool.and_false]
    clear hq HW
    have CC0 := B0.cells
    have CC2 := B2.cells
    have CCZ := BZ.cells
    go_upto_region 7 with (fail)
    go_quiet (fail)
    go_wp2
    go_ret
    exact ⟨by rw [HV.out]; rfl, E.drewN _⟩
  have dz : (x0 != z) = false := by unfold bne; rw [hq]; rfl
  have HQ := Lib.hid hq
  clear hq
  have CC0 := B0.cells
  have CC2 := B2.cells
  have CCZ := BZ.cells
  go_upto_region 7 with (fail)
  go_quiet (fail)
  clear CC0 CC2 CCZ hc4 dz
  have hbq : Ext w3 (w3.drewN nq) := (Ext.refl _).drewN _
  generalize w3.drewN nq = w4 at *
  replace E := E.trans hbq
  replace B0 := B0.ext hbq
  replace B1 := B1.ext hbq
  replace B2 := B2.ext hbq
  replace hU := hU.ext hbq
  replace hD := hD.ext hbq
  replace BZ := BZ.ext hbq
  clear hbq
  have CC2 := B2.cells
  go_upto_region 9 with (fail)
  go_quiet (fail)
  clear CC2
  have hbq : Ext w4 (w4.drewN nq) := (Ext.refl _).drewN _
  generalize w4.drewN nq = w5 at *
  replace E := E.trans hbq
  replace B0 := B0.ext hbq
  replace B1 := B1.ext hbq
  replace B2 := B2.ext hbq
  replace hD := hD.ext hbq
  replace BZ := BZ.ext hbq
  clear hbq hU hul
  have hl5 := s5.cap
  have hl5m := s5.max
  have bsl : (n : Int) + 4 ≤ (k5 : Int) := by have := T5.out; omega
  have bsln : n + 4 ≤ k5 := by have := T5.out; omega
  have hne5 : ¬ (e5 = n + 4) := by have := T5.out; omega
  have hxr : RdI w (some (ar.add (n + 4))) (rs.drop (n + 4)) := by
    have h9 := RdI.drop (cap := e5) s5.rd (n + 4) (by rw [s5.len]; exact hl5)
    rw [if_neg hne5] at h9
    exact h9
  have hxl : (rs.drop (n + 4)).length = k5 - (n + 4) := by rw [List.length_drop, s5.len]
  have BX : Hid (∀ x ∈ rs.drop (n + 4), -9000000000000000000 ≤ x ∧ x ≤ 9000000000000000000) := fun x hx => by have := BRS.out x (List.mem_of_mem_drop hx); omega
  obtain ⟨xs, hxs⟩ : ∃ xs, rs.drop (n + 4) = xs := ⟨_, rfl⟩
  rw [hxs] at hxr hxl BX
  have HXS := Lib.hid hxs
  have HXL := Lib.hid hxl
  clear hxs hxl
  go_wp2
  generalize ar.add (n + 4) = ax at *
  generalize hkx : k5 - (n + 4) = kx at *
  generalize e5 - (n + 4) = ex at *
  have hkx2 : kx = n := by have := T5.out; omega
  have HKX := Lib.hid hkx2
  clear hkx hkx2
  go_loopw [22, 99] (fun x i wr => ∃ j : Nat, j ≤ n ∧ i = .int .i64 j ∧ x = .int .i64 (allV q es j) ∧ Ext w5 wr) (fun _ i _ => n - (intOf i).toNat)
  case atStart => exact ⟨0, Nat.zero_le _, rfl, rfl, Ext.refl _⟩
  case round =>
    obtain ⟨j, hj, rfl, rfl, E2⟩ := hrel
    by_cases hlt : j < n
    · have hle : j < es.length := by rw [HEL.out]; exact hlt
      obtain ⟨ad, hAD, hcc⟩ := (hD.ext E2).at_ hle
      subst hAD
      have hav := allV_rg hq2 es j
      have HSV := Lib.hid (allV_succ q hle)
      have her := BE.out _ (List.getElem_mem hle)
      generalize es[j] = ej at *
      generalize allV q es j = av at *
      have hpr1 := Int.mul_nonneg hav.1 her.1
      have hpr2 : av * ej ≤ 2000000000 * 2000000000 := Int.mul_le_mul (by omega) (by omega) her.1 (by omega)
      clear hle
      have CC0 := (B0.ext E2).cells
      go_wp2_with fail
      refine (exp_any p q g (av * ej) _ hB (by omega) (by omega)).mono ?_
      rintro en w6 ⟨rfl, hb6⟩
      go_wp2
      go_roundw
      case rel => exact ⟨j + 1, by omega, by go_num, by rw [HSV.out], E2.trans hb6⟩
      case measure => first | (simp [intOf]; done) | (simp [intOf]; omega)
    · obtain rfl : n = j := by omega
      have hav := allV_rg hq2 es n
      obtain ⟨av, hav0⟩ : ∃ av, allV q es n = av := ⟨_, rfl⟩
      have HAV := Lib.hid hav0
      rw [hav0] at hav ⊢
      clear hav0 hlt
      replace E := E.trans E2
      replace B0 := B0.ext E2
      replace B1 := B1.ext E2
      replace B2 := B2.ext E2
      replace hD := hD.ext E2
      replace BZ := BZ.ext E2
      clear E2
      go_wp2_with fail
      refine (sides_any A n c a _ (ha.ext E) HA.out (by omega)).mono ?_
      rintro en w6 ⟨U1, u1, V1, v1, rfl, hU1, hV1, -, hb6⟩
      replace E := E.trans hb6
      replace B0 := B0.ext hb6
      replace B1 := B1.ext hb6
      replace B2 := B2.ext hb6
      replace hD := hD.ext hb6
      replace BZ := BZ.ext hb6
      clear hb6
      go_wp2_with fail
      refine (sides_any B m d b _ (hb.ext E) HBL.out (by omega)).mono ?_
      rintro en w7 ⟨U2, u2, V2, v2, rfl, hU2, hV2, -, hb7⟩
      replace E := E.trans hb7
      replace B0 := B0.ext hb7
      replace B1 := B1.ext hb7
      replace B2 := B2.ext hb7
      replace hD := hD.ext hb7
      replace BZ := BZ.ext hb7
      replace hU1 := hU1.ext hb7
      replace hV1 := hV1.ext hb7
      clear hb7
      generalize hWc : w7 = Wc at *
      clear hWc
      obtain ⟨c0, hc0⟩ : ∃ v, cm.getD 0 0 = v := ⟨_, rfl⟩
      have xc0 : Wc.cell? (ac.add 0) = some (.int .i64 c0) := by rw [← hc0, getD_lt (by have := HP3.out; omega)]; exact E.cell (HCA.out 0 _)
      have rc0 := BCM.out c0 (by rw [← hc0, getD_lt (by have := HP3.out; omega)]; exact List.getElem_mem _)
      have Hc0 := Lib.hid hc0
      clear hc0
      obtain ⟨c1, hc1⟩ : ∃ v, cm.getD 1 0 = v := ⟨_, rfl⟩
      have xc1 : Wc.cell? (ac.add 1) = some (.int .i64 c1) := by rw [← hc1, getD_lt (by have := HP3.out; omega)]; exact E.cell (HCA.out 1 _)
      have rc1 := BCM.out c1 (by rw [← hc1, getD_lt (by have := HP3.out; omega)]; exact List.getElem_mem _)
      have Hc1 := Lib.hid hc1
      clear hc1
      obtain ⟨c2, hc2⟩ : ∃ v, cm.getD 2 0 = v := ⟨_, rfl⟩
      have xc2 : Wc.cell? (ac.add 2) = some (.int .i64 c2) := by rw [← hc2, getD_lt (by have := HP3.out; omega)]; exact E.cell (HCA.out 2 _)
      have rc2 := BCM.out c2 (by rw [← hc2, getD_lt (by have := HP3.out; omega)]; exact List.getElem_mem _)
      have Hc2 := Lib.hid hc2
      clear hc2
      obtain ⟨c3, hc3⟩ : ∃ v, cm.getD 3 0 = v := ⟨_, rfl⟩
      have xc3 : Wc.cell? (ac.add 3) = some (.int .i64 c3) := by rw [← hc3, getD_lt (by have := HP3.out; omega)]; exact E.cell (HCA.out 3 _)
      have rc3 := BCM.out c3 (by rw [← hc3, getD_lt (by have := HP3.out; omega)]; exact List.getElem_mem _)
      have Hc3 := Lib.hid hc3
      clear hc3
      obtain ⟨c4, hc4⟩ : ∃ v, cm.getD 4 0 = v := ⟨_, rfl⟩
      have xc4 : Wc.cell? (ac.add 4) = some (.int .i64 c4) := by rw [← hc4, getD_lt (by have := HP3.out; omega)]; exact E.cell (HCA.out 4 _)
      have rc4 := BCM.out c4 (by rw [← hc4, getD_lt (by have := HP3.out; omega)]; exact List.getElem_mem _)
      have Hc4 := Lib.hid hc4
      clear hc4
      obtain ⟨r0, hr0⟩ : ∃ v, rs.getD 0 0 = v := ⟨_, rfl⟩
      have xr0 : Wc.cell? (ar.add 0) = some (.int .i64 r0) := by rw [← hr0, getD_lt (by have := HP5.out; omega)]; exact E.cell (HRA.out 0 _)
      have rr0 := BRS.out r0 (by rw [← hr0, getD_lt (by have := HP5.out; omega)]; exact List.getElem_mem _)
      have Hr0 := Lib.hid hr0
      clear hr0
      obtain ⟨r1, hr1⟩ : ∃ v, rs.getD 1 0 = v := ⟨_, rfl⟩
      have xr1 : Wc.cell? (ar.add 1) = some (.int .i64 r1) := by rw [← hr1, getD_lt (by have := HP5.out; omega)]; exact E.cell (HRA.out 1 _)
      have rr1 := BRS.out r1 (by rw [← hr1, getD_lt (by have := HP5.out; omega)]; exact List.getElem_mem _)
      have Hr1 := Lib.hid hr1
      clear hr1
      obtain ⟨r2, hr2⟩ : ∃ v, rs.getD 2 0 = v := ⟨_, rfl⟩
      have xr2 : Wc.cell? (ar.add 2) = some (.int .i64 r2) := by rw [← hr2, getD_lt (by have := HP5.out; omega)]; exact E.cell (HRA.out 2 _)
      have rr2 := BRS.out r2 (by rw [← hr2, getD_lt (by have := HP5.out; omega)]; exact List.getElem_mem _)
      have Hr2 := Lib.hid hr2
      clear hr2
      obtain ⟨r3, hr3⟩ : ∃ v, rs.getD 3 0 = v := ⟨_, rfl⟩
      have xr3 : Wc.cell? (ar.add 3) = some (.int .i64 r3) := by rw [← hr3, getD_lt (by have := HP5.out; omega)]; exact E.cell (HRA.out 3 _)
      have rr3 := BRS.out r3 (by rw [← hr3, getD_lt (by have := HP5.out; omega)]; exact List.getElem_mem _)
      have Hr3 := Lib.hid hr3
      clear hr3
      obtain ⟨lv, hlv⟩ : ∃ v, cn.getD (n - 1) 0 = v := ⟨_, rfl⟩
      have xlv : Wc.cell? (an.add (n - 1)) = some (.int .i64 lv) := by rw [← hlv, getD_lt HP2.out]; exact E.cell (HNA.out (n - 1) _)
      have rlv := BCN.out lv (by rw [← hlv, getD_lt HP2.out]; exact List.getElem_mem _)
      have Hlv := Lib.hid hlv
      clear hlv
      rw [show ac.add 0 = ac from rfl] at xc0
      rw [show ar.add 0 = ar from rfl] at xr0
      rw [show ac.add 1 = ⟨ac.block, ac.off + 1, none⟩ from rfl] at xc1
      rw [show ac.add 2 = ⟨ac.block, ac.off + 2, none⟩ from rfl] at xc2
      rw [show ac.add 3 = ⟨ac.block, ac.off + 3, none⟩ from rfl] at xc3
      rw [show ac.add 4 = ⟨ac.block, ac.off + 4, none⟩ from rfl] at xc4
      rw [show ar.add 1 = ⟨ar.block, ar.off + 1, none⟩ from rfl] at xr1
      rw [show ar.add 2 = ⟨ar.block, ar.off + 2, none⟩ from rfl] at xr2
      rw [show ar.add 3 = ⟨ar.block, ar.off + 3, none⟩ from rfl] at xr3
      obtain ⟨V8, h8⟩ : ∃ v, gmul p co = v := ⟨_, rfl⟩
      have r8 : 0 ≤ V8 ∧ V8 ≤ 2000000000 := by rw [← h8]; exact mul_bd hB BCO.out
      have K8 := Lib.hid h8
      clear h8
      obtain ⟨V12, h12⟩ : ∃ v, gmul p hs = v := ⟨_, rfl⟩
      have r12 : 0 ≤ V12 ∧ V12 ≤ 2000000000 := by rw [← h12]; exact mul_bd hB BHS.out
      have K12 := Lib.hid h12
      clear h12
      obtain ⟨V13, h13⟩ : ∃ v, gmul p [V8, gpw p q V12 (-1)] = v := ⟨_, rfl⟩
      have r13 : 0 ≤ V13 ∧ V13 ≤ 2000000000 := by rw [← h13]; exact g2_bd hB r8.1 (gpw_rg p q V12 (-1) hB).1
      have K13 := Lib.hid h13
      clear h13
      obtain ⟨V20, h20⟩ : ∃ v, gpw p q g r0 = v := ⟨_, rfl⟩
      have r20 : 0 ≤ V20 ∧ V20 ≤ 2000000000 := by rw [← h20]; exact gpw_rg p q g r0 hB
      have K20 := Lib.hid h20
      clear h20
      obtain ⟨V31, h31⟩ : ∃ v, prodV p q co es k1 = v := ⟨_, rfl⟩
      have r31 : 0 ≤ V31 ∧ V31 ≤ 2000000000 := by rw [← h31]; exact prod_bd hB co es k1
      have K31 := Lib.hid h31
      clear h31
      obtain ⟨V39, h39⟩ : ∃ v, gpw p q g r1 = v := ⟨_, rfl⟩
      have r39 : 0 ≤ V39 ∧ V39 ≤ 2000000000 := by rw [← h39]; exact gpw_rg p q g r1 hB
      have K39 := Lib.hid h39
      clear h39
      obtain ⟨V44, h44⟩ : ∃ v, prodV p q hs xs n = v := ⟨_, rfl⟩
      have r44 : 0 ≤ V44 ∧ V44 ≤ 2000000000 := by rw [← h44]; exact prod_bd hB hs xs n
      have K44 := Lib.hid h44
      clear h44
      obtain ⟨V46, h46⟩ : ∃ v, gmul p [V39, V44] = v := ⟨_, rfl⟩
      have r46 : 0 ≤ V46 ∧ V46 ≤ 2000000000 := by rw [← h46]; exact g2_bd hB r39.1 r44.1
      have K46 := Lib.hid h46
      clear h46
      obtain ⟨V65, h65⟩ : ∃ v, gpw p q H av = v := ⟨_, rfl⟩
      have r65 : 0 ≤ V65 ∧ V65 ≤ 2000000000 := by rw [← h65]; exact gpw_rg p q H av hB
      have K65 := Lib.hid h65
      clear h65
      obtain ⟨V66, h66⟩ : ∃ v, gmul p [lv, gpw p q V65 (-1)] = v := ⟨_, rfl⟩
      have r66 : 0 ≤ V66 ∧ V66 ≤ 2000000000 := by rw [← h66]; exact g2_bd hB rlv.1 (gpw_rg p q V65 (-1) hB).1
      have K66 := Lib.hid h66
      clear h66
      obtain ⟨V73, h73⟩ : ∃ v, gpw p q g r2 = v := ⟨_, rfl⟩
      have r73 : 0 ≤ V73 ∧ V73 ≤ 2000000000 := by rw [← h73]; exact gpw_rg p q g r2 hB
      have K73 := Lib.hid h73
      clear h73
      obtain ⟨V84, h84⟩ : ∃ v, prodV p q (a.map Prod.fst) es n = v := ⟨_, rfl⟩
      have r84 : 0 ≤ V84 ∧ V84 ≤ 2000000000 := by rw [← h84]; exact prod_bd hB _ es n
      have K84 := Lib.hid h84
      clear h84
      obtain ⟨V93, h93⟩ : ∃ v, gpw p q g (-r3) = v := ⟨_, rfl⟩
      have r93 : 0 ≤ V93 ∧ V93 ≤ 2000000000 := by rw [← h93]; exact gpw_rg p q g (-r3) hB
      have K93 := Lib.hid h93
      clear h93
      obtain ⟨V97, h97⟩ : ∃ v, prodV p q (b.map Prod.fst) xs m = v := ⟨_, rfl⟩
      have r97 : 0 ≤ V97 ∧ V97 ≤ 2000000000 := by rw [← h97]; exact prod_bd hB _ xs m
      have K97 := Lib.hid h97
      clear h97
      obtain ⟨V99, h99⟩ : ∃ v, gmul p [V93, V97] = v := ⟨_, rfl⟩
      have r99 : 0 ≤ V99 ∧ V99 ≤ 2000000000 := by rw [← h99]; exact g2_bd hB r93.1 r97.1
      have K99 := Lib.hid h99
      clear h99
      obtain ⟨V110, h110⟩ : ∃ v, prodV p q (a.map Prod.snd) es n = v := ⟨_, rfl⟩
      have r110 : 0 ≤ V110 ∧ V110 ≤ 2000000000 := by rw [← h110]; exact prod_bd hB _ es n
      have K110 := Lib.hid h110
      clear h110
      obtain ⟨V118, h118⟩ : ∃ v, gpw p q key (-r3) = v := ⟨_, rfl⟩
      have r118 : 0 ≤ V118 ∧ V118 ≤ 2000000000 := by rw [← h118]; exact gpw_rg p q key (-r3) hB
      have K118 := Lib.hid h118
      clear h118
      obtain ⟨V122, h122⟩ : ∃ v, prodV p q (b.map Prod.snd) xs m = v := ⟨_, rfl⟩
      have r122 : 0 ≤ V122 ∧ V122 ≤ 2000000000 := by rw [← h122]; exact prod_bd hB _ xs m
      have K122 := Lib.hid h122
      clear h122
      obtain ⟨V124, h124⟩ : ∃ v, gmul p [V118, V122] = v := ⟨_, rfl⟩
      have r124 : 0 ≤ V124 ∧ V124 ≤ 2000000000 := by rw [← h124]; exact g2_bd hB r118.1 r122.1
      have K124 := Lib.hid h124
      clear h124
      obtain ⟨Q0, hQ0⟩ : ∃ v, (gmul p [c0, gpw p q V13 z] == V20) = v := ⟨_, rfl⟩
      have KQ0 := Lib.hid hQ0
      clear hQ0
      obtain ⟨Q1, hQ1⟩ : ∃ v, (gmul p [c1, gpw p q V31 z] == V46) = v := ⟨_, rfl⟩
      have KQ1 := Lib.hid hQ1
      clear hQ1
      obtain ⟨Q2, hQ2⟩ : ∃ v, (gmul p [c2, gpw p q V66 z] == V73) = v := ⟨_, rfl⟩
      have KQ2 := Lib.hid hQ2
      clear hQ2
      obtain ⟨Q3, hQ3⟩ : ∃ v, (gmul p [c3, gpw p q V84 z] == V99) = v := ⟨_, rfl⟩
      have KQ3 := Lib.hid hQ3
      clear hQ3
      obtain ⟨Q4, hQ4⟩ : ∃ v, (gmul p [c4, gpw p q V110 z] == V124) = v := ⟨_, rfl⟩
      have KQ4 := Lib.hid hQ4
      clear hQ4
      have bc0 : (0 : Int) < (k3 : Int) := by omega
      have bm0 : 0 < k3 := by omega
      have bc1 : (1 : Int) < (k3 : Int) := by omega
      have bm1 : 1 < k3 := by omega
      have bc2 : (2 : Int) < (k3 : Int) := by omega
      have bm2 : 2 < k3 := by omega
      have bc3 : (3 : Int) < (k3 : Int) := by omega
      have bm3 : 3 < k3 := by omega
      have bc4 : (4 : Int) < (k3 : Int) := by omega
      have bm4 : 4 < k3 := by omega
      have br0 : (0 : Int) < (k5 : Int) := by omega
      have bs0 : 0 < k5 := by omega
      have br1 : (1 : Int) < (k5 : Int) := by omega
      have bs1 : 1 < k5 := by omega
      have br2 : (2 : Int) < (k5 : Int) := by omega
      have bs2 : 2 < k5 := by omega
      have br3 : (3 : Int) < (k5 : Int) := by omega
      have bs3 : 3 < k5 := by omega
      have bn1 : (0 : Int) ≤ (n : Int) - 1 := by omega
      have bn4 : (1 : Int) ≤ (n : Int) := by omega
      have bn2 : (n : Int) - 1 < (k2 : Int) := by have := T2.out; omega
      have bn3 : ((n : Int) - 1).toNat = n - 1 := by omega
      have wn1 : IntKind.i64.wrap ((n : Int) - 1) = (n : Int) - 1 := IntWalk.i64_in _ (by omega)
      have bx1 : n ≤ kx := by have := HKX.out; omega
      have bx2 : m ≤ kx := by have := HKX.out; have := HMN.out; omega
      have bk1 : k1 ≤ n := by have := T1.out; omega
      have hH9 := holds_ans p q g z _ _ _ hB (by omega) B0 BZ
      have hfn : ∀ args w, (callFunc 110 args).run Try.prog w = .ok (.enter 110 args) w := hH9.1
      have BE2 : Hid (∀ x ∈ es, -9000000000000000000 ≤ x ∧ x ≤ 9000000000000000000) := fun x hx => by have := BE.out x hx; omega
      have hS : ∀ V, Ext Wc V → V.cell? ⟨w.heap.size, 0, none⟩ = some (.int .i64 p) ∧ V.cell? ⟨w.heap.size, 1, none⟩ = some (.int .i64 q) ∧ V.cell? ⟨w.heap.size, 2, none⟩ = some (.int .i64 g) ∧ V.cell? ⟨w.heap.size + 1, 0, none⟩ = some (.int .i64 H) ∧ V.cell? ⟨w.heap.size + 1, 1, none⟩ = some (.slice AH n cH) ∧ V.cell? ⟨w.heap.size + 1 + 1, 0, none⟩ = some (.slice C1 k1 e1) ∧ V.cell? ⟨w.heap.size + 1 + 1, 1, none⟩ = some (.slice (some an) k2 e2) ∧ V.cell? ⟨gz, 0, none⟩ = some (.int .i64 z) ∧ V.cell? (ac) = some (.int .i64 c0) ∧ V.cell? (⟨ac.block, ac.off + 1, none⟩) = some (.int .i64 c1) ∧ V.cell? (⟨ac.block, ac.off + 2, none⟩) = some (.int .i64 c2) ∧ V.cell? (⟨ac.block, ac.off + 3, none⟩) = some (.int .i64 c3) ∧ V.cell? (⟨ac.block, ac.off + 4, none⟩) = some (.int .i64 c4) ∧ V.cell? (ar) = some (.int .i64 r0) ∧ V.cell? (⟨ar.block, ar.off + 1, none⟩) = some (.int .i64 r1) ∧ V.cell? (⟨ar.block, ar.off + 2, none⟩) = some (.int .i64 r2) ∧ V.cell? (⟨ar.block, ar.off + 3, none⟩) = some (.int .i64 r3) ∧ V.cell? (an.add (n - 1)) = some (.int .i64 lv) := fun V hV => by
        have a0 := (B0.ext hV).cells
        have a1 := (B1.ext hV).cells
        have a2 := (B2.ext hV).cells
        have az := (BZ.ext hV).cells
        exact ⟨a0 0, a0 1, a0 2, a1 0, a1 1, a2 0, a2 1, az 0, hV.cell xc0, hV.cell xc1, hV.cell xc2, hV.cell xc3, hV.cell xc4, hV.cell xr0, hV.cell xr1, hV.cell xr2, hV.cell xr3, hV.cell xlv⟩
      have C8 : Hid (∀ V, Ext Wc V → Calls Try.prog 84 #[.agg #[.int .i64 p, .int .i64 q, .int .i64 g], .slice C1 k1 e1] V fun e w' => e = .returned (.int .i64 V8) ∧ Ext V w') := fun V hV => by
        have h9 := mul_any p q g C1 k1 e1 co V hB (s1.rd.ext (E.trans hV)) s1.len (by unfold maxLen; omega) BCO.out
        rw [K8.out] at h9
        exact h9
      have C12 : Hid (∀ V, Ext Wc V → Calls Try.prog 84 #[.agg #[.int .i64 p, .int .i64 q, .int .i64 g], .slice AH n cH] V fun e w' => e = .returned (.int .i64 V12) ∧ Ext V w') := fun V hV => by
        have h9 := mul_any p q g AH n cH hs V hB (rh.ext (E.trans hV)) HH.out (by unfold maxLen; omega) BHS.out
        rw [K12.out] at h9
        exact h9
      have C13 : Hid (∀ V, Ext Wc V → Calls Try.prog 111 #[.agg #[.int .i64 p, .int .i64 q, .int .i64 g], .int .i64 V8, .int .i64 V12] V fun e w' => e = .returned (.int .i64 V13) ∧ Ext V w') := fun V hV => by
        have h9 := over_any p q g V8 V12 V hB (by omega) (by omega)
        rw [K13.out] at h9
        exact h9
      have C20 : Hid (∀ V, Ext Wc V → Calls Try.prog 49 #[.agg #[.int .i64 p, .int .i64 q, .int .i64 g], .int .i64 g, .int .i64 r0] V fun e w' => e = .returned (.int .i64 V20) ∧ Ext V w') := fun V hV => by
        have h9 := pow_any p q g g r0 V hB (by omega) (by omega) (by omega) (by omega)
        rw [K20.out] at h9
        exact h9
      have C21 : Hid (∀ V, Ext Wc V → Calls Try.prog 110 #[.int .i64 c0, .int .i64 V13, .int .i64 V20, .pointer (some ⟨w.heap.size, 0, none⟩), .pointer (some ⟨gz, 0, none⟩)] V fun e w' => e = .returned (.bool Q0) ∧ Ext V w') := fun V hV => by
        have h9 := hH9.2 c0 V13 V20 V (by omega) (by omega) hV
        rw [KQ0.out] at h9
        exact h9
      have C31 : Hid (∀ V, Ext Wc V → Calls Try.prog 112 #[.agg #[.int .i64 p, .int .i64 q, .int .i64 g], .slice C1 k1 e1, .slice D n dc] V fun e w' => e = .returned (.int .i64 V31) ∧ Ext V w') := fun V hV => by
        have h9 := powers_any p q g C1 D k1 e1 n dc  co es V hB (s1.rd.ext (E.trans hV)) s1.len (hD.ext hV) HEL.out bk1 (by omega) BCO.out BE2.out
        rw [K31.out] at h9
        exact h9
      have C39 : Hid (∀ V, Ext Wc V → Calls Try.prog 49 #[.agg #[.int .i64 p, .int .i64 q, .int .i64 g], .int .i64 g, .int .i64 r1] V fun e w' => e = .returned (.int .i64 V39) ∧ Ext V w') := fun V hV => by
        have h9 := pow_any p q g g r1 V hB (by omega) (by omega) (by omega) (by omega)
        rw [K39.out] at h9
        exact h9
      have C44 : Hid (∀ V, Ext Wc V → Calls Try.prog 112 #[.agg #[.int .i64 p, .int .i64 q, .int .i64 g], .slice AH n cH, .slice (some ax) kx ex] V fun e w' => e = .returned (.int .i64 V44) ∧ Ext V w') := fun V hV => by
        have h9 := powers_any p q g AH (some ax) n cH kx ex  hs xs V hB (rh.ext (E.trans hV)) HH.out (hxr.ext (E.trans hV)) HXL.out bx1 (by omega) BHS.out BX.out
        rw [K44.out] at h9
        exact h9
      have C46 : Hid (∀ V ad, Ext Wc V → RdI V (some ad) [V39, V44] → Calls Try.prog 84 #[.agg #[.int .i64 p, .int .i64 q, .int .i64 g], .slice (some ad) 2 2] V fun e w' => e = .returned (.int .i64 V46) ∧ Ext V w') := fun V ad hV hr => by
        have h9 := mul_any p q g (some ad) 2 2 [V39, V44] V hB hr rfl (by decide) (two_rg (by omega) (by omega))
        rw [K46.out] at h9
        exact h9
      have C47 : Hid (∀ V, Ext Wc V → Calls Try.prog 110 #[.int .i64 c1, .int .i64 V31, .int .i64 V46, .pointer (some ⟨w.heap.size, 0, none⟩), .pointer (some ⟨gz, 0, none⟩)] V fun e w' => e = .returned (.bool Q1) ∧ Ext V w') := fun V hV => by
        have h9 := hH9.2 c1 V31 V46 V (by omega) (by omega) hV
        rw [KQ1.out] at h9
        exact h9
      have C65 : Hid (∀ V, Ext Wc V → Calls Try.prog 49 #[.agg #[.int .i64 p, .int .i64 q, .int .i64 g], .int .i64 H, .int .i64 av] V fun e w' => e = .returned (.int .i64 V65) ∧ Ext V w') := fun V hV => by
        have h9 := pow_any p q g H av V hB (by omega) (by omega) (by omega) (by omega)
        rw [K65.out] at h9
        exact h9
      have C66 : Hid (∀ V, Ext Wc V → Calls Try.prog 111 #[.agg #[.int .i64 p, .int .i64 q, .int .i64 g], .int .i64 lv, .int .i64 V65] V fun e w' => e = .returned (.int .i64 V66) ∧ Ext V w') := fun V hV => by
        have h9 := over_any p q g lv V65 V hB (by omega) (by omega)
        rw [K66.out] at h9
        exact h9
      have C73 : Hid (∀ V, Ext Wc V → Calls Try.prog 49 #[.agg #[.int .i64 p, .int .i64 q, .int .i64 g], .int .i64 g, .int .i64 r2] V fun e w' => e = .returned (.int .i64 V73) ∧ Ext V w') := fun V hV => by
        have h9 := pow_any p q g g r2 V hB (by omega) (by omega) (by omega) (by omega)
        rw [K73.out] at h9
        exact h9
      have C74 : Hid (∀ V, Ext Wc V → Calls Try.prog 110 #[.int .i64 c2, .int .i64 V66, .int .i64 V73, .pointer (some ⟨w.heap.size, 0, none⟩), .pointer (some ⟨gz, 0, none⟩)] V fun e w' => e = .returned (.bool Q2) ∧ Ext V w') := fun V hV => by
        have h9 := hH9.2 c2 V66 V73 V (by omega) (by omega) hV
        rw [KQ2.out] at h9
        exact h9
      have C84 : Hid (∀ V, Ext Wc V → Calls Try.prog 112 #[.agg #[.int .i64 p, .int .i64 q, .int .i64 g], .slice U1 n u1, .slice D n dc] V fun e w' => e = .returned (.int .i64 V84) ∧ Ext V w') := fun V hV => by
        have h9 := powers_any p q g U1 D n u1 n dc  (a.map Prod.fst) es V hB (hU1.rd.ext hV) hU1.len (hD.ext hV) HEL.out (Nat.le_refl _) (by omega) BA.out.1 BE2.out
        rw [K84.out] at h9
        exact h9
      have C93 : Hid (∀ V, Ext Wc V → Calls Try.prog 49 #[.agg #[.int .i64 p, .int .i64 q, .int .i64 g], .int .i64 g, .int .i64 (-r3)] V fun e w' => e = .returned (.int .i64 V93) ∧ Ext V w') := fun V hV => by
        have h9 := pow_any p q g g (-r3) V hB (by omega) (by omega) (by omega) (by omega)
        rw [K93.out] at h9
        exact h9
      have C97 : Hid (∀ V, Ext Wc V → Calls Try.prog 112 #[.agg #[.int .i64 p, .int .i64 q, .int .i64 g], .slice U2 m u2, .slice (some ax) kx ex] V fun e w' => e = .returned (.int .i64 V97) ∧ Ext V w') := fun V hV => by
        have h9 := powers_any p q g U2 (some ax) m u2 kx ex  (b.map Prod.fst) xs V hB (hU2.rd.ext hV) hU2.len (hxr.ext (E.trans hV)) HXL.out bx2 (by omega) BB.out.1 BX.out
        rw [K97.out] at h9
        exact h9
      have C99 : Hid (∀ V ad, Ext Wc V → RdI V (some ad) [V93, V97] → Calls Try.prog 84 #[.agg #[.int .i64 p, .int .i64 q, .int .i64 g], .slice (some ad) 2 2] V fun e w' => e = .returned (.int .i64 V99) ∧ Ext V w') := fun V ad hV hr => by
        have h9 := mul_any p q g (some ad) 2 2 [V93, V97] V hB hr rfl (by decide) (two_rg (by omega) (by omega))
        rw [K99.out] at h9
        exact h9
      have C100 : Hid (∀ V, Ext Wc V → Calls Try.prog 110 #[.int .i64 c3, .int .i64 V84, .int .i64 V99, .pointer (some ⟨w.heap.size, 0, none⟩), .pointer (some ⟨gz, 0, none⟩)] V fun e w' => e = .returned (.bool Q3) ∧ Ext V w') := fun V hV => by
        have h9 := hH9.2 c3 V84 V99 V (by omega) (by omega) hV
        rw [KQ3.out] at h9
        exact h9
      have C110 : Hid (∀ V, Ext Wc V → Calls Try.prog 112 #[.agg #[.int .i64 p, .int .i64 q, .int .i64 g], .slice V1 n v1, .slice D n dc] V fun e w' => e = .returned (.int .i64 V110) ∧ Ext V w') := fun V hV => by
        have h9 := powers_any p q g V1 D n v1 n dc  (a.map Prod.snd) es V hB (hV1.rd.ext hV) hV1.len (hD.ext hV) HEL.out (Nat.le_refl _) (by omega) BA.out.2 BE2.out
        rw [K110.out] at h9
        exact h9
      have C118 : Hid (∀ V, Ext Wc V → Calls Try.prog 49 #[.agg #[.int .i64 p, .int .i64 q, .int .i64 g], .int .i64 key, .int .i64 (-r3)] V fun e w' => e = .returned (.int .i64 V118) ∧ Ext V w') := fun V hV => by
        have h9 := pow_any p q g key (-r3) V hB (by omega) (by omega) (by omega) (by omega)
        rw [K118.out] at h9
        exact h9
      have C122 : Hid (∀ V, Ext Wc V → Calls Try.prog 112 #[.agg #[.int .i64 p, .int .i64 q, .int .i64 g], .slice V2 m v2, .slice (some ax) kx ex] V fun e w' => e = .returned (.int .i64 V122) ∧ Ext V w') := fun V hV => by
        have h9 := powers_any p q g V2 (some ax) m v2 kx ex  (b.map Prod.snd) xs V hB (hV2.rd.ext hV) hV2.len (hxr.ext (E.trans hV)) HXL.out bx2 (by omega) BB.out.2 BX.out
        rw [K122.out] at h9
        exact h9
      have C124 : Hid (∀ V ad, Ext Wc V → RdI V (some ad) [V118, V122] → Calls Try.prog 84 #[.agg #[.int .i64 p, .int .i64 q, .int .i64 g], .slice (some ad) 2 2] V fun e w' => e = .returned (.int .i64 V124) ∧ Ext V w') := fun V ad hV hr => by
        have h9 := mul_any p q g (some ad) 2 2 [V118, V122] V hB hr rfl (by decide) (two_rg (by omega) (by omega))
        rw [K124.out] at h9
        exact h9
      have C125 : Hid (∀ V, Ext Wc V → Calls Try.prog 110 #[.int .i64 c4, .int .i64 V110, .int .i64 V124, .pointer (some ⟨w.heap.size, 0, none⟩), .pointer (some ⟨gz, 0, none⟩)] V fun e w' => e = .returned (.bool Q4) ∧ Ext V w') := fun V hV => by
        have h9 := hH9.2 c4 V110 V124 V (by omega) (by omega) hV
        rw [KQ4.out] at h9
        exact h9
      go_upto_region 19 with (fail)
      go_cut [30] from 120 to 246 (fun b0 wx => b0 = .bool (Q0 && (Q1 && (Q2 && (Q3 && Q4)))) ∧ Ext Wc wx)
      case first =>
        as_aux_lemma =>
          have rr3 : 0 ≤ r3 ∧ r3 ≤ 2000000000 := by omega
          have wr3 : IntKind.i64.wrap (-r3) = -r3 := IntWalk.i64_in _ (by omega)
          clear rh ha hb s1 hI hB hp hq2 hqp hgp hg2 b1 b12 HA HBL HH HG HK HAM HBM HEH HHE hHb hkb hgb BHS d1 HMN HF HCK HCK2 hk1 hk2 hk3 hk4 hk5 T1 T2 T3 T5 BCO BCN BCM BRS hzr HZ hmlen htot BE HE HEL hD9 hDl hgz s4 s3 s5 s2 HX0 HCA HRA HNA HP3 HP5 HP2 b40 b40n HQ hl5 hl5m bsl bsln hne5 BX HXS hxr HXL HKX hj hav HAV hU2 hV2 E B0 B1 hD BZ hU1 hV1 xc0 rc0 Hc0 xc1 rc1 Hc1 xc2 rc2 Hc2 xc3 rc3 Hc3 xc4 rc4 Hc4 xr0 rr0 Hr0 xr1 rr1 Hr1 xr2 rr2 Hr2 xr3 Hr3 xlv rlv Hlv r8 K8 r12 K12 r13 K13 r20 K20 r31 K31 r39 K39 r44 K44 r46 K46 r65 K65 r66 K66 r73 K73 r84 K84 r93 K93 r97 K97 r99 K99 r110 K110 r118 K118 r122 K122 r124 K124 KQ0 KQ1 KQ2 KQ3 KQ4 bx1 bx2 bk1 BE2 BA BB HW B2 hH9
          refine wp_region_held_drew (S := fun V => V.cell? ⟨w.heap.size, 0, none⟩ = some (.int .i64 p) ∧ V.cell? ⟨w.heap.size, 1, none⟩ = some (.int .i64 q) ∧ V.cell? ⟨w.heap.size, 2, none⟩ = some (.int .i64 g) ∧ V.cell? ⟨w.heap.size + 1, 0, none⟩ = some (.int .i64 H) ∧ V.cell? ⟨w.heap.size + 1, 1, none⟩ = some (.slice AH n cH) ∧ V.cell? ⟨w.heap.size + 1 + 1, 0, none⟩ = some (.slice C1 k1 e1) ∧ V.cell? ⟨w.heap.size + 1 + 1, 1, none⟩ = some (.slice (some an) k2 e2) ∧ V.cell? ⟨gz, 0, none⟩ = some (.int .i64 z) ∧ V.cell? (ac) = some (.int .i64 c0) ∧ V.cell? (⟨ac.block, ac.off + 1, none⟩) = some (.int .i64 c1) ∧ V.cell? (⟨ac.block, ac.off + 2, none⟩) = some (.int .i64 c2) ∧ V.cell? (⟨ac.block, ac.off + 3, none⟩) = some (.int .i64 c3) ∧ V.cell? (⟨ac.block, ac.off + 4, none⟩) = some (.int .i64 c4) ∧ V.cell? (ar) = some (.int .i64 r0) ∧ V.cell? (⟨ar.block, ar.off + 1, none⟩) = some (.int .i64 r1) ∧ V.cell? (⟨ar.block, ar.off + 2, none⟩) = some (.int .i64 r2) ∧ V.cell? (⟨ar.block, ar.off + 3, none⟩) = some (.int .i64 r3) ∧ V.cell? (an.add (n - 1)) = some (.int .i64 lv)) (by kernel_rfl) ?_ (fun hHeld => ?_)
          · exact hS _ (by repeat (first | with_reducible assumption | with_reducible exact Ext.refl _ | with_reducible apply Ext.alloc | with_reducible apply Ext.drew | with_reducible apply Ext.drewN))
          refine' tkH 0 (hy := yldH (by rfl) ?hy) (h := ?_)
          case hy => intro w hSw; (try dsimp only at hSw); go_simp <;> with_reducible rfl
          try simp only [Act.put, List.setIfInBounds_toArray, List.set_cons_zero, List.set_cons_succ]
          refine' tkH 1 (hy := yldH (by rfl) ?hy) (h := ?_)
          case hy => intro w hSw; (try dsimp only at hSw); go_simp <;> with_reducible rfl
          try simp only [Act.put, List.setIfInBounds_toArray, List.set_cons_zero, List.set_cons_succ]
          refine' tkH 2 (hy := yldH (by rfl) ?hy) (h := ?_)
          case hy => intro w hSw; (try dsimp only at hSw); go_simp <;> with_reducible rfl
          try simp only [Act.put, List.setIfInBounds_toArray, List.set_cons_zero, List.set_cons_succ]
          refine' tkH 3 (hy := yldH (by rfl) ?hy) (h := ?_)
          case hy => intro w hSw; (try dsimp only at hSw); go_simp <;> with_reducible rfl
          try simp only [Act.put, List.setIfInBounds_toArray, List.set_cons_zero, List.set_cons_succ]
          refine' tkH 4 (hy := yldH (by rfl) ?hy) (h := ?_)
          case hy => intro w hSw; (try dsimp only at hSw); go_simp <;> with_reducible rfl
          try simp only [Act.put, List.setIfInBounds_toArray, List.set_cons_zero, List.set_cons_succ]
          refine' tkH 5 (hy := yldH (by rfl) ?hy) (h := ?_)
          case hy => intro w hSw; (try dsimp only at hSw); go_simp <;> with_reducible rfl
          try simp only [Act.put, List.setIfInBounds_toArray, List.set_cons_zero, List.set_cons_succ]
          refine' tkH 6 (hy := yldH (by rfl) ?hy) (h := ?_)
          case hy => intro w hSw; (try dsimp only at hSw); go_simp <;> with_reducible rfl
          try simp only [Act.put, List.setIfInBounds_toArray, List.set_cons_zero, List.set_cons_succ]
          refine' tkH 7 (hy := yldH (by rfl) ?hy) (h := ?_)
          case hy => intro w hSw; (try dsimp only at hSw); go_simp <;> with_reducible rfl
          try simp only [Act.put, List.setIfInBounds_toArray, List.set_cons_zero, List.set_cons_succ]
          refine' tkH 9 (hy := yldH (by rfl) ?hy) (h := ?_)
          case hy => intro w hSw; (try dsimp only at hSw); go_simp <;> with_reducible rfl
          try simp only [Act.put, List.setIfInBounds_toArray, List.set_cons_zero, List.set_cons_succ]
          refine' tkH 10 (hy := yldH (by rfl) ?hy) (h := ?_)
          case hy => intro w hSw; (try dsimp only at hSw); go_simp <;> with_reducible rfl
          try simp only [Act.put, List.setIfInBounds_toArray, List.set_cons_zero, List.set_cons_succ]
          refine' tkH 11 (hy := yldH (by rfl) ?hy) (h := ?_)
          case hy => intro w hSw; (try dsimp only at hSw); go_simp <;> with_reducible rfl
          try simp only [Act.put, List.setIfInBounds_toArray, List.set_cons_zero, List.set_cons_succ]
          refine' tkH 14 (hy := yldH (by rfl) ?hy) (h := ?_)
          case hy => intro w hSw; (try dsimp only at hSw); go_simp <;> with_reducible rfl
          try simp only [Act.put, List.setIfInBounds_toArray, List.set_cons_zero, List.set_cons_succ]
          refine' tkH 15 (hy := yldH (by rfl) ?hy) (h := ?_)
          case hy => intro w hSw; (try dsimp only at hSw); go_simp <;> with_reducible rfl
          try simp only [Act.put, List.setIfInBounds_toArray, List.set_cons_zero, List.set_cons_succ]
          refine' tkH 16 (hy := yldH (by rfl) ?hy) (h := ?_)
          case hy => intro w hSw; (try dsimp only at hSw); go_simp <;> with_reducible rfl
          try simp only [Act.put, List.setIfInBounds_toArray, List.set_cons_zero, List.set_cons_succ]
          refine' tkH 17 (hy := yldH (by rfl) ?hy) (h := ?_)
          case hy => intro w hSw; (try dsimp only at hSw); go_simp <;> with_reducible rfl
          try simp only [Act.put, List.setIfInBounds_toArray, List.set_cons_zero, List.set_cons_succ]
          refine' tkH 18 (hy := yldH (by rfl) ?hy) (h := ?_)
          case hy => intro w hSw; (try dsimp only at hSw); go_simp <;> with_reducible rfl
          try simp only [Act.put, List.setIfInBounds_toArray, List.set_cons_zero, List.set_cons_succ]
          refine' tkH 19 (hy := yldH (by rfl) ?hy) (h := ?_)
          case hy => intro w hSw; (try dsimp only at hSw); go_simp <;> with_reducible rfl
          try simp only [Act.put, List.setIfInBounds_toArray, List.set_cons_zero, List.set_cons_succ]
          refine wpAnyH_one (i := 8) (by kernel_rfl) (by simp only [List.getElem?_toArray, List.getElem?_cons_succ, List.getElem?_cons_zero]; rfl) (by kernel_rfl) (fun KK hKK => ?_)
          go_simp
          go_at_call 84
          refine (C8.out _ (by repeat (first | with_reducible assumption | with_reducible exact Ext.refl _ | with_reducible apply Ext.alloc | with_reducible apply Ext.drew | with_reducible apply Ext.drewN))).mono ?_
          rintro ek wk8 ⟨rfl, hbk8⟩
          have hxk8 := Ext.trans (w := Wc) (by repeat (first | with_reducible assumption | with_reducible exact Ext.refl _ | with_reducible apply Ext.alloc | with_reducible apply Ext.drew | with_reducible apply Ext.drewN)) hbk8
          refine hKK.out _ _ ?_ (fun hHeld => ?_)
          · exact hS _ (by repeat (first | with_reducible assumption | with_reducible exact Ext.refl _ | with_reducible apply Ext.alloc | with_reducible apply Ext.drew | with_reducible apply Ext.drewN))
          clear hKK KK
          try simp only [Act.put, List.setIfInBounds_toArray, List.set_cons_zero, List.set_cons_succ]
          refine wpAnyH_one (i := 12) (by kernel_rfl) (by simp only [List.getElem?_toArray, List.getElem?_cons_succ, List.getElem?_cons_zero]; rfl) (by kernel_rfl) (fun KK hKK => ?_)
          go_simp
          go_at_call 84
          refine (C12.out _ (by repeat (first | with_reducible assumption | with_reducible exact Ext.refl _ | with_reducible apply Ext.alloc | with_reducible apply Ext.drew | with_reducible apply Ext.drewN))).mono ?_
          rintro ek wk12 ⟨rfl, hbk12⟩
          have hxk12 := Ext.trans (w := Wc) (by repeat (first | with_reducible assumption | with_reducible exact Ext.refl _ | with_reducible apply Ext.alloc | with_reducible apply Ext.drew | with_reducible apply Ext.drewN)) hbk12
          refine hKK.out _ _ ?_ (fun hHeld => ?_)
          · exact hS _ (by repeat (first | with_reducible assumption | with_reducible exact Ext.refl _ | with_reducible apply Ext.alloc | with_reducible apply Ext.drew | with_reducible apply Ext.drewN))
          clear hKK KK
          try simp only [Act.put, List.setIfInBounds_toArray, List.set_cons_zero, List.set_cons_succ]
          refine wpAnyH_one (i := 13) (by kernel_rfl) (by simp only [List.getElem?_toArray, List.getElem?_cons_succ, List.getElem?_cons_zero]; rfl) (by kernel_rfl) (fun KK hKK => ?_)
          go_simp
          go_at_call 111
          refine (C13.out _ (by repeat (first | with_reducible assumption | with_reducible exact Ext.refl _ | with_reducible apply Ext.alloc | with_reducible apply Ext.drew | with_reducible apply Ext.drewN))).mono ?_
          rintro ek wk13 ⟨rfl, hbk13⟩
          have hxk13 := Ext.trans (w := Wc) (by repeat (first | with_reducible assumption | with_reducible exact Ext.refl _ | with_reducible apply Ext.alloc | with_reducible apply Ext.drew | with_reducible apply Ext.drewN)) hbk13
          refine hKK.out _ _ ?_ (fun hHeld => ?_)
          · exact hS _ (by repeat (first | with_reducible assumption | with_reducible exact Ext.refl _ | with_reducible apply Ext.alloc | with_reducible apply Ext.drew | with_reducible apply Ext.drewN))
          clear hKK KK
          try simp only [Act.put, List.setIfInBounds_toArray, List.set_cons_zero, List.set_cons_succ]
          refine wpAnyH_one (i := 20) (by kernel_rfl) (by simp only [List.getElem?_toArray, List.getElem?_cons_succ, List.getElem?_cons_zero]; rfl) (by kernel_rfl) (fun KK hKK => ?_)
          go_simp
          go_at_call 49
          refine (C20.out _ (by repeat (first | with_reducible assumption | with_reducible exact Ext.refl _ | with_reducible apply Ext.alloc | with_reducible apply Ext.drew | with_reducible apply Ext.drewN))).mono ?_
          rintro ek wk20 ⟨rfl, hbk20⟩
          have hxk20 := Ext.trans (w := Wc) (by repeat (first | with_reducible assumption | with_reducible exact Ext.refl _ | with_reducible apply Ext.alloc | with_reducible apply Ext.drew | with_reducible apply Ext.drewN)) hbk20
          refine hKK.out _ _ ?_ (fun hHeld => ?_)
          · exact hS _ (by repeat (first | with_reducible assumption | with_reducible exact Ext.refl _ | with_reducible apply Ext.alloc | with_reducible apply Ext.drew | with_reducible apply Ext.drewN))
          clear hKK KK
          try simp only [Act.put, List.setIfInBounds_toArray, List.set_cons_zero, List.set_cons_succ]
          refine wpAnyH_one (i := 21) (by kernel_rfl) (by simp only [List.getElem?_toArray, List.getElem?_cons_succ, List.getElem?_cons_zero]; rfl) (by kernel_rfl) (fun KK hKK => ?_)
          go_simp
          refine (C21.out _ (by repeat (first | with_reducible assumption | with_reducible exact Ext.refl _ | with_reducible apply Ext.alloc | with_reducible apply Ext.drew | with_reducible apply Ext.drewN))).mono ?_
          rintro ek wk21 ⟨rfl, hbk21⟩
          have hxk21 := Ext.trans (w := Wc) (by repeat (first | with_reducible assumption | with_reducible exact Ext.refl _ | with_reducible apply Ext.alloc | with_reducible apply Ext.drew | with_reducible apply Ext.drewN)) hbk21
          refine hKK.out _ _ ?_ (fun hHeld => ?_)
          · exact hS _ (by repeat (first | with_reducible assumption | with_reducible exact Ext.refl _ | with_reducible apply Ext.alloc | with_reducible apply Ext.drew | with_reducible apply Ext.drewN))
          clear hKK KK
          try simp only [Act.put, List.setIfInBounds_toArray, List.set_cons_zero, List.set_cons_succ]
          cases hQ0 : Q0
          case false =>
            as_aux_lemma =>
              refine' tkH 22 (hy := yldH (by rfl) ?hy) (h := ?_)
              case hy => intro w hSw; (try dsimp only at hSw); go_simp <;> with_reducible rfl
              try simp only [Act.put, List.setIfInBounds_toArray, List.set_cons_zero, List.set_cons_succ]
              refine wpAnyH_skips (is := [23, 24, 25, 26, 27, 28, 29, 30, 31, 32, 33, 34, 35, 36, 37, 38, 39, 40, 41, 42, 43, 44, 45, 46, 47]) (l' := #[true, true, true, true, true, true, true, true, true, true, true, true, true, true, true, true, true, true, true, true, true, true, true, true, true, true, true, true, true, true, true, true, true, true, true, true, true, true, true, true, true, true, true, true, true, true, true, true, false, false, false, false, false, false, false, false, false, false, false, false, false, false, false, false, false, false, false, false, false, false, false, false, false, false, false, false, false, false, false, false, false, false, false, false, false, false, false, false, false, false, false, false, false, false, false, false, false, false, false, false, false, false, false, false, false, false, false, false, false, false, false, false, false, false, false, false, false, false, false, false, false, false, false, false, false, false, false, false]) (by kernel_rfl) (fun d _ _ _ h => by cases d <;> exact h) (by assumption) (by kernel_rfl) (by kernel_rfl) ?_
              refine' tkH 48 (hy := yldH (by rfl) ?hy) (h := ?_)
              case hy => intro w hSw; (try dsimp only at hSw); go_simp <;> with_reducible rfl
              try simp only [Act.put, List.setIfInBounds_toArray, List.set_cons_zero, List.set_cons_succ]
              cases hQ1 : Q1
              case false =>
                as_aux_lemma =>
                  refine' tkH 49 (hy := yldH (by rfl) ?hy) (h := ?_)
                  case hy => intro w hSw; (try dsimp only at hSw); go_simp <;> with_reducible rfl
                  try simp only [Act.put, List.setIfInBounds_toArray, List.set_cons_zero, List.set_cons_succ]
                  refine wpAnyH_skips (is := [50, 51, 52, 53, 54, 55, 56, 57, 58, 59, 60, 61, 62, 63, 64, 65, 66, 67, 68, 69, 70, 71, 72, 73, 74]) (l' := #[true, true, true, true, true, true, true, true, true, true, true, true, true, true, true, true, true, true, true, true, true, true, true, true, true, true, true, true, true, true, true, true, true, true, true, true, true, true, true, true, true, true, true, true, true, true, true, true, true, true, true, true, true, true, true, true, true, true, true, true, true, true, true, true, true, true, true, true, true, true, true, true, true, true, true, false, false, false, false, false, false, false, false, false, false, false, false, false, false, false, false, false, false, false, false, false, false, false, false, false, false, false, false, false, false, false, false, false, false, false, false, false, false, false, false, false, false, false, false, false, false, false, false, false, false, false, false, false]) (by kernel_rfl) (fun d _ _ _ h => by cases d <;> exact h) (by assumption) (by kernel_rfl) (by kernel_rfl) ?_
                  refine' tkH 75 (hy := yldH (by rfl) ?hy) (h := ?_)
                  case hy => intro w hSw; (try dsimp only at hSw); go_simp <;> with_reducible rfl
                  try simp only [Act.put, List.setIfInBounds_toArray, List.set_cons_zero, List.set_cons_succ]
                  cases hQ2 : Q2
                  case false =>
                    as_aux_lemma =>
                      refine' tkH 76 (hy := yldH (by rfl) ?hy) (h := ?_)
                      case hy => intro w hSw; (try dsimp only at hSw); go_simp <;> with_reducible rfl
                      try simp only [Act.put, List.setIfInBounds_toArray, List.set_cons_zero, List.set_cons_succ]
                      refine wpAnyH_skips (is := [77, 78, 79, 80, 81, 82, 83, 84, 85, 86, 87, 88, 89, 90, 91, 92, 93, 94, 95, 96, 97, 98, 99, 100]) (l' := #[true, true, true, true, true, true, true, true, true, true, true, true, true, true, true, true, true, true, true, true, true, true, true, true, true, true, true, true, true, true, true, true, true, true, true, true, true, true, true, true, true, true, true, true, true, true, true, true, true, true, true, true, true, true, true, true, true, true, true, true, true, true, true, true, true, true, true, true, true, true, true, true, true, true, true, true, true, true, true, true, true, true, true, true, true, true, true, true, true, true, true, true, true, true, true, true, true, true, true, true, true, false, false, false, false, false, false, false, false, false, false, false, false, false, false, false, false, false, false, false, false, false, false, false, false, false, false, false]) (by kernel_rfl) (fun d _ _ _ h => by cases d <;> exact h) (by assumption) (by kernel_rfl) (by kernel_rfl) ?_
                      refine' tkH 101 (hy := yldH (by rfl) ?hy) (h := ?_)
                      case hy => intro w hSw; (try dsimp only at hSw); go_simp <;> with_reducible rfl
                      try simp only [Act.put, List.setIfInBounds_toArray, List.set_cons_zero, List.set_cons_succ]
                      cases hQ3 : Q3
                      case false =>
                        as_aux_lemma =>
                          refine' tkH 102 (hy := yldH (by rfl) ?hy) (h := ?_)
                          case hy => intro w hSw; (try dsimp only at hSw); go_simp <;> with_reducible rfl
                          try simp only [Act.put, List.setIfInBounds_toArray, List.set_cons_zero, List.set_cons_succ]
                          refine wpAnyH_skips (is := [103, 104, 105, 106, 107, 108, 109, 110, 111, 112, 113, 114, 115, 116, 117, 118, 119, 120, 121, 122, 123, 124, 125]) (l' := #[true, true, true, true, true, true, true, true, true, true, true, true, true, true, true, true, true, true, true, true, true, true, true, true, true, true, true, true, true, true, true, true, true, true, true, true, true, true, true, true, true, true, true, true, true, true, true, true, true, true, true, true, true, true, true, true, true, true, true, true, true, true, true, true, true, true, true, true, true, true, true, true, true, true, true, true, true, true, true, true, true, true, true, true, true, true, true, true, true, true, true, true, true, true, true, true, true, true, true, true, true, true, true, true, true, true, true, true, true, true, true, true, true, true, true, true, true, true, true, true, true, true, true, true, true, true, false, false]) (by kernel_rfl) (fun d _ _ _ h => by cases d <;> exact h) (by assumption) (by kernel_rfl) (by kernel_rfl) ?_
                          refine' tkH 126 (hy := yldH (by rfl) ?hy) (h := ?_)
                          case hy => intro w hSw; (try dsimp only at hSw); go_simp <;> with_reducible rfl
                          try simp only [Act.put, List.setIfInBounds_toArray, List.set_cons_zero, List.set_cons_succ]
                          refine' tkH 127 (hy := yldH (by rfl) ?hy) (h := ?_)
                          case hy => intro w hSw; (try dsimp only at hSw); go_simp <;> with_reducible rfl
                          try simp only [Act.put, List.setIfInBounds_toArray, List.set_cons_zero, List.set_cons_succ]
                          refine wpAnyH_done (by kernel_rfl) ?_ _
                          go_wp2
                          go_meet
                          exact ⟨by simp [hQ0], hxk21⟩
                      as_aux_lemma =>
                        refine' tkH 102 (hy := yldH (by rfl) ?hy) (h := ?_)
                        case hy => intro w hSw; (try dsimp only at hSw); go_simp <;> with_reducible rfl
                        try simp only [Act.put, List.setIfInBounds_toArray, List.set_cons_zero, List.set_cons_succ]
                        refine wpAnyH_skips (is := [103, 104, 105, 106, 107, 108, 109, 110, 111, 112, 113, 114, 115, 116, 117, 118, 119, 120, 121, 122, 123, 124, 125]) (l' := #[true, true, true, true, true, true, true, true, true, true, true, true, true, true, true, true, true, true, true, true, true, true, true, true, true, true, true, true, true, true, true, true, true, true, true, true, true, true, true, true, true, true, true, true, true, true, true, true, true, true, true, true, true, true, true, true, true, true, true, true, true, true, true, true, true, true, true, true, true, true, true, true, true, true, true, true, true, true, true, true, true, true, true, true, true, true, true, true, true, true, true, true, true, true, true, true, true, true, true, true, true, true, true, true, true, true, true, true, true, true, true, true, true, true, true, true, true, true, true, true, true, true, true, true, true, true, false, false]) (by kernel_rfl) (fun d _ _ _ h => by cases d <;> exact h) (by assumption) (by kernel_rfl) (by kernel_rfl) ?_
                        refine' tkH 126 (hy := yldH (by rfl) ?hy) (h := ?_)
                        case hy => intro w hSw; (try dsimp only at hSw); go_simp <;> with_reducible rfl
                        try simp only [Act.put, List.setIfInBounds_toArray, List.set_cons_zero, List.set_cons_succ]
                        refine' tkH 127 (hy := yldH (by rfl) ?hy) (h := ?_)
                        case hy => intro w hSw; (try dsimp only at hSw); go_simp <;> with_reducible rfl
                        try simp only [Act.put, List.setIfInBounds_toArray, List.set_cons_zero, List.set_cons_succ]
                        refine wpAnyH_done (by kernel_rfl) ?_ _
                        go_wp2
                        go_meet
                        exact ⟨by simp [hQ0], hxk21⟩
                  as_aux_lemma =>
                    refine' tkH 76 (hy := yldH (by rfl) ?hy) (h := ?_)
                    case hy => intro w hSw; (try dsimp only at hSw); go_simp <;> with_reducible rfl
                    try simp only [Act.put, List.setIfInBounds_toArray, List.set_cons_zero, List.set_cons_succ]
                    refine wpAnyH_skips (is := [77, 78, 79, 80, 81, 82, 83, 84, 85, 86, 87, 88, 89, 90, 91, 92, 93, 94, 95, 96, 97, 98, 99, 100]) (l' := #[true, true, true, true, true, true, true, true, true, true, true, true, true, true, true, true, true, true, true, true, true, true, true, true, true, true, true, true, true, true, true, true, true, true, true, true, true, true, true, true, true, true, true, true, true, true, true, true, true, true, true, true, true, true, true, true, true, true, true, true, true, true, true, true, true, true, true, true, true, true, true, true, true, true, true, true, true, true, true, true, true, true, true, true, true, true, true, true, true, true, true, true, true, true, true, true, true, true, true, true, true, false, false, false, false, false, false, false, false, false, false, false, false, false, false, false, false, false, false, false, false, false, false, false, false, false, false, false]) (by kernel_rfl) (fun d _ _ _ h => by cases d <;> exact h) (by assumption) (by kernel_rfl) (by kernel_rfl) ?_
                    refine' tkH 101 (hy := yldH (by rfl) ?hy) (h := ?_)
                    case hy => intro w hSw; (try dsimp only at hSw); go_simp <;> with_reducible rfl
                    try simp only [Act.put, List.setIfInBounds_toArray, List.set_cons_zero, List.set_cons_succ]
                    cases hQ3 : Q3
                    case false =>
                      as_aux_lemma =>
                        refine' tkH 102 (hy := yldH (by rfl) ?hy) (h := ?_)
                        case hy => intro w hSw; (try dsimp only at hSw); go_simp <;> with_reducible rfl
                        try simp only [Act.put, List.setIfInBounds_toArray, List.set_cons_zero, List.set_cons_succ]
                        refine wpAnyH_skips (is := [103, 104, 105, 106, 107, 108, 109, 110, 111, 112, 113, 114, 115, 116, 117, 118, 119, 120, 121, 122, 123, 124, 125]) (l' := #[true, true, true, true, true, true, true, true, true, true, true, true, true, true, true, true, true, true, true, true, true, true, true, true, true, true, true, true, true, true, true, true, true, true, true, true, true, true, true, true, true, true, true, true, true, true, true, true, true, true, true, true, true, true, true, true, true, true, true, true, true, true, true, true, true, true, true, true, true, true, true, true, true, true, true, true, true, true, true, true, true, true, true, true, true, true, true, true, true, true, true, true, true, true, true, true, true, true, true, true, true, true, true, true, true, true, true, true, true, true, true, true, true, true, true, true, true, true, true, true, true, true, true, true, true, true, false, false]) (by kernel_rfl) (fun d _ _ _ h => by cases d <;> exact h) (by assumption) (by kernel_rfl) (by kernel_rfl) ?_
                        refine' tkH 126 (hy := yldH (by rfl) ?hy) (h := ?_)
                        case hy => intro w hSw; (try dsimp only at hSw); go_simp <;> with_reducible rfl
                        try simp only [Act.put, List.setIfInBounds_toArray, List.set_cons_zero, List.set_cons_succ]
                        refine' tkH 127 (hy := yldH (by rfl) ?hy) (h := ?_)
                        case hy => intro w hSw; (try dsimp only at hSw); go_simp <;> with_reducible rfl
                        try simp only [Act.put, List.setIfInBounds_toArray, List.set_cons_zero, List.set_cons_succ]
                        refine wpAnyH_done (by kernel_rfl) ?_ _
                        go_wp2
                        go_meet
                        exact ⟨by simp [hQ0], hxk21⟩
                    as_aux_lemma =>
                      refine' tkH 102 (hy := yldH (by rfl) ?hy) (h := ?_)
                      case hy => intro w hSw; (try dsimp only at hSw); go_simp <;> with_reducible rfl
                      try simp only [Act.put, List.setIfInBounds_toArray, List.set_cons_zero, List.set_cons_succ]
                      refine wpAnyH_skips (is := [103, 104, 105, 106, 107, 108, 109, 110, 111, 112, 113, 114, 115, 116, 117, 118, 119, 120, 121, 122, 123, 124, 125]) (l' := #[true, true, true, true, true, true, true, true, true, true, true, true, true, true, true, true, true, true, true, true, true, true, true, true, true, true, true, true, true, true, true, true, true, true, true, true, true, true, true, true, true, true, true, true, true, true, true, true, true, true, true, true, true, true, true, true, true, true, true, true, true, true, true, true, true, true, true, true, true, true, true, true, true, true, true, true, true, true, true, true, true, true, true, true, true, true, true, true, true, true, true, true, true, true, true, true, true, true, true, true, true, true, true, true, true, true, true, true, true, true, true, true, true, true, true, true, true, true, true, true, true, true, true, true, true, true, false, false]) (by kernel_rfl) (fun d _ _ _ h => by cases d <;> exact h) (by assumption) (by kernel_rfl) (by kernel_rfl) ?_
                      refine' tkH 126 (hy := yldH (by rfl) ?hy) (h := ?_)
                      case hy => intro w hSw; (try dsimp only at hSw); go_simp <;> with_reducible rfl
                      try simp only [Act.put, List.setIfInBounds_toArray, List.set_cons_zero, List.set_cons_succ]
                      refine' tkH 127 (hy := yldH (by rfl) ?hy) (h := ?_)
                      case hy => intro w hSw; (try dsimp only at hSw); go_simp <;> with_reducible rfl
                      try simp only [Act.put, List.setIfInBounds_toArray, List.set_cons_zero, List.set_cons_succ]
                      refine wpAnyH_done (by kernel_rfl) ?_ _
                      go_wp2
                      go_meet
                      exact ⟨by simp [hQ0], hxk21⟩
              as_aux_lemma =>
                refine' tkH 49 (hy := yldH (by rfl) ?hy) (h := ?_)
                case hy => intro w hSw; (try dsimp only at hSw); go_simp <;> with_reducible rfl
                try simp only [Act.put, List.setIfInBounds_toArray, List.set_cons_zero, List.set_cons_succ]
                refine wpAnyH_skips (is := [50, 51, 52, 53, 54, 55, 56, 57, 58, 59, 60, 61, 62, 63, 64, 65, 66, 67, 68, 69, 70, 71, 72, 73, 74]) (l' := #[true, true, true, true, true, true, true, true, true, true, true, true, true, true, true, true, true, true, true, true, true, true, true, true, true, true, true, true, true, true, true, true, true, true, true, true, true, true, true, true, true, true, true, true, true, true, true, true, true, true, true, true, true, true, true, true, true, true, true, true, true, true, true, true, true, true, true, true, true, true, true, true, true, true, true, false, false, false, false, false, false, false, false, false, false, false, false, false, false, false, false, false, false, false, false, false, false, false, false, false, false, false, false, false, false, false, false, false, false, false, false, false, false, false, false, false, false, false, false, false, false, false, false, false, false, false, false, false]) (by kernel_rfl) (fun d _ _ _ h => by cases d <;> exact h) (by assumption) (by kernel_rfl) (by kernel_rfl) ?_
                refine' tkH 75 (hy := yldH (by rfl) ?hy) (h := ?_)
                case hy => intro w hSw; (try dsimp only at hSw); go_simp <;> with_reducible rfl
                try simp only [Act.put, List.setIfInBounds_toArray, List.set_cons_zero, List.set_cons_succ]
                cases hQ2 : Q2
                case false =>
                  as_aux_lemma =>
                    refine' tkH 76 (hy := yldH (by rfl) ?hy) (h := ?_)
                    case hy => intro w hSw; (try dsimp only at hSw); go_simp <;> with_reducible rfl
                    try simp only [Act.put, List.setIfInBounds_toArray, List.set_cons_zero, List.set_cons_succ]
                    refine wpAnyH_skips (is := [77, 78, 79, 80, 81, 82, 83, 84, 85, 86, 87, 88, 89, 90, 91, 92, 93, 94, 95, 96, 97, 98, 99, 100]) (l' := #[true, true, true, true, true, true, true, true, true, true, true, true, true, true, true, true, true, true, true, true, true, true, true, true, true, true, true, true, true, true, true, true, true, true, true, true, true, true, true, true, true, true, true, true, true, true, true, true, true, true, true, true, true, true, true, true, true, true, true, true, true, true, true, true, true, true, true, true, true, true, true, true, true, true, true, true, true, true, true, true, true, true, true, true, true, true, true, true, true, true, true, true, true, true, true, true, true, true, true, true, true, false, false, false, false, false, false, false, false, false, false, false, false, false, false, false, false, false, false, false, false, false, false, false, false, false, false, false]) (by kernel_rfl) (fun d _ _ _ h => by cases d <;> exact h) (by assumption) (by kernel_rfl) (by kernel_rfl) ?_
                    refine' tkH 101 (hy := yldH (by rfl) ?hy) (h := ?_)
                    case hy => intro w hSw; (try dsimp only at hSw); go_simp <;> with_reducible rfl
                    try simp only [Act.put, List.setIfInBounds_toArray, List.set_cons_zero, List.set_cons_succ]
                    cases hQ3 : Q3
                    case false =>
                      as_aux_lemma =>
                        refine' tkH 102 (hy := yldH (by rfl) ?hy) (h := ?_)
                        case hy => intro w hSw; (try dsimp only at hSw); go_simp <;> with_reducible rfl
                        try simp only [Act.put, List.setIfInBounds_toArray, List.set_cons_zero, List.set_cons_succ]
                        refine wpAnyH_skips (is := [103, 104, 105, 106, 107, 108, 109, 110, 111, 112, 113, 114, 115, 116, 117, 118, 119, 120, 121, 122, 123, 124, 125]) (l' := #[true, true, true, true, true, true, true, true, true, true, true, true, true, true, true, true, true, true, true, true, true, true, true, true, true, true, true, true, true, true, true, true, true, true, true, true, true, true, true, true, true, true, true, true, true, true, true, true, true, true, true, true, true, true, true, true, true, true, true, true, true, true, true, true, true, true, true, true, true, true, true, true, true, true, true, true, true, true, true, true, true, true, true, true, true, true, true, true, true, true, true, true, true, true, true, true, true, true, true, true, true, true, true, true, true, true, true, true, true, true, true, true, true, true, true, true, true, true, true, true, true, true, true, true, true, true, false, false]) (by kernel_rfl) (fun d _ _ _ h => by cases d <;> exact h) (by assumption) (by kernel_rfl) (by kernel_rfl) ?_
                        refine' tkH 126 (hy := yldH (by rfl) ?hy) (h := ?_)
                        case hy => intro w hSw; (try dsimp only at hSw); go_simp <;> with_reducible rfl
                        try simp only [Act.put, List.setIfInBounds_toArray, List.set_cons_zero, List.set_cons_succ]
                        refine' tkH 127 (hy := yldH (by rfl) ?hy) (h := ?_)
                        case hy => intro w hSw; (try dsimp only at hSw); go_simp <;> with_reducible rfl
                        try simp only [Act.put, List.setIfInBounds_toArray, List.set_cons_zero, List.set_cons_succ]
                        refine wpAnyH_done (by kernel_rfl) ?_ _
                        go_wp2
                        go_meet
                        exact ⟨by simp [hQ0], hxk21⟩
                    as_aux_lemma =>
                      refine' tkH 102 (hy := yldH (by rfl) ?hy) (h := ?_)
                      case hy => intro w hSw; (try dsimp only at hSw); go_simp <;> with_reducible rfl
                      try simp only [Act.put, List.setIfInBounds_toArray, List.set_cons_zero, List.set_cons_succ]
                      refine wpAnyH_skips (is := [103, 104, 105, 106, 107, 108, 109, 110, 111, 112, 113, 114, 115, 116, 117, 118, 119, 120, 121, 122, 123, 124, 125]) (l' := #[true, true, true, true, true, true, true, true, true, true, true, true, true, true, true, true, true, true, true, true, true, true, true, true, true, true, true, true, true, true, true, true, true, true, true, true, true, true, true, true, true, true, true, true, true, true, true, true, true, true, true, true, true, true, true, true, true, true, true, true, true, true, true, true, true, true, true, true, true, true, true, true, true, true, true, true, true, true, true, true, true, true, true, true, true, true, true, true, true, true, true, true, true, true, true, true, true, true, true, true, true, true, true, true, true, true, true, true, true, true, true, true, true, true, true, true, true, true, true, true, true, true, true, true, true, true, false, false]) (by kernel_rfl) (fun d _ _ _ h => by cases d <;> exact h) (by assumption) (by kernel_rfl) (by kernel_rfl) ?_
                      refine' tkH 126 (hy := yldH (by rfl) ?hy) (h := ?_)
                      case hy => intro w hSw; (try dsimp only at hSw); go_simp <;> with_reducible rfl
                      try simp only [Act.put, List.setIfInBounds_toArray, List.set_cons_zero, List.set_cons_succ]
                      refine' tkH 127 (hy := yldH (by rfl) ?hy) (h := ?_)
                      case hy => intro w hSw; (try dsimp only at hSw); go_simp <;> with_reducible rfl
                      try simp only [Act.put, List.setIfInBounds_toArray, List.set_cons_zero, List.set_cons_succ]
                      refine wpAnyH_done (by kernel_rfl) ?_ _
                      go_wp2
                      go_meet
                      exact ⟨by simp [hQ0], hxk21⟩
                as_aux_lemma =>
                  refine' tkH 76 (hy := yldH (by rfl) ?hy) (h := ?_)
                  case hy => intro w hSw; (try dsimp only at hSw); go_simp <;> with_reducible rfl
                  try simp only [Act.put, List.setIfInBounds_toArray, List.set_cons_zero, List.set_cons_succ]
                  refine wpAnyH_skips (is := [77, 78, 79, 80, 81, 82, 83, 84, 85, 86, 87, 88, 89, 90, 91, 92, 93, 94, 95, 96, 97, 98, 99, 100]) (l' := #[true, true, true, true, true, true, true, true, true, true, true, true, true, true, true, true, true, true, true, true, true, true, true, true, true, true, true, true, true, true, true, true, true, true, true, true, true, true, true, true, true, true, true, true, true, true, true, true, true, true, true, true, true, true, true, true, true, true, true, true, true, true, true, true, true, true, true, true, true, true, true, true, true, true, true, true, true, true, true, true, true, true, true, true, true, true, true, true, true, true, true, true, true, true, true, true, true, true, true, true, true, false, false, false, false, false, false, false, false, false, false, false, false, false, false, false, false, false, false, false, false, false, false, false, false, false, false, false]) (by kernel_rfl) (fun d _ _ _ h => by cases d <;> exact h) (by assumption) (by kernel_rfl) (by kernel_rfl) ?_
                  refine' tkH 101 (hy := yldH (by rfl) ?hy) (h := ?_)
                  case hy => intro w hSw; (try dsimp only at hSw); go_simp <;> with_reducible rfl
                  try simp only [Act.put, List.setIfInBounds_toArray, List.set_cons_zero, List.set_cons_succ]
                  cases hQ3 : Q3
                  case false =>
                    as_aux_lemma =>
                      refine' tkH 102 (hy := yldH (by rfl) ?hy) (h := ?_)
                      case hy => intro w hSw; (try dsimp only at hSw); go_simp <;> with_reducible rfl
                      try simp only [Act.put, List.setIfInBounds_toArray, List.set_cons_zero, List.set_cons_succ]
                      refine wpAnyH_skips (is := [103, 104, 105, 106, 107, 108, 109, 110, 111, 112, 113, 114, 115, 116, 117, 118, 119, 120, 121, 122, 123, 124, 125]) (l' := #[true, true, true, true, true, true, true, true, true, true, true, true, true, true, true, true, true, true, true, true, true, true, true, true, true, true, true, true, true, true, true, true, true, true, true, true, true, true, true, true, true, true, true, true, true, true, true, true, true, true, true, true, true, true, true, true, true, true, true, true, true, true, true, true, true, true, true, true, true, true, true, true, true, true, true, true, true, true, true, true, true, true, true, true, true, true, true, true, true, true, true, true, true, true, true, true, true, true, true, true, true, true, true, true, true, true, true, true, true, true, true, true, true, true, true, true, true, true, true, true, true, true, true, true, true, true, false, false]) (by kernel_rfl) (fun d _ _ _ h => by cases d <;> exact h) (by assumption) (by kernel_rfl) (by kernel_rfl) ?_
                      refine' tkH 126 (hy := yldH (by rfl) ?hy) (h := ?_)
                      case hy => intro w hSw; (try dsimp only at hSw); go_simp <;> with_reducible rfl
                      try simp only [Act.put, List.setIfInBounds_toArray, List.set_cons_zero, List.set_cons_succ]
                      refine' tkH 127 (hy := yldH (by rfl) ?hy) (h := ?_)
                      case hy => intro w hSw; (try dsimp only at hSw); go_simp <;> with_reducible rfl
                      try simp only [Act.put, List.setIfInBounds_toArray, List.set_cons_zero, List.set_cons_succ]
                      refine wpAnyH_done (by kernel_rfl) ?_ _
                      go_wp2
                      go_meet
                      exact ⟨by simp [hQ0], hxk21⟩
                  as_aux_lemma =>
                    refine' tkH 102 (hy := yldH (by rfl) ?hy) (h := ?_)
                    case hy => intro w hSw; (try dsimp only at hSw); go_simp <;> with_reducible rfl
                    try simp only [Act.put, List.setIfInBounds_toArray, List.set_cons_zero, List.set_cons_succ]
                    refine wpAnyH_skips (is := [103, 104, 105, 106, 107, 108, 109, 110, 111, 112, 113, 114, 115, 116, 117, 118, 119, 120, 121, 122, 123, 124, 125]) (l' := #[true, true, true, true, true, true, true, true, true, true, true, true, true, true, true, true, true, true, true, true, true, true, true, true, true, true, true, true, true, true, true, true, true, true, true, true, true, true, true, true, true, true, true, true, true, true, true, true, true, true, true, true, true, true, true, true, true, true, true, true, true, true, true, true, true, true, true, true, true, true, true, true, true, true, true, true, true, true, true, true, true, true, true, true, true, true, true, true, true, true, true, true, true, true, true, true, true, true, true, true, true, true, true, true, true, true, true, true, true, true, true, true, true, true, true, true, true, true, true, true, true, true, true, true, true, true, false, false]) (by kernel_rfl) (fun d _ _ _ h => by cases d <;> exact h) (by assumption) (by kernel_rfl) (by kernel_rfl) ?_
                    refine' tkH 126 (hy := yldH (by rfl) ?hy) (h := ?_)
                    case hy => intro w hSw; (try dsimp only at hSw); go_simp <;> with_reducible rfl
                    try simp only [Act.put, List.setIfInBounds_toArray, List.set_cons_zero, List.set_cons_succ]
                    refine' tkH 127 (hy := yldH (by rfl) ?hy) (h := ?_)
                    case hy => intro w hSw; (try dsimp only at hSw); go_simp <;> with_reducible rfl
                    try simp only [Act.put, List.setIfInBounds_toArray, List.set_cons_zero, List.set_cons_succ]
                    refine wpAnyH_done (by kernel_rfl) ?_ _
                    go_wp2
                    go_meet
                    exact ⟨by simp [hQ0], hxk21⟩
          as_aux_lemma =>
            refine' tkH 22 (hy := yldH (by rfl) ?hy) (h := ?_)
            case hy => intro w hSw; (try dsimp only at hSw); go_simp <;> with_reducible rfl
            try simp only [Act.put, List.setIfInBounds_toArray, List.set_cons_zero, List.set_cons_succ]
            refine' tkH 23 (hy := yldH (by rfl) ?hy) (h := ?_)
            case hy => intro w hSw; (try dsimp only at hSw); go_simp <;> with_reducible rfl
            try simp only [Act.put, List.setIfInBounds_toArray, List.set_cons_zero, List.set_cons_succ]
            refine' tkH 24 (hy := yldH (by rfl) ?hy) (h := ?_)
            case hy => intro w hSw; (try dsimp only at hSw); go_simp <;> with_reducible rfl
            try simp only [Act.put, List.setIfInBounds_toArray, List.set_cons_zero, List.set_cons_succ]
            refine' tkH 25 (hy := yldH (by rfl) ?hy) (h := ?_)
            case hy => intro w hSw; (try dsimp only at hSw); go_simp <;> with_reducible rfl
            try simp only [Act.put, List.setIfInBounds_toArray, List.set_cons_zero, List.set_cons_succ]
            refine' tkH 26 (hy := yldH (by rfl) ?hy) (h := ?_)
            case hy => intro w hSw; (try dsimp only at hSw); go_simp <;> with_reducible rfl
            try simp only [Act.put, List.setIfInBounds_toArray, List.set_cons_zero, List.set_cons_succ]
            refine' tkH 27 (hy := yldH (by rfl) ?hy) (h := ?_)
            case hy => intro w hSw; (try dsimp only at hSw); go_simp <;> with_reducible rfl
            try simp only [Act.put, List.setIfInBounds_toArray, List.set_cons_zero, List.set_cons_succ]
            refine' tkH 28 (hy := yldH (by rfl) ?hy) (h := ?_)
            case hy => intro w hSw; (try dsimp only at hSw); go_simp <;> with_reducible rfl
            try simp only [Act.put, List.setIfInBounds_toArray, List.set_cons_zero, List.set_cons_succ]
            refine' tkH 29 (hy := yldH (by rfl) ?hy) (h := ?_)
            case hy => intro w hSw; (try dsimp only at hSw); go_simp <;> with_reducible rfl
            try simp only [Act.put, List.setIfInBounds_toArray, List.set_cons_zero, List.set_cons_succ]
            refine' tkH 30 (hy := yldH (by rfl) ?hy) (h := ?_)
            case hy => intro w hSw; (try dsimp only at hSw); go_simp <;> with_reducible rfl
            try simp only [Act.put, List.setIfInBounds_toArray, List.set_cons_zero, List.set_cons_succ]
            refine' tkH 32 (hy := yldH (by rfl) ?hy) (h := ?_)
            case hy => intro w hSw; (try dsimp only at hSw); go_simp <;> with_reducible rfl
            try simp only [Act.put, List.setIfInBounds_toArray, List.set_cons_zero, List.set_cons_succ]
            refine' tkH 33 (hy := yldH (by rfl) ?hy) (h := ?_)
            case hy => intro w hSw; (try dsimp only at hSw); go_simp <;> with_reducible rfl
            try simp only [Act.put, List.setIfInBounds_toArray, List.set_cons_zero, List.set_cons_succ]
            refine' tkH 34 (hy := yldH (by rfl) ?hy) (h := ?_)
            case hy => intro w hSw; (try dsimp only at hSw); go_simp <;> with_reducible rfl
            try simp only [Act.put, List.setIfInBounds_toArray, List.set_cons_zero, List.set_cons_succ]
            refine' tkH 35 (hy := yldH (by rfl) ?hy) (h := ?_)
            case hy => intro w hSw; (try dsimp only at hSw); go_simp <;> with_reducible rfl
            try simp only [Act.put, List.setIfInBounds_toArray, List.set_cons_zero, List.set_cons_succ]
            refine' tkH 36 (hy := yldH (by rfl) ?hy) (h := ?_)
            case hy => intro w hSw; (try dsimp only at hSw); go_simp <;> with_reducible rfl
            try simp only [Act.put, List.setIfInBounds_toArray, List.set_cons_zero, List.set_cons_succ]
            refine' tkH 37 (hy := yldH (by rfl) ?hy) (h := ?_)
            case hy => intro w hSw; (try dsimp only at hSw); go_simp <;> with_reducible rfl
            try simp only [Act.put, List.setIfInBounds_toArray, List.set_cons_zero, List.set_cons_succ]
            refine' tkH 38 (hy := yldH (by rfl) ?hy) (h := ?_)
            case hy => intro w hSw; (try dsimp only at hSw); go_simp <;> with_reducible rfl
            try simp only [Act.put, List.setIfInBounds_toArray, List.set_cons_zero, List.set_cons_succ]
            refine' tkH 40 (hy := yldH (by rfl) ?hy) (h := ?_)
            case hy => intro w hSw; (try dsimp only at hSw); go_simp <;> with_reducible rfl
            try simp only [Act.put, List.setIfInBounds_toArray, List.set_cons_zero, List.set_cons_succ]
            refine' tkH 41 (hy := yldH (by rfl) ?hy) (h := ?_)
            case hy => intro w hSw; (try dsimp only at hSw); go_simp <;> with_reducible rfl
            try simp only [Act.put, List.setIfInBounds_toArray, List.set_cons_zero, List.set_cons_succ]
            refine' tkH 42 (hy := yldH (by rfl) ?hy) (h := ?_)
            case hy => intro w hSw; (try dsimp only at hSw); go_simp <;> with_reducible rfl
            try simp only [Act.put, List.setIfInBounds_toArray, List.set_cons_zero, List.set_cons_succ]
            refine' tkH 43 (hy := yldH (by rfl) ?hy) (h := ?_)
            case hy => intro w hSw; (try dsimp only at hSw); go_simp <;> with_reducible rfl
            try simp only [Act.put, List.setIfInBounds_toArray, List.set_cons_zero, List.set_cons_succ]
            refine wpAnyH_one (i := 31) (by kernel_rfl) (by simp only [List.getElem?_toArray, List.getElem?_cons_succ, List.getElem?_cons_zero]; rfl) (by kernel_rfl) (fun KK hKK => ?_)
            go_simp
            go_at_call 112
            refine (C31.out _ (by repeat (first | with_reducible assumption | with_reducible exact Ext.refl _ | with_reducible apply Ext.alloc | with_reducible apply Ext.drew | with_reducible apply Ext.drewN))).mono ?_
            rintro ek wk31 ⟨rfl, hbk31⟩
            have hxk31 := Ext.trans (w := Wc) (by repeat (first | with_reducible assumption | with_reducible exact Ext.refl _ | with_reducible apply Ext.alloc | with_reducible apply Ext.drew | with_reducible apply Ext.drewN)) hbk31
            refine hKK.out _ _ ?_ (fun hHeld => ?_)
            · exact hS _ (by repeat (first | with_reducible assumption | with_reducible exact Ext.refl _ | with_reducible apply Ext.alloc | with_reducible apply Ext.drew | with_reducible apply Ext.drewN))
            clear hKK KK
            try simp only [Act.put, List.setIfInBounds_toArray, List.set_cons_zero, List.set_cons_succ]
            refine wpAnyH_one (i := 39) (by kernel_rfl) (by simp only [List.getElem?_toArray, List.getElem?_cons_succ, List.getElem?_cons_zero]; rfl) (by kernel_rfl) (fun KK hKK => ?_)
            go_simp
            go_at_call 49
            refine (C39.out _ (by repeat (first | with_reducible assumption | with_reducible exact Ext.refl _ | with_reducible apply Ext.alloc | with_reducible apply Ext.drew | with_reducible apply Ext.drewN))).mono ?_
            rintro ek wk39 ⟨rfl, hbk39⟩
            have hxk39 := Ext.trans (w := Wc) (by repeat (first | with_reducible assumption | with_reducible exact Ext.refl _ | with_reducible apply Ext.alloc | with_reducible apply Ext.drew | with_reducible apply Ext.drewN)) hbk39
            refine hKK.out _ _ ?_ (fun hHeld => ?_)
            · exact hS _ (by repeat (first | with_reducible assumption | with_reducible exact Ext.refl _ | with_reducible apply Ext.alloc | with_reducible apply Ext.drew | with_reducible apply Ext.drewN))
            clear hKK KK
            try simp only [Act.put, List.setIfInBounds_toArray, List.set_cons_zero, List.set_cons_succ]
            refine wpAnyH_one (i := 44) (by kernel_rfl) (by simp only [List.getElem?_toArray, List.getElem?_cons_succ, List.getElem?_cons_zero]; rfl) (by kernel_rfl) (fun KK hKK => ?_)
            go_simp
            go_at_call 112
            refine (C44.out _ (by repeat (first | with_reducible assumption | with_reducible exact Ext.refl _ | with_reducible apply Ext.alloc | with_reducible apply Ext.drew | with_reducible apply Ext.drewN))).mono ?_
            rintro ek wk44 ⟨rfl, hbk44⟩
            have hxk44 := Ext.trans (w := Wc) (by repeat (first | with_reducible assumption | with_reducible exact Ext.refl _ | with_reducible apply Ext.alloc | with_reducible apply Ext.drew | with_reducible apply Ext.drewN)) hbk44
            refine hKK.out _ _ ?_ (fun hHeld => ?_)
            · exact hS _ (by repeat (first | with_reducible assumption | with_reducible exact Ext.refl _ | with_reducible apply Ext.alloc | with_reducible apply Ext.drew | with_reducible apply Ext.drewN))
            clear hKK KK
            try simp only [Act.put, List.setIfInBounds_toArray, List.set_cons_zero, List.set_cons_succ]
            refine wpAnyH_one (i := 45) (by kernel_rfl) (by simp only [List.getElem?_toArray, List.getElem?_cons_succ, List.getElem?_cons_zero]; rfl) (by kernel_rfl) (fun KK hKK => ?_)
            go_simp
            refine hKK.out _ _ ?_ (fun hHeld => ?_)
            · exact hS _ (by repeat (first | with_reducible assumption | with_reducible exact Ext.refl _ | with_reducible apply Ext.alloc | with_reducible apply Ext.drew | with_reducible apply Ext.drewN))
            clear hKK KK
            try simp only [Act.put, List.setIfInBounds_toArray, List.set_cons_zero, List.set_cons_succ]
            refine wpAnyH_one (i := 46) (by kernel_rfl) (by simp only [List.getElem?_toArray, List.getElem?_cons_succ, List.getElem?_cons_zero]; rfl) (by kernel_rfl) (fun KK hKK => ?_)
            go_simp
            go_at_call 84
            refine (C46.out _ _ (by repeat (first | with_reducible assumption | with_reducible exact Ext.refl _ | with_reducible apply Ext.alloc | with_reducible apply Ext.drew | with_reducible apply Ext.drewN)) (rd_twoV (w := wk44) rfl (by repeat (first | with_reducible assumption | with_reducible exact Ext.refl _ | with_reducible apply Ext.alloc | with_reducible apply Ext.drew | with_reducible apply Ext.drewN)))).mono ?_
            rintro ek wk46 ⟨rfl, hbk46⟩
            have hxk46 := Ext.trans (w := Wc) (by repeat (first | with_reducible assumption | with_reducible exact Ext.refl _ | with_reducible apply Ext.alloc | with_reducible apply Ext.drew | with_reducible apply Ext.drewN)) hbk46
            refine hKK.out _ _ ?_ (fun hHeld => ?_)
            · exact hS _ (by repeat (first | with_reducible assumption | with_reducible exact Ext.refl _ | with_reducible apply Ext.alloc | with_reducible apply Ext.drew | with_reducible apply Ext.drewN))
            clear hKK KK
            try simp only [Act.put, List.setIfInBounds_toArray, List.set_cons_zero, List.set_cons_succ]
            refine wpAnyH_one (i := 47) (by kernel_rfl) (by simp only [List.getElem?_toArray, List.getElem?_cons_succ, List.getElem?_cons_zero]; rfl) (by kernel_rfl) (fun KK hKK => ?_)
            go_simp
            refine (C47.out _ (by repeat (first | with_reducible assumption | with_reducible exact Ext.refl _ | with_reducible apply Ext.alloc | with_reducible apply Ext.drew | with_reducible apply Ext.drewN))).mono ?_
            rintro ek wk47 ⟨rfl, hbk47⟩
            have hxk47 := Ext.trans (w := Wc) (by repeat (first | with_reducible assumption | with_reducible exact Ext.refl _ | with_reducible apply Ext.alloc | with_reducible apply Ext.drew | with_reducible apply Ext.drewN)) hbk47
            refine hKK.out _ _ ?_ (fun hHeld => ?_)
            · exact hS _ (by repeat (first | with_reducible assumption | with_reducible exact Ext.refl _ | with_reducible apply Ext.alloc | with_reducible apply Ext.drew | with_reducible apply Ext.drewN))
            clear hKK KK
            try simp only [Act.put, List.setIfInBounds_toArray, List.set_cons_zero, List.set_cons_succ]
            refine' tkH 48 (hy := yldH (by rfl) ?hy) (h := ?_)
            case hy => intro w hSw; (try dsimp only at hSw); go_simp <;> with_reducible rfl
            try simp only [Act.put, List.setIfInBounds_toArray, List.set_cons_zero, List.set_cons_succ]
            cases hQ1 : Q1
            case false =>
              as_aux_lemma =>
                refine' tkH 49 (hy := yldH (by rfl) ?hy) (h := ?_)
                case hy => intro w hSw; (try dsimp only at hSw); go_simp <;> with_reducible rfl
                try simp only [Act.put, List.setIfInBounds_toArray, List.set_cons_zero, List.set_cons_succ]
                refine wpAnyH_skips (is := [50, 51, 52, 53, 54, 55, 56, 57, 58, 59, 60, 61, 62, 63, 64, 65, 66, 67, 68, 69, 70, 71, 72, 73, 74]) (l' := #[true, true, true, true, true, true, true, true, true, true, true, true, true, true, true, true, true, true, true, true, true, true, true, true, true, true, true, true, true, true, true, true, true, true, true, true, true, true, true, true, true, true, true, true, true, true, true, true, true, true, true, true, true, true, true, true, true, true, true, true, true, true, true, true, true, true, true, true, true, true, true, true, true, true, true, false, false, false, false, false, false, false, false, false, false, false, false, false, false, false, false, false, false, false, false, false, false, false, false, false, false, false, false, false, false, false, false, false, false, false, false, false, false, false, false, false, false, false, false, false, false, false, false, false, false, false, false, false]) (by kernel_rfl) (fun d _ _ _ h => by cases d <;> exact h) (by assumption) (by kernel_rfl) (by kernel_rfl) ?_
                refine' tkH 75 (hy := yldH (by rfl) ?hy) (h := ?_)
                case hy => intro w hSw; (try dsimp only at hSw); go_simp <;> with_reducible rfl
                try simp only [Act.put, List.setIfInBounds_toArray, List.set_cons_zero, List.set_cons_succ]
                cases hQ2 : Q2
                case false =>
                  as_aux_lemma =>
                    refine' tkH 76 (hy := yldH (by rfl) ?hy) (h := ?_)
                    case hy => intro w hSw; (try dsimp only at hSw); go_simp <;> with_reducible rfl
                    try simp only [Act.put, List.setIfInBounds_toArray, List.set_cons_zero, List.set_cons_succ]
                    refine wpAnyH_skips (is := [77, 78, 79, 80, 81, 82, 83, 84, 85, 86, 87, 88, 89, 90, 91, 92, 93, 94, 95, 96, 97, 98, 99, 100]) (l' := #[true, true, true, true, true, true, true, true, true, true, true, true, true, true, true, true, true, true, true, true, true, true, true, true, true, true, true, true, true, true, true, true, true, true, true, true, true, true, true, true, true, true, true, true, true, true, true, true, true, true, true, true, true, true, true, true, true, true, true, true, true, true, true, true, true, true, true, true, true, true, true, true, true, true, true, true, true, true, true, true, true, true, true, true, true, true, true, true, true, true, true, true, true, true, true, true, true, true, true, true, true, false, false, false, false, false, false, false, false, false, false, false, false, false, false, false, false, false, false, false, false, false, false, false, false, false, false, false]) (by kernel_rfl) (fun d _ _ _ h => by cases d <;> exact h) (by assumption) (by kernel_rfl) (by kernel_rfl) ?_
                    refine' tkH 101 (hy := yldH (by rfl) ?hy) (h := ?_)
                    case hy => intro w hSw; (try dsimp only at hSw); go_simp <;> with_reducible rfl
                    try simp only [Act.put, List.setIfInBounds_toArray, List.set_cons_zero, List.set_cons_succ]
                    cases hQ3 : Q3
                    case false =>
                      as_aux_lemma =>
                        refine' tkH 102 (hy := yldH (by rfl) ?hy) (h := ?_)
                        case hy => intro w hSw; (try dsimp only at hSw); go_simp <;> with_reducible rfl
                        try simp only [Act.put, List.setIfInBounds_toArray, List.set_cons_zero, List.set_cons_succ]
                        refine wpAnyH_skips (is := [103, 104, 105, 106, 107, 108, 109, 110, 111, 112, 113, 114, 115, 116, 117, 118, 119, 120, 121, 122, 123, 124, 125]) (l' := #[true, true, true, true, true, true, true, true, true, true, true, true, true, true, true, true, true, true, true, true, true, true, true, true, true, true, true, true, true, true, true, true, true, true, true, true, true, true, true, true, true, true, true, true, true, true, true, true, true, true, true, true, true, true, true, true, true, true, true, true, true, true, true, true, true, true, true, true, true, true, true, true, true, true, true, true, true, true, true, true, true, true, true, true, true, true, true, true, true, true, true, true, true, true, true, true, true, true, true, true, true, true, true, true, true, true, true, true, true, true, true, true, true, true, true, true, true, true, true, true, true, true, true, true, true, true, false, false]) (by kernel_rfl) (fun d _ _ _ h => by cases d <;> exact h) (by assumption) (by kernel_rfl) (by kernel_rfl) ?_
                        refine' tkH 126 (hy := yldH (by rfl) ?hy) (h := ?_)
                        case hy => intro w hSw; (try dsimp only at hSw); go_simp <;> with_reducible rfl
                        try simp only [Act.put, List.setIfInBounds_toArray, List.set_cons_zero, List.set_cons_succ]
                        refine' tkH 127 (hy := yldH (by rfl) ?hy) (h := ?_)
                        case hy => intro w hSw; (try dsimp only at hSw); go_simp <;> with_reducible rfl
                        try simp only [Act.put, List.setIfInBounds_toArray, List.set_cons_zero, List.set_cons_succ]
                        refine wpAnyH_done (by kernel_rfl) ?_ _
                        go_wp2
                        go_meet
                        exact ⟨by simp [hQ0, hQ1], hxk47⟩
                    as_aux_lemma =>
                      refine' tkH 102 (hy := yldH (by rfl) ?hy) (h := ?_)
                      case hy => intro w hSw; (try dsimp only at hSw); go_simp <;> with_reducible rfl
                      try simp only [Act.put, List.setIfInBounds_toArray, List.set_cons_zero, List.set_cons_succ]
                      refine wpAnyH_skips (is := [103, 104, 105, 106, 107, 108, 109, 110, 111, 112, 113, 114, 115, 116, 117, 118, 119, 120, 121, 122, 123, 124, 125]) (l' := #[true, true, true, true, true, true, true, true, true, true, true, true, true, true, true, true, true, true, true, true, true, true, true, true, true, true, true, true, true, true, true, true, true, true, true, true, true, true, true, true, true, true, true, true, true, true, true, true, true, true, true, true, true, true, true, true, true, true, true, true, true, true, true, true, true, true, true, true, true, true, true, true, true, true, true, true, true, true, true, true, true, true, true, true, true, true, true, true, true, true, true, true, true, true, true, true, true, true, true, true, true, true, true, true, true, true, true, true, true, true, true, true, true, true, true, true, true, true, true, true, true, true, true, true, true, true, false, false]) (by kernel_rfl) (fun d _ _ _ h => by cases d <;> exact h) (by assumption) (by kernel_rfl) (by kernel_rfl) ?_
                      refine' tkH 126 (hy := yldH (by rfl) ?hy) (h := ?_)
                      case hy => intro w hSw; (try dsimp only at hSw); go_simp <;> with_reducible rfl
                      try simp only [Act.put, List.setIfInBounds_toArray, List.set_cons_zero, List.set_cons_succ]
                      refine' tkH 127 (hy := yldH (by rfl) ?hy) (h := ?_)
                      case hy => intro w hSw; (try dsimp only at hSw); go_simp <;> with_reducible rfl
                      try simp only [Act.put, List.setIfInBounds_toArray, List.set_cons_zero, List.set_cons_succ]
                      refine wpAnyH_done (by kernel_rfl) ?_ _
                      go_wp2
                      go_meet
                      exact ⟨by simp [hQ0, hQ1], hxk47⟩
                as_aux_lemma =>
                  refine' tkH 76 (hy := yldH (by rfl) ?hy) (h := ?_)
                  case hy => intro w hSw; (try dsimp only at hSw); go_simp <;> with_reducible rfl
                  try simp only [Act.put, List.setIfInBounds_toArray, List.set_cons_zero, List.set_cons_succ]
                  refine wpAnyH_skips (is := [77, 78, 79, 80, 81, 82, 83, 84, 85, 86, 87, 88, 89, 90, 91, 92, 93, 94, 95, 96, 97, 98, 99, 100]) (l' := #[true, true, true, true, true, true, true, true, true, true, true, true, true, true, true, true, true, true, true, true, true, true, true, true, true, true, true, true, true, true, true, true, true, true, true, true, true, true, true, true, true, true, true, true, true, true, true, true, true, true, true, true, true, true, true, true, true, true, true, true, true, true, true, true, true, true, true, true, true, true, true, true, true, true, true, true, true, true, true, true, true, true, true, true, true, true, true, true, true, true, true, true, true, true, true, true, true, true, true, true, true, false, false, false, false, false, false, false, false, false, false, false, false, false, false, false, false, false, false, false, false, false, false, false, false, false, false, false]) (by kernel_rfl) (fun d _ _ _ h => by cases d <;> exact h) (by assumption) (by kernel_rfl) (by kernel_rfl) ?_
                  refine' tkH 101 (hy := yldH (by rfl) ?hy) (h := ?_)
                  case hy => intro w hSw; (try dsimp only at hSw); go_simp <;> with_reducible rfl
                  try simp only [Act.put, List.setIfInBounds_toArray, List.set_cons_zero, List.set_cons_succ]
                  cases hQ3 : Q3
                  case false =>
                    as_aux_lemma =>
                      refine' tkH 102 (hy := yldH (by rfl) ?hy) (h := ?_)
                      case hy => intro w hSw; (try dsimp only at hSw); go_simp <;> with_reducible rfl
                      try simp only [Act.put, List.setIfInBounds_toArray, List.set_cons_zero, List.set_cons_succ]
                      refine wpAnyH_skips (is := [103, 104, 105, 106, 107, 108, 109, 110, 111, 112, 113, 114, 115, 116, 117, 118, 119, 120, 121, 122, 123, 124, 125]) (l' := #[true, true, true, true, true, true, true, true, true, true, true, true, true, true, true, true, true, true, true, true, true, true, true, true, true, true, true, true, true, true, true, true, true, true, true, true, true, true, true, true, true, true, true, true, true, true, true, true, true, true, true, true, true, true, true, true, true, true, true, true, true, true, true, true, true, true, true, true, true, true, true, true, true, true, true, true, true, true, true, true, true, true, true, true, true, true, true, true, true, true, true, true, true, true, true, true, true, true, true, true, true, true, true, true, true, true, true, true, true, true, true, true, true, true, true, true, true, true, true, true, true, true, true, true, true, true, false, false]) (by kernel_rfl) (fun d _ _ _ h => by cases d <;> exact h) (by assumption) (by kernel_rfl) (by kernel_rfl) ?_
                      refine' tkH 126 (hy := yldH (by rfl) ?hy) (h := ?_)
                      case hy => intro w hSw; (try dsimp only at hSw); go_simp <;> with_reducible rfl
                      try simp only [Act.put, List.setIfInBounds_toArray, List.set_cons_zero, List.set_cons_succ]
                      refine' tkH 127 (hy := yldH (by rfl) ?hy) (h := ?_)
                      case hy => intro w hSw; (try dsimp only at hSw); go_simp <;> with_reducible rfl
                      try simp only [Act.put, List.setIfInBounds_toArray, List.set_cons_zero, List.set_cons_succ]
                      refine wpAnyH_done (by kernel_rfl) ?_ _
                      go_wp2
                      go_meet
                      exact ⟨by simp [hQ0, hQ1], hxk47⟩
                  as_aux_lemma =>
                    refine' tkH 102 (hy := yldH (by rfl) ?hy) (h := ?_)
                    case hy => intro w hSw; (try dsimp only at hSw); go_simp <;> with_reducible rfl
                    try simp only [Act.put, List.setIfInBounds_toArray, List.set_cons_zero, List.set_cons_succ]
                    refine wpAnyH_skips (is := [103, 104, 105, 106, 107, 108, 109, 110, 111, 112, 113, 114, 115, 116, 117, 118, 119, 120, 121, 122, 123, 124, 125]) (l' := #[true, true, true, true, true, true, true, true, true, true, true, true, true, true, true, true, true, true, true, true, true, true, true, true, true, true, true, true, true, true, true, true, true, true, true, true, true, true, true, true, true, true, true, true, true, true, true, true, true, true, true, true, true, true, true, true, true, true, true, true, true, true, true, true, true, true, true, true, true, true, true, true, true, true, true, true, true, true, true, true, true, true, true, true, true, true, true, true, true, true, true, true, true, true, true, true, true, true, true, true, true, true, true, true, true, true, true, true, true, true, true, true, true, true, true, true, true, true, true, true, true, true, true, true, true, true, false, false]) (by kernel_rfl) (fun d _ _ _ h => by cases d <;> exact h) (by assumption) (by kernel_rfl) (by kernel_rfl) ?_
                    refine' tkH 126 (hy := yldH (by rfl) ?hy) (h := ?_)
                    case hy => intro w hSw; (try dsimp only at hSw); go_simp <;> with_reducible rfl
                    try simp only [Act.put, List.setIfInBounds_toArray, List.set_cons_zero, List.set_cons_succ]
                    refine' tkH 127 (hy := yldH (by rfl) ?hy) (h := ?_)
                    case hy => intro w hSw; (try dsimp only at hSw); go_simp <;> with_reducible rfl
                    try simp only [Act.put, List.setIfInBounds_toArray, List.set_cons_zero, List.set_cons_succ]
                    refine wpAnyH_done (by kernel_rfl) ?_ _
                    go_wp2
                    go_meet
                    exact ⟨by simp [hQ0, hQ1], hxk47⟩
            as_aux_lemma =>
              refine' tkH 49 (hy := yldH (by rfl) ?hy) (h := ?_)
              case hy => intro w hSw; (try dsimp only at hSw); go_simp <;> with_reducible rfl
              try simp only [Act.put, List.setIfInBounds_toArray, List.set_cons_zero, List.set_cons_succ]
              refine' tkH 50 (hy := yldH (by rfl) ?hy) (h := ?_)
              case hy => intro w hSw; (try dsimp only at hSw); go_simp <;> with_reducible rfl
              try simp only [Act.put, List.setIfInBounds_toArray, List.set_cons_zero, List.set_cons_succ]
              refine' tkH 51 (hy := yldH (by rfl) ?hy) (h := ?_)
              case hy => intro w hSw; (try dsimp only at hSw); go_simp <;> with_reducible rfl
              try simp only [Act.put, List.setIfInBounds_toArray, List.set_cons_zero, List.set_cons_succ]
              refine' tkH 52 (hy := yldH (by rfl) ?hy) (h := ?_)
              case hy => intro w hSw; (try dsimp only at hSw); go_simp <;> with_reducible rfl
              try simp only [Act.put, List.setIfInBounds_toArray, List.set_cons_zero, List.set_cons_succ]
              refine' tkH 53 (hy := yldH (by rfl) ?hy) (h := ?_)
              case hy => intro w hSw; (try dsimp only at hSw); go_simp <;> with_reducible rfl
              try simp only [Act.put, List.setIfInBounds_toArray, List.set_cons_zero, List.set_cons_succ]
              refine' tkH 54 (hy := yldH (by rfl) ?hy) (h := ?_)
              case hy => intro w hSw; (try dsimp only at hSw); go_simp <;> with_reducible rfl
              try simp only [Act.put, List.setIfInBounds_toArray, List.set_cons_zero, List.set_cons_succ]
              refine' tkH 55 (hy := yldH (by rfl) ?hy) (h := ?_)
              case hy => intro w hSw; (try dsimp only at hSw); go_simp <;> with_reducible rfl
              try simp only [Act.put, List.setIfInBounds_toArray, List.set_cons_zero, List.set_cons_succ]
              refine' tkH 56 (hy := yldH (by rfl) ?hy) (h := ?_)
              case hy => intro w hSw; (try dsimp only at hSw); go_simp <;> with_reducible rfl
              try simp only [Act.put, List.setIfInBounds_toArray, List.set_cons_zero, List.set_cons_succ]
              refine' tkH 57 (hy := yldH (by rfl) ?hy) (h := ?_)
              case hy => intro w hSw; (try dsimp only at hSw); go_simp <;> with_reducible rfl
              try simp only [Act.put, List.setIfInBounds_toArray, List.set_cons_zero, List.set_cons_succ]
              refine' tkH 58 (hy := yldH (by rfl) ?hy) (h := ?_)
              case hy => intro w hSw; (try dsimp only at hSw); go_simp <;> with_reducible rfl
              try simp only [Act.put, List.setIfInBounds_toArray, List.set_cons_zero, List.set_cons_succ]
              refine' tkH 59 (hy := yldH (by rfl) ?hy) (h := ?_)
              case hy => intro w hSw; (try dsimp only at hSw); go_simp <;> with_reducible rfl
              try simp only [Act.put, List.setIfInBounds_toArray, List.set_cons_zero, List.set_cons_succ]
              refine' tkH 60 (hy := yldH (by rfl) ?hy) (h := ?_)
              case hy => intro w hSw; (try dsimp only at hSw); go_simp <;> with_reducible rfl
              try simp only [Act.put, List.setIfInBounds_toArray, List.set_cons_zero, List.set_cons_succ]
              refine' tkH 61 (hy := yldH (by rfl) ?hy) (h := ?_)
              case hy => intro w hSw; (try dsimp only at hSw); go_simp <;> with_reducible rfl
              try simp only [Act.put, List.setIfInBounds_toArray, List.set_cons_zero, List.set_cons_succ]
              refine' tkH 62 (hy := yldH (by rfl) ?hy) (h := ?_)
              case hy => intro w hSw; (try dsimp only at hSw); go_simp <;> with_reducible rfl
              try simp only [Act.put, List.setIfInBounds_toArray, List.set_cons_zero, List.set_cons_succ]
              refine' tkH 63 (hy := yldH (by rfl) ?hy) (h := ?_)
              case hy => intro w hSw; (try dsimp only at hSw); go_simp <;> with_reducible rfl
              try simp only [Act.put, List.setIfInBounds_toArray, List.set_cons_zero, List.set_cons_succ]
              refine' tkH 64 (hy := yldH (by rfl) ?hy) (h := ?_)
              case hy => intro w hSw; (try dsimp only at hSw); go_simp <;> with_reducible rfl
              try simp only [Act.put, List.setIfInBounds_toArray, List.set_cons_zero, List.set_cons_succ]
              refine' tkH 67 (hy := yldH (by rfl) ?hy) (h := ?_)
              case hy => intro w hSw; (try dsimp only at hSw); go_simp <;> with_reducible rfl
              try simp only [Act.put, List.setIfInBounds_toArray, List.set_cons_zero, List.set_cons_succ]
              refine' tkH 68 (hy := yldH (by rfl) ?hy) (h := ?_)
              case hy => intro w hSw; (try dsimp only at hSw); go_simp <;> with_reducible rfl
              try simp only [Act.put, List.setIfInBounds_toArray, List.set_cons_zero, List.set_cons_succ]
              refine' tkH 69 (hy := yldH (by rfl) ?hy) (h := ?_)
              case hy => intro w hSw; (try dsimp only at hSw); go_simp <;> with_reducible rfl
              try simp only [Act.put, List.setIfInBounds_toArray, List.set_cons_zero, List.set_cons_succ]
              refine' tkH 70 (hy := yldH (by rfl) ?hy) (h := ?_)
              case hy => intro w hSw; (try dsimp only at hSw); go_simp <;> with_reducible rfl
              try simp only [Act.put, List.setIfInBounds_toArray, List.set_cons_zero, List.set_cons_succ]
              refine' tkH 71 (hy := yldH (by rfl) ?hy) (h := ?_)
              case hy => intro w hSw; (try dsimp only at hSw); go_simp <;> with_reducible rfl
              try simp only [Act.put, List.setIfInBounds_toArray, List.set_cons_zero, List.set_cons_succ]
              refine' tkH 72 (hy := yldH (by rfl) ?hy) (h := ?_)
              case hy => intro w hSw; (try dsimp only at hSw); go_simp <;> with_reducible rfl
              try simp only [Act.put, List.setIfInBounds_toArray, List.set_cons_zero, List.set_cons_succ]
              refine wpAnyH_one (i := 65) (by kernel_rfl) (by simp only [List.getElem?_toArray, List.getElem?_cons_succ, List.getElem?_cons_zero]; rfl) (by kernel_rfl) (fun KK hKK => ?_)
              go_simp
              go_at_call 49
              refine (C65.out _ (by repeat (first | with_reducible assumption | with_reducible exact Ext.refl _ | with_reducible apply Ext.alloc | with_reducible apply Ext.drew | with_reducible apply Ext.drewN))).mono ?_
              rintro ek wk65 ⟨rfl, hbk65⟩
              have hxk65 := Ext.trans (w := Wc) (by repeat (first | with_reducible assumption | with_reducible exact Ext.refl _ | with_reducible apply Ext.alloc | with_reducible apply Ext.drew | with_reducible apply Ext.drewN)) hbk65
              refine hKK.out _ _ ?_ (fun hHeld => ?_)
              · exact hS _ (by repeat (first | with_reducible assumption | with_reducible exact Ext.refl _ | with_reducible apply Ext.alloc | with_reducible apply Ext.drew | with_reducible apply Ext.drewN))
              clear hKK KK
              try simp only [Act.put, List.setIfInBounds_toArray, List.set_cons_zero, List.set_cons_succ]
              refine wpAnyH_one (i := 66) (by kernel_rfl) (by simp only [List.getElem?_toArray, List.getElem?_cons_succ, List.getElem?_cons_zero]; rfl) (by kernel_rfl) (fun KK hKK => ?_)
              go_simp
              go_at_call 111
              refine (C66.out _ (by repeat (first | with_reducible assumption | with_reducible exact Ext.refl _ | with_reducible apply Ext.alloc | with_reducible apply Ext.drew | with_reducible apply Ext.drewN))).mono ?_
              rintro ek wk66 ⟨rfl, hbk66⟩
              have hxk66 := Ext.trans (w := Wc) (by repeat (first | with_reducible assumption | with_reducible exact Ext.refl _ | with_reducible apply Ext.alloc | with_reducible apply Ext.drew | with_reducible apply Ext.drewN)) hbk66
              refine hKK.out _ _ ?_ (fun hHeld => ?_)
              · exact hS _ (by repeat (first | with_reducible assumption | with_reducible exact Ext.refl _ | with_reducible apply Ext.alloc | with_reducible apply Ext.drew | with_reducible apply Ext.drewN))
              clear hKK KK
              try simp only [Act.put, List.setIfInBounds_toArray, List.set_cons_zero, List.set_cons_succ]
              refine wpAnyH_one (i := 73) (by kernel_rfl) (by simp only [List.getElem?_toArray, List.getElem?_cons_succ, List.getElem?_cons_zero]; rfl) (by kernel_rfl) (fun KK hKK => ?_)
              go_simp
              go_at_call 49
              refine (C73.out _ (by repeat (first | with_reducible assumption | with_reducible exact Ext.refl _ | with_reducible apply Ext.alloc | with_reducible apply Ext.drew | with_reducible apply Ext.drewN))).mono ?_
              rintro ek wk73 ⟨rfl, hbk73⟩
              have hxk73 := Ext.trans (w := Wc) (by repeat (first | with_reducible assumption | with_reducible exact Ext.refl _ | with_reducible apply Ext.alloc | with_reducible apply Ext.drew | with_reducible apply Ext.drewN)) hbk73
              refine hKK.out _ _ ?_ (fun hHeld => ?_)
              · exact hS _ (by repeat (first | with_reducible assumption | with_reducible exact Ext.refl _ | with_reducible apply Ext.alloc | with_reducible apply Ext.drew | with_reducible apply Ext.drewN))
              clear hKK KK
              try simp only [Act.put, List.setIfInBounds_toArray, List.set_cons_zero, List.set_cons_succ]
              refine wpAnyH_one (i := 74) (by kernel_rfl) (by simp only [List.getElem?_toArray, List.getElem?_cons_succ, List.getElem?_cons_zero]; rfl) (by kernel_rfl) (fun KK hKK => ?_)
              go_simp
              refine (C74.out _ (by repeat (first | with_reducible assumption | with_reducible exact Ext.refl _ | with_reducible apply Ext.alloc | with_reducible apply Ext.drew | with_reducible apply Ext.drewN))).mono ?_
              rintro ek wk74 ⟨rfl, hbk74⟩
              have hxk74 := Ext.trans (w := Wc) (by repeat (first | with_reducible assumption | with_reducible exact Ext.refl _ | with_reducible apply Ext.alloc | with_reducible apply Ext.drew | with_reducible apply Ext.drewN)) hbk74
              refine hKK.out _ _ ?_ (fun hHeld => ?_)
              · exact hS _ (by repeat (first | with_reducible assumption | with_reducible exact Ext.refl _ | with_reducible apply Ext.alloc | with_reducible apply Ext.drew | with_reducible apply Ext.drewN))
              clear hKK KK
              try simp only [Act.put, List.setIfInBounds_toArray, List.set_cons_zero, List.set_cons_succ]
              refine' tkH 75 (hy := yldH (by rfl) ?hy) (h := ?_)
              case hy => intro w hSw; (try dsimp only at hSw); go_simp <;> with_reducible rfl
              try simp only [Act.put, List.setIfInBounds_toArray, List.set_cons_zero, List.set_cons_succ]
              cases hQ2 : Q2
              case false =>
                as_aux_lemma =>
                  refine' tkH 76 (hy := yldH (by rfl) ?hy) (h := ?_)
                  case hy => intro w hSw; (try dsimp only at hSw); go_simp <;> with_reducible rfl
                  try simp only [Act.put, List.setIfInBounds_toArray, List.set_cons_zero, List.set_cons_succ]
                  refine wpAnyH_skips (is := [77, 78, 79, 80, 81, 82, 83, 84, 85, 86, 87, 88, 89, 90, 91, 92, 93, 94, 95, 96, 97, 98, 99, 100]) (l' := #[true, true, true, true, true, true, true, true, true, true, true, true, true, true, true, true, true, true, true, true, true, true, true, true, true, true, true, true, true, true, true, true, true, true, true, true, true, true, true, true, true, true, true, true, true, true, true, true, true, true, true, true, true, true, true, true, true, true, true, true, true, true, true, true, true, true, true, true, true, true, true, true, true, true, true, true, true, true, true, true, true, true, true, true, true, true, true, true, true, true, true, true, true, true, true, true, true, true, true, true, true, false, false, false, false, false, false, false, false, false, false, false, false, false, false, false, false, false, false, false, false, false, false, false, false, false, false, false]) (by kernel_rfl) (fun d _ _ _ h => by cases d <;> exact h) (by assumption) (by kernel_rfl) (by kernel_rfl) ?_
                  refine' tkH 101 (hy := yldH (by rfl) ?hy) (h := ?_)
                  case hy => intro w hSw; (try dsimp only at hSw); go_simp <;> with_reducible rfl
                  try simp only [Act.put, List.setIfInBounds_toArray, List.set_cons_zero, List.set_cons_succ]
                  cases hQ3 : Q3
                  case false =>
                    as_aux_lemma =>
                      refine' tkH 102 (hy := yldH (by rfl) ?hy) (h := ?_)
                      case hy => intro w hSw; (try dsimp only at hSw); go_simp <;> with_reducible rfl
                      try simp only [Act.put, List.setIfInBounds_toArray, List.set_cons_zero, List.set_cons_succ]
                      refine wpAnyH_skips (is := [103, 104, 105, 106, 107, 108, 109, 110, 111, 112, 113, 114, 115, 116, 117, 118, 119, 120, 121, 122, 123, 124, 125]) (l' := #[true, true, true, true, true, true, true, true, true, true, true, true, true, true, true, true, true, true, true, true, true, true, true, true, true, true, true, true, true, true, true, true, true, true, true, true, true, true, true, true, true, true, true, true, true, true, true, true, true, true, true, true, true, true, true, true, true, true, true, true, true, true, true, true, true, true, true, true, true, true, true, true, true, true, true, true, true, true, true, true, true, true, true, true, true, true, true, true, true, true, true, true, true, true, true, true, true, true, true, true, true, true, true, true, true, true, true, true, true, true, true, true, true, true, true, true, true, true, true, true, true, true, true, true, true, true, false, false]) (by kernel_rfl) (fun d _ _ _ h => by cases d <;> exact h) (by assumption) (by kernel_rfl) (by kernel_rfl) ?_
                      refine' tkH 126 (hy := yldH (by rfl) ?hy) (h := ?_)
                      case hy => intro w hSw; (try dsimp only at hSw); go_simp <;> with_reducible rfl
                      try simp only [Act.put, List.setIfInBounds_toArray, List.set_cons_zero, List.set_cons_succ]
                      refine' tkH 127 (hy := yldH (by rfl) ?hy) (h := ?_)
                      case hy => intro w hSw; (try dsimp only at hSw); go_simp <;> with_reducible rfl
                      try simp only [Act.put, List.setIfInBounds_toArray, List.set_cons_zero, List.set_cons_succ]
                      refine wpAnyH_done (by kernel_rfl) ?_ _
                      go_wp2
                      go_meet
                      exact ⟨by simp [hQ0, hQ1, hQ2], hxk74⟩
                  as_aux_lemma =>
                    refine' tkH 102 (hy := yldH (by rfl) ?hy) (h := ?_)
                    case hy => intro w hSw; (try dsimp only at hSw); go_simp <;> with_reducible rfl
                    try simp only [Act.put, List.setIfInBounds_toArray, List.set_cons_zero, List.set_cons_succ]
                    refine wpAnyH_skips (is := [103, 104, 105, 106, 107, 108, 109, 110, 111, 112, 113, 114, 115, 116, 117, 118, 119, 120, 121, 122, 123, 124, 125]) (l' := #[true, true, true, true, true, true, true, true, true, true, true, true, true, true, true, true, true, true, true, true, true, true, true, true, true, true, true, true, true, true, true, true, true, true, true, true, true, true, true, true, true, true, true, true, true, true, true, true, true, true, true, true, true, true, true, true, true, true, true, true, true, true, true, true, true, true, true, true, true, true, true, true, true, true, true, true, true, true, true, true, true, true, true, true, true, true, true, true, true, true, true, true, true, true, true, true, true, true, true, true, true, true, true, true, true, true, true, true, true, true, true, true, true, true, true, true, true, true, true, true, true, true, true, true, true, true, false, false]) (by kernel_rfl) (fun d _ _ _ h => by cases d <;> exact h) (by assumption) (by kernel_rfl) (by kernel_rfl) ?_
                    refine' tkH 126 (hy := yldH (by rfl) ?hy) (h := ?_)
                    case hy => intro w hSw; (try dsimp only at hSw); go_simp <;> with_reducible rfl
                    try simp only [Act.put, List.setIfInBounds_toArray, List.set_cons_zero, List.set_cons_succ]
                    refine' tkH 127 (hy := yldH (by rfl) ?hy) (h := ?_)
                    case hy => intro w hSw; (try dsimp only at hSw); go_simp <;> with_reducible rfl
                    try simp only [Act.put, List.setIfInBounds_toArray, List.set_cons_zero, List.set_cons_succ]
                    refine wpAnyH_done (by kernel_rfl) ?_ _
                    go_wp2
                    go_meet
                    exact ⟨by simp [hQ0, hQ1, hQ2], hxk74⟩
              as_aux_lemma =>
                refine' tkH 76 (hy := yldH (by rfl) ?hy) (h := ?_)
                case hy => intro w hSw; (try dsimp only at hSw); go_simp <;> with_reducible rfl
                try simp only [Act.put, List.setIfInBounds_toArray, List.set_cons_zero, List.set_cons_succ]
                refine' tkH 77 (hy := yldH (by rfl) ?hy) (h := ?_)
                case hy => intro w hSw; (try dsimp only at hSw); go_simp <;> with_reducible rfl
                try simp only [Act.put, List.setIfInBounds_toArray, List.set_cons_zero, List.set_cons_succ]
                refine' tkH 78 (hy := yldH (by rfl) ?hy) (h := ?_)
                case hy => intro w hSw; (try dsimp only at hSw); go_simp <;> with_reducible rfl
                try simp only [Act.put, List.setIfInBounds_toArray, List.set_cons_zero, List.set_cons_succ]
                refine' tkH 79 (hy := yldH (by rfl) ?hy) (h := ?_)
                case hy => intro w hSw; (try dsimp only at hSw); go_simp <;> with_reducible rfl
                try simp only [Act.put, List.setIfInBounds_toArray, List.set_cons_zero, List.set_cons_succ]
                refine' tkH 80 (hy := yldH (by rfl) ?hy) (h := ?_)
                case hy => intro w hSw; (try dsimp only at hSw); go_simp <;> with_reducible rfl
                try simp only [Act.put, List.setIfInBounds_toArray, List.set_cons_zero, List.set_cons_succ]
                refine' tkH 81 (hy := yldH (by rfl) ?hy) (h := ?_)
                case hy => intro w hSw; (try dsimp only at hSw); go_simp <;> with_reducible rfl
                try simp only [Act.put, List.setIfInBounds_toArray, List.set_cons_zero, List.set_cons_succ]
                refine' tkH 82 (hy := yldH (by rfl) ?hy) (h := ?_)
                case hy => intro w hSw; (try dsimp only at hSw); go_simp <;> with_reducible rfl
                try simp only [Act.put, List.setIfInBounds_toArray, List.set_cons_zero, List.set_cons_succ]
                refine' tkH 83 (hy := yldH (by rfl) ?hy) (h := ?_)
                case hy => intro w hSw; (try dsimp only at hSw); go_simp <;> with_reducible rfl
                try simp only [Act.put, List.setIfInBounds_toArray, List.set_cons_zero, List.set_cons_succ]
                refine' tkH 85 (hy := yldH (by rfl) ?hy) (h := ?_)
                case hy => intro w hSw; (try dsimp only at hSw); go_simp <;> with_reducible rfl
                try simp only [Act.put, List.setIfInBounds_toArray, List.set_cons_zero, List.set_cons_succ]
                refine' tkH 86 (hy := yldH (by rfl) ?hy) (h := ?_)
                case hy => intro w hSw; (try dsimp only at hSw); go_simp <;> with_reducible rfl
                try simp only [Act.put, List.setIfInBounds_toArray, List.set_cons_zero, List.set_cons_succ]
                refine' tkH 87 (hy := yldH (by rfl) ?hy) (h := ?_)
                case hy => intro w hSw; (try dsimp only at hSw); go_simp <;> with_reducible rfl
                try simp only [Act.put, List.setIfInBounds_toArray, List.set_cons_zero, List.set_cons_succ]
                refine' tkH 88 (hy := yldH (by rfl) ?hy) (h := ?_)
                case hy => intro w hSw; (try dsimp only at hSw); go_simp <;> with_reducible rfl
                try simp only [Act.put, List.setIfInBounds_toArray, List.set_cons_zero, List.set_cons_succ]
                refine' tkH 89 (hy := yldH (by rfl) ?hy) (h := ?_)
                case hy => intro w hSw; (try dsimp only at hSw); go_simp <;> with_reducible rfl
                try simp only [Act.put, List.setIfInBounds_toArray, List.set_cons_zero, List.set_cons_succ]
                refine' tkH 90 (hy := yldH (by rfl) ?hy) (h := ?_)
                case hy => intro w hSw; (try dsimp only at hSw); go_simp <;> with_reducible rfl
                try simp only [Act.put, List.setIfInBounds_toArray, List.set_cons_zero, List.set_cons_succ]
                refine' tkH 91 (hy := yldH (by rfl) ?hy) (h := ?_)
                case hy => intro w hSw; (try dsimp only at hSw); go_simp <;> with_reducible rfl
                try simp only [Act.put, List.setIfInBounds_toArray, List.set_cons_zero, List.set_cons_succ]
                refine' tkH 92 (hy := yldH (by rfl) ?hy) (h := ?_)
                case hy => intro w hSw; (try dsimp only at hSw); go_simp <;> with_reducible rfl
                try simp only [Act.put, List.setIfInBounds_toArray, List.set_cons_zero, List.set_cons_succ]
                refine' tkH 94 (hy := yldH (by rfl) ?hy) (h := ?_)
                case hy => intro w hSw; (try dsimp only at hSw); go_simp <;> with_reducible rfl
                try simp only [Act.put, List.setIfInBounds_toArray, List.set_cons_zero, List.set_cons_succ]
                refine' tkH 95 (hy := yldH (by rfl) ?hy) (h := ?_)
                case hy => intro w hSw; (try dsimp only at hSw); go_simp <;> with_reducible rfl
                try simp only [Act.put, List.setIfInBounds_toArray, List.set_cons_zero, List.set_cons_succ]
                refine' tkH 96 (hy := yldH (by rfl) ?hy) (h := ?_)
                case hy => intro w hSw; (try dsimp only at hSw); go_simp <;> with_reducible rfl
                try simp only [Act.put, List.setIfInBounds_toArray, List.set_cons_zero, List.set_cons_succ]
                refine wpAnyH_one (i := 84) (by kernel_rfl) (by simp only [List.getElem?_toArray, List.getElem?_cons_succ, List.getElem?_cons_zero]; rfl) (by kernel_rfl) (fun KK hKK => ?_)
                go_simp
                go_at_call 112
                refine (C84.out _ (by repeat (first | with_reducible assumption | with_reducible exact Ext.refl _ | with_reducible apply Ext.alloc | with_reducible apply Ext.drew | with_reducible apply Ext.drewN))).mono ?_
                rintro ek wk84 ⟨rfl, hbk84⟩
                have hxk84 := Ext.trans (w := Wc) (by repeat (first | with_reducible assumption | with_reducible exact Ext.refl _ | with_reducible apply Ext.alloc | with_reducible apply Ext.drew | with_reducible apply Ext.drewN)) hbk84
                refine hKK.out _ _ ?_ (fun hHeld => ?_)
                · exact hS _ (by repeat (first | with_reducible assumption | with_reducible exact Ext.refl _ | with_reducible apply Ext.alloc | with_reducible apply Ext.drew | with_reducible apply Ext.drewN))
                clear hKK KK
                try simp only [Act.put, List.setIfInBounds_toArray, List.set_cons_zero, List.set_cons_succ]
                refine wpAnyH_one (i := 93) (by kernel_rfl) (by simp only [List.getElem?_toArray, List.getElem?_cons_succ, List.getElem?_cons_zero]; rfl) (by kernel_rfl) (fun KK hKK => ?_)
                go_simp
                go_at_call 49
                refine (C93.out _ (by repeat (first | with_reducible assumption | with_reducible exact Ext.refl _ | with_reducible apply Ext.alloc | with_reducible apply Ext.drew | with_reducible apply Ext.drewN))).mono ?_
                rintro ek wk93 ⟨rfl, hbk93⟩
                have hxk93 := Ext.trans (w := Wc) (by repeat (first | with_reducible assumption | with_reducible exact Ext.refl _ | with_reducible apply Ext.alloc | with_reducible apply Ext.drew | with_reducible apply Ext.drewN)) hbk93
                refine hKK.out _ _ ?_ (fun hHeld => ?_)
                · exact hS _ (by repeat (first | with_reducible assumption | with_reducible exact Ext.refl _ | with_reducible apply Ext.alloc | with_reducible apply Ext.drew | with_reducible apply Ext.drewN))
                clear hKK KK
                try simp only [Act.put, List.setIfInBounds_toArray, List.set_cons_zero, List.set_cons_succ]
                refine wpAnyH_one (i := 97) (by kernel_rfl) (by simp only [List.getElem?_toArray, List.getElem?_cons_succ, List.getElem?_cons_zero]; rfl) (by kernel_rfl) (fun KK hKK => ?_)
                go_simp
                go_at_call 112
                refine (C97.out _ (by repeat (first | with_reducible assumption | with_reducible exact Ext.refl _ | with_reducible apply Ext.alloc | with_reducible apply Ext.drew | with_reducible apply Ext.drewN))).mono ?_
                rintro ek wk97 ⟨rfl, hbk97⟩
                have hxk97 := Ext.trans (w := Wc) (by repeat (first | with_reducible assumption | with_reducible exact Ext.refl _ | with_reducible apply Ext.alloc | with_reducible apply Ext.drew | with_reducible apply Ext.drewN)) hbk97
                refine hKK.out _ _ ?_ (fun hHeld => ?_)
                · exact hS _ (by repeat (first | with_reducible assumption | with_reducible exact Ext.refl _ | with_reducible apply Ext.alloc | with_reducible apply Ext.drew | with_reducible apply Ext.drewN))
                clear hKK KK
                try simp only [Act.put, List.setIfInBounds_toArray, List.set_cons_zero, List.set_cons_succ]
                refine wpAnyH_one (i := 98) (by kernel_rfl) (by simp only [List.getElem?_toArray, List.getElem?_cons_succ, List.getElem?_cons_zero]; rfl) (by kernel_rfl) (fun KK hKK => ?_)
                go_simp
                refine hKK.out _ _ ?_ (fun hHeld => ?_)
                · exact hS _ (by repeat (first | with_reducible assumption | with_reducible exact Ext.refl _ | with_reducible apply Ext.alloc | with_reducible apply Ext.drew | with_reducible apply Ext.drewN))
                clear hKK KK
                try simp only [Act.put, List.setIfInBounds_toArray, List.set_cons_zero, List.set_cons_succ]
                refine wpAnyH_one (i := 99) (by kernel_rfl) (by simp only [List.getElem?_toArray, List.getElem?_cons_succ, List.getElem?_cons_zero]; rfl) (by kernel_rfl) (fun KK hKK => ?_)
                go_simp
                go_at_call 84
                refine (C99.out _ _ (by repeat (first | with_reducible assumption | with_reducible exact Ext.refl _ | with_reducible apply Ext.alloc | with_reducible apply Ext.drew | with_reducible apply Ext.drewN)) (rd_twoV (w := wk97) rfl (by repeat (first | with_reducible assumption | with_reducible exact Ext.refl _ | with_reducible apply Ext.alloc | with_reducible apply Ext.drew | with_reducible apply Ext.drewN)))).mono ?_
                rintro ek wk99 ⟨rfl, hbk99⟩
                have hxk99 := Ext.trans (w := Wc) (by repeat (first | with_reducible assumption | with_reducible exact Ext.refl _ | with_reducible apply Ext.alloc | with_reducible apply Ext.drew | with_reducible apply Ext.drewN)) hbk99
                refine hKK.out _ _ ?_ (fun hHeld => ?_)
                · exact hS _ (by repeat (first | with_reducible assumption | with_reducible exact Ext.refl _ | with_reducible apply Ext.alloc | with_reducible apply Ext.drew | with_reducible apply Ext.drewN))
                clear hKK KK
                try simp only [Act.put, List.setIfInBounds_toArray, List.set_cons_zero, List.set_cons_succ]
                refine wpAnyH_one (i := 100) (by kernel_rfl) (by simp only [List.getElem?_toArray, List.getElem?_cons_succ, List.getElem?_cons_zero]; rfl) (by kernel_rfl) (fun KK hKK => ?_)
                go_simp
                refine (C100.out _ (by repeat (first | with_reducible assumption | with_reducible exact Ext.refl _ | with_reducible apply Ext.alloc | with_reducible apply Ext.drew | with_reducible apply Ext.drewN))).mono ?_
                rintro ek wk100 ⟨rfl, hbk100⟩
                have hxk100 := Ext.trans (w := Wc) (by repeat (first | with_reducible assumption | with_reducible exact Ext.refl _ | with_reducible apply Ext.alloc | with_reducible apply Ext.drew | with_reducible apply Ext.drewN)) hbk100
                refine hKK.out _ _ ?_ (fun hHeld => ?_)
                · exact hS _ (by repeat (first | with_reducible assumption | with_reducible exact Ext.refl _ | with_reducible apply Ext.alloc | with_reducible apply Ext.drew | with_reducible apply Ext.drewN))
                clear hKK KK
                try simp only [Act.put, List.setIfInBounds_toArray, List.set_cons_zero, List.set_cons_succ]
                refine' tkH 101 (hy := yldH (by rfl) ?hy) (h := ?_)
                case hy => intro w hSw; (try dsimp only at hSw); go_simp <;> with_reducible rfl
                try simp only [Act.put, List.setIfInBounds_toArray, List.set_cons_zero, List.set_cons_succ]
                cases hQ3 : Q3
                case false =>
                  as_aux_lemma =>
                    refine' tkH 102 (hy := yldH (by rfl) ?hy) (h := ?_)
                    case hy => intro w hSw; (try dsimp only at hSw); go_simp <;> with_reducible rfl
                    try simp only [Act.put, List.setIfInBounds_toArray, List.set_cons_zero, List.set_cons_succ]
                    refine wpAnyH_skips (is := [103, 104, 105, 106, 107, 108, 109, 110, 111, 112, 113, 114, 115, 116, 117, 118, 119, 120, 121, 122, 123, 124, 125]) (l' := #[true, true, true, true, true, true, true, true, true, true, true, true, true, true, true, true, true, true, true, true, true, true, true, true, true, true, true, true, true, true, true, true, true, true, true, true, true, true, true, true, true, true, true, true, true, true, true, true, true, true, true, true, true, true, true, true, true, true, true, true, true, true, true, true, true, true, true, true, true, true, true, true, true, true, true, true, true, true, true, true, true, true, true, true, true, true, true, true, true, true, true, true, true, true, true, true, true, true, true, true, true, true, true, true, true, true, true, true, true, true, true, true, true, true, true, true, true, true, true, true, true, true, true, true, true, true, false, false]) (by kernel_rfl) (fun d _ _ _ h => by cases d <;> exact h) (by assumption) (by kernel_rfl) (by kernel_rfl) ?_
                    refine' tkH 126 (hy := yldH (by rfl) ?hy) (h := ?_)
                    case hy => intro w hSw; (try dsimp only at hSw); go_simp <;> with_reducible rfl
                    try simp only [Act.put, List.setIfInBounds_toArray, List.set_cons_zero, List.set_cons_succ]
                    refine' tkH 127 (hy := yldH (by rfl) ?hy) (h := ?_)
                    case hy => intro w hSw; (try dsimp only at hSw); go_simp <;> with_reducible rfl
                    try simp only [Act.put, List.setIfInBounds_toArray, List.set_cons_zero, List.set_cons_succ]
                    refine wpAnyH_done (by kernel_rfl) ?_ _
                    go_wp2
                    go_meet
                    exact ⟨by simp [hQ0, hQ1, hQ2, hQ3], hxk100⟩
                as_aux_lemma =>
                  refine' tkH 102 (hy := yldH (by rfl) ?hy) (h := ?_)
                  case hy => intro w hSw; (try dsimp only at hSw); go_simp <;> with_reducible rfl
                  try simp only [Act.put, List.setIfInBounds_toArray, List.set_cons_zero, List.set_cons_succ]
                  refine' tkH 103 (hy := yldH (by rfl) ?hy) (h := ?_)
                  case hy => intro w hSw; (try dsimp only at hSw); go_simp <;> with_reducible rfl
                  try simp only [Act.put, List.setIfInBounds_toArray, List.set_cons_zero, List.set_cons_succ]
                  refine' tkH 104 (hy := yldH (by rfl) ?hy) (h := ?_)
                  case hy => intro w hSw; (try dsimp only at hSw); go_simp <;> with_reducible rfl
                  try simp only [Act.put, List.setIfInBounds_toArray, List.set_cons_zero, List.set_cons_succ]
                  refine' tkH 105 (hy := yldH (by rfl) ?hy) (h := ?_)
                  case hy => intro w hSw; (try dsimp only at hSw); go_simp <;> with_reducible rfl
                  try simp only [Act.put, List.setIfInBounds_toArray, List.set_cons_zero, List.set_cons_succ]
                  refine' tkH 106 (hy := yldH (by rfl) ?hy) (h := ?_)
                  case hy => intro w hSw; (try dsimp only at hSw); go_simp <;> with_reducible rfl
                  try simp only [Act.put, List.setIfInBounds_toArray, List.set_cons_zero, List.set_cons_succ]
                  refine' tkH 107 (hy := yldH (by rfl) ?hy) (h := ?_)
                  case hy => intro w hSw; (try dsimp only at hSw); go_simp <;> with_reducible rfl
                  try simp only [Act.put, List.setIfInBounds_toArray, List.set_cons_zero, List.set_cons_succ]
                  refine' tkH 108 (hy := yldH (by rfl) ?hy) (h := ?_)
                  case hy => intro w hSw; (try dsimp only at hSw); go_simp <;> with_reducible rfl
                  try simp only [Act.put, List.setIfInBounds_toArray, List.set_cons_zero, List.set_cons_succ]
                  refine' tkH 109 (hy := yldH (by rfl) ?hy) (h := ?_)
                  case hy => intro w hSw; (try dsimp only at hSw); go_simp <;> with_reducible rfl
                  try simp only [Act.put, List.setIfInBounds_toArray, List.set_cons_zero, List.set_cons_succ]
                  refine' tkH 111 (hy := yldH (by rfl) ?hy) (h := ?_)
                  case hy => intro w hSw; (try dsimp only at hSw); go_simp <;> with_reducible rfl
                  try simp only [Act.put, List.setIfInBounds_toArray, List.set_cons_zero, List.set_cons_succ]
                  refine' tkH 112 (hy := yldH (by rfl) ?hy) (h := ?_)
                  case hy => intro w hSw; (try dsimp only at hSw); go_simp <;> with_reducible rfl
                  try simp only [Act.put, List.setIfInBounds_toArray, List.set_cons_zero, List.set_cons_succ]
                  refine' tkH 113 (hy := yldH (by rfl) ?hy) (h := ?_)
                  case hy => intro w hSw; (try dsimp only at hSw); go_simp <;> with_reducible rfl
                  try simp only [Act.put, List.setIfInBounds_toArray, List.set_cons_zero, List.set_cons_succ]
                  refine' tkH 114 (hy := yldH (by rfl) ?hy) (h := ?_)
                  case hy => intro w hSw; (try dsimp only at hSw); go_simp <;> with_reducible rfl
                  try simp only [Act.put, List.setIfInBounds_toArray, List.set_cons_zero, List.set_cons_succ]
                  refine' tkH 115 (hy := yldH (by rfl) ?hy) (h := ?_)
                  case hy => intro w hSw; (try dsimp only at hSw); go_simp <;> with_reducible rfl
                  try simp only [Act.put, List.setIfInBounds_toArray, List.set_cons_zero, List.set_cons_succ]
                  refine' tkH 116 (hy := yldH (by rfl) ?hy) (h := ?_)
                  case hy => intro w hSw; (try dsimp only at hSw); go_simp <;> with_reducible rfl
                  try simp only [Act.put, List.setIfInBounds_toArray, List.set_cons_zero, List.set_cons_succ]
                  refine' tkH 117 (hy := yldH (by rfl) ?hy) (h := ?_)
                  case hy => intro w hSw; (try dsimp only at hSw); go_simp <;> with_reducible rfl
                  try simp only [Act.put, List.setIfInBounds_toArray, List.set_cons_zero, List.set_cons_succ]
                  refine' tkH 119 (hy := yldH (by rfl) ?hy) (h := ?_)
                  case hy => intro w hSw; (try dsimp only at hSw); go_simp <;> with_reducible rfl
                  try simp only [Act.put, List.setIfInBounds_toArray, List.set_cons_zero, List.set_cons_succ]
                  refine' tkH 120 (hy := yldH (by rfl) ?hy) (h := ?_)
                  case hy => intro w hSw; (try dsimp only at hSw); go_simp <;> with_reducible rfl
                  try simp only [Act.put, List.setIfInBounds_toArray, List.set_cons_zero, List.set_cons_succ]
                  refine' tkH 121 (hy := yldH (by rfl) ?hy) (h := ?_)
                  case hy => intro w hSw; (try dsimp only at hSw); go_simp <;> with_reducible rfl
                  try simp only [Act.put, List.setIfInBounds_toArray, List.set_cons_zero, List.set_cons_succ]
                  refine wpAnyH_one (i := 110) (by kernel_rfl) (by simp only [List.getElem?_toArray, List.getElem?_cons_succ, List.getElem?_cons_zero]; rfl) (by kernel_rfl) (fun KK hKK => ?_)
                  go_simp
                  go_at_call 112
                  refine (C110.out _ (by repeat (first | with_reducible assumption | with_reducible exact Ext.refl _ | with_reducible apply Ext.alloc | with_reducible apply Ext.drew | with_reducible apply Ext.drewN))).mono ?_
                  rintro ek wk110 ⟨rfl, hbk110⟩
                  have hxk110 := Ext.trans (w := Wc) (by repeat (first | with_reducible assumption | with_reducible exact Ext.refl _ | with_reducible apply Ext.alloc | with_reducible apply Ext.drew | with_reducible apply Ext.drewN)) hbk110
                  refine hKK.out _ _ ?_ (fun hHeld => ?_)
                  · exact hS _ (by repeat (first | with_reducible assumption | with_reducible exact Ext.refl _ | with_reducible apply Ext.alloc | with_reducible apply Ext.drew | with_reducible apply Ext.drewN))
                  clear hKK KK
                  try simp only [Act.put, List.setIfInBounds_toArray, List.set_cons_zero, List.set_cons_succ]
                  refine wpAnyH_one (i := 118) (by kernel_rfl) (by simp only [List.getElem?_toArray, List.getElem?_cons_succ, List.getElem?_cons_zero]; rfl) (by kernel_rfl) (fun KK hKK => ?_)
                  go_simp
                  go_at_call 49
                  refine (C118.out _ (by repeat (first | with_reducible assumption | with_reducible exact Ext.refl _ | with_reducible apply Ext.alloc | with_reducible apply Ext.drew | with_reducible apply Ext.drewN))).mono ?_
                  rintro ek wk118 ⟨rfl, hbk118⟩
                  have hxk118 := Ext.trans (w := Wc) (by repeat (first | with_reducible assumption | with_reducible exact Ext.refl _ | with_reducible apply Ext.alloc | with_reducible apply Ext.drew | with_reducible apply Ext.drewN)) hbk118
                  refine hKK.out _ _ ?_ (fun hHeld => ?_)
                  · exact hS _ (by repeat (first | with_reducible assumption | with_reducible exact Ext.refl _ | with_reducible apply Ext.alloc | with_reducible apply Ext.drew | with_reducible apply Ext.drewN))
                  clear hKK KK
                  try simp only [Act.put, List.setIfInBounds_toArray, List.set_cons_zero, List.set_cons_succ]
                  refine wpAnyH_one (i := 122) (by kernel_rfl) (by simp only [List.getElem?_toArray, List.getElem?_cons_succ, List.getElem?_cons_zero]; rfl) (by kernel_rfl) (fun KK hKK => ?_)
                  go_simp
                  go_at_call 112
                  refine (C122.out _ (by repeat (first | with_reducible assumption | with_reducible exact Ext.refl _ | with_reducible apply Ext.alloc | with_reducible apply Ext.drew | with_reducible apply Ext.drewN))).mono ?_
                  rintro ek wk122 ⟨rfl, hbk122⟩
                  have hxk122 := Ext.trans (w := Wc) (by repeat (first | with_reducible assumption | with_reducible exact Ext.refl _ | with_reducible apply Ext.alloc | with_reducible apply Ext.drew | with_reducible apply Ext.drewN)) hbk122
                  refine hKK.out _ _ ?_ (fun hHeld => ?_)
                  · exact hS _ (by repeat (first | with_reducible assumption | with_reducible exact Ext.refl _ | with_reducible apply Ext.alloc | with_reducible apply Ext.drew | with_reducible apply Ext.drewN))
                  clear hKK KK
                  try simp only [Act.put, List.setIfInBounds_toArray, List.set_cons_zero, List.set_cons_succ]
                  refine wpAnyH_one (i := 123) (by kernel_rfl) (by simp only [List.getElem?_toArray, List.getElem?_cons_succ, List.getElem?_cons_zero]; rfl) (by kernel_rfl) (fun KK hKK => ?_)
                  go_simp
                  refine hKK.out _ _ ?_ (fun hHeld => ?_)
                  · exact hS _ (by repeat (first | with_reducible assumption | with_reducible exact Ext.refl _ | with_reducible apply Ext.alloc | with_reducible apply Ext.drew | with_reducible apply Ext.drewN))
                  clear hKK KK
                  try simp only [Act.put, List.setIfInBounds_toArray, List.set_cons_zero, List.set_cons_succ]
                  refine wpAnyH_one (i := 124) (by kernel_rfl) (by simp only [List.getElem?_toArray, List.getElem?_cons_succ, List.getElem?_cons_zero]; rfl) (by kernel_rfl) (fun KK hKK => ?_)
                  go_simp
                  go_at_call 84
                  refine (C124.out _ _ (by repeat (first | with_reducible assumption | with_reducible exact Ext.refl _ | with_reducible apply Ext.alloc | with_reducible apply Ext.drew | with_reducible apply Ext.drewN)) (rd_twoV (w := wk122) rfl (by repeat (first | with_reducible assumption | with_reducible exact Ext.refl _ | with_reducible apply Ext.alloc | with_reducible apply Ext.drew | with_reducible apply Ext.drewN)))).mono ?_
                  rintro ek wk124 ⟨rfl, hbk124⟩
                  have hxk124 := Ext.trans (w := Wc) (by repeat (first | with_reducible assumption | with_reducible exact Ext.refl _ | with_reducible apply Ext.alloc | with_reducible apply Ext.drew | with_reducible apply Ext.drewN)) hbk124
                  refine hKK.out _ _ ?_ (fun hHeld => ?_)
                  · exact hS _ (by repeat (first | with_reducible assumption | with_reducible exact Ext.refl _ | with_reducible apply Ext.alloc | with_reducible apply Ext.drew | with_reducible apply Ext.drewN))
                  clear hKK KK
                  try simp only [Act.put, List.setIfInBounds_toArray, List.set_cons_zero, List.set_cons_succ]
                  refine wpAnyH_one (i := 125) (by kernel_rfl) (by simp only [List.getElem?_toArray, List.getElem?_cons_succ, List.getElem?_cons_zero]; rfl) (by kernel_rfl) (fun KK hKK => ?_)
                  go_simp
                  refine (C125.out _ (by repeat (first | with_reducible assumption | with_reducible exact Ext.refl _ | with_reducible apply Ext.alloc | with_reducible apply Ext.drew | with_reducible apply Ext.drewN))).mono ?_
                  rintro ek wk125 ⟨rfl, hbk125⟩
                  have hxk125 := Ext.trans (w := Wc) (by repeat (first | with_reducible assumption | with_reducible exact Ext.refl _ | with_reducible apply Ext.alloc | with_reducible apply Ext.drew | with_reducible apply Ext.drewN)) hbk125
                  refine hKK.out _ _ ?_ (fun hHeld => ?_)
                  · exact hS _ (by repeat (first | with_reducible assumption | with_reducible exact Ext.refl _ | with_reducible apply Ext.alloc | with_reducible apply Ext.drew | with_reducible apply Ext.drewN))
                  clear hKK KK
                  try simp only [Act.put, List.setIfInBounds_toArray, List.set_cons_zero, List.set_cons_succ]
                  refine' tkH 126 (hy := yldH (by rfl) ?hy) (h := ?_)
                  case hy => intro w hSw; (try dsimp only at hSw); go_simp <;> with_reducible rfl
                  try simp only [Act.put, List.setIfInBounds_toArray, List.set_cons_zero, List.set_cons_succ]
                  refine' tkH 127 (hy := yldH (by rfl) ?hy) (h := ?_)
                  case hy => intro w hSw; (try dsimp only at hSw); go_simp <;> with_reducible rfl
                  try simp only [Act.put, List.setIfInBounds_toArray, List.set_cons_zero, List.set_cons_succ]
                  refine wpAnyH_done (by kernel_rfl) ?_ _
                  go_wp2
                  go_meet
                  exact ⟨by simp [hQ0, hQ1, hQ2, hQ3], hxk125⟩
      case' rest =>
      obtain ⟨rfl, hbc⟩ := hcut
      replace E := E.trans hbc
      replace B0 := B0.ext hbc
      replace B1 := B1.ext hbc
      replace B2 := B2.ext hbc
      replace BZ := BZ.ext hbc
      clear hbc
      generalize wc = w8 at *
      obtain ⟨R0, hR0⟩ : ∃ v, (Q0 && (Q1 && (Q2 && (Q3 && Q4)))) = v := ⟨_, rfl⟩
      have HV : Hid (vmW p q g key H hs a b co cn cm ch rs = (R0 && (List.range n).all (vmQi p q g H z cn cm rs xs))) := by
        show _ = _
        have K31' := K31.out
        rw [T1.out] at K31'
        have K97' := K97.out
        rw [HMN.out] at K97'
        have K122' := K122.out
        rw [HMN.out] at K122'
        have K66' := K66.out
        rw [← K65.out, gpw_inv HG.out HHE.out hav.1] at K66'
        rw [HW.out, HX0.out, HZ.out, decide_eq_true HMN.out, HF.out, vm_all, HA.out, HXS.out, HAV.out, Hc0.out, Hc1.out, Hc2.out, Hc3.out, Hc4.out, Hr0.out, Hr1.out, Hr2.out, Hr3.out, Hlv.out, K8.out, K12.out, K13.out, K20.out, K31', K39.out, K44.out, K46.out, K66', K73.out, K84.out, K93.out, K97', K99.out, K110.out, K118.out, K122', K124.out, KQ0.out, KQ1.out, KQ2.out, KQ3.out, KQ4.out, HQ.out, ← hR0]
        simp only [Bool.true_and, Bool.and_assoc]
      have HR0 := Lib.hid hR0
      rw [hR0]
      clear hR0
      have hlit := ownI_lit (w := w8) (e := 3) [H] rfl rfl (Nat.le_refl _) (by simp only [List.length_cons, List.length_nil]; unfold maxLen; omega)
      have hX := (Ext.refl w8).alloc (.cells #[.int .i64 H] 3)
      have hsz8 := hX.size
      have hnk : 1 + k2 ≤ 1000000000 := by omega
      have CC1 := B1.cells
      have CC2 := B2.cells
      have CC3 := (B2.ext hX).cells
      go_wp2_with (at_builtin; refine wpList_appL (n := 1) (m := k2) intSl rfl _ _ rfl hlit rfl ((s2.rd.ext E).ext hX) s2.len rfl hnk hsz8 ?_; intro A9 c9 w9 hO9 hb9)
      have hE89 : Ext w8 w9 := hX.then hb9 (Nat.le_refl _)
      clear CC1 CC2 CC3 hb9 hlit hX hsz8
      replace E := E.trans hE89
      replace B0 := B0.ext hE89
      replace B1 := B1.ext hE89
      replace B2 := B2.ext hE89
      have BZ9 := BZ.ext hE89
      generalize hkb : 1 + k2 = kb at *
      go_wp2
      go_loopw [30, 254] (fun x i wr => ∃ j : Nat, j ≤ n ∧ i = .int .i64 j ∧ x = .bool (R0 && (List.range j).all (vmQi p q g H z cn cm rs xs)) ∧ Ext w9 wr) (fun _ i _ => n - (intOf i).toNat)
      case atStart => exact ⟨0, Nat.zero_le _, rfl, by simp, Ext.refl _⟩
      case round =>
        obtain ⟨j, hj, rfl, rfl, E2⟩ := hrel
        by_cases hlt : j < n
        · obtain ⟨bb, hbb⟩ : ∃ bb, (R0 && (List.range j).all (vmQi p q g H z cn cm rs xs)) = bb := ⟨_, rfl⟩
          have hnx : (R0 && (List.range (j + 1)).all (vmQi p q g H z cn cm rs xs)) = (bb && vmQi p q g H z cn cm rs xs j) := by rw [List.range_succ, List.all_append, ← hbb]; simp [Bool.and_assoc]
          have HNX := Lib.hid hnx
          rw [hbb]
          clear hbb hnx
          cases bb
          · go_upto_region 24 with (fail)
            go_quiet (fail)
            go_wp2
            go_roundw
            case rel => exact ⟨j + 1, by omega, by go_num, by rw [HNX.out]; rfl, E2.drewN _⟩
            case measure => first | (simp [intOf]; done) | (simp [intOf]; omega)
          · have ER := E.trans E2
            have hO9r := hO9.rd.ext E2
            obtain ⟨ab, hA9, hbc9⟩ := hO9r.at_ (k := j) (by rw [hO9.len]; have := T2.out; omega)
            subst hA9
            have hHcn : ∀ y ∈ (H :: cn), 0 ≤ y ∧ y ≤ 3000000000 := fun y hy => by
              rcases List.mem_cons.1 hy with rfl | hy
              · exact hHb
              · exact BCN.out y hy
            obtain ⟨cj, hcj⟩ : ∃ v, cm.getD (5 + j) 0 = v := ⟨_, rfl⟩
            have xcj : wr.cell? (ac.add (5 + j)) = some (.int .i64 cj) := by rw [← hcj, getD_lt (by have := s3.len; have := T3.out; omega)]; exact ER.cell (HCA.out (5 + j) _)
            have rcj := BCM.out cj (by rw [← hcj, getD_lt (by have := s3.len; have := T3.out; omega)]; exact List.getElem_mem _)
            have Hcj := Lib.hid hcj
            clear hcj
            obtain ⟨nj, hnj⟩ : ∃ v, cn.getD (j) 0 = v := ⟨_, rfl⟩
            have xnj : wr.cell? (an.add (j)) = some (.int .i64 nj) := by rw [← hnj, getD_lt (by have := s2.len; have := T2.out; omega)]; exact ER.cell (HNA.out j _)
            have rnj := BCN.out nj (by rw [← hnj, getD_lt (by have := s2.len; have := T2.out; omega)]; exact List.getElem_mem _)
            have Hnj := Lib.hid hnj
            clear hnj
            obtain ⟨rj, hrj⟩ : ∃ v, rs.getD (4 + j) 0 = v := ⟨_, rfl⟩
            have xrj : wr.cell? (ar.add (4 + j)) = some (.int .i64 rj) := by rw [← hrj, getD_lt (by have := s5.len; have := T5.out; omega)]; exact ER.cell (HRA.out (4 + j) _)
            have rrj := BRS.out rj (by rw [← hrj, getD_lt (by have := s5.len; have := T5.out; omega)]; exact List.getElem_mem _)
            have Hrj := Lib.hid hrj
            clear hrj
            obtain ⟨bj, hbj⟩ : ∃ v, (H :: cn).getD (j) 0 = v := ⟨_, rfl⟩
            have xbj : wr.cell? (ab.add (j)) = some (.int .i64 bj) := by rw [← hbj, getD_lt (by have := s2.len; have := T2.out; simp only [List.length_cons]; omega)]; exact hbc9
            have rbj := hHcn bj (by rw [← hbj, getD_lt (by have := s2.len; have := T2.out; simp only [List.length_cons]; omega)]; exact List.getElem_mem _)
            have Hbj := Lib.hid hbj
            clear hbj
            obtain ⟨xj, hxj⟩ : ∃ v, xs.getD (j) 0 = v := ⟨_, rfl⟩
            have xxj : wr.cell? (ax.add (j)) = some (.int .i64 xj) := by rw [← hxj, getD_lt (by rw [HXL.out]; have := HKX.out; omega)]; exact (by obtain ⟨a9, h9, h8⟩ := (hxr.ext ER).at_ (k := j) (by rw [HXL.out]; have := HKX.out; omega); injection h9 with h9; subst h9; exact h8)
            have rxj := BX.out xj (by rw [← hxj, getD_lt (by rw [HXL.out]; have := HKX.out; omega)]; exact List.getElem_mem _)
            have Hxj := Lib.hid hxj
            clear hxj
            obtain ⟨V279, h279⟩ : ∃ v, gpw p q g rj = v := ⟨_, rfl⟩
            have r279 : 0 ≤ V279 ∧ V279 ≤ 2000000000 := by rw [← h279]; exact gpw_rg p q g rj hB
            obtain ⟨V289, h289⟩ : ∃ v, gpw p q bj xj = v := ⟨_, rfl⟩
            have r289 : 0 ≤ V289 ∧ V289 ≤ 2000000000 := by rw [← h289]; exact gpw_rg p q bj xj hB
            obtain ⟨V291, h291⟩ : ∃ v, gmul p [V279, V289] = v := ⟨_, rfl⟩
            obtain ⟨Qj, hQj⟩ : ∃ v, (gmul p [cj, gpw p q nj z] == V291) = v := ⟨_, rfl⟩
            have HQj : Hid (vmQi p q g H z cn cm rs xs j = Qj) := by show _ = _; unfold vmQi vmRi; rw [Hcj.out, Hnj.out, Hrj.out, Hbj.out, Hxj.out, h279, h289, h291, hQj]
            have K279 := Lib.hid h279
            have K289 := Lib.hid h289
            have K291 := Lib.hid h291
            have KQj := Lib.hid hQj
            clear h279 h289 h291 hQj
            have b1 : (5 : Int) + (j : Int) < (k3 : Int) := by have := T3.out; omega
            have b2 : (4 : Int) + (j : Int) < (k5 : Int) := by have := T5.out; omega
            have b10 : (0 : Int) ≤ 5 + (j : Int) := by omega
            have b20 : (0 : Int) ≤ 4 + (j : Int) := by omega
            have w5j : IntKind.i64.wrap (5 + (j : Int)) = 5 + (j : Int) := IntWalk.i64_in _ (by omega)
            have w4j : IntKind.i64.wrap (4 + (j : Int)) = 4 + (j : Int) := IntWalk.i64_in _ (by omega)
            have t5j : (5 + (j : Int)).toNat = 5 + j := by omega
            have t4j : (4 + (j : Int)).toNat = 4 + j := by omega
            have b3 : (j : Int) < (k2 : Int) := by have := T2.out; omega
            have b4 : (j : Int) < (kb : Int) := by have := T2.out; omega
            have b5 : (j : Int) < (kx : Int) := by have := HKX.out; omega
            have hH24 := holds_ans p q g z _ _ _ hB (by omega) (B0.ext E2) (BZ9.ext E2)
            generalize hWd : wr = Wd at *
            clear hWd
            have hS24 : ∀ V, Ext Wd V → V.cell? ⟨w.heap.size, 0, none⟩ = some (.int .i64 p) ∧ V.cell? ⟨w.heap.size, 1, none⟩ = some (.int .i64 q) ∧ V.cell? ⟨w.heap.size, 2, none⟩ = some (.int .i64 g) ∧ V.cell? ⟨w.heap.size + 1 + 1, 1, none⟩ = some (.slice (some an) k2 e2) ∧ V.cell? ⟨gz, 0, none⟩ = some (.int .i64 z) ∧ V.cell? (ac.add (5 + j)) = some (.int .i64 cj) ∧ V.cell? (an.add j) = some (.int .i64 nj) ∧ V.cell? (ar.add (4 + j)) = some (.int .i64 rj) ∧ V.cell? (ab.add j) = some (.int .i64 bj) ∧ V.cell? (ax.add j) = some (.int .i64 xj) := fun V hV => by
              have a0 := ((B0.ext E2).ext hV).cells
              have a2 := ((B2.ext E2).ext hV).cells
              have az := ((BZ9.ext E2).ext hV).cells
              exact ⟨a0 0, a0 1, a0 2, a2 1, az 0, hV.cell xcj, hV.cell xnj, hV.cell xrj, hV.cell xbj, hV.cell xxj⟩
            go_upto_region 24 with (fail)
            as_aux_lemma =>
              refine wp_region_held_drew (S := fun V => V.cell? ⟨w.heap.size, 0, none⟩ = some (.int .i64 p) ∧ V.cell? ⟨w.heap.size, 1, none⟩ = some (.int .i64 q) ∧ V.cell? ⟨w.heap.size, 2, none⟩ = some (.int .i64 g) ∧ V.cell? ⟨w.heap.size + 1 + 1, 1, none⟩ = some (.slice (some an) k2 e2) ∧ V.cell? ⟨gz, 0, none⟩ = some (.int .i64 z) ∧ V.cell? (ac.add (5 + j)) = some (.int .i64 cj) ∧ V.cell? (an.add j) = some (.int .i64 nj) ∧ V.cell? (ar.add (4 + j)) = some (.int .i64 rj) ∧ V.cell? (ab.add j) = some (.int .i64 bj) ∧ V.cell? (ax.add j) = some (.int .i64 xj)) (by kernel_rfl) ?_ (fun hHeld => ?_)
              · exact hS24 _ (by repeat (first | with_reducible assumption | with_reducible exact Ext.refl _ | with_reducible apply Ext.alloc | with_reducible apply Ext.drew | with_reducible apply Ext.drewN))
              refine' wpAnyH_take (i := 0) (v := _) ?hi0 (by kernel_rfl) (by kernel_rfl) (by kernel_rfl) ?hQ0 ?hy0 (by assumption) ?_
              case hi0 => (simp only [List.getElem?_toArray, List.getElem?_cons_zero]; rfl)
              case hy0 => refine Or.inl ⟨by rfl, ?_⟩; intro w hSw; (try dsimp only at hSw); go_simp <;> with_reducible rfl
              case hQ0 => exact fun _ _ _ h => h
              try simp only [Act.put, List.setIfInBounds_toArray, List.set_cons_zero, List.set_cons_succ]
              refine' wpAnyH_take (i := 1) (v := _) ?hi1 (by kernel_rfl) (by kernel_rfl) (by kernel_rfl) ?hQ1 ?hy1 (by assumption) ?_
              case hi1 => (simp only [List.getElem?_toArray, List.getElem?_cons_succ, List.getElem?_cons_zero]; rfl)
              case hy1 => refine Or.inl ⟨by rfl, ?_⟩; intro w hSw; (try dsimp only at hSw); go_simp <;> with_reducible rfl
              case hQ1 => exact fun _ _ _ h => h
              try simp only [Act.put, List.setIfInBounds_toArray, List.set_cons_zero, List.set_cons_succ]
              refine' wpAnyH_take (i := 2) (v := _) ?hi2 (by kernel_rfl) (by kernel_rfl) (by kernel_rfl) ?hQ2 ?hy2 (by assumption) ?_
              case hi2 => (simp only [List.getElem?_toArray, List.getElem?_cons_succ, List.getElem?_cons_zero]; rfl)
              case hy2 => refine Or.inl ⟨by rfl, ?_⟩; intro w hSw; (try dsimp only at hSw); go_simp <;> with_reducible rfl
              case hQ2 => exact fun _ _ _ h => h
              try simp only [Act.put, List.setIfInBounds_toArray, List.set_cons_zero, List.set_cons_succ]
              refine' wpAnyH_take (i := 3) (v := _) ?hi3 (by kernel_rfl) (by kernel_rfl) (by kernel_rfl) ?hQ3 ?hy3 (by assumption) ?_
              case hi3 => (simp only [List.getElem?_toArray, List.getElem?_cons_succ, List.getElem?_cons_zero]; rfl)
              case hy3 => refine Or.inl ⟨by rfl, ?_⟩; intro w hSw; (try dsimp only at hSw); go_simp <;> with_reducible rfl
              case hQ3 => exact fun _ _ _ h => h
              try simp only [Act.put, List.setIfInBounds_toArray, List.set_cons_zero, List.set_cons_succ]
              refine' wpAnyH_take (i := 4) (v := _) ?hi4 (by kernel_rfl) (by kernel_rfl) (by kernel_rfl) ?hQ4 ?hy4 (by assumption) ?_
              case hi4 => (simp only [List.getElem?_toArray, List.getElem?_cons_succ, List.getElem?_cons_zero]; rfl)
              case hy4 => refine Or.inl ⟨by rfl, ?_⟩; intro w hSw; (try dsimp only at hSw); go_simp <;> with_reducible rfl
              case hQ4 => exact fun _ _ _ h => h
              try simp only [Act.put, List.setIfInBounds_toArray, List.set_cons_zero, List.set_cons_succ]
              refine' wpAnyH_take (i := 5) (v := _) ?hi5 (by kernel_rfl) (by kernel_rfl) (by kernel_rfl) ?hQ5 ?hy5 (by assumption) ?_
              case hi5 => (simp only [List.getElem?_toArray, List.getElem?_cons_succ, List.getElem?_cons_zero]; rfl)
              case hy5 => refine Or.inl ⟨by rfl, ?_⟩; intro w hSw; (try dsimp only at hSw); go_simp <;> with_reducible rfl
              case hQ5 => exact fun _ _ _ h => h
              try simp only [Act.put, List.setIfInBounds_toArray, List.set_cons_zero, List.set_cons_succ]
              refine' wpAnyH_take (i := 6) (v := _) ?hi6 (by kernel_rfl) (by kernel_rfl) (by kernel_rfl) ?hQ6 ?hy6 (by assumption) ?_
              case hi6 => (simp only [List.getElem?_toArray, List.getElem?_cons_succ, List.getElem?_cons_zero]; rfl)
              case hy6 => refine Or.inl ⟨by rfl, ?_⟩; intro w hSw; (try dsimp only at hSw); go_simp <;> with_reducible rfl
              case hQ6 => exact fun _ _ _ h => h
              try simp only [Act.put, List.setIfInBounds_toArray, List.set_cons_zero, List.set_cons_succ]
              refine' wpAnyH_take (i := 7) (v := _) ?hi7 (by kernel_rfl) (by kernel_rfl) (by kernel_rfl) ?hQ7 ?hy7 (by assumption) ?_
              case hi7 => (simp only [List.getElem?_toArray, List.getElem?_cons_succ, List.getElem?_cons_zero]; rfl)
              case hy7 => refine Or.inl ⟨by rfl, ?_⟩; intro w hSw; (try dsimp only at hSw); go_simp <;> with_reducible rfl
              case hQ7 => exact fun _ _ _ h => h
              try simp only [Act.put, List.setIfInBounds_toArray, List.set_cons_zero, List.set_cons_succ]
              refine' wpAnyH_take (i := 8) (v := _) ?hi8 (by kernel_rfl) (by kernel_rfl) (by kernel_rfl) ?hQ8 ?hy8 (by assumption) ?_
              case hi8 => (simp only [List.getElem?_toArray, List.getElem?_cons_succ, List.getElem?_cons_zero]; rfl)
              case hy8 => refine Or.inl ⟨by rfl, ?_⟩; intro w hSw; (try dsimp only at hSw); go_simp <;> with_reducible rfl
              case hQ8 => exact fun _ _ _ h => h
              try simp only [Act.put, List.setIfInBounds_toArray, List.set_cons_zero, List.set_cons_succ]
              refine' wpAnyH_take (i := 9) (v := _) ?hi9 (by kernel_rfl) (by kernel_rfl) (by kernel_rfl) ?hQ9 ?hy9 (by assumption) ?_
              case hi9 => (simp only [List.getElem?_toArray, List.getElem?_cons_succ, List.getElem?_cons_zero]; rfl)
              case hy9 => refine Or.inl ⟨by rfl, ?_⟩; intro w hSw; (try dsimp only at hSw); go_simp <;> with_reducible rfl
              case hQ9 => exact fun _ _ _ h => h
              try simp only [Act.put, List.setIfInBounds_toArray, List.set_cons_zero, List.set_cons_succ]
              refine' wpAnyH_take (i := 10) (v := _) ?hi10 (by kernel_rfl) (by kernel_rfl) (by kernel_rfl) ?hQ10 ?hy10 (by assumption) ?_
              case hi10 => (simp only [List.getElem?_toArray, List.getElem?_cons_succ, List.getElem?_cons_zero]; rfl)
              case hy10 => refine Or.inl ⟨by rfl, ?_⟩; intro w hSw; (try dsimp only at hSw); go_simp <;> with_reducible rfl
              case hQ10 => exact fun _ _ _ h => h
              try simp only [Act.put, List.setIfInBounds_toArray, List.set_cons_zero, List.set_cons_succ]
              refine' wpAnyH_take (i := 11) (v := _) ?hi11 (by kernel_rfl) (by kernel_rfl) (by kernel_rfl) ?hQ11 ?hy11 (by assumption) ?_
              case hi11 => (simp only [List.getElem?_toArray, List.getElem?_cons_succ, List.getElem?_cons_zero]; rfl)
              case hy11 => refine Or.inl ⟨by rfl, ?_⟩; intro w hSw; (try dsimp only at hSw); go_simp <;> with_reducible rfl
              case hQ11 => exact fun _ _ _ h => h
              try simp only [Act.put, List.setIfInBounds_toArray, List.set_cons_zero, List.set_cons_succ]
              refine' wpAnyH_take (i := 12) (v := _) ?hi12 (by kernel_rfl) (by kernel_rfl) (by kernel_rfl) ?hQ12 ?hy12 (by assumption) ?_
              case hi12 => (simp only [List.getElem?_toArray, List.getElem?_cons_succ, List.getElem?_cons_zero]; rfl)
              case hy12 => refine Or.inl ⟨by rfl, ?_⟩; intro w hSw; (try dsimp only at hSw); go_simp <;> with_reducible rfl
              case hQ12 => exact fun _ _ _ h => h
              try simp only [Act.put, List.setIfInBounds_toArray, List.set_cons_zero, List.set_cons_succ]
              refine' wpAnyH_take (i := 13) (v := _) ?hi13 (by kernel_rfl) (by kernel_rfl) (by kernel_rfl) ?hQ13 ?hy13 (by assumption) ?_
              case hi13 => (simp only [List.getElem?_toArray, List.getElem?_cons_succ, List.getElem?_cons_zero]; rfl)
              case hy13 => refine Or.inl ⟨by rfl, ?_⟩; intro w hSw; (try dsimp only at hSw); go_simp <;> with_reducible rfl
              case hQ13 => exact fun _ _ _ h => h
              try simp only [Act.put, List.setIfInBounds_toArray, List.set_cons_zero, List.set_cons_succ]
              refine' wpAnyH_take (i := 14) (v := _) ?hi14 (by kernel_rfl) (by kernel_rfl) (by kernel_rfl) ?hQ14 ?hy14 (by assumption) ?_
              case hi14 => (simp only [List.getElem?_toArray, List.getElem?_cons_succ, List.getElem?_cons_zero]; rfl)
              case hy14 => refine Or.inl ⟨by rfl, ?_⟩; intro w hSw; (try dsimp only at hSw); go_simp <;> with_reducible rfl
              case hQ14 => exact fun _ _ _ h => h
              try simp only [Act.put, List.setIfInBounds_toArray, List.set_cons_zero, List.set_cons_succ]
              refine' wpAnyH_take (i := 15) (v := _) ?hi15 (by kernel_rfl) (by kernel_rfl) (by kernel_rfl) ?hQ15 ?hy15 (by assumption) ?_
              case hi15 => (simp only [List.getElem?_toArray, List.getElem?_cons_succ, List.getElem?_cons_zero]; rfl)
              case hy15 => refine Or.inl ⟨by rfl, ?_⟩; intro w hSw; (try dsimp only at hSw); go_simp <;> with_reducible rfl
              case hQ15 => exact fun _ _ _ h => h
              try simp only [Act.put, List.setIfInBounds_toArray, List.set_cons_zero, List.set_cons_succ]
              refine' wpAnyH_take (i := 16) (v := _) ?hi16 (by kernel_rfl) (by kernel_rfl) (by kernel_rfl) ?hQ16 ?hy16 (by assumption) ?_
              case hi16 => (simp only [List.getElem?_toArray, List.getElem?_cons_succ, List.getElem?_cons_zero]; rfl)
              case hy16 => refine Or.inl ⟨by rfl, ?_⟩; intro w hSw; (try dsimp only at hSw); go_simp <;> with_reducible rfl
              case hQ16 => exact fun _ _ _ h => h
              try simp only [Act.put, List.setIfInBounds_toArray, List.set_cons_zero, List.set_cons_succ]
              refine' wpAnyH_take (i := 17) (v := _) ?hi17 (by kernel_rfl) (by kernel_rfl) (by kernel_rfl) ?hQ17 ?hy17 (by assumption) ?_
              case hi17 => (simp only [List.getElem?_toArray, List.getElem?_cons_succ, List.getElem?_cons_zero]; rfl)
              case hy17 => refine Or.inl ⟨by rfl, ?_⟩; intro w hSw; (try dsimp only at hSw); go_simp <;> with_reducible rfl
              case hQ17 => exact fun _ _ _ h => h
              try simp only [Act.put, List.setIfInBounds_toArray, List.set_cons_zero, List.set_cons_succ]
              refine' wpAnyH_take (i := 18) (v := _) ?hi18 (by kernel_rfl) (by kernel_rfl) (by kernel_rfl) ?hQ18 ?hy18 (by assumption) ?_
              case hi18 => (simp only [List.getElem?_toArray, List.getElem?_cons_succ, List.getElem?_cons_zero]; rfl)
              case hy18 => refine Or.inl ⟨by rfl, ?_⟩; intro w hSw; (try dsimp only at hSw); go_simp <;> with_reducible rfl
              case hQ18 => exact fun _ _ _ h => h
              try simp only [Act.put, List.setIfInBounds_toArray, List.set_cons_zero, List.set_cons_succ]
              refine' wpAnyH_take (i := 19) (v := _) ?hi19 (by kernel_rfl) (by kernel_rfl) (by kernel_rfl) ?hQ19 ?hy19 (by assumption) ?_
              case hi19 => (simp only [List.getElem?_toArray, List.getElem?_cons_succ, List.getElem?_cons_zero]; rfl)
              case hy19 => refine Or.inl ⟨by rfl, ?_⟩; intro w hSw; (try dsimp only at hSw); go_simp <;> with_reducible rfl
              case hQ19 => exact fun _ _ _ h => h
              try simp only [Act.put, List.setIfInBounds_toArray, List.set_cons_zero, List.set_cons_succ]
              refine' wpAnyH_take (i := 20) (v := _) ?hi20 (by kernel_rfl) (by kernel_rfl) (by kernel_rfl) ?hQ20 ?hy20 (by assumption) ?_
              case hi20 => (simp only [List.getElem?_toArray, List.getElem?_cons_succ, List.getElem?_cons_zero]; rfl)
              case hy20 => refine Or.inl ⟨by rfl, ?_⟩; intro w hSw; (try dsimp only at hSw); go_simp <;> with_reducible rfl
              case hQ20 => exact fun _ _ _ h => h
              try simp only [Act.put, List.setIfInBounds_toArray, List.set_cons_zero, List.set_cons_succ]
              refine' wpAnyH_take (i := 21) (v := _) ?hi21 (by kernel_rfl) (by kernel_rfl) (by kernel_rfl) ?hQ21 ?hy21 (by assumption) ?_
              case hi21 => (simp only [List.getElem?_toArray, List.getElem?_cons_succ, List.getElem?_cons_zero]; rfl)
              case hy21 => refine Or.inl ⟨by rfl, ?_⟩; intro w hSw; (try dsimp only at hSw); go_simp <;> with_reducible rfl
              case hQ21 => exact fun _ _ _ h => h
              try simp only [Act.put, List.setIfInBounds_toArray, List.set_cons_zero, List.set_cons_succ]
              refine' wpAnyH_take (i := 23) (v := _) ?hi23 (by kernel_rfl) (by kernel_rfl) (by kernel_rfl) ?hQ23 ?hy23 (by assumption) ?_
              case hi23 => (simp only [List.getElem?_toArray, List.getElem?_cons_succ, List.getElem?_cons_zero]; rfl)
              case hy23 => refine Or.inl ⟨by rfl, ?_⟩; intro w hSw; (try dsimp only at hSw); go_simp <;> with_reducible rfl
              case hQ23 => exact fun _ _ _ h => h
              try simp only [Act.put, List.setIfInBounds_toArray, List.set_cons_zero, List.set_cons_succ]
              refine' wpAnyH_take (i := 24) (v := _) ?hi24 (by kernel_rfl) (by kernel_rfl) (by kernel_rfl) ?hQ24 ?hy24 (by assumption) ?_
              case hi24 => (simp only [List.getElem?_toArray, List.getElem?_cons_succ, List.getElem?_cons_zero]; rfl)
              case hy24 => refine Or.inl ⟨by rfl, ?_⟩; intro w hSw; (try dsimp only at hSw); go_simp <;> with_reducible rfl
              case hQ24 => exact fun _ _ _ h => h
              try simp only [Act.put, List.setIfInBounds_toArray, List.set_cons_zero, List.set_cons_succ]
              refine' wpAnyH_take (i := 25) (v := _) ?hi25 (by kernel_rfl) (by kernel_rfl) (by kernel_rfl) ?hQ25 ?hy25 (by assumption) ?_
              case hi25 => (simp only [List.getElem?_toArray, List.getElem?_cons_succ, List.getElem?_cons_zero]; rfl)
              case hy25 => refine Or.inl ⟨by rfl, ?_⟩; intro w hSw; (try dsimp only at hSw); go_simp <;> with_reducible rfl
              case hQ25 => exact fun _ _ _ h => h
              try simp only [Act.put, List.setIfInBounds_toArray, List.set_cons_zero, List.set_cons_succ]
              refine' wpAnyH_take (i := 26) (v := _) ?hi26 (by kernel_rfl) (by kernel_rfl) (by kernel_rfl) ?hQ26 ?hy26 (by assumption) ?_
              case hi26 => (simp only [List.getElem?_toArray, List.getElem?_cons_succ, List.getElem?_cons_zero]; rfl)
              case hy26 => refine Or.inl ⟨by rfl, ?_⟩; intro w hSw; (try dsimp only at hSw); go_simp <;> with_reducible rfl
              case hQ26 => exact fun _ _ _ h => h
              try simp only [Act.put, List.setIfInBounds_toArray, List.set_cons_zero, List.set_cons_succ]
              refine' wpAnyH_take (i := 27) (v := _) ?hi27 (by kernel_rfl) (by kernel_rfl) (by kernel_rfl) ?hQ27 ?hy27 (by assumption) ?_
              case hi27 => (simp only [List.getElem?_toArray, List.getElem?_cons_succ, List.getElem?_cons_zero]; rfl)
              case hy27 => refine Or.inl ⟨by rfl, ?_⟩; intro w hSw; (try dsimp only at hSw); go_simp <;> with_reducible rfl
              case hQ27 => exact fun _ _ _ h => h
              try simp only [Act.put, List.setIfInBounds_toArray, List.set_cons_zero, List.set_cons_succ]
              refine' wpAnyH_take (i := 28) (v := _) ?hi28 (by kernel_rfl) (by kernel_rfl) (by kernel_rfl) ?hQ28 ?hy28 (by assumption) ?_
              case hi28 => (simp only [List.getElem?_toArray, List.getElem?_cons_succ, List.getElem?_cons_zero]; rfl)
              case hy28 => refine Or.inl ⟨by rfl, ?_⟩; intro w hSw; (try dsimp only at hSw); go_simp <;> with_reducible rfl
              case hQ28 => exact fun _ _ _ h => h
              try simp only [Act.put, List.setIfInBounds_toArray, List.set_cons_zero, List.set_cons_succ]
              refine' wpAnyH_take (i := 29) (v := _) ?hi29 (by kernel_rfl) (by kernel_rfl) (by kernel_rfl) ?hQ29 ?hy29 (by assumption) ?_
              case hi29 => (simp only [List.getElem?_toArray, List.getElem?_cons_succ, List.getElem?_cons_zero]; rfl)
              case hy29 => refine Or.inl ⟨by rfl, ?_⟩; intro w hSw; (try dsimp only at hSw); go_simp <;> with_reducible rfl
              case hQ29 => exact fun _ _ _ h => h
              try simp only [Act.put, List.setIfInBounds_toArray, List.set_cons_zero, List.set_cons_succ]
              refine' wpAnyH_take (i := 30) (v := _) ?hi30 (by kernel_rfl) (by kernel_rfl) (by kernel_rfl) ?hQ30 ?hy30 (by assumption) ?_
              case hi30 => (simp only [List.getElem?_toArray, List.getElem?_cons_succ, List.getElem?_cons_zero]; rfl)
              case hy30 => refine Or.inl ⟨by rfl, ?_⟩; intro w hSw; (try dsimp only at hSw); go_simp <;> with_reducible rfl
              case hQ30 => exact fun _ _ _ h => h
              try simp only [Act.put, List.setIfInBounds_toArray, List.set_cons_zero, List.set_cons_succ]
              refine' wpAnyH_take (i := 31) (v := _) ?hi31 (by kernel_rfl) (by kernel_rfl) (by kernel_rfl) ?hQ31 ?hy31 (by assumption) ?_
              case hi31 => (simp only [List.getElem?_toArray, List.getElem?_cons_succ, List.getElem?_cons_zero]; rfl)
              case hy31 => refine Or.inl ⟨by rfl, ?_⟩; intro w hSw; (try dsimp only at hSw); go_simp <;> with_reducible rfl
              case hQ31 => exact fun _ _ _ h => h
              try simp only [Act.put, List.setIfInBounds_toArray, List.set_cons_zero, List.set_cons_succ]
              refine wpAnyH_ready (rs := [22]) (by kernel_rfl) (by simp) ?_
              refine AllReadyH.cons (o := _) (by simp only [List.getElem?_toArray, List.getElem?_cons_succ, List.getElem?_cons_zero]; rfl) (fun KK hKK => ?_) ?_
              · refine if_wanted (by kernel_rfl) ?_
                go_simp
                go_at_call 49
                refine (pow_any p q g g rj _ hB hgb.1 hgb.2 (by omega) (by omega)).mono ?_
                rintro ek wk22 ⟨hek, hbk22⟩
                rw [K279.out] at hek; subst hek
                have hxk22 := Ext.trans (w := Wd) (by repeat (first | with_reducible assumption | with_reducible exact Ext.refl _ | with_reducible apply Ext.alloc | with_reducible apply Ext.drew | with_reducible apply Ext.drewN)) hbk22
                refine hKK.out _ _ ?_ (fun hHeld => ?_)
                · exact hS24 _ (by repeat (first | with_reducible assumption | with_reducible exact Ext.refl _ | with_reducible apply Ext.alloc | with_reducible apply Ext.drew | with_reducible apply Ext.drewN))
                clear hKK KK
                try simp only [Act.put, List.setIfInBounds_toArray, List.set_cons_zero, List.set_cons_succ]
                refine wpAnyH_ready (rs := [32]) (by kernel_rfl) (by simp) ?_
                refine AllReadyH.cons (o := _) (by simp only [List.getElem?_toArray, List.getElem?_cons_succ, List.getElem?_cons_zero]; rfl) (fun KK hKK => ?_) ?_
                · refine if_wanted (by kernel_rfl) ?_
                  go_simp
                  go_at_call 49
                  refine (pow_any p q g bj xj _ hB (by omega) (by omega) (by omega) (by omega)).mono ?_
                  rintro ek wk32 ⟨hek, hbk32⟩
                  rw [K289.out] at hek; subst hek
                  have hxk32 := Ext.trans (w := Wd) (by repeat (first | with_reducible assumption | with_reducible exact Ext.refl _ | with_reducible apply Ext.alloc | with_reducible apply Ext.drew | with_reducible apply Ext.drewN)) hbk32
                  refine hKK.out _ _ ?_ (fun hHeld => ?_)
                  · exact hS24 _ (by repeat (first | with_reducible assumption | with_reducible exact Ext.refl _ | with_reducible apply Ext.alloc | with_reducible apply Ext.drew | with_reducible apply Ext.drewN))
                  clear hKK KK
                  try simp only [Act.put, List.setIfInBounds_toArray, List.set_cons_zero, List.set_cons_succ]
                  refine wpAnyH_ready (rs := [33]) (by kernel_rfl) (by simp) ?_
                  refine AllReadyH.cons (o := _) (by simp only [List.getElem?_toArray, List.getElem?_cons_succ, List.getElem?_cons_zero]; rfl) (fun KK hKK => ?_) ?_
                  · refine if_wanted (by kernel_rfl) ?_
                    go_simp
                    refine hKK.out _ _ ?_ (fun hHeld => ?_)
                    · exact hS24 _ (by repeat (first | with_reducible assumption | with_reducible exact Ext.refl _ | with_reducible apply Ext.alloc | with_reducible apply Ext.drew | with_reducible apply Ext.drewN))
                    clear hKK KK
                    try simp only [Act.put, List.setIfInBounds_toArray, List.set_cons_zero, List.set_cons_succ]
                    refine wpAnyH_ready (rs := [34]) (by kernel_rfl) (by simp) ?_
                    refine AllReadyH.cons (o := _) (by simp only [List.getElem?_toArray, List.getElem?_cons_succ, List.getElem?_cons_zero]; rfl) (fun KK hKK => ?_) ?_
                    · refine if_wanted (by kernel_rfl) ?_
                      go_simp
                      go_at_call 84
                      refine (mul_any p q g _ 2 2 [V279, V289] _ hB (rd_twoV (w := wk32) rfl (by repeat (first | with_reducible assumption | with_reducible exact Ext.refl _ | with_reducible apply Ext.alloc | with_reducible apply Ext.drew | with_reducible apply Ext.drewN))) rfl (by decide) (two_rg (by omega) (by omega))).mono ?_
                      rintro ek wk34 ⟨hek, hbk34⟩
                      rw [K291.out] at hek; subst hek
                      have hxk34 := Ext.trans (w := Wd) (by repeat (first | with_reducible assumption | with_reducible exact Ext.refl _ | with_reducible apply Ext.alloc | with_reducible apply Ext.drew | with_reducible apply Ext.drewN)) hbk34
                      refine hKK.out _ _ ?_ (fun hHeld => ?_)
                      · exact hS24 _ (by repeat (first | with_reducible assumption | with_reducible exact Ext.refl _ | with_reducible apply Ext.alloc | with_reducible apply Ext.drew | with_reducible apply Ext.drewN))
                      clear hKK KK
                      try simp only [Act.put, List.setIfInBounds_toArray, List.set_cons_zero, List.set_cons_succ]
                      refine wpAnyH_ready (rs := [35]) (by kernel_rfl) (by simp) ?_
                      refine AllReadyH.cons (o := _) (by simp only [List.getElem?_toArray, List.getElem?_cons_succ, List.getElem?_cons_zero]; rfl) (fun KK hKK => ?_) ?_
                      · refine if_wanted (by kernel_rfl) ?_
                        go_simp
                        refine (hH24.2 cj nj V291 _ (by omega) (by omega) (by repeat (first | with_reducible assumption | with_reducible exact Ext.refl _ | with_reducible apply Ext.alloc | with_reducible apply Ext.drew | with_reducible apply Ext.drewN))).mono ?_
                        rintro ek wk35 ⟨hek, hbk35⟩
                        rw [KQj.out] at hek; subst hek
                        have hxk35 := Ext.trans (w := Wd) (by repeat (first | with_reducible assumption | with_reducible exact Ext.refl _ | with_reducible apply Ext.alloc | with_reducible apply Ext.drew | with_reducible apply Ext.drewN)) hbk35
                        refine hKK.out _ _ ?_ (fun hHeld => ?_)
                        · exact hS24 _ (by repeat (first | with_reducible assumption | with_reducible exact Ext.refl _ | with_reducible apply Ext.alloc | with_reducible apply Ext.drew | with_reducible apply Ext.drewN))
                        clear hKK KK
                        try simp only [Act.put, List.setIfInBounds_toArray, List.set_cons_zero, List.set_cons_succ]
                        refine' wpAnyH_take (i := 36) (v := _) ?hi36 (by kernel_rfl) (by kernel_rfl) (by kernel_rfl) ?hQ36 ?hy36 (by assumption) ?_
                        case hi36 => (simp only [List.getElem?_toArray, List.getElem?_cons_succ, List.getElem?_cons_zero]; rfl)
                        case hy36 => refine Or.inl ⟨by rfl, ?_⟩; intro w hSw; (try dsimp only at hSw); go_simp <;> with_reducible rfl
                        case hQ36 => exact fun _ _ _ h => h
                        try simp only [Act.put, List.setIfInBounds_toArray, List.set_cons_zero, List.set_cons_succ]
                        refine' wpAnyH_take (i := 37) (v := _) ?hi37 (by kernel_rfl) (by kernel_rfl) (by kernel_rfl) ?hQ37 ?hy37 (by assumption) ?_
                        case hi37 => (simp only [List.getElem?_toArray, List.getElem?_cons_succ, List.getElem?_cons_zero]; rfl)
                        case hy37 => refine Or.inl ⟨by rfl, ?_⟩; intro w hSw; (try dsimp only at hSw); go_simp <;> with_reducible rfl
                        case hQ37 => exact fun _ _ _ h => h
                        try simp only [Act.put, List.setIfInBounds_toArray, List.set_cons_zero, List.set_cons_succ]
                        refine wpAnyH_done (by kernel_rfl) ?_ _
                        go_wp2
                        go_roundw
                        case rel => exact ⟨j + 1, by omega, by go_num, by rw [HNX.out, HQj.out, Bool.true_and], E2.trans hxk35⟩
                        case measure => first | (simp [intOf]; done) | (simp [intOf]; omega)
                      exact AllReadyH.nil
                    exact AllReadyH.nil
                  exact AllReadyH.nil
                exact AllReadyH.nil
              exact AllReadyH.nil
        · obtain rfl : n = j := by omega
          go_wp2
          go_ret
          exact ⟨by rw [HV.out]; rfl, E.trans E2⟩
end Go.Proofs.Ytnhdohjlbchniaa
