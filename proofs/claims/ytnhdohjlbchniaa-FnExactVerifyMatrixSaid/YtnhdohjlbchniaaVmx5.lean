/- Contracts for mVerify, the reference's. (Printed by tools/gen_vmx5.py.) -/
import Derived.Test.YtnhdohjlbchniaaProg
import Derived.Test.YtnhdohjlbchniaaVmw
import Derived.Deep.CutRange
namespace Go.Proofs.Ytnhdohjlbchniaa
open Go.RowKit
set_option linter.unusedVariables false
set_option linter.unusedSimpArgs false
set_option maxRecDepth 100000 in
set_option maxHeartbeats 16000000 in
theorem sVerify_any (p q g key H : Int) (AH : Option Addr) (cH : Nat) (hs : List Int) (A : Option Addr) (n c : Nat) (B : Option Addr) (m d : Nat) (a b : List (Int × Int)) (C1 : Option Addr) (k1 e1 : Nat) (C2 : Option Addr) (k2 e2 : Nat) (C3 : Option Addr) (k3 e3 : Nat) (C4 : Option Addr) (k4 e4 : Nat) (C5 : Option Addr) (k5 e5 : Nat) (co cn cm ch rs : List Int) (w : World) (hG : grpB p q g = true) (hk : elB p q key = true) (hH : elB p q H = true) (rh : RdI w AH hs) (lh : hs.length = n) (eh : hs.all (elB p q) = true) (ha : RdC w A a) (hla : a.length = n) (am : amB p q a = true) (hb : RdC w B b) (hlb : b.length = m) (bm : amB p q b = true) (s1 : SlI w C1 k1 e1 co) (s2 : SlI w C2 k2 e2 cn) (s3 : SlI w C3 k3 e3 cm) (s4 : SlI w C4 k4 e4 ch) (s5 : SlI w C5 k5 e5 rs) :
    Calls Try.prog 57 #[.agg #[.int .i64 p, .int .i64 q, .int .i64 g], .int .i64 key, .agg #[.int .i64 H, .slice AH n cH], .slice A n c, .slice B m d, .agg #[.slice C1 k1 e1, .slice C2 k2 e2, .slice C3 k3 e3, .slice C4 k4 e4, .slice C5 k5 e5]] w fun en w' => en = .returned (.bool (vmW p q g key H hs a b co cn cm ch rs)) ∧ Ext w w' := by
  have hI := grpB_in hG
  have hB := hI.bd
  have hp := hI.p9
  have hq2 := hI.q2
  have hqp := hI.qp
  have hgp := hI.gp
  have hg2 := hI.g2
  obtain ⟨a1, a12, aci⟩ := amB_in am
  obtain ⟨b1, b12, bci⟩ := amB_in bm
  rw [hla] at a1 a12
  rw [hlb] at b1 b12
  have HA := Lib.hid hla
  have HBL := Lib.hid hlb
  have HH := Lib.hid lh
  have HG := Lib.hid hG
  have HK := Lib.hid hk
  have HAM := Lib.hid am
  have HBM := Lib.hid bm
  have HEH := Lib.hid eh
  have HHE := Lib.hid hH
  have hHb := el_bd hp hH
  have hkb := el_bd hp hk
  have hgb : 0 ≤ g ∧ g ≤ 3000000000 := by omega
  have BHS := Lib.hid (els_bd hp eh)
  have BA := Lib.hid (ci_bd hp aci)
  have BB := Lib.hid (ci_bd hp bci)
  have HW : Hid (vmW p q g key H hs a b co cn cm ch rs = (decide (m = n) && (vmF p q n co cn cm ch rs && ((ch.getD 0 0 == vmZ p q g key a b co cn cm) &&
      (List.range (5 + a.length)).all (vmQ p q (vmZ p q g key a b co cn cm) cm (vmL p q H hs a co cn (vmE p q g key a b co)) (vmR p q g key H hs b cn rs (rs.drop (a.length + 4)) a.length)))))) := by show _ = _; unfold vmW; rw [hla, hlb]
  clear hG hk hH lh eh hla hlb am bm aci bci
  have E := ((((Ext.refl w).alloc (.cells #[.int .i64 p, .int .i64 q, .int .i64 g] 31)).alloc (.cells #[.int .i64 H, .slice AH n cH] 86)).alloc (.cells #[.slice C1 k1 e1, .slice C2 k2 e2, .slice C3 k3 e3, .slice C4 k4 e4, .slice C5 k5 e5] 56))
  have B0 := (((Blk.new w 31 #[.int .i64 p, .int .i64 q, .int .i64 g]).alloc (.cells #[.int .i64 H, .slice AH n cH] 86)).alloc (.cells #[.slice C1 k1 e1, .slice C2 k2 e2, .slice C3 k3 e3, .slice C4 k4 e4, .slice C5 k5 e5] 56))
  have B1 := ((Blk.new (w.alloc (.cells #[.int .i64 p, .int .i64 q, .int .i64 g] 31)) 86 #[.int .i64 H, .slice AH n cH]).alloc (.cells #[.slice C1 k1 e1, .slice C2 k2 e2, .slice C3 k3 e3, .slice C4 k4 e4, .slice C5 k5 e5] 56))
  have B2 := (Blk.new ((w.alloc (.cells #[.int .i64 p, .int .i64 q, .int .i64 g] 31)).alloc (.cells #[.int .i64 H, .slice AH n cH] 86)) 56 #[.slice C1 k1 e1, .slice C2 k2 e2, .slice C3 k3 e3, .slice C4 k4 e4, .slice C5 k5 e5])
  simp only [World.size_alloc] at B1 B2
  by_cases f1 : m = n
  case neg =>
    have d1 : ((m : Int) != (n : Int)) = true := by simp; omega
    have HV : Hid (vmW p q g key H hs a b co cn cm ch rs = false) := by show _ = _; rw [HW.out, decide_eq_false f1, Bool.false_and]
    clear f1 HW
    go_enter Try.func57, Try.ntmps57
    go_upto_region 2 with (fail)
    go_quiet (fail)
    go_wp2
    go_ret
    exact ⟨by rw [HV.out]; rfl, E.drewN _⟩
  have d1 : ((m : Int) != (n : Int)) = false := by simp; omega
  have HMN := Lib.hid f1
  clear f1
  cases f2 : vmF p q n co cn cm ch rs
  case false =>
    have HF := Lib.hid f2
    have HV : Hid (vmW p q g key H hs a b co cn cm ch rs = false) := by show _ = _; rw [HW.out, f2, Bool.false_and, Bool.and_false]
    clear f2 HW
    go_enter Try.func57, Try.ntmps57
    go_upto_region 2 with (fail)
    generalize hWb : (((w.alloc (.cells #[.int .i64 p, .int .i64 q, .int .i64 g] 31)).alloc (.cells #[.int .i64 H, .slice AH n cH] 86)).alloc (.cells #[.slice C1 k1 e1, .slice C2 k2 e2, .slice C3 k3 e3, .slice C4 k4 e4, .slice C5 k5 e5] 56)) = Wb at *
    clear hWb
    have hS : ∀ V, Ext Wb V → V.cell? ⟨w.heap.size, 0, none⟩ = some (.int .i64 p) ∧ V.cell? ⟨w.heap.size, 1, none⟩ = some (.int .i64 q) ∧ V.cell? ⟨w.heap.size, 2, none⟩ = some (.int .i64 g) ∧ V.cell? ⟨w.heap.size + 1 + 1, 0, none⟩ = some (.slice C1 k1 e1) ∧ V.cell? ⟨w.heap.size + 1 + 1, 1, none⟩ = some (.slice C2 k2 e2) ∧ V.cell? ⟨w.heap.size + 1 + 1, 2, none⟩ = some (.slice C3 k3 e3) ∧ V.cell? ⟨w.heap.size + 1 + 1, 3, none⟩ = some (.slice C4 k4 e4) ∧ V.cell? ⟨w.heap.size + 1 + 1, 4, none⟩ = some (.slice C5 k5 e5) := fun V hV => by
      have a0 := (B0.ext hV).cells
      have a2 := (B2.ext hV).cells
      exact ⟨a0 0, a0 1, a0 2, a2 0, a2 1, a2 2, a2 3, a2 4⟩
    go_cut [59] from 35 to 58 (fun b0 wx => b0 = .bool true ∧ Ext Wb wx)
    case first =>
      as_aux_lemma =>
        refine wp_region_held_drew (S := fun V => V.cell? ⟨w.heap.size, 0, none⟩ = some (.int .i64 p) ∧ V.cell? ⟨w.heap.size, 1, none⟩ = some (.int .i64 q) ∧ V.cell? ⟨w.heap.size, 2, none⟩ = some (.int .i64 g) ∧ V.cell? ⟨w.heap.size + 1 + 1, 0, none⟩ = some (.slice C1 k1 e1) ∧ V.cell? ⟨w.heap.size + 1 + 1, 1, none⟩ = some (.slice C2 k2 e2) ∧ V.cell? ⟨w.heap.size + 1 + 1, 2, none⟩ = some (.slice C3 k3 e3) ∧ V.cell? ⟨w.heap.size + 1 + 1, 3, none⟩ = some (.slice C4 k4 e4) ∧ V.cell? ⟨w.heap.size + 1 + 1, 4, none⟩ = some (.slice C5 k5 e5)) (by kernel_rfl) ?_ (fun hHeld => ?_)
        · exact hS _ (by repeat (first | with_reducible assumption | with_reducible exact Ext.refl _ | with_reducible apply Ext.alloc | with_reducible apply Ext.drew | with_reducible apply Ext.drewN))
        refine' tkH 0 (hy := yldH (by rfl) ?hy) (h := ?_)
        case hy => intro w hSw; (try dsimp only at hSw); go_simp <;> with_reducible rfl
        try simp only [Act.put, List.setIfInBounds_toArray, List.set_cons_zero, List.set_cons_succ]
        refine' tkH 1 (hy := yldH (by rfl) ?hy) (h := ?_)
        case hy => intro w hSw; (try dsimp only at hSw); go_simp <;> with_reducible rfl
        try simp only [Act.put, List.setIfInBounds_toArray, List.set_cons_zero, List.set_cons_succ]
        refine' tkH 2 (hy := yldH (by rfl) ?hy) (h := ?_)
        case hy => intro w hSw; (try dsimp only at hSw); go_simp <;> with_reducible rfl
        try simp only [Act.put, List.setIfInBounds_toArray, List.set_cons_zero, List.set_cons_succ]
        refine' tkH 3 (hy := yldH (by rfl) ?hy) (h := ?_)
        case hy => intro w hSw; (try dsimp only at hSw); go_simp <;> with_reducible rfl
        try simp only [Act.put, List.setIfInBounds_toArray, List.set_cons_zero, List.set_cons_succ]
        refine' tkH 4 (hy := yldH (by rfl) ?hy) (h := ?_)
        case hy => intro w hSw; (try dsimp only at hSw); go_simp <;> with_reducible rfl
        try simp only [Act.put, List.setIfInBounds_toArray, List.set_cons_zero, List.set_cons_succ]
        refine' tkH 5 (hy := yldH (by rfl) ?hy) (h := ?_)
        case hy => intro w hSw; (try dsimp only at hSw); go_simp <;> with_reducible rfl
        try simp only [Act.put, List.setIfInBounds_toArray, List.set_cons_zero, List.set_cons_succ]
        refine' tkH 6 (hy := yldH (by rfl) ?hy) (h := ?_)
        case hy => intro w hSw; (try dsimp only at hSw); go_simp <;> with_reducible rfl
        try simp only [Act.put, List.setIfInBounds_toArray, List.set_cons_zero, List.set_cons_succ]
        refine' tkH 7 (hy := yldH (by rfl) ?hy) (h := ?_)
        case hy => intro w hSw; (try dsimp only at hSw); go_simp <;> with_reducible rfl
        try simp only [Act.put, List.setIfInBounds_toArray, List.set_cons_zero, List.set_cons_succ]
        refine wpAnyH_one (i := 8) (by kernel_rfl) (by simp only [List.getElem?_toArray, List.getElem?_cons_succ, List.getElem?_cons_zero]; rfl) (by kernel_rfl) (fun KK hKK => ?_)
        go_simp
        go_at_call 95
        refine (mShape_any p q g C1 k1 e1 C2 k2 e2 C3 k3 e3 C4 k4 e4 C5 k5 e5 co cn cm ch rs n _ hB (s1.ext (Ext.trans E (by repeat (first | with_reducible assumption | with_reducible exact Ext.refl _ | with_reducible apply Ext.alloc | with_reducible apply Ext.drew | with_reducible apply Ext.drewN)))) (s2.ext (Ext.trans E (by repeat (first | with_reducible assumption | with_reducible exact Ext.refl _ | with_reducible apply Ext.alloc | with_reducible apply Ext.drew | with_reducible apply Ext.drewN)))) (s3.ext (Ext.trans E (by repeat (first | with_reducible assumption | with_reducible exact Ext.refl _ | with_reducible apply Ext.alloc | with_reducible apply Ext.drew | with_reducible apply Ext.drewN)))) (s4.ext (Ext.trans E (by repeat (first | with_reducible assumption | with_reducible exact Ext.refl _ | with_reducible apply Ext.alloc | with_reducible apply Ext.drew | with_reducible apply Ext.drewN)))) (s5.ext (Ext.trans E (by repeat (first | with_reducible assumption | with_reducible exact Ext.refl _ | with_reducible apply Ext.alloc | with_reducible apply Ext.drew | with_reducible apply Ext.drewN)))) (by omega)).mono ?_
        rintro ek wk8 ⟨hek, hbk8⟩
        rw [HF.out] at hek; subst hek
        have hxk8 := Ext.trans (w := Wb) (by repeat (first | with_reducible assumption | with_reducible exact Ext.refl _ | with_reducible apply Ext.alloc | with_reducible apply Ext.drew | with_reducible apply Ext.drewN)) hbk8
        refine hKK.out _ _ ?_ (fun hHeld => ?_)
        · exact hS _ (by repeat (first | with_reducible assumption | with_reducible exact Ext.refl _ | with_reducible apply Ext.alloc | with_reducible apply Ext.drew | with_reducible apply Ext.drewN))
        clear hKK KK
        try simp only [Act.put, List.setIfInBounds_toArray, List.set_cons_zero, List.set_cons_succ]
        refine' tkH 9 (hy := yldH (by rfl) ?hy) (h := ?_)
        case hy => intro w hSw; (try dsimp only at hSw); go_simp <;> with_reducible rfl
        try simp only [Act.put, List.setIfInBounds_toArray, List.set_cons_zero, List.set_cons_succ]
        refine' tkH 10 (hy := yldH (by rfl) ?hy) (h := ?_)
        case hy => intro w hSw; (try dsimp only at hSw); go_simp <;> with_reducible rfl
        try simp only [Act.put, List.setIfInBounds_toArray, List.set_cons_zero, List.set_cons_succ]
        refine' tkH 11 (hy := yldH (by rfl) ?hy) (h := ?_)
        case hy => intro w hSw; (try dsimp only at hSw); go_simp <;> with_reducible rfl
        try simp only [Act.put, List.setIfInBounds_toArray, List.set_cons_zero, List.set_cons_succ]
        refine wpAnyH_skips (is := [12, 13, 14, 15, 16, 17, 18, 19, 20, 21, 22, 23]) (l' := #[true, true, true, true, true, true, true, true, true, true, true, true, true, true, true, true, true, true, true, true, true, true, true, true, false]) (by kernel_rfl) (fun d _ _ _ h => by cases d <;> exact h) (by assumption) (by kernel_rfl) (by kernel_rfl) ?_
        refine' tkH 24 (hy := yldH (by rfl) ?hy) (h := ?_)
        case hy => intro w hSw; (try dsimp only at hSw); go_simp <;> with_reducible rfl
        try simp only [Act.put, List.setIfInBounds_toArray, List.set_cons_zero, List.set_cons_succ]
        refine wpAnyH_done (by kernel_rfl) ?_ _
        go_wp2
        go_meet
        exact ⟨rfl, hxk8⟩
    case' rest =>
    obtain ⟨rfl, hbc⟩ := hcut
    go_wp2
    go_ret
    exact ⟨by rw [HV.out]; rfl, E.trans hbc⟩
  have HF := Lib.hid f2
  obtain ⟨l1, l2, l3, l4, l5, eco, ecn, ecm, rrs⟩ := vmF_in f2
  have hck := vm_chs HG.out HK.out HAM.out HBM.out (by rw [HBL.out, HA.out, HMN.out]) (by rw [HA.out, l1]) eco
  obtain ⟨hck2, hcr2⟩ := vm_ch HG.out HK.out HAM.out HBM.out (by rw [HBL.out, HA.out, HMN.out]) (by rw [HA.out, l1]) eco (by rw [HA.out, l2]) ecn (by rw [HA.out, l3]) ecm
  have HCK := Lib.hid hck
  have HCK2 := Lib.hid hck2
  have HCR2 := Lib.hid hcr2
  have hlm : m = n := HMN.out
  have t1 : k1 = n := s1.len.symm.trans l1
  have t2 : k2 = n := s2.len.symm.trans l2
  have t3 : k3 = n + 5 := s3.len.symm.trans l3
  have t4 : k4 = 1 := s4.len.symm.trans l4
  have t5 : k5 = 2 * n + 4 := s5.len.symm.trans l5
  obtain ⟨hk1, hk2, hk3, hk4, hk5⟩ : (k1 ≤ 12 ∧ 1 ≤ k1) ∧ (k2 ≤ 12 ∧ 1 ≤ k2) ∧ (k3 ≤ 17 ∧ 6 ≤ k3) ∧ (k4 ≤ 1 ∧ 1 ≤ k4) ∧ (k5 ≤ 28 ∧ 6 ≤ k5) := by omega
  have T1 := Lib.hid t1
  have T2 := Lib.hid t2
  have T3 := Lib.hid t3
  have T5 := Lib.hid t5
  have BCO := Lib.hid (els_bd hp eco)
  have BCN := Lib.hid (els_bd hp ecn)
  have BCM := Lib.hid (els_bd hp ecm)
  have BRS := Lib.hid (allR_iff.1 rrs)
  obtain ⟨z, hz⟩ : ∃ z, vmZ p q g key a b co cn cm = z := ⟨_, rfl⟩
  have hzr : 0 ≤ z ∧ z ≤ 2000000000 := by have := chV_rg HG.out endS (mlL key a b co ++ cn ++ cm); rw [← hz]; unfold vmZ; omega
  have HZ := Lib.hid hz
  have hmlen : (mlL key a b co).length ≤ 100 := by rw [mlL_length, HA.out, HBL.out, l1]; omega
  have htot : tot [mlL key a b co, cn, cm] ≤ 200 := by have h8 := s2.len; have h9 := s3.len; simp only [tot, List.map_cons, List.map_nil, List.sum_cons, List.sum_nil]; omega
  have BE := Lib.hid (chs_bd HG.out colS (mlL key a b co) n)
  have HE : Hid (chsL p q g colS (mlL key a b co) n = vmE p q g key a b co) := by show _ = _; unfold vmE; rw [HA.out]
  rw [HE.out] at BE
  have HEL : Hid ((vmE p q g key a b co).length = n) := by show _ = _; rw [← HE.out, chsL_length]
  generalize vmE p q g key a b co = es at *
  have hp4 : 0 < ch.length := by omega
  clear f2 hck hck2 hcr2 t1 t2 t3 t4 t5 l1 l2 l3 l4 l5 eco ecn ecm rrs hz hlm
  have hp4 : 0 < ch.length := by have := s4.len; omega
  have hp3 : 5 < cm.length := by have := s3.len; omega
  have hp5 : 5 < rs.length := by have := s5.len; omega
  have hp2 : n - 1 < cn.length := by have := s2.len; have := T2.out; omega
  obtain ⟨ad4, hA4, hc40⟩ := s4.rd.at_ hp4
  subst hA4
  rw [show ad4.add 0 = ad4 from rfl] at hc40
  obtain ⟨ac, hA3, hm0⟩ := s3.rd.at_ (k := 0) (by omega)
  subst hA3
  obtain ⟨ar, hA5, hr0⟩ := s5.rd.at_ (k := 0) (by omega)
  subst hA5
  obtain ⟨an, hA2, hn0⟩ := s2.rd.at_ hp2
  subst hA2
  have hcA : ∀ k, (hk : k < cm.length) → w.cell? (ac.add k) = some (.int .i64 cm[k]) := fun k hk => by
    obtain ⟨a9, h9, h8⟩ := s3.rd.at_ hk
    injection h9 with h9; subst h9; exact h8
  have hrA : ∀ k, (hk : k < rs.length) → w.cell? (ar.add k) = some (.int .i64 rs[k]) := fun k hk => by
    obtain ⟨a9, h9, h8⟩ := s5.rd.at_ hk
    injection h9 with h9; subst h9; exact h8
  have hnA : ∀ k, (hk : k < cn.length) → w.cell? (an.add k) = some (.int .i64 cn[k]) := fun k hk => by
    obtain ⟨a9, h9, h8⟩ := s2.rd.at_ hk
    injection h9 with h9; subst h9; exact h8
  have hc4v : ch.getD 0 0 = ch[0] := getD_lt hp4
  obtain ⟨x0, hx0⟩ : ∃ x0, ch[0] = x0 := ⟨_, rfl⟩
  rw [hx0] at hc40 hc4v
  have HX0 := Lib.hid hc4v
  have hc4 := E.cell hc40
  have HCA := Lib.hid hcA
  have HRA := Lib.hid hrA
  have HNA := Lib.hid hnA
  have HP3 := Lib.hid hp3
  have HP5 := Lib.hid hp5
  have HP2 := Lib.hid hp2
  have b40 : (0 : Int) < (k4 : Int) := by omega
  have b40n : 0 < k4 := by omega
  clear hc4v hx0 hp4 hcA hrA hnA hm0 hr0 hn0 hp3 hp5 hp2 hc40
  cases hq : (x0 == z)
  case false =>
    have dz : (x0 != z) = true := by unfold bne; rw [hq]; rfl
    have HV : Hid (vmW p q g key H hs a b co cn cm ch rs = false) := by show _ = _; rw [HW.out, HX0.out, HZ.out, hq, Bool.false_and, Bool.and_false, Bool.and_false]
    clear hq HW
    go_enter Try.func57, Try.ntmps57
    go_upto_region 2 with (fail)
    generalize hWb : (((w.alloc (.cells #[.int .i64 p, .int .i64 q, .int .i64 g] 31)).alloc (.cells #[.int .i64 H, .slice AH n cH] 86)).alloc (.cells #[.slice C1 k1 e1, .slice (some an) k2 e2, .slice (some ac) k3 e3, .slice (some ad4) k4 e4, .slice (some ar) k5 e5] 56)) = Wb at *
    clear hWb
    have hS : ∀ V, Ext Wb V → V.cell? ⟨w.heap.size, 0, none⟩ = some (.int .i64 p) ∧ V.cell? ⟨w.heap.size, 1, none⟩ = some (.int .i64 q) ∧ V.cell? ⟨w.heap.size, 2, none⟩ = some (.int .i64 g) ∧ V.cell? ⟨w.heap.size + 1 + 1, 0, none⟩ = some (.slice C1 k1 e1) ∧ V.cell? ⟨w.heap.size + 1 + 1, 1, none⟩ = some (.slice (some an) k2 e2) ∧ V.cell? ⟨w.heap.size + 1 + 1, 2, none⟩ = some (.slice (some ac) k3 e3) ∧ V.cell? ⟨w.heap.size + 1 + 1, 3, none⟩ = some (.slice (some ad4) k4 e4) ∧ V.cell? ⟨w.heap.size + 1 + 1, 4, none⟩ = some (.slice (some ar) k5 e5) ∧ V.cell? ad4 = some (.int .i64 x0) := fun V hV => by
      have a0 := (B0.ext hV).cells
      have a2 := (B2.ext hV).cells
      exact ⟨a0 0, a0 1, a0 2, a2 0, a2 1, a2 2, a2 3, a2 4, hV.cell hc4⟩
    go_cut [59] from 35 to 58 (fun b0 wx => b0 = .bool true ∧ Ext Wb wx)
    case first =>
      as_aux_lemma =>
        refine wp_region_held_drew (S := fun V => V.cell? ⟨w.heap.size, 0, none⟩ = some (.int .i64 p) ∧ V.cell? ⟨w.heap.size, 1, none⟩ = some (.int .i64 q) ∧ V.cell? ⟨w.heap.size, 2, none⟩ = some (.int .i64 g) ∧ V.cell? ⟨w.heap.size + 1 + 1, 0, none⟩ = some (.slice C1 k1 e1) ∧ V.cell? ⟨w.heap.size + 1 + 1, 1, none⟩ = some (.slice (some an) k2 e2) ∧ V.cell? ⟨w.heap.size + 1 + 1, 2, none⟩ = some (.slice (some ac) k3 e3) ∧ V.cell? ⟨w.heap.size + 1 + 1, 3, none⟩ = some (.slice (some ad4) k4 e4) ∧ V.cell? ⟨w.heap.size + 1 + 1, 4, none⟩ = some (.slice (some ar) k5 e5) ∧ V.cell? ad4 = some (.int .i64 x0)) (by kernel_rfl) ?_ (fun hHeld => ?_)
        · exact hS _ (by repeat (first | with_reducible assumption | with_reducible exact Ext.refl _ | with_reducible apply Ext.alloc | with_reducible apply Ext.drew | with_reducible apply Ext.drewN))
        refine' tkH 0 (hy := yldH (by rfl) ?hy) (h := ?_)
        case hy => intro w hSw; (try dsimp only at hSw); go_simp <;> with_reducible rfl
        try simp only [Act.put, List.setIfInBounds_toArray, List.set_cons_zero, List.set_cons_succ]
        refine' tkH 1 (hy := yldH (by rfl) ?hy) (h := ?_)
        case hy => intro w hSw; (try dsimp only at hSw); go_simp <;> with_reducible rfl
        try simp only [Act.put, List.setIfInBounds_toArray, List.set_cons_zero, List.set_cons_succ]
        refine' tkH 2 (hy := yldH (by rfl) ?hy) (h := ?_)
        case hy => intro w hSw; (try dsimp only at hSw); go_simp <;> with_reducible rfl
        try simp only [Act.put, List.setIfInBounds_toArray, List.set_cons_zero, List.set_cons_succ]
        refine' tkH 3 (hy := yldH (by rfl) ?hy) (h := ?_)
        case hy => intro w hSw; (try dsimp only at hSw); go_simp <;> with_reducible rfl
        try simp only [Act.put, List.setIfInBounds_toArray, List.set_cons_zero, List.set_cons_succ]
        refine' tkH 4 (hy := yldH (by rfl) ?hy) (h := ?_)
        case hy => intro w hSw; (try dsimp only at hSw); go_simp <;> with_reducible rfl
        try simp only [Act.put, List.setIfInBounds_toArray, List.set_cons_zero, List.set_cons_succ]
        refine' tkH 5 (hy := yldH (by rfl) ?hy) (h := ?_)
        case hy => intro w hSw; (try dsimp only at hSw); go_simp <;> with_reducible rfl
        try simp only [Act.put, List.setIfInBounds_toArray, List.set_cons_zero, List.set_cons_succ]
        refine' tkH 6 (hy := yldH (by rfl) ?hy) (h := ?_)
        case hy => intro w hSw; (try dsimp only at hSw); go_simp <;> with_reducible rfl
        try simp only [Act.put, List.setIfInBounds_toArray, List.set_cons_zero, List.set_cons_succ]
        refine' tkH 7 (hy := yldH (by rfl) ?hy) (h := ?_)
        case hy => intro w hSw; (try dsimp only at hSw); go_simp <;> with_reducible rfl
        try simp only [Act.put, List.setIfInBounds_toArray, List.set_cons_zero, List.set_cons_succ]
        refine wpAnyH_one (i := 8) (by kernel_rfl) (by simp only [List.getElem?_toArray, List.getElem?_cons_succ, List.getElem?_cons_zero]; rfl) (by kernel_rfl) (fun KK hKK => ?_)
        go_simp
        go_at_call 95
        refine (mShape_any p q g C1 k1 e1 (some an) k2 e2 (some ac) k3 e3 (some ad4) k4 e4 (some ar) k5 e5 co cn cm ch rs n _ hB (s1.ext (Ext.trans E (by repeat (first | with_reducible assumption | with_reducible exact Ext.refl _ | with_reducible apply Ext.alloc | with_reducible apply Ext.drew | with_reducible apply Ext.drewN)))) (s2.ext (Ext.trans E (by repeat (first | with_reducible assumption | with_reducible exact Ext.refl _ | with_reducible apply Ext.alloc | with_reducible apply Ext.drew | with_reducible apply Ext.drewN)))) (s3.ext (Ext.trans E (by repeat (first | with_reducible assumption | with_reducible exact Ext.refl _ | with_reducible apply Ext.alloc | with_reducible apply Ext.drew | with_reducible apply Ext.drewN)))) (s4.ext (Ext.trans E (by repeat (first | with_reducible assumption | with_reducible exact Ext.refl _ | with_reducible apply Ext.alloc | with_reducible apply Ext.drew | with_reducible apply Ext.drewN)))) (s5.ext (Ext.trans E (by repeat (first | with_reducible assumption | with_reducible exact Ext.refl _ | with_reducible apply Ext.alloc | with_reducible apply Ext.drew | with_reducible apply Ext.drewN)))) (by omega)).mono ?_
        rintro ek wk8 ⟨hek, hbk8⟩
        rw [HF.out] at hek; subst hek
        have hxk8 := Ext.trans (w := Wb) (by repeat (first | with_reducible assumption | with_reducible exact Ext.refl _ | with_reducible apply Ext.alloc | with_reducible apply Ext.drew | with_reducible apply Ext.drewN)) hbk8
        refine hKK.out _ _ ?_ (fun hHeld => ?_)
        · exact hS _ (by repeat (first | with_reducible assumption | with_reducible exact Ext.refl _ | with_reducible apply Ext.alloc | with_reducible apply Ext.drew | with_reducible apply Ext.drewN))
        clear hKK KK
        try simp only [Act.put, List.setIfInBounds_toArray, List.set_cons_zero, List.set_cons_succ]
        refine' tkH 9 (hy := yldH (by rfl) ?hy) (h := ?_)
        case hy => intro w hSw; (try dsimp only at hSw); go_simp <;> with_reducible rfl
        try simp only [Act.put, List.setIfInBounds_toArray, List.set_cons_zero, List.set_cons_succ]
        refine' tkH 10 (hy := yldH (by rfl) ?hy) (h := ?_)
        case hy => intro w hSw; (try dsimp only at hSw); go_simp <;> with_reducible rfl
        try simp only [Act.put, List.setIfInBounds_toArray, List.set_cons_zero, List.set_cons_succ]
        refine' tkH 11 (hy := yldH (by rfl) ?hy) (h := ?_)
        case hy => intro w hSw; (try dsimp only at hSw); go_simp <;> with_reducible rfl
        try simp only [Act.put, List.setIfInBounds_toArray, List.set_cons_zero, List.set_cons_succ]
        refine' tkH 12 (hy := yldH (by rfl) ?hy) (h := ?_)
        case hy => intro w hSw; (try dsimp only at hSw); go_simp <;> with_reducible rfl
        try simp only [Act.put, List.setIfInBounds_toArray, List.set_cons_zero, List.set_cons_succ]
        refine' tkH 13 (hy := yldH (by rfl) ?hy) (h := ?_)
        case hy => intro w hSw; (try dsimp only at hSw); go_simp <;> with_reducible rfl
        try simp only [Act.put, List.setIfInBounds_toArray, List.set_cons_zero, List.set_cons_succ]
        refine' tkH 14 (hy := yldH (by rfl) ?hy) (h := ?_)
        case hy => intro w hSw; (try dsimp only at hSw); go_simp <;> with_reducible rfl
        try simp only [Act.put, List.setIfInBounds_toArray, List.set_cons_zero, List.set_cons_succ]
        refine' tkH 15 (hy := yldH (by rfl) ?hy) (h := ?_)
        case hy => intro w hSw; (try dsimp only at hSw); go_simp <;> with_reducible rfl
        try simp only [Act.put, List.setIfInBounds_toArray, List.set_cons_zero, List.set_cons_succ]
        refine' tkH 16 (hy := yldH (by rfl) ?hy) (h := ?_)
        case hy => intro w hSw; (try dsimp only at hSw); go_simp <;> with_reducible rfl
        try simp only [Act.put, List.setIfInBounds_toArray, List.set_cons_zero, List.set_cons_succ]
        refine' tkH 17 (hy := yldH (by rfl) ?hy) (h := ?_)
        case hy => intro w hSw; (try dsimp only at hSw); go_simp <;> with_reducible rfl
        try simp only [Act.put, List.setIfInBounds_toArray, List.set_cons_zero, List.set_cons_succ]
        refine' tkH 18 (hy := yldH (by rfl) ?hy) (h := ?_)
        case hy => intro w hSw; (try dsimp only at hSw); go_simp <;> with_reducible rfl
        try simp only [Act.put, List.setIfInBounds_toArray, List.set_cons_zero, List.set_cons_succ]
        refine' tkH 19 (hy := yldH (by rfl) ?hy) (h := ?_)
        case hy => intro w hSw; (try dsimp only at hSw); go_simp <;> with_reducible rfl
        try simp only [Act.put, List.setIfInBounds_toArray, List.set_cons_zero, List.set_cons_succ]
        refine' tkH 20 (hy := yldH (by rfl) ?hy) (h := ?_)
        case hy => intro w hSw; (try dsimp only at hSw); go_simp <;> with_reducible rfl
        try simp only [Act.put, List.setIfInBounds_toArray, List.set_cons_zero, List.set_cons_succ]
        refine' tkH 21 (hy := yldH (by rfl) ?hy) (h := ?_)
        case hy => intro w hSw; (try dsimp only at hSw); go_simp <;> with_reducible rfl
        try simp only [Act.put, List.setIfInBounds_toArray, List.set_cons_zero, List.set_cons_succ]
        refine wpAnyH_one (i := 22) (by kernel_rfl) (by simp only [List.getElem?_toArray, List.getElem?_cons_succ, List.getElem?_cons_zero]; rfl) (by kernel_rfl) (fun KK hKK => ?_)
        go_simp
        go_at_call 96
        refine (mChallenge_any p q g key A n c B m d a b C1 k1 e1 (some an) k2 e2 (some ac) k3 e3 (some ad4) k4 e4 (some ar) k5 e5 co cn cm _ HG.out (ha.ext (Ext.trans E (by repeat (first | with_reducible assumption | with_reducible exact Ext.refl _ | with_reducible apply Ext.alloc | with_reducible apply Ext.drew | with_reducible apply Ext.drewN)))) HA.out (hb.ext (Ext.trans E (by repeat (first | with_reducible assumption | with_reducible exact Ext.refl _ | with_reducible apply Ext.alloc | with_reducible apply Ext.drew | with_reducible apply Ext.drewN)))) HBL.out (by omega) (by omega) (s1.ext (Ext.trans E (by repeat (first | with_reducible assumption | with_reducible exact Ext.refl _ | with_reducible apply Ext.alloc | with_reducible apply Ext.drew | with_reducible apply Ext.drewN)))) (s2.ext (Ext.trans E (by repeat (first | with_reducible assumption | with_reducible exact Ext.refl _ | with_reducible apply Ext.alloc | with_reducible apply Ext.drew | with_reducible apply Ext.drewN)))) (s3.ext (Ext.trans E (by repeat (first | with_reducible assumption | with_reducible exact Ext.refl _ | with_reducible apply Ext.alloc | with_reducible apply Ext.drew | with_reducible apply Ext.drewN)))) (by omega) (by omega) (by omega) HCR2.out).mono ?_
        rintro ek wk22 ⟨hek, hbk22⟩
        rw [HZ.out] at hek; subst hek
        have hxk22 := Ext.trans (w := Wb) (Ext.trans hxk8 (by repeat (first | with_reducible assumption | with_reducible exact Ext.refl _ | with_reducible apply Ext.alloc | with_reducible apply Ext.drew | with_reducible apply Ext.drewN))) hbk22
        refine hKK.out _ _ ?_ (fun hHeld => ?_)
        · exact hS _ (by repeat (first | with_reducible assumption | with_reducible exact Ext.refl _ | with_reducible apply Ext.alloc | with_reducible apply Ext.drew | with_reducible apply Ext.drewN))
        clear hKK KK
        try simp only [Act.put, List.setIfInBounds_toArray, List.set_cons_zero, List.set_cons_succ]
        refine' tkH 23 (hy := yldH (by rfl) ?hy) (h := ?_)
        case hy => intro w hSw; (try dsimp only at hSw); go_simp <;> with_reducible rfl
        try simp only [Act.put, List.setIfInBounds_toArray, List.set_cons_zero, List.set_cons_succ]
        refine' tkH 24 (hy := yldH (by rfl) ?hy) (h := ?_)
        case hy => intro w hSw; (try dsimp only at hSw); go_simp <;> with_reducible rfl
        try simp only [Act.put, List.setIfInBounds_toArray, List.set_cons_zero, List.set_cons_succ]
        refine wpAnyH_done (by kernel_rfl) ?_ _
        go_wp2
        go_meet
        exact ⟨rfl, hxk22⟩
    case' rest =>
    obtain ⟨rfl, hbc⟩ := hcut
    go_wp2
    go_ret
    exact ⟨by rw [HV.out]; rfl, E.trans hbc⟩
  have dz : (x0 != z) = false := by unfold bne; rw [hq]; rfl
  have HQ := Lib.hid hq
  have hxz : z = x0 := (show x0 = z by simpa using hq).symm
  clear hq
  go_enter Try.func57, Try.ntmps57
  go_upto_region 2 with (fail)
  generalize hWb : (((w.alloc (.cells #[.int .i64 p, .int .i64 q, .int .i64 g] 31)).alloc (.cells #[.int .i64 H, .slice AH n cH] 86)).alloc (.cells #[.slice C1 k1 e1, .slice (some an) k2 e2, .slice (some ac) k3 e3, .slice (some ad4) k4 e4, .slice (some ar) k5 e5] 56)) = Wb at *
  clear hWb
  have hS : ∀ V, Ext Wb V → V.cell? ⟨w.heap.size, 0, none⟩ = some (.int .i64 p) ∧ V.cell? ⟨w.heap.size, 1, none⟩ = some (.int .i64 q) ∧ V.cell? ⟨w.heap.size, 2, none⟩ = some (.int .i64 g) ∧ V.cell? ⟨w.heap.size + 1 + 1, 0, none⟩ = some (.slice C1 k1 e1) ∧ V.cell? ⟨w.heap.size + 1 + 1, 1, none⟩ = some (.slice (some an) k2 e2) ∧ V.cell? ⟨w.heap.size + 1 + 1, 2, none⟩ = some (.slice (some ac) k3 e3) ∧ V.cell? ⟨w.heap.size + 1 + 1, 3, none⟩ = some (.slice (some ad4) k4 e4) ∧ V.cell? ⟨w.heap.size + 1 + 1, 4, none⟩ = some (.slice (some ar) k5 e5) ∧ V.cell? ad4 = some (.int .i64 x0) := fun V hV => by
    have a0 := (B0.ext hV).cells
    have a2 := (B2.ext hV).cells
    exact ⟨a0 0, a0 1, a0 2, a2 0, a2 1, a2 2, a2 3, a2 4, hV.cell hc4⟩
  go_cut [59] from 35 to 58 (fun b0 wx => b0 = .bool false ∧ Ext Wb wx)
  case first =>
    as_aux_lemma =>
      refine wp_region_held_drew (S := fun V => V.cell? ⟨w.heap.size, 0, none⟩ = some (.int .i64 p) ∧ V.cell? ⟨w.heap.size, 1, none⟩ = some (.int .i64 q) ∧ V.cell? ⟨w.heap.size, 2, none⟩ = some (.int .i64 g) ∧ V.cell? ⟨w.heap.size + 1 + 1, 0, none⟩ = some (.slice C1 k1 e1) ∧ V.cell? ⟨w.heap.size + 1 + 1, 1, none⟩ = some (.slice (some an) k2 e2) ∧ V.cell? ⟨w.heap.size + 1 + 1, 2, none⟩ = some (.slice (some ac) k3 e3) ∧ V.cell? ⟨w.heap.size + 1 + 1, 3, none⟩ = some (.slice (some ad4) k4 e4) ∧ V.cell? ⟨w.heap.size + 1 + 1, 4, none⟩ = some (.slice (some ar) k5 e5) ∧ V.cell? ad4 = some (.int .i64 x0)) (by kernel_rfl) ?_ (fun hHeld => ?_)
      · exact hS _ (by repeat (first | with_reducible assumption | with_reducible exact Ext.refl _ | with_reducible apply Ext.alloc | with_reducible apply Ext.drew | with_reducible apply Ext.drewN))
      refine' tkH 0 (hy := yldH (by rfl) ?hy) (h := ?_)
      case hy => intro w hSw; (try dsimp only at hSw); go_simp <;> with_reducible rfl
      try simp only [Act.put, List.setIfInBounds_toArray, List.set_cons_zero, List.set_cons_succ]
      refine' tkH 1 (hy := yldH (by rfl) ?hy) (h := ?_)
      case hy => intro w hSw; (try dsimp only at hSw); go_simp <;> with_reducible rfl
      try simp only [Act.put, List.setIfInBounds_toArray, List.set_cons_zero, List.set_cons_succ]
      refine' tkH 2 (hy := yldH (by rfl) ?hy) (h := ?_)
      case hy => intro w hSw; (try dsimp only at hSw); go_simp <;> with_reducible rfl
      try simp only [Act.put, List.setIfInBounds_toArray, List.set_cons_zero, List.set_cons_succ]
      refine' tkH 3 (hy := yldH (by rfl) ?hy) (h := ?_)
      case hy => intro w hSw; (try dsimp only at hSw); go_simp <;> with_reducible rfl
      try simp only [Act.put, List.setIfInBounds_toArray, List.set_cons_zero, List.set_cons_succ]
      refine' tkH 4 (hy := yldH (by rfl) ?hy) (h := ?_)
      case hy => intro w hSw; (try dsimp only at hSw); go_simp <;> with_reducible rfl
      try simp only [Act.put, List.setIfInBounds_toArray, List.set_cons_zero, List.set_cons_succ]
      refine' tkH 5 (hy := yldH (by rfl) ?hy) (h := ?_)
      case hy => intro w hSw; (try dsimp only at hSw); go_simp <;> with_reducible rfl
      try simp only [Act.put, List.setIfInBounds_toArray, List.set_cons_zero, List.set_cons_succ]
      refine' tkH 6 (hy := yldH (by rfl) ?hy) (h := ?_)
      case hy => intro w hSw; (try dsimp only at hSw); go_simp <;> with_reducible rfl
      try simp only [Act.put, List.setIfInBounds_toArray, List.set_cons_zero, List.set_cons_succ]
      refine' tkH 7 (hy := yldH (by rfl) ?hy) (h := ?_)
      case hy => intro w hSw; (try dsimp only at hSw); go_simp <;> with_reducible rfl
      try simp only [Act.put, List.setIfInBounds_toArray, List.set_cons_zero, List.set_cons_succ]
      refine wpAnyH_one (i := 8) (by kernel_rfl) (by simp only [List.getElem?_toArray, List.getElem?_cons_succ, List.getElem?_cons_zero]; rfl) (by kernel_rfl) (fun KK hKK => ?_)
      go_simp
      go_at_call 95
      refine (mShape_any p q g C1 k1 e1 (some an) k2 e2 (some ac) k3 e3 (some ad4) k4 e4 (some ar) k5 e5 co cn cm ch rs n _ hB (s1.ext (Ext.trans E (by repeat (first | with_reducible assumption | with_reducible exact Ext.refl _ | with_reducible apply Ext.alloc | with_reducible apply Ext.drew | with_reducible apply Ext.drewN)))) (s2.ext (Ext.trans E (by repeat (first | with_reducible assumption | with_reducible exact Ext.refl _ | with_reducible apply Ext.alloc | with_reducible apply Ext.drew | with_reducible apply Ext.drewN)))) (s3.ext (Ext.trans E (by repeat (first | with_reducible assumption | with_reducible exact Ext.refl _ | with_reducible apply Ext.alloc | with_reducible apply Ext.drew | with_reducible apply Ext.drewN)))) (s4.ext (Ext.trans E (by repeat (first | with_reducible assumption | with_reducible exact Ext.refl _ | with_reducible apply Ext.alloc | with_reducible apply Ext.drew | with_reducible apply Ext.drewN)))) (s5.ext (Ext.trans E (by repeat (first | with_reducible assumption | with_reducible exact Ext.refl _ | with_reducible apply Ext.alloc | with_reducible apply Ext.drew | with_reducible apply Ext.drewN)))) (by omega)).mono ?_
      rintro ek wk8 ⟨hek, hbk8⟩
      rw [HF.out] at hek; subst hek
      have hxk8 := Ext.trans (w := Wb) (by repeat (first | with_reducible assumption | with_reducible exact Ext.refl _ | with_reducible apply Ext.alloc | with_reducible apply Ext.drew | with_reducible apply Ext.drewN)) hbk8
      refine hKK.out _ _ ?_ (fun hHeld => ?_)
      · exact hS _ (by repeat (first | with_reducible assumption | with_reducible exact Ext.refl _ | with_reducible apply Ext.alloc | with_reducible apply Ext.drew | with_reducible apply Ext.drewN))
      clear hKK KK
      try simp only [Act.put, List.setIfInBounds_toArray, List.set_cons_zero, List.set_cons_succ]
      refine' tkH 9 (hy := yldH (by rfl) ?hy) (h := ?_)
      case hy => intro w hSw; (try dsimp only at hSw); go_simp <;> with_reducible rfl
      try simp only [Act.put, List.setIfInBounds_toArray, List.set_cons_zero, List.set_cons_succ]
      refine' tkH 10 (hy := yldH (by rfl) ?hy) (h := ?_)
      case hy => intro w hSw; (try dsimp only at hSw); go_simp <;> with_reducible rfl
      try simp only [Act.put, List.setIfInBounds_toArray, List.set_cons_zero, List.set_cons_succ]
      refine' tkH 11 (hy := yldH (by rfl) ?hy) (h := ?_)
      case hy => intro w hSw; (try dsimp only at hSw); go_simp <;> with_reducible rfl
      try simp only [Act.put, List.setIfInBounds_toArray, List.set_cons_zero, List.set_cons_succ]
      refine' tkH 12 (hy := yldH (by rfl) ?hy) (h := ?_)
      case hy => intro w hSw; (try dsimp only at hSw); go_simp <;> with_reducible rfl
      try simp only [Act.put, List.setIfInBounds_toArray, List.set_cons_zero, List.set_cons_succ]
      refine' tkH 13 (hy := yldH (by rfl) ?hy) (h := ?_)
      case hy => intro w hSw; (try dsimp only at hSw); go_simp <;> with_reducible rfl
      try simp only [Act.put, List.setIfInBounds_toArray, List.set_cons_zero, List.set_cons_succ]
      refine' tkH 14 (hy := yldH (by rfl) ?hy) (h := ?_)
      case hy => intro w hSw; (try dsimp only at hSw); go_simp <;> with_reducible rfl
      try simp only [Act.put, List.setIfInBounds_toArray, List.set_cons_zero, List.set_cons_succ]
      refine' tkH 15 (hy := yldH (by rfl) ?hy) (h := ?_)
      case hy => intro w hSw; (try dsimp only at hSw); go_simp <;> with_reducible rfl
      try simp only [Act.put, List.setIfInBounds_toArray, List.set_cons_zero, List.set_cons_succ]
      refine' tkH 16 (hy := yldH (by rfl) ?hy) (h := ?_)
      case hy => intro w hSw; (try dsimp only at hSw); go_simp <;> with_reducible rfl
      try simp only [Act.put, List.setIfInBounds_toArray, List.set_cons_zero, List.set_cons_succ]
      refine' tkH 17 (hy := yldH (by rfl) ?hy) (h := ?_)
      case hy => intro w hSw; (try dsimp only at hSw); go_simp <;> with_reducible rfl
      try simp only [Act.put, List.setIfInBounds_toArray, List.set_cons_zero, List.set_cons_succ]
      refine' tkH 18 (hy := yldH (by rfl) ?hy) (h := ?_)
      case hy => intro w hSw; (try dsimp only at hSw); go_simp <;> with_reducible rfl
      try simp only [Act.put, List.setIfInBounds_toArray, List.set_cons_zero, List.set_cons_succ]
      refine' tkH 19 (hy := yldH (by rfl) ?hy) (h := ?_)
      case hy => intro w hSw; (try dsimp only at hSw); go_simp <;> with_reducible rfl
      try simp only [Act.put, List.setIfInBounds_toArray, List.set_cons_zero, List.set_cons_succ]
      refine' tkH 20 (hy := yldH (by rfl) ?hy) (h := ?_)
      case hy => intro w hSw; (try dsimp only at hSw); go_simp <;> with_reducible rfl
      try simp only [Act.put, List.setIfInBounds_toArray, List.set_cons_zero, List.set_cons_succ]
      refine' tkH 21 (hy := yldH (by rfl) ?hy) (h := ?_)
      case hy => intro w hSw; (try dsimp only at hSw); go_simp <;> with_reducible rfl
      try simp only [Act.put, List.setIfInBounds_toArray, List.set_cons_zero, List.set_cons_succ]
      refine wpAnyH_one (i := 22) (by kernel_rfl) (by simp only [List.getElem?_toArray, List.getElem?_cons_succ, List.getElem?_cons_zero]; rfl) (by kernel_rfl) (fun KK hKK => ?_)
      go_simp
      go_at_call 96
      refine (mChallenge_any p q g key A n c B m d a b C1 k1 e1 (some an) k2 e2 (some ac) k3 e3 (some ad4) k4 e4 (some ar) k5 e5 co cn cm _ HG.out (ha.ext (Ext.trans E (by repeat (first | with_reducible assumption | with_reducible exact Ext.refl _ | with_reducible apply Ext.alloc | with_reducible apply Ext.drew | with_reducible apply Ext.drewN)))) HA.out (hb.ext (Ext.trans E (by repeat (first | with_reducible assumption | with_reducible exact Ext.refl _ | with_reducible apply Ext.alloc | with_reducible apply Ext.drew | with_reducible apply Ext.drewN)))) HBL.out (by omega) (by omega) (s1.ext (Ext.trans E (by repeat (first | with_reducible assumption | with_reducible exact Ext.refl _ | with_reducible apply Ext.alloc | with_reducible apply Ext.drew | with_reducible apply Ext.drewN)))) (s2.ext (Ext.trans E (by repeat (first | with_reducible assumption | with_reducible exact Ext.refl _ | with_reducible apply Ext.alloc | with_reducible apply Ext.drew | with_reducible apply Ext.drewN)))) (s3.ext (Ext.trans E (by repeat (first | with_reducible assumption | with_reducible exact Ext.refl _ | with_reducible apply Ext.alloc | with_reducible apply Ext.drew | with_reducible apply Ext.drewN)))) (by omega) (by omega) (by omega) HCR2.out).mono ?_
      rintro ek wk22 ⟨hek, hbk22⟩
      rw [HZ.out] at hek; subst hek
      have hxk22 := Ext.trans (w := Wb) (Ext.trans hxk8 (by repeat (first | with_reducible assumption | with_reducible exact Ext.refl _ | with_reducible apply Ext.alloc | with_reducible apply Ext.drew | with_reducible apply Ext.drewN))) hbk22
      refine hKK.out _ _ ?_ (fun hHeld => ?_)
      · exact hS _ (by repeat (first | with_reducible assumption | with_reducible exact Ext.refl _ | with_reducible apply Ext.alloc | with_reducible apply Ext.drew | with_reducible apply Ext.drewN))
      clear hKK KK
      try simp only [Act.put, List.setIfInBounds_toArray, List.set_cons_zero, List.set_cons_succ]
      refine' tkH 23 (hy := yldH (by rfl) ?hy) (h := ?_)
      case hy => intro w hSw; (try dsimp only at hSw); go_simp <;> with_reducible rfl
      try simp only [Act.put, List.setIfInBounds_toArray, List.set_cons_zero, List.set_cons_succ]
      refine' tkH 24 (hy := yldH (by rfl) ?hy) (h := ?_)
      case hy => intro w hSw; (try dsimp only at hSw); go_simp <;> with_reducible rfl
      try simp only [Act.put, List.setIfInBounds_toArray, List.set_cons_zero, List.set_cons_succ]
      refine wpAnyH_done (by kernel_rfl) ?_ _
      go_wp2
      go_meet
      exact ⟨rfl, hxk22⟩
  case' rest =>
  obtain ⟨rfl, hbc⟩ := hcut
  replace E := E.trans hbc
  replace B0 := B0.ext hbc
  replace B1 := B1.ext hbc
  replace B2 := B2.ext hbc
  have hc5 := (Ext.trans (Ext.refl _) hbc).cell hc4
  clear hbc hS hc4
  generalize wc = w3 at *
  have CC2 := B2.cells
  go_upto_region 5 with (fail)
  go_quiet (fail)
  clear CC2 hc5
  have hbq : Ext w3 (w3.drewN nq) := (Ext.refl _).drewN _
  generalize w3.drewN nq = w5 at *
  replace E := E.trans hbq
  replace B0 := B0.ext hbq
  replace B1 := B1.ext hbq
  replace B2 := B2.ext hbq
  clear hbq
  subst hxz
  have HVE : Hid (vmE p q g key a b co = es) := by
    show _ = _
    unfold vmE
    rw [HA.out]
    exact HE.out
  have hl5 := s5.cap
  have hl5m := s5.max
  have bsl : (n : Int) + 4 ≤ (k5 : Int) := by have := T5.out; omega
  have bsln : n + 4 ≤ k5 := by have := T5.out; omega
  have hne5 : ¬ (e5 = n + 4) := by have := T5.out; omega
  have hxr : RdI w (some (ar.add (n + 4))) (rs.drop (n + 4)) := by
    have h9 := RdI.drop (cap := e5) s5.rd (n + 4) (by rw [s5.len]; exact hl5)
    rw [if_neg hne5] at h9
    exact h9
  have hxl : (rs.drop (n + 4)).length = k5 - (n + 4) := by rw [List.length_drop, s5.len]
  have BX : Hid (∀ x ∈ rs.drop (n + 4), -9000000000000000000 ≤ x ∧ x ≤ 9000000000000000000) := fun x hx => by have := BRS.out x (List.mem_of_mem_drop hx); omega
  obtain ⟨xs, hxs⟩ : ∃ xs, rs.drop (n + 4) = xs := ⟨_, rfl⟩
  rw [hxs] at hxr hxl BX
  have HXS := Lib.hid hxs
  have HXL := Lib.hid hxl
  clear hxs hxl
  go_upto_region 7 with (fail)
  generalize ar.add (n + 4) = ax at *
  generalize hkx : k5 - (n + 4) = kx at *
  generalize e5 - (n + 4) = ex at *
  have hkx2 : kx = n := by have := T5.out; omega
  have HKX := Lib.hid hkx2
  clear hkx hkx2
  have CC0 := B0.cells
  have CC2 := B2.cells
  go_wp2_with fail
  refine (mChallenges_any p q g key A n c B m d a b C1 k1 e1 co _ HG.out (ha.ext E) HA.out (hb.ext E) HBL.out (by omega) (by omega) (s1.rd.ext E) s1.len (by omega) HCK.out).mono ?_
  rintro en w6 ⟨D, dn, dc, rfl, hD, hDl, -, hbc⟩
  rw [HVE.out] at hD hDl
  have hdn : n = dn := by rw [← hDl, HEL.out]
  subst hdn
  clear CC0 CC2 hDl
  replace E := E.trans hbc
  replace B0 := B0.ext hbc
  replace B1 := B1.ext hbc
  replace B2 := B2.ext hbc
  clear hbc
  go_wp2
  go_loopw [19, 84] (fun x i wr => ∃ j : Nat, j ≤ n ∧ i = .int .i64 j ∧ x = .int .i64 (allV q es j) ∧ Ext w6 wr) (fun _ i _ => n - (intOf i).toNat)
  case atStart => exact ⟨0, Nat.zero_le _, rfl, rfl, Ext.refl _⟩
  case round =>
    obtain ⟨j, hj, rfl, rfl, E2⟩ := hrel
    by_cases hlt : j < n
    · have hle : j < es.length := by rw [HEL.out]; exact hlt
      obtain ⟨ad, hAD, hcc⟩ := (hD.ext E2).at_ hle
      subst hAD
      have hav := allV_rg hq2 es j
      have HSV := Lib.hid (allV_succ q hle)
      have her := BE.out _ (List.getElem_mem hle)
      generalize es[j] = ej at *
      generalize allV q es j = av at *
      have hpr1 := Int.mul_nonneg hav.1 her.1
      have hpr2 : av * ej ≤ 2000000000 * 2000000000 := Int.mul_le_mul (by omega) (by omega) her.1 (by omega)
      have hwr : IntKind.i64.wrap (av * ej) = av * ej := IntWalk.i64_in _ (by omega)
      clear hle
      have CC0 := (B0.ext E2).cells
      go_wp2
      go_roundw
      case rel => exact ⟨j + 1, by omega, by go_num, by rw [HSV.out], E2⟩
      case measure => first | (simp [intOf]; done) | (simp [intOf]; omega)
    · obtain rfl : n = j := by omega
      have hav := allV_rg hq2 es n
      obtain ⟨av, hav0⟩ : ∃ av, allV q es n = av := ⟨_, rfl⟩
      have HAV := Lib.hid hav0
      rw [hav0] at hav ⊢
      clear hav0 hlt
      replace E := E.trans E2
      replace B0 := B0.ext E2
      replace B1 := B1.ext E2
      replace B2 := B2.ext E2
      replace hD := hD.ext E2
      clear E2
      go_wp2_with fail
      refine (mSides_any A n c a _ (ha.ext E) HA.out (by omega)).mono ?_
      rintro en w9 ⟨U1, u1, V1, v1, rfl, hU1, hV1, -, hb6⟩
      replace E := E.trans hb6
      replace B0 := B0.ext hb6
      replace B1 := B1.ext hb6
      replace B2 := B2.ext hb6
      replace hD := hD.ext hb6
      clear hb6
      go_wp2_with fail
      refine (mSides_any B m d b _ (hb.ext E) HBL.out (by omega)).mono ?_
      rintro en w7 ⟨U2, u2, V2, v2, rfl, hU2, hV2, -, hb7⟩
      replace E := E.trans hb7
      replace B0 := B0.ext hb7
      replace B1 := B1.ext hb7
      replace B2 := B2.ext hb7
      replace hD := hD.ext hb7
      replace hU1 := hU1.ext hb7
      replace hV1 := hV1.ext hb7
      clear hb7
      generalize hWc : w7 = Wc at *
      clear hWc
      obtain ⟨r0, hr0⟩ : ∃ v, rs.getD 0 0 = v := ⟨_, rfl⟩
      have xr0 : Wc.cell? (ar.add 0) = some (.int .i64 r0) := by rw [← hr0, getD_lt (by have := HP5.out; omega)]; exact E.cell (HRA.out 0 _)
      have rr0 := BRS.out r0 (by rw [← hr0, getD_lt (by have := HP5.out; omega)]; exact List.getElem_mem _)
      have Hr0 := Lib.hid hr0
      clear hr0
      obtain ⟨r1, hr1⟩ : ∃ v, rs.getD 1 0 = v := ⟨_, rfl⟩
      have xr1 : Wc.cell? (ar.add 1) = some (.int .i64 r1) := by rw [← hr1, getD_lt (by have := HP5.out; omega)]; exact E.cell (HRA.out 1 _)
      have rr1 := BRS.out r1 (by rw [← hr1, getD_lt (by have := HP5.out; omega)]; exact List.getElem_mem _)
      have Hr1 := Lib.hid hr1
      clear hr1
      obtain ⟨r2, hr2⟩ : ∃ v, rs.getD 2 0 = v := ⟨_, rfl⟩
      have xr2 : Wc.cell? (ar.add 2) = some (.int .i64 r2) := by rw [← hr2, getD_lt (by have := HP5.out; omega)]; exact E.cell (HRA.out 2 _)
      have rr2 := BRS.out r2 (by rw [← hr2, getD_lt (by have := HP5.out; omega)]; exact List.getElem_mem _)
      have Hr2 := Lib.hid hr2
      clear hr2
      obtain ⟨r3, hr3⟩ : ∃ v, rs.getD 3 0 = v := ⟨_, rfl⟩
      have xr3 : Wc.cell? (ar.add 3) = some (.int .i64 r3) := by rw [← hr3, getD_lt (by have := HP5.out; omega)]; exact E.cell (HRA.out 3 _)
      have rr3 := BRS.out r3 (by rw [← hr3, getD_lt (by have := HP5.out; omega)]; exact List.getElem_mem _)
      have Hr3 := Lib.hid hr3
      clear hr3
      obtain ⟨lv, hlv⟩ : ∃ v, cn.getD (n - 1) 0 = v := ⟨_, rfl⟩
      have xlv : Wc.cell? (an.add (n - 1)) = some (.int .i64 lv) := by rw [← hlv, getD_lt HP2.out]; exact E.cell (HNA.out (n - 1) _)
      have rlv := BCN.out lv (by rw [← hlv, getD_lt HP2.out]; exact List.getElem_mem _)
      have Hlv := Lib.hid hlv
      clear hlv
      rw [show ar.add 0 = ar from rfl] at xr0
      rw [show ar.add 1 = ⟨ar.block, ar.off + 1, none⟩ from rfl] at xr1
      rw [show ar.add 2 = ⟨ar.block, ar.off + 2, none⟩ from rfl] at xr2
      rw [show ar.add 3 = ⟨ar.block, ar.off + 3, none⟩ from rfl] at xr3
      obtain ⟨V8, h8⟩ : ∃ v, gmul p co = v := ⟨_, rfl⟩
      have r8 : 0 ≤ V8 ∧ V8 ≤ 2000000000 := by rw [← h8]; exact mul_bd hB BCO.out
      have K8 := Lib.hid h8
      clear h8
      obtain ⟨V12, h12⟩ : ∃ v, gmul p hs = v := ⟨_, rfl⟩
      have r12 : 0 ≤ V12 ∧ V12 ≤ 2000000000 := by rw [← h12]; exact mul_bd hB BHS.out
      have K12 := Lib.hid h12
      clear h12
      obtain ⟨V10, h10⟩ : ∃ v, gpw p q V12 (-1) = v := ⟨_, rfl⟩
      have r10 : 0 ≤ V10 ∧ V10 ≤ 2000000000 := by rw [← h10]; exact gpw_rg p q V12 (-1) hB
      have K10 := Lib.hid h10
      clear h10
      obtain ⟨V13, h13⟩ : ∃ v, gmul p [V8, V10] = v := ⟨_, rfl⟩
      have r13 : 0 ≤ V13 ∧ V13 ≤ 2000000000 := by rw [← h13]; exact g2_bd hB r8.1 r10.1
      have K13 := Lib.hid h13
      clear h13
      obtain ⟨V20, h20⟩ : ∃ v, gpw p q g r0 = v := ⟨_, rfl⟩
      have r20 : 0 ≤ V20 ∧ V20 ≤ 2000000000 := by rw [← h20]; exact gpw_rg p q g r0 hB
      have K20 := Lib.hid h20
      clear h20
      obtain ⟨V31, h31⟩ : ∃ v, prodV p q co es k1 = v := ⟨_, rfl⟩
      have r31 : 0 ≤ V31 ∧ V31 ≤ 2000000000 := by rw [← h31]; exact prod_bd hB co es k1
      have K31 := Lib.hid h31
      clear h31
      obtain ⟨V39, h39⟩ : ∃ v, gpw p q g r1 = v := ⟨_, rfl⟩
      have r39 : 0 ≤ V39 ∧ V39 ≤ 2000000000 := by rw [← h39]; exact gpw_rg p q g r1 hB
      have K39 := Lib.hid h39
      clear h39
      obtain ⟨V44, h44⟩ : ∃ v, prodV p q hs xs n = v := ⟨_, rfl⟩
      have r44 : 0 ≤ V44 ∧ V44 ≤ 2000000000 := by rw [← h44]; exact prod_bd hB hs xs n
      have K44 := Lib.hid h44
      clear h44
      obtain ⟨V46, h46⟩ : ∃ v, gmul p [V39, V44] = v := ⟨_, rfl⟩
      have r46 : 0 ≤ V46 ∧ V46 ≤ 2000000000 := by rw [← h46]; exact g2_bd hB r39.1 r44.1
      have K46 := Lib.hid h46
      clear h46
      obtain ⟨V65, h65⟩ : ∃ v, gpw p q H (-av) = v := ⟨_, rfl⟩
      have r65 : 0 ≤ V65 ∧ V65 ≤ 2000000000 := by rw [← h65]; exact gpw_rg p q H (-av) hB
      have K65 := Lib.hid h65
      clear h65
      obtain ⟨V66, h66⟩ : ∃ v, gmul p [lv, V65] = v := ⟨_, rfl⟩
      have r66 : 0 ≤ V66 ∧ V66 ≤ 2000000000 := by rw [← h66]; exact g2_bd hB rlv.1 r65.1
      have K66 := Lib.hid h66
      clear h66
      obtain ⟨V73, h73⟩ : ∃ v, gpw p q g r2 = v := ⟨_, rfl⟩
      have r73 : 0 ≤ V73 ∧ V73 ≤ 2000000000 := by rw [← h73]; exact gpw_rg p q g r2 hB
      have K73 := Lib.hid h73
      clear h73
      obtain ⟨V84, h84⟩ : ∃ v, prodV p q (a.map Prod.fst) es n = v := ⟨_, rfl⟩
      have r84 : 0 ≤ V84 ∧ V84 ≤ 2000000000 := by rw [← h84]; exact prod_bd hB _ es n
      have K84 := Lib.hid h84
      clear h84
      obtain ⟨V93, h93⟩ : ∃ v, gpw p q g (-r3) = v := ⟨_, rfl⟩
      have r93 : 0 ≤ V93 ∧ V93 ≤ 2000000000 := by rw [← h93]; exact gpw_rg p q g (-r3) hB
      have K93 := Lib.hid h93
      clear h93
      obtain ⟨V97, h97⟩ : ∃ v, prodV p q (b.map Prod.fst) xs m = v := ⟨_, rfl⟩
      have r97 : 0 ≤ V97 ∧ V97 ≤ 2000000000 := by rw [← h97]; exact prod_bd hB _ xs m
      have K97 := Lib.hid h97
      clear h97
      obtain ⟨V99, h99⟩ : ∃ v, gmul p [V93, V97] = v := ⟨_, rfl⟩
      have r99 : 0 ≤ V99 ∧ V99 ≤ 2000000000 := by rw [← h99]; exact g2_bd hB r93.1 r97.1
      have K99 := Lib.hid h99
      clear h99
      obtain ⟨V110, h110⟩ : ∃ v, prodV p q (a.map Prod.snd) es n = v := ⟨_, rfl⟩
      have r110 : 0 ≤ V110 ∧ V110 ≤ 2000000000 := by rw [← h110]; exact prod_bd hB _ es n
      have K110 := Lib.hid h110
      clear h110
      obtain ⟨V118, h118⟩ : ∃ v, gpw p q key (-r3) = v := ⟨_, rfl⟩
      have r118 : 0 ≤ V118 ∧ V118 ≤ 2000000000 := by rw [← h118]; exact gpw_rg p q key (-r3) hB
      have K118 := Lib.hid h118
      clear h118
      obtain ⟨V122, h122⟩ : ∃ v, prodV p q (b.map Prod.snd) xs m = v := ⟨_, rfl⟩
      have r122 : 0 ≤ V122 ∧ V122 ≤ 2000000000 := by rw [← h122]; exact prod_bd hB _ xs m
      have K122 := Lib.hid h122
      clear h122
      obtain ⟨V124, h124⟩ : ∃ v, gmul p [V118, V122] = v := ⟨_, rfl⟩
      have r124 : 0 ≤ V124 ∧ V124 ≤ 2000000000 := by rw [← h124]; exact g2_bd hB r118.1 r122.1
      have K124 := Lib.hid h124
      clear h124
      have br0 : (0 : Int) < (k5 : Int) := by omega
      have bs0 : 0 < k5 := by omega
      have br1 : (1 : Int) < (k5 : Int) := by omega
      have bs1 : 1 < k5 := by omega
      have br2 : (2 : Int) < (k5 : Int) := by omega
      have bs2 : 2 < k5 := by omega
      have br3 : (3 : Int) < (k5 : Int) := by omega
      have bs3 : 3 < k5 := by omega
      have bn1 : (0 : Int) ≤ (n : Int) - 1 := by omega
      have bn4 : (1 : Int) ≤ (n : Int) := by omega
      have bn2 : (n : Int) - 1 < (k2 : Int) := by have := T2.out; omega
      have bn3 : ((n : Int) - 1).toNat = n - 1 := by omega
      have wn1 : IntKind.i64.wrap ((n : Int) - 1) = (n : Int) - 1 := IntWalk.i64_in _ (by omega)
      have bx1 : n ≤ kx := by have := HKX.out; omega
      have bx2 : m ≤ kx := by have := HKX.out; have := HMN.out; omega
      have bk1 : k1 ≤ n := by have := T1.out; omega
      have wr3 : IntKind.i64.wrap (-r3) = -r3 := IntWalk.i64_in _ (by omega)
      have wav : IntKind.i64.wrap (-av) = -av := IntWalk.i64_in _ (by omega)
      have BE2 : Hid (∀ x ∈ es, -9000000000000000000 ≤ x ∧ x ≤ 9000000000000000000) := fun x hx => by have := BE.out x hx; omega
      have C8 : Hid (∀ V, Ext Wc V → Calls Try.prog 38 #[.agg #[.int .i64 p, .int .i64 q, .int .i64 g], .slice C1 k1 e1] V fun e w' => e = .returned (.int .i64 V8) ∧ Ext V w') := fun V hV => by
        have h9 := gMul_any p q g C1 k1 e1 co V hB (s1.rd.ext (E.trans hV)) s1.len (by unfold maxLen; omega) BCO.out
        rw [K8.out] at h9
        exact h9
      have C12 : Hid (∀ V, Ext Wc V → Calls Try.prog 38 #[.agg #[.int .i64 p, .int .i64 q, .int .i64 g], .slice AH n cH] V fun e w' => e = .returned (.int .i64 V12) ∧ Ext V w') := fun V hV => by
        have h9 := gMul_any p q g AH n cH hs V hB (rh.ext (E.trans hV)) HH.out (by unfold maxLen; omega) BHS.out
        rw [K12.out] at h9
        exact h9
      have C10 : Hid (∀ V, Ext Wc V → Calls Try.prog 99 #[.agg #[.int .i64 p, .int .i64 q, .int .i64 g], .int .i64 V12] V fun e w' => e = .returned (.int .i64 V10) ∧ Ext V w') := fun V hV => by
        have h9 := gInv_any p q g V12 V hB (by omega) (by omega)
        rw [K10.out] at h9
        exact h9
      have C13 : Hid (∀ V ad, Ext Wc V → RdI V (some ad) [V8, V10] → Calls Try.prog 38 #[.agg #[.int .i64 p, .int .i64 q, .int .i64 g], .slice (some ad) 2 2] V fun e w' => e = .returned (.int .i64 V13) ∧ Ext V w') := fun V ad hV hr => by
        have h9 := gMul_any p q g (some ad) 2 2 [V8, V10] V hB hr rfl (by decide) (two_rg (by omega) (by omega))
        rw [K13.out] at h9
        exact h9
      have C20 : Hid (∀ V, Ext Wc V → Calls Try.prog 39 #[.agg #[.int .i64 p, .int .i64 q, .int .i64 g], .int .i64 g, .int .i64 r0] V fun e w' => e = .returned (.int .i64 V20) ∧ Ext V w') := fun V hV => by
        have h9 := gExp_any p q g g r0 V hB (by omega) (by omega) (by omega) (by omega)
        rw [K20.out] at h9
        exact h9
      have C31 : Hid (∀ V, Ext Wc V → Calls Try.prog 100 #[.agg #[.int .i64 p, .int .i64 q, .int .i64 g], .slice C1 k1 e1, .slice D n dc] V fun e w' => e = .returned (.int .i64 V31) ∧ Ext V w') := fun V hV => by
        have h9 := gProd_any p q g C1 D k1 e1 n dc  co es V hB (s1.rd.ext (E.trans hV)) s1.len (hD.ext hV) HEL.out bk1 (by omega) BCO.out BE2.out
        rw [K31.out] at h9
        exact h9
      have C39 : Hid (∀ V, Ext Wc V → Calls Try.prog 39 #[.agg #[.int .i64 p, .int .i64 q, .int .i64 g], .int .i64 g, .int .i64 r1] V fun e w' => e = .returned (.int .i64 V39) ∧ Ext V w') := fun V hV => by
        have h9 := gExp_any p q g g r1 V hB (by omega) (by omega) (by omega) (by omega)
        rw [K39.out] at h9
        exact h9
      have C44 : Hid (∀ V, Ext Wc V → Calls Try.prog 100 #[.agg #[.int .i64 p, .int .i64 q, .int .i64 g], .slice AH n cH, .slice (some ax) kx ex] V fun e w' => e = .returned (.int .i64 V44) ∧ Ext V w') := fun V hV => by
        have h9 := gProd_any p q g AH (some ax) n cH kx ex  hs xs V hB (rh.ext (E.trans hV)) HH.out (hxr.ext (E.trans hV)) HXL.out bx1 (by omega) BHS.out BX.out
        rw [K44.out] at h9
        exact h9
      have C46 : Hid (∀ V ad, Ext Wc V → RdI V (some ad) [V39, V44] → Calls Try.prog 38 #[.agg #[.int .i64 p, .int .i64 q, .int .i64 g], .slice (some ad) 2 2] V fun e w' => e = .returned (.int .i64 V46) ∧ Ext V w') := fun V ad hV hr => by
        have h9 := gMul_any p q g (some ad) 2 2 [V39, V44] V hB hr rfl (by decide) (two_rg (by omega) (by omega))
        rw [K46.out] at h9
        exact h9
      have C65 : Hid (∀ V, Ext Wc V → Calls Try.prog 39 #[.agg #[.int .i64 p, .int .i64 q, .int .i64 g], .int .i64 H, .int .i64 (-av)] V fun e w' => e = .returned (.int .i64 V65) ∧ Ext V w') := fun V hV => by
        have h9 := gExp_any p q g H (-av) V hB (by omega) (by omega) (by omega) (by omega)
        rw [K65.out] at h9
        exact h9
      have C66 : Hid (∀ V ad, Ext Wc V → RdI V (some ad) [lv, V65] → Calls Try.prog 38 #[.agg #[.int .i64 p, .int .i64 q, .int .i64 g], .slice (some ad) 2 2] V fun e w' => e = .returned (.int .i64 V66) ∧ Ext V w') := fun V ad hV hr => by
        have h9 := gMul_any p q g (some ad) 2 2 [lv, V65] V hB hr rfl (by decide) (two_rg (by omega) (by omega))
        rw [K66.out] at h9
        exact h9
      have C73 : Hid (∀ V, Ext Wc V → Calls Try.prog 39 #[.agg #[.int .i64 p, .int .i64 q, .int .i64 g], .int .i64 g, .int .i64 r2] V fun e w' => e = .returned (.int .i64 V73) ∧ Ext V w') := fun V hV => by
        have h9 := gExp_any p q g g r2 V hB (by omega) (by omega) (by omega) (by omega)
        rw [K73.out] at h9
        exact h9
      have C84 : Hid (∀ V, Ext Wc V → Calls Try.prog 100 #[.agg #[.int .i64 p, .int .i64 q, .int .i64 g], .slice U1 n u1, .slice D n dc] V fun e w' => e = .returned (.int .i64 V84) ∧ Ext V w') := fun V hV => by
        have h9 := gProd_any p q g U1 D n u1 n dc  (a.map Prod.fst) es V hB (hU1.rd.ext hV) hU1.len (hD.ext hV) HEL.out (Nat.le_refl _) (by omega) BA.out.1 BE2.out
        rw [K84.out] at h9
        exact h9
      have C93 : Hid (∀ V, Ext Wc V → Calls Try.prog 39 #[.agg #[.int .i64 p, .int .i64 q, .int .i64 g], .int .i64 g, .int .i64 (-r3)] V fun e w' => e = .returned (.int .i64 V93) ∧ Ext V w') := fun V hV => by
        have h9 := gExp_any p q g g (-r3) V hB (by omega) (by omega) (by omega) (by omega)
        rw [K93.out] at h9
        exact h9
      have C97 : Hid (∀ V, Ext Wc V → Calls Try.prog 100 #[.agg #[.int .i64 p, .int .i64 q, .int .i64 g], .slice U2 m u2, .slice (some ax) kx ex] V fun e w' => e = .returned (.int .i64 V97) ∧ Ext V w') := fun V hV => by
        have h9 := gProd_any p q g U2 (some ax) m u2 kx ex  (b.map Prod.fst) xs V hB (hU2.rd.ext hV) hU2.len (hxr.ext (E.trans hV)) HXL.out bx2 (by omega) BB.out.1 BX.out
        rw [K97.out] at h9
        exact h9
      have C99 : Hid (∀ V ad, Ext Wc V → RdI V (some ad) [V93, V97] → Calls Try.prog 38 #[.agg #[.int .i64 p, .int .i64 q, .int .i64 g], .slice (some ad) 2 2] V fun e w' => e = .returned (.int .i64 V99) ∧ Ext V w') := fun V ad hV hr => by
        have h9 := gMul_any p q g (some ad) 2 2 [V93, V97] V hB hr rfl (by decide) (two_rg (by omega) (by omega))
        rw [K99.out] at h9
        exact h9
      have C110 : Hid (∀ V, Ext Wc V → Calls Try.prog 100 #[.agg #[.int .i64 p, .int .i64 q, .int .i64 g], .slice V1 n v1, .slice D n dc] V fun e w' => e = .returned (.int .i64 V110) ∧ Ext V w') := fun V hV => by
        have h9 := gProd_any p q g V1 D n v1 n dc  (a.map Prod.snd) es V hB (hV1.rd.ext hV) hV1.len (hD.ext hV) HEL.out (Nat.le_refl _) (by omega) BA.out.2 BE2.out
        rw [K110.out] at h9
        exact h9
      have C118 : Hid (∀ V, Ext Wc V → Calls Try.prog 39 #[.agg #[.int .i64 p, .int .i64 q, .int .i64 g], .int .i64 key, .int .i64 (-r3)] V fun e w' => e = .returned (.int .i64 V118) ∧ Ext V w') := fun V hV => by
        have h9 := gExp_any p q g key (-r3) V hB (by omega) (by omega) (by omega) (by omega)
        rw [K118.out] at h9
        exact h9
      have C122 : Hid (∀ V, Ext Wc V → Calls Try.prog 100 #[.agg #[.int .i64 p, .int .i64 q, .int .i64 g], .slice V2 m v2, .slice (some ax) kx ex] V fun e w' => e = .returned (.int .i64 V122) ∧ Ext V w') := fun V hV => by
        have h9 := gProd_any p q g V2 (some ax) m v2 kx ex  (b.map Prod.snd) xs V hB (hV2.rd.ext hV) hV2.len (hxr.ext (E.trans hV)) HXL.out bx2 (by omega) BB.out.2 BX.out
        rw [K122.out] at h9
        exact h9
      have C124 : Hid (∀ V ad, Ext Wc V → RdI V (some ad) [V118, V122] → Calls Try.prog 38 #[.agg #[.int .i64 p, .int .i64 q, .int .i64 g], .slice (some ad) 2 2] V fun e w' => e = .returned (.int .i64 V124) ∧ Ext V w') := fun V ad hV hr => by
        have h9 := gMul_any p q g (some ad) 2 2 [V118, V122] V hB hr rfl (by decide) (two_rg (by omega) (by omega))
        rw [K124.out] at h9
        exact h9
      have hS : ∀ V, Ext Wc V → V.cell? ⟨w.heap.size, 0, none⟩ = some (.int .i64 p) ∧ V.cell? ⟨w.heap.size, 1, none⟩ = some (.int .i64 q) ∧ V.cell? ⟨w.heap.size, 2, none⟩ = some (.int .i64 g) ∧ V.cell? ⟨w.heap.size + 1, 0, none⟩ = some (.int .i64 H) ∧ V.cell? ⟨w.heap.size + 1, 1, none⟩ = some (.slice AH n cH) ∧ V.cell? ⟨w.heap.size + 1 + 1, 0, none⟩ = some (.slice C1 k1 e1) ∧ V.cell? ⟨w.heap.size + 1 + 1, 1, none⟩ = some (.slice (some an) k2 e2) ∧ V.cell? (an.add (n - 1)) = some (.int .i64 lv) := fun V hV => by
        have a0 := (B0.ext hV).cells
        have a1 := (B1.ext hV).cells
        have a2 := (B2.ext hV).cells
        exact ⟨a0 0, a0 1, a0 2, a1 0, a1 1, a2 0, a2 1, hV.cell xlv⟩
      have hS7 : ∀ V, Ext Wc V → V.cell? ⟨w.heap.size, 0, none⟩ = some (.int .i64 p) ∧ V.cell? ⟨w.heap.size, 1, none⟩ = some (.int .i64 q) ∧ V.cell? ⟨w.heap.size, 2, none⟩ = some (.int .i64 g) ∧ V.cell? ⟨w.heap.size + 1, 0, none⟩ = some (.int .i64 H) ∧ V.cell? ⟨w.heap.size + 1, 1, none⟩ = some (.slice AH n cH) ∧ V.cell? ar = some (.int .i64 r0) ∧ V.cell? ⟨ar.block, ar.off + 1, none⟩ = some (.int .i64 r1) ∧ V.cell? ⟨ar.block, ar.off + 2, none⟩ = some (.int .i64 r2) ∧ V.cell? ⟨ar.block, ar.off + 3, none⟩ = some (.int .i64 r3) := fun V hV => by
        have a0 := (B0.ext hV).cells
        have a1 := (B1.ext hV).cells
        exact ⟨a0 0, a0 1, a0 2, a1 0, a1 1, hV.cell xr0, hV.cell xr1, hV.cell xr2, hV.cell xr3⟩
      go_upto_region 16 with (fail)
      go_cut [26] from 105 to 146 (fun c0 wx => ∃ gl, c0 = .slice (some ⟨gl, 0, none⟩) 5 5 ∧ OwnI wx Wc.heap.size 3 (some ⟨gl, 0, none⟩) 5 5 [V13, V31, V66, V84, V110] ∧ Ext Wc wx)
      case first =>
        clear rh ha hb s1 hI hB hp hq2 hqp hgp hg2 b1 b12 HA HBL HH HG HK HAM HBM HEH HHE hHb hkb hgb BHS BA BB d1 HMN HF HCK HCK2 HCR2 hk1 hk2 hk3 hk4 hk5 T1 T2 T3 T5 BCO BCN BCM BRS hzr HZ hmlen htot HW BE HE HEL hp4 s4 s3 s5 s2 HCA HRA HNA HP3 HP5 HP2 b40 b40n HX0 dz HQ HVE hl5 hl5m bsl bsln hne5 BX HXS hxr HXL HKX hj hav HAV hU2 hV2 E B0 B1 B2 hD hU1 hV1 xr0 rr0 Hr0 xr1 rr1 Hr1 xr2 rr2 Hr2 xr3 rr3 Hr3 xlv rlv Hlv r8 K8 r12 K12 r10 K10 r13 K13 r20 K20 r31 K31 r39 K39 r44 K44 r46 K46 r65 K65 r66 K66 r73 K73 r84 K84 r93 K93 r97 K97 r99 K99 r110 K110 r118 K118 r122 K122 r124 K124 bx1 bx2 bk1 BE2
        refine wp_region_held_drew (S := fun V => V.cell? ⟨w.heap.size, 0, none⟩ = some (.int .i64 p) ∧ V.cell? ⟨w.heap.size, 1, none⟩ = some (.int .i64 q) ∧ V.cell? ⟨w.heap.size, 2, none⟩ = some (.int .i64 g) ∧ V.cell? ⟨w.heap.size + 1, 0, none⟩ = some (.int .i64 H) ∧ V.cell? ⟨w.heap.size + 1, 1, none⟩ = some (.slice AH n cH) ∧ V.cell? ⟨w.heap.size + 1 + 1, 0, none⟩ = some (.slice C1 k1 e1) ∧ V.cell? ⟨w.heap.size + 1 + 1, 1, none⟩ = some (.slice (some an) k2 e2) ∧ V.cell? (an.add (n - 1)) = some (.int .i64 lv)) (by kernel_rfl) ?_ (fun hHeld => ?_)
        · exact hS _ (by repeat (first | with_reducible assumption | with_reducible exact Ext.refl _ | with_reducible apply Ext.alloc | with_reducible apply Ext.drew | with_reducible apply Ext.drewN))
        refine' tkH 0 (hy := yldH (by rfl) ?hy) (h := ?_)
        case hy => intro w hSw; (try dsimp only at hSw); go_simp <;> with_reducible rfl
        try simp only [Act.put, List.setIfInBounds_toArray, List.set_cons_zero, List.set_cons_succ]
        refine' tkH 1 (hy := yldH (by rfl) ?hy) (h := ?_)
        case hy => intro w hSw; (try dsimp only at hSw); go_simp <;> with_reducible rfl
        try simp only [Act.put, List.setIfInBounds_toArray, List.set_cons_zero, List.set_cons_succ]
        refine' tkH 2 (hy := yldH (by rfl) ?hy) (h := ?_)
        case hy => intro w hSw; (try dsimp only at hSw); go_simp <;> with_reducible rfl
        try simp only [Act.put, List.setIfInBounds_toArray, List.set_cons_zero, List.set_cons_succ]
        refine' tkH 3 (hy := yldH (by rfl) ?hy) (h := ?_)
        case hy => intro w hSw; (try dsimp only at hSw); go_simp <;> with_reducible rfl
        try simp only [Act.put, List.setIfInBounds_toArray, List.set_cons_zero, List.set_cons_succ]
        refine' tkH 5 (hy := yldH (by rfl) ?hy) (h := ?_)
        case hy => intro w hSw; (try dsimp only at hSw); go_simp <;> with_reducible rfl
        try simp only [Act.put, List.setIfInBounds_toArray, List.set_cons_zero, List.set_cons_succ]
        refine' tkH 6 (hy := yldH (by rfl) ?hy) (h := ?_)
        case hy => intro w hSw; (try dsimp only at hSw); go_simp <;> with_reducible rfl
        try simp only [Act.put, List.setIfInBounds_toArray, List.set_cons_zero, List.set_cons_succ]
        refine' tkH 7 (hy := yldH (by rfl) ?hy) (h := ?_)
        case hy => intro w hSw; (try dsimp only at hSw); go_simp <;> with_reducible rfl
        try simp only [Act.put, List.setIfInBounds_toArray, List.set_cons_zero, List.set_cons_succ]
        refine' tkH 8 (hy := yldH (by rfl) ?hy) (h := ?_)
        case hy => intro w hSw; (try dsimp only at hSw); go_simp <;> with_reducible rfl
        try simp only [Act.put, List.setIfInBounds_toArray, List.set_cons_zero, List.set_cons_succ]
        refine' tkH 13 (hy := yldH (by rfl) ?hy) (h := ?_)
        case hy => intro w hSw; (try dsimp only at hSw); go_simp <;> with_reducible rfl
        try simp only [Act.put, List.setIfInBounds_toArray, List.set_cons_zero, List.set_cons_succ]
        refine' tkH 14 (hy := yldH (by rfl) ?hy) (h := ?_)
        case hy => intro w hSw; (try dsimp only at hSw); go_simp <;> with_reducible rfl
        try simp only [Act.put, List.setIfInBounds_toArray, List.set_cons_zero, List.set_cons_succ]
        refine' tkH 15 (hy := yldH (by rfl) ?hy) (h := ?_)
        case hy => intro w hSw; (try dsimp only at hSw); go_simp <;> with_reducible rfl
        try simp only [Act.put, List.setIfInBounds_toArray, List.set_cons_zero, List.set_cons_succ]
        refine' tkH 16 (hy := yldH (by rfl) ?hy) (h := ?_)
        case hy => intro w hSw; (try dsimp only at hSw); go_simp <;> with_reducible rfl
        try simp only [Act.put, List.setIfInBounds_toArray, List.set_cons_zero, List.set_cons_succ]
        refine' tkH 18 (hy := yldH (by rfl) ?hy) (h := ?_)
        case hy => intro w hSw; (try dsimp only at hSw); go_simp <;> with_reducible rfl
        try simp only [Act.put, List.setIfInBounds_toArray, List.set_cons_zero, List.set_cons_succ]
        refine' tkH 19 (hy := yldH (by rfl) ?hy) (h := ?_)
        case hy => intro w hSw; (try dsimp only at hSw); go_simp <;> with_reducible rfl
        try simp only [Act.put, List.setIfInBounds_toArray, List.set_cons_zero, List.set_cons_succ]
        refine' tkH 20 (hy := yldH (by rfl) ?hy) (h := ?_)
        case hy => intro w hSw; (try dsimp only at hSw); go_simp <;> with_reducible rfl
        try simp only [Act.put, List.setIfInBounds_toArray, List.set_cons_zero, List.set_cons_succ]
        refine' tkH 21 (hy := yldH (by rfl) ?hy) (h := ?_)
        case hy => intro w hSw; (try dsimp only at hSw); go_simp <;> with_reducible rfl
        try simp only [Act.put, List.setIfInBounds_toArray, List.set_cons_zero, List.set_cons_succ]
        refine' tkH 22 (hy := yldH (by rfl) ?hy) (h := ?_)
        case hy => intro w hSw; (try dsimp only at hSw); go_simp <;> with_reducible rfl
        try simp only [Act.put, List.setIfInBounds_toArray, List.set_cons_zero, List.set_cons_succ]
        refine' tkH 23 (hy := yldH (by rfl) ?hy) (h := ?_)
        case hy => intro w hSw; (try dsimp only at hSw); go_simp <;> with_reducible rfl
        try simp only [Act.put, List.setIfInBounds_toArray, List.set_cons_zero, List.set_cons_succ]
        refine' tkH 24 (hy := yldH (by rfl) ?hy) (h := ?_)
        case hy => intro w hSw; (try dsimp only at hSw); go_simp <;> with_reducible rfl
        try simp only [Act.put, List.setIfInBounds_toArray, List.set_cons_zero, List.set_cons_succ]
        refine' tkH 25 (hy := yldH (by rfl) ?hy) (h := ?_)
        case hy => intro w hSw; (try dsimp only at hSw); go_simp <;> with_reducible rfl
        try simp only [Act.put, List.setIfInBounds_toArray, List.set_cons_zero, List.set_cons_succ]
        refine' tkH 26 (hy := yldH (by rfl) ?hy) (h := ?_)
        case hy => intro w hSw; (try dsimp only at hSw); go_simp <;> with_reducible rfl
        try simp only [Act.put, List.setIfInBounds_toArray, List.set_cons_zero, List.set_cons_succ]
        refine' tkH 27 (hy := yldH (by rfl) ?hy) (h := ?_)
        case hy => intro w hSw; (try dsimp only at hSw); go_simp <;> with_reducible rfl
        try simp only [Act.put, List.setIfInBounds_toArray, List.set_cons_zero, List.set_cons_succ]
        refine' tkH 28 (hy := yldH (by rfl) ?hy) (h := ?_)
        case hy => intro w hSw; (try dsimp only at hSw); go_simp <;> with_reducible rfl
        try simp only [Act.put, List.setIfInBounds_toArray, List.set_cons_zero, List.set_cons_succ]
        refine' tkH 29 (hy := yldH (by rfl) ?hy) (h := ?_)
        case hy => intro w hSw; (try dsimp only at hSw); go_simp <;> with_reducible rfl
        try simp only [Act.put, List.setIfInBounds_toArray, List.set_cons_zero, List.set_cons_succ]
        refine' tkH 33 (hy := yldH (by rfl) ?hy) (h := ?_)
        case hy => intro w hSw; (try dsimp only at hSw); go_simp <;> with_reducible rfl
        try simp only [Act.put, List.setIfInBounds_toArray, List.set_cons_zero, List.set_cons_succ]
        refine' tkH 34 (hy := yldH (by rfl) ?hy) (h := ?_)
        case hy => intro w hSw; (try dsimp only at hSw); go_simp <;> with_reducible rfl
        try simp only [Act.put, List.setIfInBounds_toArray, List.set_cons_zero, List.set_cons_succ]
        refine' tkH 35 (hy := yldH (by rfl) ?hy) (h := ?_)
        case hy => intro w hSw; (try dsimp only at hSw); go_simp <;> with_reducible rfl
        try simp only [Act.put, List.setIfInBounds_toArray, List.set_cons_zero, List.set_cons_succ]
        refine' tkH 37 (hy := yldH (by rfl) ?hy) (h := ?_)
        case hy => intro w hSw; (try dsimp only at hSw); go_simp <;> with_reducible rfl
        try simp only [Act.put, List.setIfInBounds_toArray, List.set_cons_zero, List.set_cons_succ]
        refine' tkH 38 (hy := yldH (by rfl) ?hy) (h := ?_)
        case hy => intro w hSw; (try dsimp only at hSw); go_simp <;> with_reducible rfl
        try simp only [Act.put, List.setIfInBounds_toArray, List.set_cons_zero, List.set_cons_succ]
        refine' tkH 39 (hy := yldH (by rfl) ?hy) (h := ?_)
        case hy => intro w hSw; (try dsimp only at hSw); go_simp <;> with_reducible rfl
        try simp only [Act.put, List.setIfInBounds_toArray, List.set_cons_zero, List.set_cons_succ]
        refine wpAnyH_one (i := 4) (by kernel_rfl) (by simp only [List.getElem?_toArray, List.getElem?_cons_succ, List.getElem?_cons_zero]; rfl) (by kernel_rfl) (fun KK hKK => ?_)
        go_simp
        go_at_call 38
        refine (C8.out _ (by repeat (first | with_reducible assumption | with_reducible exact Ext.refl _ | with_reducible apply Ext.alloc | with_reducible apply Ext.drew | with_reducible apply Ext.drewN))).mono ?_
        rintro ek wk4 ⟨rfl, hbk4⟩
        have hxk4 := Ext.trans (w := Wc) (by repeat (first | with_reducible assumption | with_reducible exact Ext.refl _ | with_reducible apply Ext.alloc | with_reducible apply Ext.drew | with_reducible apply Ext.drewN)) hbk4
        refine hKK.out _ _ ?_ (fun hHeld => ?_)
        · exact hS _ (by repeat (first | with_reducible assumption | with_reducible exact Ext.refl _ | with_reducible apply Ext.alloc | with_reducible apply Ext.drew | with_reducible apply Ext.drewN))
        clear hKK KK
        try simp only [Act.put, List.setIfInBounds_toArray, List.set_cons_zero, List.set_cons_succ]
        refine wpAnyH_one (i := 9) (by kernel_rfl) (by simp only [List.getElem?_toArray, List.getElem?_cons_succ, List.getElem?_cons_zero]; rfl) (by kernel_rfl) (fun KK hKK => ?_)
        go_simp
        go_at_call 38
        refine (C12.out _ (by repeat (first | with_reducible assumption | with_reducible exact Ext.refl _ | with_reducible apply Ext.alloc | with_reducible apply Ext.drew | with_reducible apply Ext.drewN))).mono ?_
        rintro ek wk9 ⟨rfl, hbk9⟩
        have hxk9 := Ext.trans (w := Wc) (by repeat (first | with_reducible assumption | with_reducible exact Ext.refl _ | with_reducible apply Ext.alloc | with_reducible apply Ext.drew | with_reducible apply Ext.drewN)) hbk9
        refine hKK.out _ _ ?_ (fun hHeld => ?_)
        · exact hS _ (by repeat (first | with_reducible assumption | with_reducible exact Ext.refl _ | with_reducible apply Ext.alloc | with_reducible apply Ext.drew | with_reducible apply Ext.drewN))
        clear hKK KK
        try simp only [Act.put, List.setIfInBounds_toArray, List.set_cons_zero, List.set_cons_succ]
        refine wpAnyH_one (i := 10) (by kernel_rfl) (by simp only [List.getElem?_toArray, List.getElem?_cons_succ, List.getElem?_cons_zero]; rfl) (by kernel_rfl) (fun KK hKK => ?_)
        go_simp
        go_at_call 99
        refine (C10.out _ (by repeat (first | with_reducible assumption | with_reducible exact Ext.refl _ | with_reducible apply Ext.alloc | with_reducible apply Ext.drew | with_reducible apply Ext.drewN))).mono ?_
        rintro ek wk10 ⟨rfl, hbk10⟩
        have hxk10 := Ext.trans (w := Wc) (by repeat (first | with_reducible assumption | with_reducible exact Ext.refl _ | with_reducible apply Ext.alloc | with_reducible apply Ext.drew | with_reducible apply Ext.drewN)) hbk10
        refine hKK.out _ _ ?_ (fun hHeld => ?_)
        · exact hS _ (by repeat (first | with_reducible assumption | with_reducible exact Ext.refl _ | with_reducible apply Ext.alloc | with_reducible apply Ext.drew | with_reducible apply Ext.drewN))
        clear hKK KK
        try simp only [Act.put, List.setIfInBounds_toArray, List.set_cons_zero, List.set_cons_succ]
        refine wpAnyH_one (i := 11) (by kernel_rfl) (by simp only [List.getElem?_toArray, List.getElem?_cons_succ, List.getElem?_cons_zero]; rfl) (by kernel_rfl) (fun KK hKK => ?_)
        go_simp
        refine hKK.out _ _ ?_ (fun hHeld => ?_)
        · exact hS _ (by repeat (first | with_reducible assumption | with_reducible exact Ext.refl _ | with_reducible apply Ext.alloc | with_reducible apply Ext.drew | with_reducible apply Ext.drewN))
        clear hKK KK
        try simp only [Act.put, List.setIfInBounds_toArray, List.set_cons_zero, List.set_cons_succ]
        refine wpAnyH_one (i := 12) (by kernel_rfl) (by simp only [List.getElem?_toArray, List.getElem?_cons_succ, List.getElem?_cons_zero]; rfl) (by kernel_rfl) (fun KK hKK => ?_)
        go_simp
        go_at_call 38
        refine (C13.out _ _ (by repeat (first | with_reducible assumption | with_reducible exact Ext.refl _ | with_reducible apply Ext.alloc | with_reducible apply Ext.drew | with_reducible apply Ext.drewN)) (rd_twoV (w := wk10) rfl (by repeat (first | with_reducible assumption | with_reducible exact Ext.refl _ | with_reducible apply Ext.alloc | with_reducible apply Ext.drew | with_reducible apply Ext.drewN)))).mono ?_
        rintro ek wk12 ⟨rfl, hbk12⟩
        have hxk12 := Ext.trans (w := Wc) (by repeat (first | with_reducible assumption | with_reducible exact Ext.refl _ | with_reducible apply Ext.alloc | with_reducible apply Ext.drew | with_reducible apply Ext.drewN)) hbk12
        refine hKK.out _ _ ?_ (fun hHeld => ?_)
        · exact hS _ (by repeat (first | with_reducible assumption | with_reducible exact Ext.refl _ | with_reducible apply Ext.alloc | with_reducible apply Ext.drew | with_reducible apply Ext.drewN))
        clear hKK KK
        try simp only [Act.put, List.setIfInBounds_toArray, List.set_cons_zero, List.set_cons_succ]
        refine wpAnyH_one (i := 17) (by kernel_rfl) (by simp only [List.getElem?_toArray, List.getElem?_cons_succ, List.getElem?_cons_zero]; rfl) (by kernel_rfl) (fun KK hKK => ?_)
        go_simp
        go_at_call 100
        refine (C31.out _ (by repeat (first | with_reducible assumption | with_reducible exact Ext.refl _ | with_reducible apply Ext.alloc | with_reducible apply Ext.drew | with_reducible apply Ext.drewN))).mono ?_
        rintro ek wk17 ⟨rfl, hbk17⟩
        have hxk17 := Ext.trans (w := Wc) (by repeat (first | with_reducible assumption | with_reducible exact Ext.refl _ | with_reducible apply Ext.alloc | with_reducible apply Ext.drew | with_reducible apply Ext.drewN)) hbk17
        refine hKK.out _ _ ?_ (fun hHeld => ?_)
        · exact hS _ (by repeat (first | with_reducible assumption | with_reducible exact Ext.refl _ | with_reducible apply Ext.alloc | with_reducible apply Ext.drew | with_reducible apply Ext.drewN))
        clear hKK KK
        try simp only [Act.put, List.setIfInBounds_toArray, List.set_cons_zero, List.set_cons_succ]
        refine wpAnyH_one (i := 30) (by kernel_rfl) (by simp only [List.getElem?_toArray, List.getElem?_cons_succ, List.getElem?_cons_zero]; rfl) (by kernel_rfl) (fun KK hKK => ?_)
        go_simp
        go_at_call 39
        refine (C65.out _ (by repeat (first | with_reducible assumption | with_reducible exact Ext.refl _ | with_reducible apply Ext.alloc | with_reducible apply Ext.drew | with_reducible apply Ext.drewN))).mono ?_
        rintro ek wk30 ⟨rfl, hbk30⟩
        have hxk30 := Ext.trans (w := Wc) (by repeat (first | with_reducible assumption | with_reducible exact Ext.refl _ | with_reducible apply Ext.alloc | with_reducible apply Ext.drew | with_reducible apply Ext.drewN)) hbk30
        refine hKK.out _ _ ?_ (fun hHeld => ?_)
        · exact hS _ (by repeat (first | with_reducible assumption | with_reducible exact Ext.refl _ | with_reducible apply Ext.alloc | with_reducible apply Ext.drew | with_reducible apply Ext.drewN))
        clear hKK KK
        try simp only [Act.put, List.setIfInBounds_toArray, List.set_cons_zero, List.set_cons_succ]
        refine wpAnyH_one (i := 31) (by kernel_rfl) (by simp only [List.getElem?_toArray, List.getElem?_cons_succ, List.getElem?_cons_zero]; rfl) (by kernel_rfl) (fun KK hKK => ?_)
        go_simp
        refine hKK.out _ _ ?_ (fun hHeld => ?_)
        · exact hS _ (by repeat (first | with_reducible assumption | with_reducible exact Ext.refl _ | with_reducible apply Ext.alloc | with_reducible apply Ext.drew | with_reducible apply Ext.drewN))
        clear hKK KK
        try simp only [Act.put, List.setIfInBounds_toArray, List.set_cons_zero, List.set_cons_succ]
        refine wpAnyH_one (i := 32) (by kernel_rfl) (by simp only [List.getElem?_toArray, List.getElem?_cons_succ, List.getElem?_cons_zero]; rfl) (by kernel_rfl) (fun KK hKK => ?_)
        go_simp
        go_at_call 38
        refine (C66.out _ _ (by repeat (first | with_reducible assumption | with_reducible exact Ext.refl _ | with_reducible apply Ext.alloc | with_reducible apply Ext.drew | with_reducible apply Ext.drewN)) (rd_twoV (w := wk30) rfl (by repeat (first | with_reducible assumption | with_reducible exact Ext.refl _ | with_reducible apply Ext.alloc | with_reducible apply Ext.drew | with_reducible apply Ext.drewN)))).mono ?_
        rintro ek wk32 ⟨rfl, hbk32⟩
        have hxk32 := Ext.trans (w := Wc) (by repeat (first | with_reducible assumption | with_reducible exact Ext.refl _ | with_reducible apply Ext.alloc | with_reducible apply Ext.drew | with_reducible apply Ext.drewN)) hbk32
        refine hKK.out _ _ ?_ (fun hHeld => ?_)
        · exact hS _ (by repeat (first | with_reducible assumption | with_reducible exact Ext.refl _ | with_reducible apply Ext.alloc | with_reducible apply Ext.drew | with_reducible apply Ext.drewN))
        clear hKK KK
        try simp only [Act.put, List.setIfInBounds_toArray, List.set_cons_zero, List.set_cons_succ]
        refine wpAnyH_one (i := 36) (by kernel_rfl) (by simp only [List.getElem?_toArray, List.getElem?_cons_succ, List.getElem?_cons_zero]; rfl) (by kernel_rfl) (fun KK hKK => ?_)
        go_simp
        go_at_call 100
        refine (C84.out _ (by repeat (first | with_reducible assumption | with_reducible exact Ext.refl _ | with_reducible apply Ext.alloc | with_reducible apply Ext.drew | with_reducible apply Ext.drewN))).mono ?_
        rintro ek wk36 ⟨rfl, hbk36⟩
        have hxk36 := Ext.trans (w := Wc) (by repeat (first | with_reducible assumption | with_reducible exact Ext.refl _ | with_reducible apply Ext.alloc | with_reducible apply Ext.drew | with_reducible apply Ext.drewN)) hbk36
        refine hKK.out _ _ ?_ (fun hHeld => ?_)
        · exact hS _ (by repeat (first | with_reducible assumption | with_reducible exact Ext.refl _ | with_reducible apply Ext.alloc | with_reducible apply Ext.drew | with_reducible apply Ext.drewN))
        clear hKK KK
        try simp only [Act.put, List.setIfInBounds_toArray, List.set_cons_zero, List.set_cons_succ]
        refine wpAnyH_one (i := 40) (by kernel_rfl) (by simp only [List.getElem?_toArray, List.getElem?_cons_succ, List.getElem?_cons_zero]; rfl) (by kernel_rfl) (fun KK hKK => ?_)
        go_simp
        go_at_call 100
        refine (C110.out _ (by repeat (first | with_reducible assumption | with_reducible exact Ext.refl _ | with_reducible apply Ext.alloc | with_reducible apply Ext.drew | with_reducible apply Ext.drewN))).mono ?_
        rintro ek wk40 ⟨rfl, hbk40⟩
        have hxk40 := Ext.trans (w := Wc) (by repeat (first | with_reducible assumption | with_reducible exact Ext.refl _ | with_reducible apply Ext.alloc | with_reducible apply Ext.drew | with_reducible apply Ext.drewN)) hbk40
        refine hKK.out _ _ ?_ (fun hHeld => ?_)
        · exact hS _ (by repeat (first | with_reducible assumption | with_reducible exact Ext.refl _ | with_reducible apply Ext.alloc | with_reducible apply Ext.drew | with_reducible apply Ext.drewN))
        clear hKK KK
        try simp only [Act.put, List.setIfInBounds_toArray, List.set_cons_zero, List.set_cons_succ]
        refine wpAnyH_one (i := 41) (by kernel_rfl) (by simp only [List.getElem?_toArray, List.getElem?_cons_succ, List.getElem?_cons_zero]; rfl) (by kernel_rfl) (fun KK hKK => ?_)
        go_simp
        refine hKK.out _ _ ?_ (fun hHeld => ?_)
        · exact hS _ (by repeat (first | with_reducible assumption | with_reducible exact Ext.refl _ | with_reducible apply Ext.alloc | with_reducible apply Ext.drew | with_reducible apply Ext.drewN))
        clear hKK KK
        try simp only [Act.put, List.setIfInBounds_toArray, List.set_cons_zero, List.set_cons_succ]
        refine' tkH 42 (hy := yldH (by rfl) ?hy) (h := ?_)
        case hy => intro w hSw; (try dsimp only at hSw); go_simp <;> with_reducible rfl
        try simp only [Act.put, List.setIfInBounds_toArray, List.set_cons_zero, List.set_cons_succ]
        refine wpAnyH_done (by kernel_rfl) ?_ _
        have hO5 : OwnI (wk40.alloc (.cells #[.int .i64 V13, .int .i64 V31, .int .i64 V66, .int .i64 V84, .int .i64 V110] 3)) Wc.heap.size 3 (some ⟨wk40.heap.size, 0, none⟩) 5 5 [V13, V31, V66, V84, V110] := ownI_lit (w := wk40) (e := 3) [V13, V31, V66, V84, V110] rfl rfl (Ext.size (w := Wc) hxk40) (by unfold maxLen; omega)
        go_wp2
        go_meet
        exact ⟨_, rfl, hO5.ext (by repeat (first | with_reducible assumption | with_reducible exact Ext.refl _ | with_reducible apply Ext.alloc | with_reducible apply Ext.drew | with_reducible apply Ext.drewN)), Ext.trans (w := Wc) hxk40 (by repeat (first | with_reducible assumption | with_reducible exact Ext.refl _ | with_reducible apply Ext.alloc | with_reducible apply Ext.drew | with_reducible apply Ext.drewN))⟩
      case' rest =>
      obtain ⟨gl, rfl, hOL, hbl⟩ := hcut
      generalize wc = We at *
      have hWE : ∀ V, Ext We V → Ext Wc V := fun V hV => hbl.trans hV
      go_upto_region 17 with (fail)
      go_cut [27] from 147 to 205 (fun c0 wx => ∃ gr, c0 = .slice (some ⟨gr, 0, none⟩) 5 5 ∧ OwnI wx We.heap.size 3 (some ⟨gr, 0, none⟩) 5 5 [V20, V46, V73, V99, V124] ∧ Ext We wx)
      case first =>
        clear rh ha hb s1 hI hB hp hq2 hqp hgp hg2 b1 b12 HA HBL HH HG HK HAM HBM HEH HHE hHb hkb hgb BHS BA BB d1 HMN HF HCK HCK2 HCR2 hk1 hk2 hk3 hk4 hk5 T1 T2 T3 T5 BCO BCN BCM BRS hzr HZ hmlen htot HW BE HE HEL hp4 s4 s3 s5 s2 HCA HRA HNA HP3 HP5 HP2 b40 b40n HX0 dz HQ HVE hl5 hl5m bsl bsln hne5 BX HXS hxr HXL HKX hj hav HAV hU2 hV2 E B0 B1 B2 hD hU1 hV1 xr0 rr0 Hr0 xr1 rr1 Hr1 xr2 rr2 Hr2 xr3 rr3 Hr3 xlv rlv Hlv r8 K8 r12 K12 r10 K10 r13 K13 r20 K20 r31 K31 r39 K39 r44 K44 r46 K46 r65 K65 r66 K66 r73 K73 r84 K84 r93 K93 r97 K97 r99 K99 r110 K110 r118 K118 r122 K122 r124 K124 bx1 bx2 bk1 BE2
        refine wp_region_held_drew (S := fun V => V.cell? ⟨w.heap.size, 0, none⟩ = some (.int .i64 p) ∧ V.cell? ⟨w.heap.size, 1, none⟩ = some (.int .i64 q) ∧ V.cell? ⟨w.heap.size, 2, none⟩ = some (.int .i64 g) ∧ V.cell? ⟨w.heap.size + 1, 0, none⟩ = some (.int .i64 H) ∧ V.cell? ⟨w.heap.size + 1, 1, none⟩ = some (.slice AH n cH) ∧ V.cell? ar = some (.int .i64 r0) ∧ V.cell? ⟨ar.block, ar.off + 1, none⟩ = some (.int .i64 r1) ∧ V.cell? ⟨ar.block, ar.off + 2, none⟩ = some (.int .i64 r2) ∧ V.cell? ⟨ar.block, ar.off + 3, none⟩ = some (.int .i64 r3)) (by kernel_rfl) ?_ (fun hHeld => ?_)
        · exact hS7 _ (hWE _ (by repeat (first | with_reducible assumption | with_reducible exact Ext.refl _ | with_reducible apply Ext.alloc | with_reducible apply Ext.drew | with_reducible apply Ext.drewN)))
        refine' tkH 0 (hy := yldH (by rfl) ?hy) (h := ?_)
        case hy => intro w hSw; (try dsimp only at hSw); go_simp <;> with_reducible rfl
        try simp only [Act.put, List.setIfInBounds_toArray, List.set_cons_zero, List.set_cons_succ]
        refine' tkH 1 (hy := yldH (by rfl) ?hy) (h := ?_)
        case hy => intro w hSw; (try dsimp only at hSw); go_simp <;> with_reducible rfl
        try simp only [Act.put, List.setIfInBounds_toArray, List.set_cons_zero, List.set_cons_succ]
        refine' tkH 2 (hy := yldH (by rfl) ?hy) (h := ?_)
        case hy => intro w hSw; (try dsimp only at hSw); go_simp <;> with_reducible rfl
        try simp only [Act.put, List.setIfInBounds_toArray, List.set_cons_zero, List.set_cons_succ]
        refine' tkH 3 (hy := yldH (by rfl) ?hy) (h := ?_)
        case hy => intro w hSw; (try dsimp only at hSw); go_simp <;> with_reducible rfl
        try simp only [Act.put, List.setIfInBounds_toArray, List.set_cons_zero, List.set_cons_succ]
        refine' tkH 4 (hy := yldH (by rfl) ?hy) (h := ?_)
        case hy => intro w hSw; (try dsimp only at hSw); go_simp <;> with_reducible rfl
        try simp only [Act.put, List.setIfInBounds_toArray, List.set_cons_zero, List.set_cons_succ]
        refine' tkH 5 (hy := yldH (by rfl) ?hy) (h := ?_)
        case hy => intro w hSw; (try dsimp only at hSw); go_simp <;> with_reducible rfl
        try simp only [Act.put, List.setIfInBounds_toArray, List.set_cons_zero, List.set_cons_succ]
        refine' tkH 7 (hy := yldH (by rfl) ?hy) (h := ?_)
        case hy => intro w hSw; (try dsimp only at hSw); go_simp <;> with_reducible rfl
        try simp only [Act.put, List.setIfInBounds_toArray, List.set_cons_zero, List.set_cons_succ]
        refine' tkH 8 (hy := yldH (by rfl) ?hy) (h := ?_)
        case hy => intro w hSw; (try dsimp only at hSw); go_simp <;> with_reducible rfl
        try simp only [Act.put, List.setIfInBounds_toArray, List.set_cons_zero, List.set_cons_succ]
        refine' tkH 9 (hy := yldH (by rfl) ?hy) (h := ?_)
        case hy => intro w hSw; (try dsimp only at hSw); go_simp <;> with_reducible rfl
        try simp only [Act.put, List.setIfInBounds_toArray, List.set_cons_zero, List.set_cons_succ]
        refine' tkH 10 (hy := yldH (by rfl) ?hy) (h := ?_)
        case hy => intro w hSw; (try dsimp only at hSw); go_simp <;> with_reducible rfl
        try simp only [Act.put, List.setIfInBounds_toArray, List.set_cons_zero, List.set_cons_succ]
        refine' tkH 11 (hy := yldH (by rfl) ?hy) (h := ?_)
        case hy => intro w hSw; (try dsimp only at hSw); go_simp <;> with_reducible rfl
        try simp only [Act.put, List.setIfInBounds_toArray, List.set_cons_zero, List.set_cons_succ]
        refine' tkH 12 (hy := yldH (by rfl) ?hy) (h := ?_)
        case hy => intro w hSw; (try dsimp only at hSw); go_simp <;> with_reducible rfl
        try simp only [Act.put, List.setIfInBounds_toArray, List.set_cons_zero, List.set_cons_succ]
        refine' tkH 13 (hy := yldH (by rfl) ?hy) (h := ?_)
        case hy => intro w hSw; (try dsimp only at hSw); go_simp <;> with_reducible rfl
        try simp only [Act.put, List.setIfInBounds_toArray, List.set_cons_zero, List.set_cons_succ]
        refine' tkH 15 (hy := yldH (by rfl) ?hy) (h := ?_)
        case hy => intro w hSw; (try dsimp only at hSw); go_simp <;> with_reducible rfl
        try simp only [Act.put, List.setIfInBounds_toArray, List.set_cons_zero, List.set_cons_succ]
        refine' tkH 16 (hy := yldH (by rfl) ?hy) (h := ?_)
        case hy => intro w hSw; (try dsimp only at hSw); go_simp <;> with_reducible rfl
        try simp only [Act.put, List.setIfInBounds_toArray, List.set_cons_zero, List.set_cons_succ]
        refine' tkH 17 (hy := yldH (by rfl) ?hy) (h := ?_)
        case hy => intro w hSw; (try dsimp only at hSw); go_simp <;> with_reducible rfl
        try simp only [Act.put, List.setIfInBounds_toArray, List.set_cons_zero, List.set_cons_succ]
        refine' tkH 18 (hy := yldH (by rfl) ?hy) (h := ?_)
        case hy => intro w hSw; (try dsimp only at hSw); go_simp <;> with_reducible rfl
        try simp only [Act.put, List.setIfInBounds_toArray, List.set_cons_zero, List.set_cons_succ]
        refine' tkH 22 (hy := yldH (by rfl) ?hy) (h := ?_)
        case hy => intro w hSw; (try dsimp only at hSw); go_simp <;> with_reducible rfl
        try simp only [Act.put, List.setIfInBounds_toArray, List.set_cons_zero, List.set_cons_succ]
        refine' tkH 23 (hy := yldH (by rfl) ?hy) (h := ?_)
        case hy => intro w hSw; (try dsimp only at hSw); go_simp <;> with_reducible rfl
        try simp only [Act.put, List.setIfInBounds_toArray, List.set_cons_zero, List.set_cons_succ]
        refine' tkH 24 (hy := yldH (by rfl) ?hy) (h := ?_)
        case hy => intro w hSw; (try dsimp only at hSw); go_simp <;> with_reducible rfl
        try simp only [Act.put, List.setIfInBounds_toArray, List.set_cons_zero, List.set_cons_succ]
        refine' tkH 25 (hy := yldH (by rfl) ?hy) (h := ?_)
        case hy => intro w hSw; (try dsimp only at hSw); go_simp <;> with_reducible rfl
        try simp only [Act.put, List.setIfInBounds_toArray, List.set_cons_zero, List.set_cons_succ]
        refine' tkH 26 (hy := yldH (by rfl) ?hy) (h := ?_)
        case hy => intro w hSw; (try dsimp only at hSw); go_simp <;> with_reducible rfl
        try simp only [Act.put, List.setIfInBounds_toArray, List.set_cons_zero, List.set_cons_succ]
        refine' tkH 27 (hy := yldH (by rfl) ?hy) (h := ?_)
        case hy => intro w hSw; (try dsimp only at hSw); go_simp <;> with_reducible rfl
        try simp only [Act.put, List.setIfInBounds_toArray, List.set_cons_zero, List.set_cons_succ]
        refine' tkH 29 (hy := yldH (by rfl) ?hy) (h := ?_)
        case hy => intro w hSw; (try dsimp only at hSw); go_simp <;> with_reducible rfl
        try simp only [Act.put, List.setIfInBounds_toArray, List.set_cons_zero, List.set_cons_succ]
        refine' tkH 30 (hy := yldH (by rfl) ?hy) (h := ?_)
        case hy => intro w hSw; (try dsimp only at hSw); go_simp <;> with_reducible rfl
        try simp only [Act.put, List.setIfInBounds_toArray, List.set_cons_zero, List.set_cons_succ]
        refine' tkH 31 (hy := yldH (by rfl) ?hy) (h := ?_)
        case hy => intro w hSw; (try dsimp only at hSw); go_simp <;> with_reducible rfl
        try simp only [Act.put, List.setIfInBounds_toArray, List.set_cons_zero, List.set_cons_succ]
        refine' tkH 32 (hy := yldH (by rfl) ?hy) (h := ?_)
        case hy => intro w hSw; (try dsimp only at hSw); go_simp <;> with_reducible rfl
        try simp only [Act.put, List.setIfInBounds_toArray, List.set_cons_zero, List.set_cons_succ]
        refine' tkH 33 (hy := yldH (by rfl) ?hy) (h := ?_)
        case hy => intro w hSw; (try dsimp only at hSw); go_simp <;> with_reducible rfl
        try simp only [Act.put, List.setIfInBounds_toArray, List.set_cons_zero, List.set_cons_succ]
        refine' tkH 34 (hy := yldH (by rfl) ?hy) (h := ?_)
        case hy => intro w hSw; (try dsimp only at hSw); go_simp <;> with_reducible rfl
        try simp only [Act.put, List.setIfInBounds_toArray, List.set_cons_zero, List.set_cons_succ]
        refine' tkH 35 (hy := yldH (by rfl) ?hy) (h := ?_)
        case hy => intro w hSw; (try dsimp only at hSw); go_simp <;> with_reducible rfl
        try simp only [Act.put, List.setIfInBounds_toArray, List.set_cons_zero, List.set_cons_succ]
        refine' tkH 36 (hy := yldH (by rfl) ?hy) (h := ?_)
        case hy => intro w hSw; (try dsimp only at hSw); go_simp <;> with_reducible rfl
        try simp only [Act.put, List.setIfInBounds_toArray, List.set_cons_zero, List.set_cons_succ]
        refine' tkH 38 (hy := yldH (by rfl) ?hy) (h := ?_)
        case hy => intro w hSw; (try dsimp only at hSw); go_simp <;> with_reducible rfl
        try simp only [Act.put, List.setIfInBounds_toArray, List.set_cons_zero, List.set_cons_succ]
        refine' tkH 39 (hy := yldH (by rfl) ?hy) (h := ?_)
        case hy => intro w hSw; (try dsimp only at hSw); go_simp <;> with_reducible rfl
        try simp only [Act.put, List.setIfInBounds_toArray, List.set_cons_zero, List.set_cons_succ]
        refine' tkH 40 (hy := yldH (by rfl) ?hy) (h := ?_)
        case hy => intro w hSw; (try dsimp only at hSw); go_simp <;> with_reducible rfl
        try simp only [Act.put, List.setIfInBounds_toArray, List.set_cons_zero, List.set_cons_succ]
        refine' tkH 44 (hy := yldH (by rfl) ?hy) (h := ?_)
        case hy => intro w hSw; (try dsimp only at hSw); go_simp <;> with_reducible rfl
        try simp only [Act.put, List.setIfInBounds_toArray, List.set_cons_zero, List.set_cons_succ]
        refine' tkH 45 (hy := yldH (by rfl) ?hy) (h := ?_)
        case hy => intro w hSw; (try dsimp only at hSw); go_simp <;> with_reducible rfl
        try simp only [Act.put, List.setIfInBounds_toArray, List.set_cons_zero, List.set_cons_succ]
        refine' tkH 46 (hy := yldH (by rfl) ?hy) (h := ?_)
        case hy => intro w hSw; (try dsimp only at hSw); go_simp <;> with_reducible rfl
        try simp only [Act.put, List.setIfInBounds_toArray, List.set_cons_zero, List.set_cons_succ]
        refine' tkH 47 (hy := yldH (by rfl) ?hy) (h := ?_)
        case hy => intro w hSw; (try dsimp only at hSw); go_simp <;> with_reducible rfl
        try simp only [Act.put, List.setIfInBounds_toArray, List.set_cons_zero, List.set_cons_succ]
        refine' tkH 48 (hy := yldH (by rfl) ?hy) (h := ?_)
        case hy => intro w hSw; (try dsimp only at hSw); go_simp <;> with_reducible rfl
        try simp only [Act.put, List.setIfInBounds_toArray, List.set_cons_zero, List.set_cons_succ]
        refine' tkH 49 (hy := yldH (by rfl) ?hy) (h := ?_)
        case hy => intro w hSw; (try dsimp only at hSw); go_simp <;> with_reducible rfl
        try simp only [Act.put, List.setIfInBounds_toArray, List.set_cons_zero, List.set_cons_succ]
        refine' tkH 50 (hy := yldH (by rfl) ?hy) (h := ?_)
        case hy => intro w hSw; (try dsimp only at hSw); go_simp <;> with_reducible rfl
        try simp only [Act.put, List.setIfInBounds_toArray, List.set_cons_zero, List.set_cons_succ]
        refine' tkH 52 (hy := yldH (by rfl) ?hy) (h := ?_)
        case hy => intro w hSw; (try dsimp only at hSw); go_simp <;> with_reducible rfl
        try simp only [Act.put, List.setIfInBounds_toArray, List.set_cons_zero, List.set_cons_succ]
        refine' tkH 53 (hy := yldH (by rfl) ?hy) (h := ?_)
        case hy => intro w hSw; (try dsimp only at hSw); go_simp <;> with_reducible rfl
        try simp only [Act.put, List.setIfInBounds_toArray, List.set_cons_zero, List.set_cons_succ]
        refine' tkH 54 (hy := yldH (by rfl) ?hy) (h := ?_)
        case hy => intro w hSw; (try dsimp only at hSw); go_simp <;> with_reducible rfl
        try simp only [Act.put, List.setIfInBounds_toArray, List.set_cons_zero, List.set_cons_succ]
        refine wpAnyH_one (i := 6) (by kernel_rfl) (by simp only [List.getElem?_toArray, List.getElem?_cons_succ, List.getElem?_cons_zero]; rfl) (by kernel_rfl) (fun KK hKK => ?_)
        go_simp
        go_at_call 39
        refine (C20.out _ (hWE _ (by repeat (first | with_reducible assumption | with_reducible exact Ext.refl _ | with_reducible apply Ext.alloc | with_reducible apply Ext.drew | with_reducible apply Ext.drewN)))).mono ?_
        rintro ek wk6 ⟨rfl, hbk6⟩
        have hxk6 := Ext.trans (w := We) (by repeat (first | with_reducible assumption | with_reducible exact Ext.refl _ | with_reducible apply Ext.alloc | with_reducible apply Ext.drew | with_reducible apply Ext.drewN)) hbk6
        refine hKK.out _ _ ?_ (fun hHeld => ?_)
        · exact hS7 _ (hWE _ (by repeat (first | with_reducible assumption | with_reducible exact Ext.refl _ | with_reducible apply Ext.alloc | with_reducible apply Ext.drew | with_reducible apply Ext.drewN)))
        clear hKK KK
        try simp only [Act.put, List.setIfInBounds_toArray, List.set_cons_zero, List.set_cons_succ]
        refine wpAnyH_one (i := 14) (by kernel_rfl) (by simp only [List.getElem?_toArray, List.getElem?_cons_succ, List.getElem?_cons_zero]; rfl) (by kernel_rfl) (fun KK hKK => ?_)
        go_simp
        go_at_call 39
        refine (C39.out _ (hWE _ (by repeat (first | with_reducible assumption | with_reducible exact Ext.refl _ | with_reducible apply Ext.alloc | with_reducible apply Ext.drew | with_reducible apply Ext.drewN)))).mono ?_
        rintro ek wk14 ⟨rfl, hbk14⟩
        have hxk14 := Ext.trans (w := We) (by repeat (first | with_reducible assumption | with_reducible exact Ext.refl _ | with_reducible apply Ext.alloc | with_reducible apply Ext.drew | with_reducible apply Ext.drewN)) hbk14
        refine hKK.out _ _ ?_ (fun hHeld => ?_)
        · exact hS7 _ (hWE _ (by repeat (first | with_reducible assumption | with_reducible exact Ext.refl _ | with_reducible apply Ext.alloc | with_reducible apply Ext.drew | with_reducible apply Ext.drewN)))
        clear hKK KK
        try simp only [Act.put, List.setIfInBounds_toArray, List.set_cons_zero, List.set_cons_succ]
        refine wpAnyH_one (i := 19) (by kernel_rfl) (by simp only [List.getElem?_toArray, List.getElem?_cons_succ, List.getElem?_cons_zero]; rfl) (by kernel_rfl) (fun KK hKK => ?_)
        go_simp
        go_at_call 100
        refine (C44.out _ (hWE _ (by repeat (first | with_reducible assumption | with_reducible exact Ext.refl _ | with_reducible apply Ext.alloc | with_reducible apply Ext.drew | with_reducible apply Ext.drewN)))).mono ?_
        rintro ek wk19 ⟨rfl, hbk19⟩
        have hxk19 := Ext.trans (w := We) (by repeat (first | with_reducible assumption | with_reducible exact Ext.refl _ | with_reducible apply Ext.alloc | with_reducible apply Ext.drew | with_reducible apply Ext.drewN)) hbk19
        refine hKK.out _ _ ?_ (fun hHeld => ?_)
        · exact hS7 _ (hWE _ (by repeat (first | with_reducible assumption | with_reducible exact Ext.refl _ | with_reducible apply Ext.alloc | with_reducible apply Ext.drew | with_reducible apply Ext.drewN)))
        clear hKK KK
        try simp only [Act.put, List.setIfInBounds_toArray, List.set_cons_zero, List.set_cons_succ]
        refine wpAnyH_one (i := 20) (by kernel_rfl) (by simp only [List.getElem?_toArray, List.getElem?_cons_succ, List.getElem?_cons_zero]; rfl) (by kernel_rfl) (fun KK hKK => ?_)
        go_simp
        refine hKK.out _ _ ?_ (fun hHeld => ?_)
        · exact hS7 _ (hWE _ (by repeat (first | with_reducible assumption | with_reducible exact Ext.refl _ | with_reducible apply Ext.alloc | with_reducible apply Ext.drew | with_reducible apply Ext.drewN)))
        clear hKK KK
        try simp only [Act.put, List.setIfInBounds_toArray, List.set_cons_zero, List.set_cons_succ]
        refine wpAnyH_one (i := 21) (by kernel_rfl) (by simp only [List.getElem?_toArray, List.getElem?_cons_succ, List.getElem?_cons_zero]; rfl) (by kernel_rfl) (fun KK hKK => ?_)
        go_simp
        go_at_call 38
        refine (C46.out _ _ (hWE _ (by repeat (first | with_reducible assumption | with_reducible exact Ext.refl _ | with_reducible apply Ext.alloc | with_reducible apply Ext.drew | with_reducible apply Ext.drewN))) (rd_twoV (w := wk19) rfl (by repeat (first | with_reducible assumption | with_reducible exact Ext.refl _ | with_reducible apply Ext.alloc | with_reducible apply Ext.drew | with_reducible apply Ext.drewN)))).mono ?_
        rintro ek wk21 ⟨rfl, hbk21⟩
        have hxk21 := Ext.trans (w := We) (by repeat (first | with_reducible assumption | with_reducible exact Ext.refl _ | with_reducible apply Ext.alloc | with_reducible apply Ext.drew | with_reducible apply Ext.drewN)) hbk21
        refine hKK.out _ _ ?_ (fun hHeld => ?_)
        · exact hS7 _ (hWE _ (by repeat (first | with_reducible assumption | with_reducible exact Ext.refl _ | with_reducible apply Ext.alloc | with_reducible apply Ext.drew | with_reducible apply Ext.drewN)))
        clear hKK KK
        try simp only [Act.put, List.setIfInBounds_toArray, List.set_cons_zero, List.set_cons_succ]
        refine wpAnyH_one (i := 28) (by kernel_rfl) (by simp only [List.getElem?_toArray, List.getElem?_cons_succ, List.getElem?_cons_zero]; rfl) (by kernel_rfl) (fun KK hKK => ?_)
        go_simp
        go_at_call 39
        refine (C73.out _ (hWE _ (by repeat (first | with_reducible assumption | with_reducible exact Ext.refl _ | with_reducible apply Ext.alloc | with_reducible apply Ext.drew | with_reducible apply Ext.drewN)))).mono ?_
        rintro ek wk28 ⟨rfl, hbk28⟩
        have hxk28 := Ext.trans (w := We) (by repeat (first | with_reducible assumption | with_reducible exact Ext.refl _ | with_reducible apply Ext.alloc | with_reducible apply Ext.drew | with_reducible apply Ext.drewN)) hbk28
        refine hKK.out _ _ ?_ (fun hHeld => ?_)
        · exact hS7 _ (hWE _ (by repeat (first | with_reducible assumption | with_reducible exact Ext.refl _ | with_reducible apply Ext.alloc | with_reducible apply Ext.drew | with_reducible apply Ext.drewN)))
        clear hKK KK
        try simp only [Act.put, List.setIfInBounds_toArray, List.set_cons_zero, List.set_cons_succ]
        refine wpAnyH_one (i := 37) (by kernel_rfl) (by simp only [List.getElem?_toArray, List.getElem?_cons_succ, List.getElem?_cons_zero]; rfl) (by kernel_rfl) (fun KK hKK => ?_)
        go_simp
        go_at_call 39
        refine (C93.out _ (hWE _ (by repeat (first | with_reducible assumption | with_reducible exact Ext.refl _ | with_reducible apply Ext.alloc | with_reducible apply Ext.drew | with_reducible apply Ext.drewN)))).mono ?_
        rintro ek wk37 ⟨rfl, hbk37⟩
        have hxk37 := Ext.trans (w := We) (by repeat (first | with_reducible assumption | with_reducible exact Ext.refl _ | with_reducible apply Ext.alloc | with_reducible apply Ext.drew | with_reducible apply Ext.drewN)) hbk37
        refine hKK.out _ _ ?_ (fun hHeld => ?_)
        · exact hS7 _ (hWE _ (by repeat (first | with_reducible assumption | with_reducible exact Ext.refl _ | with_reducible apply Ext.alloc | with_reducible apply Ext.drew | with_reducible apply Ext.drewN)))
        clear hKK KK
        try simp only [Act.put, List.setIfInBounds_toArray, List.set_cons_zero, List.set_cons_succ]
        refine wpAnyH_one (i := 41) (by kernel_rfl) (by simp only [List.getElem?_toArray, List.getElem?_cons_succ, List.getElem?_cons_zero]; rfl) (by kernel_rfl) (fun KK hKK => ?_)
        go_simp
        go_at_call 100
        refine (C97.out _ (hWE _ (by repeat (first | with_reducible assumption | with_reducible exact Ext.refl _ | with_reducible apply Ext.alloc | with_reducible apply Ext.drew | with_reducible apply Ext.drewN)))).mono ?_
        rintro ek wk41 ⟨rfl, hbk41⟩
        have hxk41 := Ext.trans (w := We) (by repeat (first | with_reducible assumption | with_reducible exact Ext.refl _ | with_reducible apply Ext.alloc | with_reducible apply Ext.drew | with_reducible apply Ext.drewN)) hbk41
        refine hKK.out _ _ ?_ (fun hHeld => ?_)
        · exact hS7 _ (hWE _ (by repeat (first | with_reducible assumption | with_reducible exact Ext.refl _ | with_reducible apply Ext.alloc | with_reducible apply Ext.drew | with_reducible apply Ext.drewN)))
        clear hKK KK
        try simp only [Act.put, List.setIfInBounds_toArray, List.set_cons_zero, List.set_cons_succ]
        refine wpAnyH_one (i := 42) (by kernel_rfl) (by simp only [List.getElem?_toArray, List.getElem?_cons_succ, List.getElem?_cons_zero]; rfl) (by kernel_rfl) (fun KK hKK => ?_)
        go_simp
        refine hKK.out _ _ ?_ (fun hHeld => ?_)
        · exact hS7 _ (hWE _ (by repeat (first | with_reducible assumption | with_reducible exact Ext.refl _ | with_reducible apply Ext.alloc | with_reducible apply Ext.drew | with_reducible apply Ext.drewN)))
        clear hKK KK
        try simp only [Act.put, List.setIfInBounds_toArray, List.set_cons_zero, List.set_cons_succ]
        refine wpAnyH_one (i := 43) (by kernel_rfl) (by simp only [List.getElem?_toArray, List.getElem?_cons_succ, List.getElem?_cons_zero]; rfl) (by kernel_rfl) (fun KK hKK => ?_)
        go_simp
        go_at_call 38
        refine (C99.out _ _ (hWE _ (by repeat (first | with_reducible assumption | with_reducible exact Ext.refl _ | with_reducible apply Ext.alloc | with_reducible apply Ext.drew | with_reducible apply Ext.drewN))) (rd_twoV (w := wk41) rfl (by repeat (first | with_reducible assumption | with_reducible exact Ext.refl _ | with_reducible apply Ext.alloc | with_reducible apply Ext.drew | with_reducible apply Ext.drewN)))).mono ?_
        rintro ek wk43 ⟨rfl, hbk43⟩
        have hxk43 := Ext.trans (w := We) (by repeat (first | with_reducible assumption | with_reducible exact Ext.refl _ | with_reducible apply Ext.alloc | with_reducible apply Ext.drew | with_reducible apply Ext.drewN)) hbk43
        refine hKK.out _ _ ?_ (fun hHeld => ?_)
        · exact hS7 _ (hWE _ (by repeat (first | with_reducible assumption | with_reducible exact Ext.refl _ | with_reducible apply Ext.alloc | with_reducible apply Ext.drew | with_reducible apply Ext.drewN)))
        clear hKK KK
        try simp only [Act.put, List.setIfInBounds_toArray, List.set_cons_zero, List.set_cons_succ]
        refine wpAnyH_one (i := 51) (by kernel_rfl) (by simp only [List.getElem?_toArray, List.getElem?_cons_succ, List.getElem?_cons_zero]; rfl) (by kernel_rfl) (fun KK hKK => ?_)
        go_simp
        go_at_call 39
        refine (C118.out _ (hWE _ (by repeat (first | with_reducible assumption | with_reducible exact Ext.refl _ | with_reducible apply Ext.alloc | with_reducible apply Ext.drew | with_reducible apply Ext.drewN)))).mono ?_
        rintro ek wk51 ⟨rfl, hbk51⟩
        have hxk51 := Ext.trans (w := We) (by repeat (first | with_reducible assumption | with_reducible exact Ext.refl _ | with_reducible apply Ext.alloc | with_reducible apply Ext.drew | with_reducible apply Ext.drewN)) hbk51
        refine hKK.out _ _ ?_ (fun hHeld => ?_)
        · exact hS7 _ (hWE _ (by repeat (first | with_reducible assumption | with_reducible exact Ext.refl _ | with_reducible apply Ext.alloc | with_reducible apply Ext.drew | with_reducible apply Ext.drewN)))
        clear hKK KK
        try simp only [Act.put, List.setIfInBounds_toArray, List.set_cons_zero, List.set_cons_succ]
        refine wpAnyH_one (i := 55) (by kernel_rfl) (by simp only [List.getElem?_toArray, List.getElem?_cons_succ, List.getElem?_cons_zero]; rfl) (by kernel_rfl) (fun KK hKK => ?_)
        go_simp
        go_at_call 100
        refine (C122.out _ (hWE _ (by repeat (first | with_reducible assumption | with_reducible exact Ext.refl _ | with_reducible apply Ext.alloc | with_reducible apply Ext.drew | with_reducible apply Ext.drewN)))).mono ?_
        rintro ek wk55 ⟨rfl, hbk55⟩
        have hxk55 := Ext.trans (w := We) (by repeat (first | with_reducible assumption | with_reducible exact Ext.refl _ | with_reducible apply Ext.alloc | with_reducible apply Ext.drew | with_reducible apply Ext.drewN)) hbk55
        refine hKK.out _ _ ?_ (fun hHeld => ?_)
        · exact hS7 _ (hWE _ (by repeat (first | with_reducible assumption | with_reducible exact Ext.refl _ | with_reducible apply Ext.alloc | with_reducible apply Ext.drew | with_reducible apply Ext.drewN)))
        clear hKK KK
        try simp only [Act.put, List.setIfInBounds_toArray, List.set_cons_zero, List.set_cons_succ]
        refine wpAnyH_one (i := 56) (by kernel_rfl) (by simp only [List.getElem?_toArray, List.getElem?_cons_succ, List.getElem?_cons_zero]; rfl) (by kernel_rfl) (fun KK hKK => ?_)
        go_simp
        refine hKK.out _ _ ?_ (fun hHeld => ?_)
        · exact hS7 _ (hWE _ (by repeat (first | with_reducible assumption | with_reducible exact Ext.refl _ | with_reducible apply Ext.alloc | with_reducible apply Ext.drew | with_reducible apply Ext.drewN)))
        clear hKK KK
        try simp only [Act.put, List.setIfInBounds_toArray, List.set_cons_zero, List.set_cons_succ]
        refine wpAnyH_one (i := 57) (by kernel_rfl) (by simp only [List.getElem?_toArray, List.getElem?_cons_succ, List.getElem?_cons_zero]; rfl) (by kernel_rfl) (fun KK hKK => ?_)
        go_simp
        go_at_call 38
        refine (C124.out _ _ (hWE _ (by repeat (first | with_reducible assumption | with_reducible exact Ext.refl _ | with_reducible apply Ext.alloc | with_reducible apply Ext.drew | with_reducible apply Ext.drewN))) (rd_twoV (w := wk55) rfl (by repeat (first | with_reducible assumption | with_reducible exact Ext.refl _ | with_reducible apply Ext.alloc | with_reducible apply Ext.drew | with_reducible apply Ext.drewN)))).mono ?_
        rintro ek wk57 ⟨rfl, hbk57⟩
        have hxk57 := Ext.trans (w := We) (by repeat (first | with_reducible assumption | with_reducible exact Ext.refl _ | with_reducible apply Ext.alloc | with_reducible apply Ext.drew | with_reducible apply Ext.drewN)) hbk57
        refine hKK.out _ _ ?_ (fun hHeld => ?_)
        · exact hS7 _ (hWE _ (by repeat (first | with_reducible assumption | with_reducible exact Ext.refl _ | with_reducible apply Ext.alloc | with_reducible apply Ext.drew | with_reducible apply Ext.drewN)))
        clear hKK KK
        try simp only [Act.put, List.setIfInBounds_toArray, List.set_cons_zero, List.set_cons_succ]
        refine wpAnyH_one (i := 58) (by kernel_rfl) (by simp only [List.getElem?_toArray, List.getElem?_cons_succ, List.getElem?_cons_zero]; rfl) (by kernel_rfl) (fun KK hKK => ?_)
        go_simp
        refine hKK.out _ _ ?_ (fun hHeld => ?_)
        · exact hS7 _ (hWE _ (by repeat (first | with_reducible assumption | with_reducible exact Ext.refl _ | with_reducible apply Ext.alloc | with_reducible apply Ext.drew | with_reducible apply Ext.drewN)))
        clear hKK KK
        try simp only [Act.put, List.setIfInBounds_toArray, List.set_cons_zero, List.set_cons_succ]
        refine' tkH 59 (hy := yldH (by rfl) ?hy) (h := ?_)
        case hy => intro w hSw; (try dsimp only at hSw); go_simp <;> with_reducible rfl
        try simp only [Act.put, List.setIfInBounds_toArray, List.set_cons_zero, List.set_cons_succ]
        refine wpAnyH_done (by kernel_rfl) ?_ _
        have hO5 : OwnI (wk57.alloc (.cells #[.int .i64 V20, .int .i64 V46, .int .i64 V73, .int .i64 V99, .int .i64 V124] 3)) We.heap.size 3 (some ⟨wk57.heap.size, 0, none⟩) 5 5 [V20, V46, V73, V99, V124] := ownI_lit (w := wk57) (e := 3) [V20, V46, V73, V99, V124] rfl rfl (Ext.size (w := We) hxk57) (by unfold maxLen; omega)
        go_wp2
        go_meet
        exact ⟨_, rfl, hO5.ext (by repeat (first | with_reducible assumption | with_reducible exact Ext.refl _ | with_reducible apply Ext.alloc | with_reducible apply Ext.drew | with_reducible apply Ext.drewN)), Ext.trans (w := We) hxk57 (by repeat (first | with_reducible assumption | with_reducible exact Ext.refl _ | with_reducible apply Ext.alloc | with_reducible apply Ext.drew | with_reducible apply Ext.drewN))⟩
      case' rest =>
      obtain ⟨gr, rfl, hOR, hbr⟩ := hcut
      have hE0 : Ext Wc wc := hbl.trans hbr
      have hOL2 := hOL.ext hbr
      have hOR2 := hOR.more hbl.size
      have hapL : Apart (fpI (some ⟨gl, 0, none⟩)) (fpI (some ⟨gr, 0, none⟩)) := fun x hx hx2 => by
        have h8 := hOL.low x hx
        have h9 := hOR.high x hx2
        omega
      generalize wc = w8 at *
      have CC1 := (B1.ext hE0).cells
      have CC2 := (B2.ext hE0).cells
      go_wp2
      clear CC1 CC2 hOL hOR hbl hbr hWE hS hS7
      have b2 : k2 ≤ 9223372036854775807 := by omega
      go_loopw [26, 27, 28, 211] (fun x y l i wr => ∃ (j : Nat) (U V : Option Addr) (c1 c2 : Nat), j ≤ k2 ∧ i = .int .i64 j ∧ x = .slice U (5 + j) c1 ∧ y = .slice V (5 + j) c2 ∧ l = .int .i64 ((H :: cn).getD j 0) ∧ OwnI wr Wc.heap.size 3 U (5 + j) c1 ([V13, V31, V66, V84, V110] ++ cn.take j) ∧ OwnI wr Wc.heap.size 3 V (5 + j) c2 ([V20, V46, V73, V99, V124] ++ (List.range j).map (vmRi p q g H cn rs xs)) ∧ Apart (fpI U) (fpI V) ∧ Ext Wc wr) (fun _ _ _ i _ => k2 - (intOf i).toNat)
      case atStart => exact ⟨0, _, _, 5, 5, Nat.zero_le _, rfl, rfl, rfl, rfl, by simpa using hOL2, by simpa using hOR2, hapL, hE0⟩
      case round =>
        obtain ⟨j, U, V, c1, c2, hj, rfl, rfl, rfl, rfl, hU, hV, hap, E2⟩ := hrel
        by_cases hlt : j < k2
        · clear hOL2 hOR2 hapL hE0
          have hHcn : ∀ y ∈ (H :: cn), 0 ≤ y ∧ y ≤ 3000000000 := fun y hy => by
            rcases List.mem_cons.1 hy with rfl | hy
            · exact hHb
            · exact BCN.out y hy
          have hbjm : (H :: cn).getD j 0 ∈ (H :: cn) := by
            have h9 : j < (H :: cn).length := by have := s2.len; simp only [List.length_cons]; omega
            rw [getD_lt h9]; exact List.getElem_mem _
          have rbj := hHcn _ hbjm
          clear hHcn hbjm
          obtain ⟨bj, hbj⟩ : ∃ v, (H :: cn).getD j 0 = v := ⟨_, rfl⟩
          rw [hbj] at rbj ⊢
          have Hbj := Lib.hid hbj
          clear hbj
          obtain ⟨nj, hnj⟩ : ∃ v, cn.getD (j) 0 = v := ⟨_, rfl⟩
          have xnj : wr.cell? (an.add (j)) = some (.int .i64 nj) := by rw [← hnj, getD_lt (by have := s2.len; omega)]; exact (E.trans E2).cell (HNA.out j _)
          have rnj := BCN.out nj (by rw [← hnj, getD_lt (by have := s2.len; omega)]; exact List.getElem_mem _)
          have Hnj := Lib.hid hnj
          clear hnj
          obtain ⟨rj, hrj⟩ : ∃ v, rs.getD (4 + j) 0 = v := ⟨_, rfl⟩
          have xrj : wr.cell? (ar.add (4 + j)) = some (.int .i64 rj) := by rw [← hrj, getD_lt (by have := s5.len; have := T5.out; have := T2.out; omega)]; exact (E.trans E2).cell (HRA.out (4 + j) _)
          have rrj := BRS.out rj (by rw [← hrj, getD_lt (by have := s5.len; have := T5.out; have := T2.out; omega)]; exact List.getElem_mem _)
          have Hrj := Lib.hid hrj
          clear hrj
          obtain ⟨xj, hxj⟩ : ∃ v, xs.getD (j) 0 = v := ⟨_, rfl⟩
          have xxj : wr.cell? (ax.add (j)) = some (.int .i64 xj) := by rw [← hxj, getD_lt (by rw [HXL.out]; have := HKX.out; have := T2.out; omega)]; exact (by obtain ⟨a9, h9, h8⟩ := (hxr.ext (E.trans E2)).at_ (k := j) (by rw [HXL.out]; have := HKX.out; have := T2.out; omega); injection h9 with h9; subst h9; exact h8)
          have rxj := BX.out xj (by rw [← hxj, getD_lt (by rw [HXL.out]; have := HKX.out; have := T2.out; omega)]; exact List.getElem_mem _)
          have Hxj := Lib.hid hxj
          clear hxj
          have yrj : Wc.cell? (ar.add (4 + j)) = some (.int .i64 rj) := by rw [← Hrj.out, getD_lt (by have := s5.len; have := T5.out; have := T2.out; omega)]; exact E.cell (HRA.out (4 + j) _)
          have yxj : Wc.cell? (ax.add j) = some (.int .i64 xj) := by
            obtain ⟨a9, h9, h8⟩ := (hxr.ext E).at_ (k := j) (by rw [HXL.out]; have := HKX.out; have := T2.out; omega)
            injection h9 with h9
            subst h9
            rw [← Hxj.out, getD_lt (by rw [HXL.out]; have := HKX.out; have := T2.out; omega)]
            exact h8
          obtain ⟨V230, h230⟩ : ∃ v, gpw p q g rj = v := ⟨_, rfl⟩
          have r230 : 0 ≤ V230 ∧ V230 ≤ 2000000000 := by rw [← h230]; exact gpw_rg p q g rj hB
          obtain ⟨V237, h237⟩ : ∃ v, gpw p q bj xj = v := ⟨_, rfl⟩
          have r237 : 0 ≤ V237 ∧ V237 ≤ 2000000000 := by rw [← h237]; exact gpw_rg p q bj xj hB
          obtain ⟨V239, h239⟩ : ∃ v, gmul p [V230, V237] = v := ⟨_, rfl⟩
          have HT1 : Hid ([V13, V31, V66, V84, V110] ++ cn.take (j + 1) = ([V13, V31, V66, V84, V110] ++ cn.take j) ++ [nj]) := by
            show _ = _
            have h9 : j < cn.length := by have := s2.len; omega
            rw [List.take_succ_eq_append_getElem h9, ← getD_lt h9, Hnj.out, List.append_assoc]
          have HT2 : Hid ([V20, V46, V73, V99, V124] ++ (List.range (j + 1)).map (vmRi p q g H cn rs xs) = ([V20, V46, V73, V99, V124] ++ (List.range j).map (vmRi p q g H cn rs xs)) ++ [V239]) := by
            show _ = _
            rw [List.range_succ, List.map_append, List.append_assoc, List.map_cons, List.map_nil, show vmRi p q g H cn rs xs j = V239 from by unfold vmRi; rw [Hrj.out, Hbj.out, Hxj.out, h230, h237, h239]]
          have K230 := Lib.hid h230
          have K237 := Lib.hid h237
          have K239 := Lib.hid h239
          clear h230 h237 h239
          have hSc : ∀ V, Ext Wc V → V.cell? ⟨w.heap.size, 0, none⟩ = some (.int .i64 p) ∧ V.cell? ⟨w.heap.size, 1, none⟩ = some (.int .i64 q) ∧ V.cell? ⟨w.heap.size, 2, none⟩ = some (.int .i64 g) ∧ V.cell? (ar.add (4 + j)) = some (.int .i64 rj) ∧ V.cell? (ax.add j) = some (.int .i64 xj) := fun V hV => by
            have a0 := (B0.ext hV).cells
            exact ⟨a0 0, a0 1, a0 2, hV.cell yrj, hV.cell yxj⟩
          have b10 : (j : Int) < (k2 : Int) := by omega
          have b11 : (4 : Int) + (j : Int) < (k5 : Int) := by have := T5.out; have := T2.out; omega
          have b12 : (0 : Int) ≤ 4 + (j : Int) := by omega
          have b13 : (j : Int) < (kx : Int) := by have := HKX.out; have := T2.out; omega
          have w4j : IntKind.i64.wrap (4 + (j : Int)) = 4 + (j : Int) := IntWalk.i64_in _ (by omega)
          have t4j : (4 + (j : Int)).toNat = 4 + j := by omega
          have hsz := E2.size
          go_wp2_with (at_builtin; refine wpList_app1F intSl rfl _ _ rfl hU rfl rfl rfl (by omega) hsz ?_; intro U2 d1 w2 hU2 hon hli)
          have hV2 := hV.only hon hap.symm
          have hap2 : Apart (fpI U2) (fpI V) := hap.app hV.low hli
          have E4 := E2.only hon hU.high
          clear hU hV hap E2 hon hli hsz xnj xrj xxj
          go_upto_region 23 with (fail)
          generalize hWd : w2 = Wd at *
          clear hWd
          as_aux_lemma =>
            refine wp_region_held_drew (S := fun V => V.cell? ⟨w.heap.size, 0, none⟩ = some (.int .i64 p) ∧ V.cell? ⟨w.heap.size, 1, none⟩ = some (.int .i64 q) ∧ V.cell? ⟨w.heap.size, 2, none⟩ = some (.int .i64 g) ∧ V.cell? (ar.add (4 + j)) = some (.int .i64 rj) ∧ V.cell? (ax.add j) = some (.int .i64 xj)) (by kernel_rfl) ?_ (fun hHeld => ?_)
            · exact hSc _ (by repeat (first | with_reducible assumption | with_reducible exact Ext.refl _ | with_reducible apply Ext.alloc | with_reducible apply Ext.drew | with_reducible apply Ext.drewN))
            refine' tkH 0 (hy := yldH (by rfl) ?hy) (h := ?_)
            case hy => intro w hSw; (try dsimp only at hSw); go_simp <;> with_reducible rfl
            try simp only [Act.put, List.setIfInBounds_toArray, List.set_cons_zero, List.set_cons_succ]
            refine' tkH 1 (hy := yldH (by rfl) ?hy) (h := ?_)
            case hy => intro w hSw; (try dsimp only at hSw); go_simp <;> with_reducible rfl
            try simp only [Act.put, List.setIfInBounds_toArray, List.set_cons_zero, List.set_cons_succ]
            refine' tkH 2 (hy := yldH (by rfl) ?hy) (h := ?_)
            case hy => intro w hSw; (try dsimp only at hSw); go_simp <;> with_reducible rfl
            try simp only [Act.put, List.setIfInBounds_toArray, List.set_cons_zero, List.set_cons_succ]
            refine' tkH 3 (hy := yldH (by rfl) ?hy) (h := ?_)
            case hy => intro w hSw; (try dsimp only at hSw); go_simp <;> with_reducible rfl
            try simp only [Act.put, List.setIfInBounds_toArray, List.set_cons_zero, List.set_cons_succ]
            refine' tkH 4 (hy := yldH (by rfl) ?hy) (h := ?_)
            case hy => intro w hSw; (try dsimp only at hSw); go_simp <;> with_reducible rfl
            try simp only [Act.put, List.setIfInBounds_toArray, List.set_cons_zero, List.set_cons_succ]
            refine' tkH 5 (hy := yldH (by rfl) ?hy) (h := ?_)
            case hy => intro w hSw; (try dsimp only at hSw); go_simp <;> with_reducible rfl
            try simp only [Act.put, List.setIfInBounds_toArray, List.set_cons_zero, List.set_cons_succ]
            refine' tkH 6 (hy := yldH (by rfl) ?hy) (h := ?_)
            case hy => intro w hSw; (try dsimp only at hSw); go_simp <;> with_reducible rfl
            try simp only [Act.put, List.setIfInBounds_toArray, List.set_cons_zero, List.set_cons_succ]
            refine' tkH 7 (hy := yldH (by rfl) ?hy) (h := ?_)
            case hy => intro w hSw; (try dsimp only at hSw); go_simp <;> with_reducible rfl
            try simp only [Act.put, List.setIfInBounds_toArray, List.set_cons_zero, List.set_cons_succ]
            refine' tkH 8 (hy := yldH (by rfl) ?hy) (h := ?_)
            case hy => intro w hSw; (try dsimp only at hSw); go_simp <;> with_reducible rfl
            try simp only [Act.put, List.setIfInBounds_toArray, List.set_cons_zero, List.set_cons_succ]
            refine' tkH 9 (hy := yldH (by rfl) ?hy) (h := ?_)
            case hy => intro w hSw; (try dsimp only at hSw); go_simp <;> with_reducible rfl
            try simp only [Act.put, List.setIfInBounds_toArray, List.set_cons_zero, List.set_cons_succ]
            refine' tkH 11 (hy := yldH (by rfl) ?hy) (h := ?_)
            case hy => intro w hSw; (try dsimp only at hSw); go_simp <;> with_reducible rfl
            try simp only [Act.put, List.setIfInBounds_toArray, List.set_cons_zero, List.set_cons_succ]
            refine' tkH 12 (hy := yldH (by rfl) ?hy) (h := ?_)
            case hy => intro w hSw; (try dsimp only at hSw); go_simp <;> with_reducible rfl
            try simp only [Act.put, List.setIfInBounds_toArray, List.set_cons_zero, List.set_cons_succ]
            refine' tkH 13 (hy := yldH (by rfl) ?hy) (h := ?_)
            case hy => intro w hSw; (try dsimp only at hSw); go_simp <;> with_reducible rfl
            try simp only [Act.put, List.setIfInBounds_toArray, List.set_cons_zero, List.set_cons_succ]
            refine' tkH 14 (hy := yldH (by rfl) ?hy) (h := ?_)
            case hy => intro w hSw; (try dsimp only at hSw); go_simp <;> with_reducible rfl
            try simp only [Act.put, List.setIfInBounds_toArray, List.set_cons_zero, List.set_cons_succ]
            refine' tkH 15 (hy := yldH (by rfl) ?hy) (h := ?_)
            case hy => intro w hSw; (try dsimp only at hSw); go_simp <;> with_reducible rfl
            try simp only [Act.put, List.setIfInBounds_toArray, List.set_cons_zero, List.set_cons_succ]
            refine' tkH 16 (hy := yldH (by rfl) ?hy) (h := ?_)
            case hy => intro w hSw; (try dsimp only at hSw); go_simp <;> with_reducible rfl
            try simp only [Act.put, List.setIfInBounds_toArray, List.set_cons_zero, List.set_cons_succ]
            refine wpAnyH_one (i := 10) (by kernel_rfl) (by simp only [List.getElem?_toArray, List.getElem?_cons_succ, List.getElem?_cons_zero]; rfl) (by kernel_rfl) (fun KK hKK => ?_)
            go_simp
            go_at_call 39
            refine (gExp_any p q g g rj _ hB (by omega) (by omega) (by omega) (by omega)).mono ?_
            rintro ek wk10 ⟨hek, hbk10⟩
            rw [K230.out] at hek; subst hek
            have hxk10 := Ext.trans (w := Wc) (by repeat (first | with_reducible assumption | with_reducible exact Ext.refl _ | with_reducible apply Ext.alloc | with_reducible apply Ext.drew | with_reducible apply Ext.drewN)) hbk10
            have hyk10 := Ext.trans (w := Wd) (by repeat (first | with_reducible assumption | with_reducible exact Ext.refl _ | with_reducible apply Ext.alloc | with_reducible apply Ext.drew | with_reducible apply Ext.drewN)) hbk10
            refine hKK.out _ _ ?_ (fun hHeld => ?_)
            · exact hSc _ (by repeat (first | with_reducible assumption | with_reducible exact Ext.refl _ | with_reducible apply Ext.alloc | with_reducible apply Ext.drew | with_reducible apply Ext.drewN))
            clear hKK KK
            try simp only [Act.put, List.setIfInBounds_toArray, List.set_cons_zero, List.set_cons_succ]
            refine wpAnyH_one (i := 17) (by kernel_rfl) (by simp only [List.getElem?_toArray, List.getElem?_cons_succ, List.getElem?_cons_zero]; rfl) (by kernel_rfl) (fun KK hKK => ?_)
            go_simp
            go_at_call 39
            refine (gExp_any p q g bj xj _ hB (by omega) (by omega) (by omega) (by omega)).mono ?_
            rintro ek wk17 ⟨hek, hbk17⟩
            rw [K237.out] at hek; subst hek
            have hxk17 := Ext.trans (w := Wc) (by repeat (first | with_reducible assumption | with_reducible exact Ext.refl _ | with_reducible apply Ext.alloc | with_reducible apply Ext.drew | with_reducible apply Ext.drewN)) hbk17
            have hyk17 := Ext.trans (w := Wd) (by repeat (first | with_reducible assumption | with_reducible exact Ext.refl _ | with_reducible apply Ext.alloc | with_reducible apply Ext.drew | with_reducible apply Ext.drewN)) hbk17
            refine hKK.out _ _ ?_ (fun hHeld => ?_)
            · exact hSc _ (by repeat (first | with_reducible assumption | with_reducible exact Ext.refl _ | with_reducible apply Ext.alloc | with_reducible apply Ext.drew | with_reducible apply Ext.drewN))
            clear hKK KK
            try simp only [Act.put, List.setIfInBounds_toArray, List.set_cons_zero, List.set_cons_succ]
            refine wpAnyH_one (i := 18) (by kernel_rfl) (by simp only [List.getElem?_toArray, List.getElem?_cons_succ, List.getElem?_cons_zero]; rfl) (by kernel_rfl) (fun KK hKK => ?_)
            go_simp
            refine hKK.out _ _ ?_ (fun hHeld => ?_)
            · exact hSc _ (by repeat (first | with_reducible assumption | with_reducible exact Ext.refl _ | with_reducible apply Ext.alloc | with_reducible apply Ext.drew | with_reducible apply Ext.drewN))
            clear hKK KK
            try simp only [Act.put, List.setIfInBounds_toArray, List.set_cons_zero, List.set_cons_succ]
            refine wpAnyH_one (i := 19) (by kernel_rfl) (by simp only [List.getElem?_toArray, List.getElem?_cons_succ, List.getElem?_cons_zero]; rfl) (by kernel_rfl) (fun KK hKK => ?_)
            go_simp
            go_at_call 38
            refine (gMul_any p q g _ 2 2 [V230, V237] _ hB (rd_twoV (w := wk17) rfl (by repeat (first | with_reducible assumption | with_reducible exact Ext.refl _ | with_reducible apply Ext.alloc | with_reducible apply Ext.drew | with_reducible apply Ext.drewN))) rfl (by decide) (two_rg (by omega) (by omega))).mono ?_
            rintro ek wk19 ⟨hek, hbk19⟩
            rw [K239.out] at hek; subst hek
            have hxk19 := Ext.trans (w := Wc) (by repeat (first | with_reducible assumption | with_reducible exact Ext.refl _ | with_reducible apply Ext.alloc | with_reducible apply Ext.drew | with_reducible apply Ext.drewN)) hbk19
            have hyk19 := Ext.trans (w := Wd) (by repeat (first | with_reducible assumption | with_reducible exact Ext.refl _ | with_reducible apply Ext.alloc | with_reducible apply Ext.drew | with_reducible apply Ext.drewN)) hbk19
            refine hKK.out _ _ ?_ (fun hHeld => ?_)
            · exact hSc _ (by repeat (first | with_reducible assumption | with_reducible exact Ext.refl _ | with_reducible apply Ext.alloc | with_reducible apply Ext.drew | with_reducible apply Ext.drewN))
            clear hKK KK
            try simp only [Act.put, List.setIfInBounds_toArray, List.set_cons_zero, List.set_cons_succ]
            refine wpAnyH_one (i := 20) (by kernel_rfl) (by simp only [List.getElem?_toArray, List.getElem?_cons_succ, List.getElem?_cons_zero]; rfl) (by kernel_rfl) (fun KK hKK => ?_)
            go_simp
            refine hKK.out _ _ ?_ (fun hHeld => ?_)
            · exact hSc _ (by repeat (first | with_reducible assumption | with_reducible exact Ext.refl _ | with_reducible apply Ext.alloc | with_reducible apply Ext.drew | with_reducible apply Ext.drewN))
            clear hKK KK
            try simp only [Act.put, List.setIfInBounds_toArray, List.set_cons_zero, List.set_cons_succ]
            refine wpAnyH_ready (rs := [21]) (by kernel_rfl) (by simp) (AllReadyH.cons rfl (fun KK hKK => ?_) AllReadyH.nil)
            refine step_app1L intSl (by rfl) _ _ (by rfl) (hV2.ext (by repeat (first | with_reducible assumption | with_reducible exact Ext.refl _ | with_reducible apply Ext.alloc | with_reducible apply Ext.drew | with_reducible apply Ext.drewN))) (by rfl) _ (by rfl) (cell_new (w := wk19) (by first | rfl | (simp; done)) (by repeat (first | with_reducible assumption | with_reducible exact Ext.refl _ | with_reducible apply Ext.alloc | with_reducible apply Ext.drew | with_reducible apply Ext.drewN))) (by omega) (Ext.size (w := Wc) (by repeat (first | with_reducible assumption | with_reducible exact Ext.refl _ | with_reducible apply Ext.alloc | with_reducible apply Ext.drew | with_reducible apply Ext.drewN))) ?_
            intro V3 d2 w3 hV3 hon2 hli2
            have E5 := Ext.only (w := Wc) (by repeat (first | with_reducible assumption | with_reducible exact Ext.refl _ | with_reducible apply Ext.alloc | with_reducible apply Ext.drew | with_reducible apply Ext.drewN)) hon2 hV2.high
            have hU3 := OwnI.only (hU2.ext (by repeat (first | with_reducible assumption | with_reducible exact Ext.refl _ | with_reducible apply Ext.alloc | with_reducible apply Ext.drew | with_reducible apply Ext.drewN))) hon2 hap2
            have hap3 : Apart (fpI U2) (fpI V3) := (hap2.symm.app (hU2.ext (by repeat (first | with_reducible assumption | with_reducible exact Ext.refl _ | with_reducible apply Ext.alloc | with_reducible apply Ext.drew | with_reducible apply Ext.drewN))).low hli2).symm
            refine hKK.out _ _ ?_ (fun hHeld => ?_)
            · exact hSc _ (by repeat (first | with_reducible assumption | with_reducible exact Ext.refl _ | with_reducible apply Ext.alloc | with_reducible apply Ext.drew | with_reducible apply Ext.drewN))
            clear hKK KK
            try simp only [List.getElem_toArray, List.getElem_cons_succ, List.getElem_cons_zero]
            try simp only [Act.put, List.setIfInBounds_toArray, List.set_cons_zero, List.set_cons_succ]
            refine' tkH 22 (hy := yldH (by rfl) ?hy) (h := ?_)
            case hy => intro w hSw; (try dsimp only at hSw); go_simp <;> with_reducible rfl
            try simp only [Act.put, List.setIfInBounds_toArray, List.set_cons_zero, List.set_cons_succ]
            refine wpAnyH_done (by kernel_rfl) ?_ _
            have hU4 : OwnI w3 Wc.heap.size 3 U2 (5 + (j + 1)) d1 ([V13, V31, V66, V84, V110] ++ cn.take (j + 1)) := by rw [HT1.out]; exact hU3
            have hV4 : OwnI w3 Wc.heap.size 3 V3 (5 + (j + 1)) d2 ([V20, V46, V73, V99, V124] ++ (List.range (j + 1)).map (vmRi p q g H cn rs xs)) := by rw [HT2.out]; exact hV3
            go_wp2
            go_roundw
            case rel => exact ⟨j + 1, U2, V3, d1, d2, by omega, by go_num, rfl, rfl, by rw [show (H :: cn).getD (j + 1) 0 = cn.getD j 0 from rfl, Hnj.out], hU4, hV4, hap3, E5⟩
            case measure => first | (simp [intOf]; done) | (simp [intOf]; omega)
        · obtain rfl : k2 = j := by omega
          have hcl : cn.take k2 = cn := List.take_of_length_le (by rw [s2.len]; exact Nat.le_refl _)
          rw [hcl] at hU
          clear hcl hlt hOL2 hOR2 hapL hE0
          obtain ⟨Lx, hLx⟩ : ∃ v, [V13, V31, V66, V84, V110] ++ cn = v := ⟨_, rfl⟩
          obtain ⟨Rx, hRx⟩ : ∃ v, [V20, V46, V73, V99, V124] ++ (List.range k2).map (vmRi p q g H cn rs xs) = v := ⟨_, rfl⟩
          rw [hLx] at hU
          rw [hRx] at hV
          have HV : Hid (vmW p q g key H hs a b co cn cm ch rs = (List.range (5 + k2)).all (vmQ p q z cm Lx Rx)) := by
            show _ = _
            have hRx' := hRx
            rw [T2.out] at hRx'
            have K31' := K31.out
            rw [T1.out] at K31'
            have K97' := K97.out
            rw [HMN.out] at K97'
            have K122' := K122.out
            rw [HMN.out] at K122'
            rw [show 5 + k2 = 5 + n by rw [T2.out], HW.out, HX0.out, HZ.out, decide_eq_true HMN.out, HF.out, HQ.out]
            unfold vmL vmR
            rw [HA.out, HXS.out, HAV.out, Hr0.out, Hr1.out, Hr2.out, Hr3.out, Hlv.out, K8.out, K12.out, K10.out, K13.out, K20.out, K31', K39.out, K44.out, K46.out, K65.out, K66.out, K73.out, K84.out, K93.out, K97', K99.out, K110.out, K118.out, K122', K124.out, hLx, hRx']
            simp only [Bool.true_and]
          have BLX : Hid (∀ y ∈ Lx, 0 ≤ y ∧ y ≤ 3000000000) := fun y hy => by
            rw [← hLx] at hy
            rcases List.mem_append.1 hy with hy | hy
            · simp only [List.mem_cons, List.not_mem_nil, or_false] at hy
              rcases hy with rfl | rfl | rfl | rfl | rfl <;> omega
            · exact BCN.out y hy
          have HUL := Lib.hid hU.len
          have HVL := Lib.hid hV.len
          have hUr := hU.rd
          have hVr := hV.rd
          have H35 : Hid (5 + k2 = k3) := by have := T3.out; have := T2.out; show _ = _; omega
          clear hLx hRx hU hV hap hj
          generalize hN5 : 5 + k2 = N5 at *
          have HN5 := Lib.hid hN5
          have b5 : N5 ≤ 100 := by omega
          clear hN5
          generalize wr = w10 at *
          go_wp2
          go_loopw [246] (fun i wr => ∃ j : Nat, j ≤ N5 ∧ i = .int .i64 j ∧ Hid (∀ t, t < j → vmQ p q z cm Lx Rx t = true) ∧ Ext w10 wr) (fun i _ => N5 - (intOf i).toNat)
          case atStart => exact ⟨0, Nat.zero_le _, rfl, fun t ht => absurd ht (by omega), Ext.refl _⟩
          case round =>
            obtain ⟨j, hj, rfl, hP, E3⟩ := hrel
            by_cases hlt : j < N5
            · have hjL : j < Lx.length := by rw [HUL.out]; exact hlt
              have hjR : j < Rx.length := by rw [HVL.out]; exact hlt
              have hjC : j < cm.length := by rw [s3.len, ← H35.out]; exact hlt
              obtain ⟨ub, hUA, hyc⟩ := (hUr.ext E3).at_ hjL
              obtain ⟨vb, hVA, hdc⟩ := (hVr.ext E3).at_ hjR
              subst hUA hVA
              have ryj := BLX.out _ (List.getElem_mem hjL)
              have hcc := ((E.trans E2).trans E3).cell (HCA.out j hjC)
              have rcj := BCM.out _ (List.getElem_mem hjC)
              have hvq : vmQ p q z cm Lx Rx j = (gmul p [cm[j], gpw p q Lx[j] z] == Rx[j]) := by unfold vmQ; rw [getD_lt hjC, getD_lt hjL, getD_lt hjR]
              have HVQ := Lib.hid hvq
              clear hvq
              generalize Lx[j] = yj at *
              generalize Rx[j] = dj at *
              generalize cm[j] = cj at *
              clear hjL hjR hjC
              obtain ⟨V259, h259⟩ : ∃ v, gpw p q yj z = v := ⟨_, rfl⟩
              have r259 : 0 ≤ V259 ∧ V259 ≤ 2000000000 := by rw [← h259]; exact gpw_rg p q yj z hB
              obtain ⟨V261, h261⟩ : ∃ v, gmul p [cj, V259] = v := ⟨_, rfl⟩
              have HVQ2 : Hid (vmQ p q z cm Lx Rx j = (V261 == dj)) := by show _ = _; rw [HVQ.out, h259, h261]
              have K259 := Lib.hid h259
              have K261 := Lib.hid h261
              clear h259 h261
              have b30 : (j : Int) < (k3 : Int) := by have := H35.out; omega
              have b31 : (j : Int) < (N5 : Int) := by omega
              have B9 := B0.ext (E2.trans E3)
              have hS9 : ∀ V, Ext wr V → V.cell? ⟨w.heap.size, 0, none⟩ = some (.int .i64 p) ∧ V.cell? ⟨w.heap.size, 1, none⟩ = some (.int .i64 q) ∧ V.cell? ⟨w.heap.size, 2, none⟩ = some (.int .i64 g) ∧ V.cell? (ac.add j) = some (.int .i64 cj) ∧ V.cell? (vb.add j) = some (.int .i64 dj) := fun V hV => by
                have a0 := (B9.ext hV).cells
                exact ⟨a0 0, a0 1, a0 2, hV.cell hcc, hV.cell hdc⟩
              cases hq : (V261 == dj)
              case false =>
                have dq : (V261 != dj) = true := by unfold bne; rw [hq]; rfl
                have HVF : Hid (vmW p q g key H hs a b co cn cm ch rs = false) := by
                  show _ = _
                  rw [HV.out, Bool.eq_false_iff]
                  intro h9
                  have h8 := List.all_eq_true.1 h9 j (by rw [List.mem_range]; exact hlt)
                  rw [HVQ2.out, hq] at h8
                  cases h8
                clear hq hP
                go_upto_region 29 with (fail)
                as_aux_lemma =>
                  refine wp_region_held_drew (S := fun V => V.cell? ⟨w.heap.size, 0, none⟩ = some (.int .i64 p) ∧ V.cell? ⟨w.heap.size, 1, none⟩ = some (.int .i64 q) ∧ V.cell? ⟨w.heap.size, 2, none⟩ = some (.int .i64 g) ∧ V.cell? (ac.add j) = some (.int .i64 cj) ∧ V.cell? (vb.add j) = some (.int .i64 dj)) (by kernel_rfl) ?_ (fun hHeld => ?_)
                  · exact hS9 _ (by repeat (first | with_reducible assumption | with_reducible exact Ext.refl _ | with_reducible apply Ext.alloc | with_reducible apply Ext.drew | with_reducible apply Ext.drewN))
                  refine' tkH 0 (hy := yldH (by rfl) ?hy) (h := ?_)
                  case hy => intro w hSw; (try dsimp only at hSw); go_simp <;> with_reducible rfl
                  try simp only [Act.put, List.setIfInBounds_toArray, List.set_cons_zero, List.set_cons_succ]
                  refine' tkH 1 (hy := yldH (by rfl) ?hy) (h := ?_)
                  case hy => intro w hSw; (try dsimp only at hSw); go_simp <;> with_reducible rfl
                  try simp only [Act.put, List.setIfInBounds_toArray, List.set_cons_zero, List.set_cons_succ]
                  refine' tkH 2 (hy := yldH (by rfl) ?hy) (h := ?_)
                  case hy => intro w hSw; (try dsimp only at hSw); go_simp <;> with_reducible rfl
                  try simp only [Act.put, List.setIfInBounds_toArray, List.set_cons_zero, List.set_cons_succ]
                  refine' tkH 3 (hy := yldH (by rfl) ?hy) (h := ?_)
                  case hy => intro w hSw; (try dsimp only at hSw); go_simp <;> with_reducible rfl
                  try simp only [Act.put, List.setIfInBounds_toArray, List.set_cons_zero, List.set_cons_succ]
                  refine' tkH 4 (hy := yldH (by rfl) ?hy) (h := ?_)
                  case hy => intro w hSw; (try dsimp only at hSw); go_simp <;> with_reducible rfl
                  try simp only [Act.put, List.setIfInBounds_toArray, List.set_cons_zero, List.set_cons_succ]
                  refine' tkH 5 (hy := yldH (by rfl) ?hy) (h := ?_)
                  case hy => intro w hSw; (try dsimp only at hSw); go_simp <;> with_reducible rfl
                  try simp only [Act.put, List.setIfInBounds_toArray, List.set_cons_zero, List.set_cons_succ]
                  refine' tkH 6 (hy := yldH (by rfl) ?hy) (h := ?_)
                  case hy => intro w hSw; (try dsimp only at hSw); go_simp <;> with_reducible rfl
                  try simp only [Act.put, List.setIfInBounds_toArray, List.set_cons_zero, List.set_cons_succ]
                  refine' tkH 7 (hy := yldH (by rfl) ?hy) (h := ?_)
                  case hy => intro w hSw; (try dsimp only at hSw); go_simp <;> with_reducible rfl
                  try simp only [Act.put, List.setIfInBounds_toArray, List.set_cons_zero, List.set_cons_succ]
                  refine' tkH 11 (hy := yldH (by rfl) ?hy) (h := ?_)
                  case hy => intro w hSw; (try dsimp only at hSw); go_simp <;> with_reducible rfl
                  try simp only [Act.put, List.setIfInBounds_toArray, List.set_cons_zero, List.set_cons_succ]
                  refine' tkH 12 (hy := yldH (by rfl) ?hy) (h := ?_)
                  case hy => intro w hSw; (try dsimp only at hSw); go_simp <;> with_reducible rfl
                  try simp only [Act.put, List.setIfInBounds_toArray, List.set_cons_zero, List.set_cons_succ]
                  refine' tkH 13 (hy := yldH (by rfl) ?hy) (h := ?_)
                  case hy => intro w hSw; (try dsimp only at hSw); go_simp <;> with_reducible rfl
                  try simp only [Act.put, List.setIfInBounds_toArray, List.set_cons_zero, List.set_cons_succ]
                  refine' tkH 14 (hy := yldH (by rfl) ?hy) (h := ?_)
                  case hy => intro w hSw; (try dsimp only at hSw); go_simp <;> with_reducible rfl
                  try simp only [Act.put, List.setIfInBounds_toArray, List.set_cons_zero, List.set_cons_succ]
                  refine wpAnyH_one (i := 8) (by kernel_rfl) (by simp only [List.getElem?_toArray, List.getElem?_cons_succ, List.getElem?_cons_zero]; rfl) (by kernel_rfl) (fun KK hKK => ?_)
                  go_simp
                  go_at_call 39
                  refine (gExp_any p q g yj z _ hB (by omega) (by omega) (by omega) (by omega)).mono ?_
                  rintro ek wk8 ⟨hek, hbk8⟩
                  rw [K259.out] at hek; subst hek
                  have hxk8 := Ext.trans (w := wr) (by repeat (first | with_reducible assumption | with_reducible exact Ext.refl _ | with_reducible apply Ext.alloc | with_reducible apply Ext.drew | with_reducible apply Ext.drewN)) hbk8
                  refine hKK.out _ _ ?_ (fun hHeld => ?_)
                  · exact hS9 _ (by repeat (first | with_reducible assumption | with_reducible exact Ext.refl _ | with_reducible apply Ext.alloc | with_reducible apply Ext.drew | with_reducible apply Ext.drewN))
                  clear hKK KK
                  try simp only [Act.put, List.setIfInBounds_toArray, List.set_cons_zero, List.set_cons_succ]
                  refine wpAnyH_one (i := 9) (by kernel_rfl) (by simp only [List.getElem?_toArray, List.getElem?_cons_succ, List.getElem?_cons_zero]; rfl) (by kernel_rfl) (fun KK hKK => ?_)
                  go_simp
                  refine hKK.out _ _ ?_ (fun hHeld => ?_)
                  · exact hS9 _ (by repeat (first | with_reducible assumption | with_reducible exact Ext.refl _ | with_reducible apply Ext.alloc | with_reducible apply Ext.drew | with_reducible apply Ext.drewN))
                  clear hKK KK
                  try simp only [Act.put, List.setIfInBounds_toArray, List.set_cons_zero, List.set_cons_succ]
                  refine wpAnyH_one (i := 10) (by kernel_rfl) (by simp only [List.getElem?_toArray, List.getElem?_cons_succ, List.getElem?_cons_zero]; rfl) (by kernel_rfl) (fun KK hKK => ?_)
                  go_simp
                  go_at_call 38
                  refine (gMul_any p q g _ 2 2 [cj, V259] _ hB (rd_twoV (w := wk8) rfl (by repeat (first | with_reducible assumption | with_reducible exact Ext.refl _ | with_reducible apply Ext.alloc | with_reducible apply Ext.drew | with_reducible apply Ext.drewN))) rfl (by decide) (two_rg (by omega) (by omega))).mono ?_
                  rintro ek wk10 ⟨hek, hbk10⟩
                  rw [K261.out] at hek; subst hek
                  have hxk10 := Ext.trans (w := wr) (Ext.trans hxk8 (by repeat (first | with_reducible assumption | with_reducible exact Ext.refl _ | with_reducible apply Ext.alloc | with_reducible apply Ext.drew | with_reducible apply Ext.drewN))) hbk10
                  refine hKK.out _ _ ?_ (fun hHeld => ?_)
                  · exact hS9 _ (by repeat (first | with_reducible assumption | with_reducible exact Ext.refl _ | with_reducible apply Ext.alloc | with_reducible apply Ext.drew | with_reducible apply Ext.drewN))
                  clear hKK KK
                  try simp only [Act.put, List.setIfInBounds_toArray, List.set_cons_zero, List.set_cons_succ]
                  refine' tkH 15 (hy := yldH (by rfl) ?hy) (h := ?_)
                  case hy => intro w hSw; (try dsimp only at hSw); go_simp <;> with_reducible rfl
                  try simp only [Act.put, List.setIfInBounds_toArray, List.set_cons_zero, List.set_cons_succ]
                  refine wpAnyH_done (by kernel_rfl) ?_ _
                  go_wp2
                  go_ret
                  exact ⟨by rw [HVF.out]; rfl, (E.trans E2).trans (E3.trans hxk10)⟩
              have dq : (V261 != dj) = false := by unfold bne; rw [hq]; rfl
              have HPN : Hid (∀ t, t < j + 1 → vmQ p q z cm Lx Rx t = true) := fun t ht => by
                by_cases e : t = j
                · subst e; rw [HVQ2.out, hq]
                · exact hP.out t (by omega)
              clear hq hP
              go_upto_region 29 with (fail)
              as_aux_lemma =>
                refine wp_region_held_drew (S := fun V => V.cell? ⟨w.heap.size, 0, none⟩ = some (.int .i64 p) ∧ V.cell? ⟨w.heap.size, 1, none⟩ = some (.int .i64 q) ∧ V.cell? ⟨w.heap.size, 2, none⟩ = some (.int .i64 g) ∧ V.cell? (ac.add j) = some (.int .i64 cj) ∧ V.cell? (vb.add j) = some (.int .i64 dj)) (by kernel_rfl) ?_ (fun hHeld => ?_)
                · exact hS9 _ (by repeat (first | with_reducible assumption | with_reducible exact Ext.refl _ | with_reducible apply Ext.alloc | with_reducible apply Ext.drew | with_reducible apply Ext.drewN))
                refine' tkH 0 (hy := yldH (by rfl) ?hy) (h := ?_)
                case hy => intro w hSw; (try dsimp only at hSw); go_simp <;> with_reducible rfl
                try simp only [Act.put, List.setIfInBounds_toArray, List.set_cons_zero, List.set_cons_succ]
                refine' tkH 1 (hy := yldH (by rfl) ?hy) (h := ?_)
                case hy => intro w hSw; (try dsimp only at hSw); go_simp <;> with_reducible rfl
                try simp only [Act.put, List.setIfInBounds_toArray, List.set_cons_zero, List.set_cons_succ]
                refine' tkH 2 (hy := yldH (by rfl) ?hy) (h := ?_)
                case hy => intro w hSw; (try dsimp only at hSw); go_simp <;> with_reducible rfl
                try simp only [Act.put, List.setIfInBounds_toArray, List.set_cons_zero, List.set_cons_succ]
                refine' tkH 3 (hy := yldH (by rfl) ?hy) (h := ?_)
                case hy => intro w hSw; (try dsimp only at hSw); go_simp <;> with_reducible rfl
                try simp only [Act.put, List.setIfInBounds_toArray, List.set_cons_zero, List.set_cons_succ]
                refine' tkH 4 (hy := yldH (by rfl) ?hy) (h := ?_)
                case hy => intro w hSw; (try dsimp only at hSw); go_simp <;> with_reducible rfl
                try simp only [Act.put, List.setIfInBounds_toArray, List.set_cons_zero, List.set_cons_succ]
                refine' tkH 5 (hy := yldH (by rfl) ?hy) (h := ?_)
                case hy => intro w hSw; (try dsimp only at hSw); go_simp <;> with_reducible rfl
                try simp only [Act.put, List.setIfInBounds_toArray, List.set_cons_zero, List.set_cons_succ]
                refine' tkH 6 (hy := yldH (by rfl) ?hy) (h := ?_)
                case hy => intro w hSw; (try dsimp only at hSw); go_simp <;> with_reducible rfl
                try simp only [Act.put, List.setIfInBounds_toArray, List.set_cons_zero, List.set_cons_succ]
                refine' tkH 7 (hy := yldH (by rfl) ?hy) (h := ?_)
                case hy => intro w hSw; (try dsimp only at hSw); go_simp <;> with_reducible rfl
                try simp only [Act.put, List.setIfInBounds_toArray, List.set_cons_zero, List.set_cons_succ]
                refine' tkH 11 (hy := yldH (by rfl) ?hy) (h := ?_)
                case hy => intro w hSw; (try dsimp only at hSw); go_simp <;> with_reducible rfl
                try simp only [Act.put, List.setIfInBounds_toArray, List.set_cons_zero, List.set_cons_succ]
                refine' tkH 12 (hy := yldH (by rfl) ?hy) (h := ?_)
                case hy => intro w hSw; (try dsimp only at hSw); go_simp <;> with_reducible rfl
                try simp only [Act.put, List.setIfInBounds_toArray, List.set_cons_zero, List.set_cons_succ]
                refine' tkH 13 (hy := yldH (by rfl) ?hy) (h := ?_)
                case hy => intro w hSw; (try dsimp only at hSw); go_simp <;> with_reducible rfl
                try simp only [Act.put, List.setIfInBounds_toArray, List.set_cons_zero, List.set_cons_succ]
                refine' tkH 14 (hy := yldH (by rfl) ?hy) (h := ?_)
                case hy => intro w hSw; (try dsimp only at hSw); go_simp <;> with_reducible rfl
                try simp only [Act.put, List.setIfInBounds_toArray, List.set_cons_zero, List.set_cons_succ]
                refine wpAnyH_one (i := 8) (by kernel_rfl) (by simp only [List.getElem?_toArray, List.getElem?_cons_succ, List.getElem?_cons_zero]; rfl) (by kernel_rfl) (fun KK hKK => ?_)
                go_simp
                go_at_call 39
                refine (gExp_any p q g yj z _ hB (by omega) (by omega) (by omega) (by omega)).mono ?_
                rintro ek wk8 ⟨hek, hbk8⟩
                rw [K259.out] at hek; subst hek
                have hxk8 := Ext.trans (w := wr) (by repeat (first | with_reducible assumption | with_reducible exact Ext.refl _ | with_reducible apply Ext.alloc | with_reducible apply Ext.drew | with_reducible apply Ext.drewN)) hbk8
                refine hKK.out _ _ ?_ (fun hHeld => ?_)
                · exact hS9 _ (by repeat (first | with_reducible assumption | with_reducible exact Ext.refl _ | with_reducible apply Ext.alloc | with_reducible apply Ext.drew | with_reducible apply Ext.drewN))
                clear hKK KK
                try simp only [Act.put, List.setIfInBounds_toArray, List.set_cons_zero, List.set_cons_succ]
                refine wpAnyH_one (i := 9) (by kernel_rfl) (by simp only [List.getElem?_toArray, List.getElem?_cons_succ, List.getElem?_cons_zero]; rfl) (by kernel_rfl) (fun KK hKK => ?_)
                go_simp
                refine hKK.out _ _ ?_ (fun hHeld => ?_)
                · exact hS9 _ (by repeat (first | with_reducible assumption | with_reducible exact Ext.refl _ | with_reducible apply Ext.alloc | with_reducible apply Ext.drew | with_reducible apply Ext.drewN))
                clear hKK KK
                try simp only [Act.put, List.setIfInBounds_toArray, List.set_cons_zero, List.set_cons_succ]
                refine wpAnyH_one (i := 10) (by kernel_rfl) (by simp only [List.getElem?_toArray, List.getElem?_cons_succ, List.getElem?_cons_zero]; rfl) (by kernel_rfl) (fun KK hKK => ?_)
                go_simp
                go_at_call 38
                refine (gMul_any p q g _ 2 2 [cj, V259] _ hB (rd_twoV (w := wk8) rfl (by repeat (first | with_reducible assumption | with_reducible exact Ext.refl _ | with_reducible apply Ext.alloc | with_reducible apply Ext.drew | with_reducible apply Ext.drewN))) rfl (by decide) (two_rg (by omega) (by omega))).mono ?_
                rintro ek wk10 ⟨hek, hbk10⟩
                rw [K261.out] at hek; subst hek
                have hxk10 := Ext.trans (w := wr) (Ext.trans hxk8 (by repeat (first | with_reducible assumption | with_reducible exact Ext.refl _ | with_reducible apply Ext.alloc | with_reducible apply Ext.drew | with_reducible apply Ext.drewN))) hbk10
                refine hKK.out _ _ ?_ (fun hHeld => ?_)
                · exact hS9 _ (by repeat (first | with_reducible assumption | with_reducible exact Ext.refl _ | with_reducible apply Ext.alloc | with_reducible apply Ext.drew | with_reducible apply Ext.drewN))
                clear hKK KK
                try simp only [Act.put, List.setIfInBounds_toArray, List.set_cons_zero, List.set_cons_succ]
                refine' tkH 15 (hy := yldH (by rfl) ?hy) (h := ?_)
                case hy => intro w hSw; (try dsimp only at hSw); go_simp <;> with_reducible rfl
                try simp only [Act.put, List.setIfInBounds_toArray, List.set_cons_zero, List.set_cons_succ]
                refine wpAnyH_done (by kernel_rfl) ?_ _
                go_wp2
                refine ⟨?_, ?measure⟩
                (repeat apply Exists.intro)
                refine ⟨?rel, rfl⟩
                case rel => exact ⟨j + 1, by omega, by go_num, HPN, E3.trans hxk10⟩
                case measure => first | (simp [intOf]; done) | (simp [intOf]; omega)
            · obtain rfl : N5 = j := by omega
              have HVT : Hid (vmW p q g key H hs a b co cn cm ch rs = true) := by
                show _ = _
                rw [HV.out, List.all_eq_true]
                exact fun t ht => hP.out t (List.mem_range.1 ht)
              go_wp2
              go_ret
              exact ⟨by rw [HVT.out]; rfl, (E.trans E2).trans E3⟩
end Go.Proofs.Ytnhdohjlbchniaa
