/- Contracts for mixing permutations and column commitments. (Printed by tools/gen_mix.py.) -/
import Derived.Test.YtnhdohjlbchniaaGreatProg
import Derived.Test.YtnhdohjlbchniaaGreatBas
import Derived.Test.YtnhdohjlbchniaaGreatMemX
import Derived.Test.YtnhdohjlbchniaaGreatYp
namespace Go.Proofs.YtnhdohjlbchniaaGreat
open Go.RowKit
set_option linter.unusedVariables false
set_option linter.unusedSimpArgs false

theorem Ext.setCellc {w w' : World} {p : Addr} {u : Value} (hp : w.heap.size ≤ p.block) (h : Ext w w') : Ext w (w'.setCell p u) := h.setCell hp u
set_option maxHeartbeats 1000000 in
theorem mPerm_any (A : Option Addr) (n c : Nat) (l : List Int) (w : World) (ha : RdI w A l) (hl : l.length = n) (hc : n ≤ c ∧ c ≤ maxLen) (h12 : n ≤ 24) :
    Calls Tryz.prog 18 #[.slice A n c, .int .i64 n] w fun e w' => e = .returned (.bool (permB l)) ∧ w = w' := by
  have hself : ((n : Int) == (n : Int)) = true := by simp
  have hpb : permB l = (allR l 0 (n - 1) && diffB l) := by unfold permB; rw [hl, decide_eq_true h12, Bool.true_and]
  rw [hpb]
  have hm := hc.2
  unfold maxLen at hm
  cases h1 : allR l 0 (n - 1)
  · have H1 := Lib.hid h1
    clear h1 hpb
    go_enter Tryz.func18, Tryz.ntmps18
    go_wp2_with fail
    refine (l1All_any _ _ _ l _ _ _ ha hl (by unfold maxLen; omega)).mono ?_
    rintro e w1 ⟨he, rfl⟩
    rw [H1.out] at he; subst he
    go_wp2
    go_ret
    exact ⟨rfl, rfl⟩
  · have H1 := Lib.hid h1
    clear h1 hpb
    go_enter Tryz.func18, Tryz.ntmps18
    go_wp2_with fail
    refine (l1All_any _ _ _ l _ _ _ ha hl (by unfold maxLen; omega)).mono ?_
    rintro e w1 ⟨he, rfl⟩
    rw [H1.out] at he; subst he
    go_wp2_with fail
    refine (yPoints_any _ _ _ l _ ha hl hc.1 hc.2).mono ?_
    rintro e w2 ⟨rfl, rfl⟩
    go_wp2
    go_ret
    exact ⟨rfl, rfl⟩
def mixB (q : Int) (perm ss : List Int) : Bool := permB perm && (decide (ss.length = perm.length) && allR ss 0 (q - 1))
set_option maxHeartbeats 1000000 in
theorem isMixing_any (p q g : Int) (A D : Option Addr) (n c m d : Nat) (perm ss : List Int) (w : World) (hG : GrpB p q) (ha : RdI w A perm) (hl : perm.length = n) (hc : n ≤ c ∧ c ≤ maxLen) (hb : RdI w D ss) (hm : ss.length = m) (hm2 : m ≤ 1048576) (hn2 : n ≤ 1048576) :
    Calls Tryz.prog 24 #[.agg #[.int .i64 p, .int .i64 q, .int .i64 g], .slice A n c, .slice D m d, .int .i64 n] w fun e w' => e = .returned (.bool (mixB q perm ss)) ∧ Ext w w' := by
  have hself : ((n : Int) == (n : Int)) = true := by simp
  have E := (Ext.refl w).alloc (.cells #[.int .i64 p, .int .i64 q, .int .i64 g] 33)
  have B := Blk.new w 33 #[.int .i64 p, .int .i64 q, .int .i64 g]
  have hmx : mixB q perm ss = (permB perm && (decide (m = n) && allR ss 0 (q - 1))) := by unfold mixB; rw [hl, hm]
  rw [hmx]
  cases h1 : permB perm
  · have H1 := Lib.hid h1
    clear h1 hmx
    go_enter Tryz.func24, Tryz.ntmps24
    go_wp2_with fail
    refine (iIsPermutation_b _ _ _ perm _ (ha.ext E) hl hc.1 hc.2).mono ?_
    rintro e w1 ⟨he, hb1⟩
    rw [H1.out] at he; subst he
    go_wp2
    go_ret
    exact ⟨rfl, E.trans hb1⟩
  have H1 := Lib.hid h1
  by_cases h2 : m = n
  case neg =>
    have hz : ((m : Int) == (n : Int)) = false := by simp; omega
    rw [decide_eq_false h2]
    clear h1 hmx h2
    go_enter Tryz.func24, Tryz.ntmps24
    go_wp2_with fail
    refine (iIsPermutation_b _ _ _ perm _ (ha.ext E) hl hc.1 hc.2).mono ?_
    rintro e w1 ⟨he, hb1⟩
    rw [H1.out] at he; subst he
    go_wp2
    go_ret
    exact ⟨rfl, E.trans hb1⟩
  have hz : ((m : Int) == (n : Int)) = true := by simp; omega
  rw [decide_eq_true h2, Bool.true_and, Bool.true_and]
  clear h1 hmx h2
  go_enter Tryz.func24, Tryz.ntmps24
  go_wp2_with fail
  refine (iIsPermutation_b _ _ _ perm _ (ha.ext E) hl hc.1 hc.2).mono ?_
  rintro e w1 ⟨he, hb1⟩
  rw [H1.out] at he; subst he
  have C := (B.ext hb1).cells
  go_wp2_with fail
  refine (areExps_any p q g _ _ _ ss _ hG (hb.ext (E.trans hb1)) hm (by unfold maxLen; omega)).mono ?_
  rintro e w2 ⟨rfl, hb2⟩
  go_wp2
  go_ret
  exact ⟨rfl, (E.trans hb1).trans hb2⟩

/-- The commitments to the columns, after i of them. -/
def colV (p q g : Int) (perm ss hs : List Int) (i : Nat) : Int := gmul p [gpw p q g (ss.getD (perm.getD i 0).toNat 0), hs.getD i 0]
def colL (p q g : Int) (perm ss hs : List Int) : Nat → List Int
  | 0 => List.replicate perm.length 0
  | i + 1 => (colL p q g perm ss hs i).set (perm.getD i 0).toNat (colV p q g perm ss hs i)
theorem colL_length (p q g : Int) (perm ss hs : List Int) : ∀ i, (colL p q g perm ss hs i).length = perm.length
  | 0 => by simp [colL]
  | i + 1 => by simp [colL, colL_length p q g perm ss hs i]

set_option maxRecDepth 100000 in
set_option maxHeartbeats 4000000 in
theorem columnCommits_any (p q g H : Int) (AH : Option Addr) (m cH : Nat) (hs : List Int) (A D : Option Addr) (n c d : Nat) (perm ss : List Int) (w : World) (h : GrpB p q) (hg : 0 ≤ g ∧ g ≤ 3000000000) (rh : RdI w AH hs) (lh : hs.length = m) (hnm : n ≤ m) (hmm : m ≤ 1000000) (bh : ∀ y ∈ hs, 0 ≤ y ∧ y ≤ 3000000000)
    (ha : RdI w A perm) (hl : perm.length = n) (hn : n ≤ 24) (hR : allR perm 0 (n - 1) = true) (hb : RdI w D ss) (hls : ss.length = n) (bs : ∀ x ∈ ss, 0 ≤ x ∧ x ≤ 4000000000) :
    Calls Tryz.prog 61 #[.agg #[.int .i64 p, .int .i64 q, .int .i64 g], .agg #[.int .i64 H, .slice AH m cH], .slice A n c, .slice D n d] w fun e w' => ∃ A' c', e = .returned (.slice A' n c') ∧ OwnI w' w.heap.size 3 A' n c' (colL p q g perm ss hs n) ∧ Ext w w' := by
  have E := ((Ext.refl w).alloc (.cells #[.int .i64 p, .int .i64 q, .int .i64 g] 33)).alloc (.cells #[.int .i64 H, .slice AH m cH] 49)
  have B0 := (Blk.new w 33 #[.int .i64 p, .int .i64 q, .int .i64 g]).alloc (.cells #[.int .i64 H, .slice AH m cH] 49)
  have B1 := Blk.new (w.alloc (.cells #[.int .i64 p, .int .i64 q, .int .i64 g] 33)) 49 #[.int .i64 H, .slice AH m cH]
  simp only [World.size_alloc] at B1
  have hsz : ((w.alloc (.cells #[.int .i64 p, .int .i64 q, .int .i64 g] 33)).alloc (.cells #[.int .i64 H, .slice AH m cH] 49)).heap.size = w.heap.size + 2 := by simp only [World.size_alloc]
  have HR := Lib.hid hR
  have BH := Lib.hid bh
  have BS := Lib.hid bs
  have HLS := Lib.hid hls
  have HLH := Lib.hid lh
  clear hR bh bs hls lh
  subst hl
  go_enter Tryz.func61, Tryz.ntmps61
  generalize hWb : ((w.alloc (.cells #[.int .i64 p, .int .i64 q, .int .i64 g] 33)).alloc (.cells #[.int .i64 H, .slice AH m cH] 49)) = Wb at *
  have HSZ := Lib.hid hsz
  clear hsz
  go_wp2_with (at_make; refine wpList_mkI intSl rfl _ _ rfl _ _ _ _ perm.length rfl rfl rfl rfl (by omega) Wb.heap.size (Nat.le_refl _) ?_; intro w1 hO hE1 hz1)
  clear hWb
  go_loopw [17] (fun i wr => ∃ j : Nat, j ≤ perm.length ∧ i = .int .i64 j ∧ OwnI wr Wb.heap.size 3 (some ⟨Wb.heap.size, 0, none⟩) perm.length perm.length (colL p q g perm ss hs j) ∧ Ext Wb wr) (fun i _ => perm.length - (intOf i).toNat)
  case atStart => exact ⟨0, Nat.zero_le _, rfl, hO, hE1⟩
  case round =>
    clear hO hE1 hz1
    obtain ⟨j, hj, rfl, hO, E2⟩ := hrel
    by_cases hlt : j < perm.length
    · have hr := allR_at HR.out hlt
      obtain ⟨K, hK⟩ := Int.eq_ofNat_of_zero_le hr.1
      have hKn : K < perm.length := by omega
      have hKs : K < ss.length := by rw [HLS.out]; exact hKn
      have hjh : j < hs.length := by rw [HLH.out]; omega
      obtain ⟨ad, rfl, hc⟩ := (ha.ext (E.trans E2)).at_ hlt
      obtain ⟨bd, rfl, hx⟩ := (hb.ext E).at_ hKs
      obtain ⟨cd, rfl, hy⟩ := (rh.ext E).at_ hjh
      obtain ⟨x1, x2⟩ := BS.out _ (List.getElem_mem hKs)
      obtain ⟨y1, y2⟩ := BH.out _ (List.getElem_mem hjh)
      have hstep : colL p q g perm ss hs (j + 1) = (colL p q g perm ss hs j).set K (gmul p [gpw p q g ss[K], hs[j]]) := by
        have e1 : (perm.getD j 0).toNat = K := by simp [List.getD, hlt, hK]
        show (colL p q g perm ss hs j).set (perm.getD j 0).toNat (colV p q g perm ss hs j) = _
        unfold colV
        rw [e1]
        simp [List.getD, hKs, hjh]
      have HST := Lib.hid hstep
      clear hstep
      rw [hK] at hc
      generalize ss[K] = x at *
      generalize hs[j] = y at *
      have HKK := Lib.hid hK
      clear hK hr
      have gx := gpw_rg p q g x h
      have hS : ∀ V, Ext Wb V → V.cell? ⟨w.heap.size, 0, none⟩ = some (.int .i64 p) ∧ V.cell? ⟨w.heap.size, 1, none⟩ = some (.int .i64 q) ∧ V.cell? ⟨w.heap.size, 2, none⟩ = some (.int .i64 g) ∧ V.cell? ⟨w.heap.size + 1, 1, none⟩ = some (.slice (some cd) m cH) ∧ V.cell? (bd.add K) = some (.int .i64 x) ∧ V.cell? (cd.add j) = some (.int .i64 y) := fun V hV => by
        have a0 := (B0.ext hV).cells
        have a1 := (B1.ext hV).cells
        exact ⟨a0 0, a0 1, a0 2, a1 1, hV.cell hx, hV.cell hy⟩
      have hjm : (j : Int) < (m : Int) := by omega
      have hj0 : (0 : Int) ≤ (j : Int) := by omega
      have hK0 : (0 : Int) ≤ (K : Int) := by omega
      have hKi : (K : Int) < (perm.length : Int) := by omega
      have hlenC := colL_length p q g perm ss hs j
      go_wp2
      go_region_held3 (fun V => V.cell? ⟨w.heap.size, 0, none⟩ = some (.int .i64 p) ∧ V.cell? ⟨w.heap.size, 1, none⟩ = some (.int .i64 q) ∧ V.cell? ⟨w.heap.size, 2, none⟩ = some (.int .i64 g) ∧ V.cell? ⟨w.heap.size + 1, 1, none⟩ = some (.slice (some cd) m cH) ∧ V.cell? (bd.add K) = some (.int .i64 x) ∧ V.cell? (cd.add j) = some (.int .i64 y)) (exact hS _ (by repeat (first | with_reducible assumption | with_reducible exact Ext.refl _ | with_reducible apply Ext.alloc | with_reducible apply Ext.drew | with_reducible apply Ext.drewN | with_reducible refine Ext.setCellc ?_ ?_ | focus (show _ ≤ _; first | omega | (simp; done) | (simp; omega)))))
        (first
          | (go_at_call 68; refine (pow_any p q g g x _ h hg.1 hg.2 (by omega) (by omega)).mono ?_; rintro e w2 ⟨rfl, hb2⟩; have hx2 := Ext.trans (w := Wb) (by repeat (first | with_reducible assumption | with_reducible exact Ext.refl _ | with_reducible apply Ext.alloc | with_reducible apply Ext.drew | with_reducible apply Ext.drewN | with_reducible refine Ext.setCellc ?_ ?_ | focus (show _ ≤ _; first | omega | (simp; done) | (simp; omega)))) hb2; have hr2 := Ext.trans (w := wr) (by repeat (first | with_reducible assumption | with_reducible exact Ext.refl _ | with_reducible apply Ext.alloc | with_reducible apply Ext.drew | with_reducible apply Ext.drewN | with_reducible refine Ext.setCellc ?_ ?_ | focus (show _ ≤ _; first | omega | (simp; done) | (simp; omega)))) hb2)
          | (go_at_call 69; refine (mul_any p q g _ 2 2 [gpw p q g x, y] _ h (rd_two (by simp)) rfl (by decide) (two_rg (by omega) (by omega))).mono ?_; rintro e w3 ⟨rfl, hb3⟩; have hx3 := Ext.trans (w := Wb) (by repeat (first | with_reducible assumption | with_reducible exact Ext.refl _ | with_reducible apply Ext.alloc | with_reducible apply Ext.drew | with_reducible apply Ext.drewN | with_reducible refine Ext.setCellc ?_ ?_ | focus (show _ ≤ _; first | omega | (simp; done) | (simp; omega)))) hb3; have hr3 := Ext.trans (w := wr) (by repeat (first | with_reducible assumption | with_reducible exact Ext.refl _ | with_reducible apply Ext.alloc | with_reducible apply Ext.drew | with_reducible apply Ext.drewN | with_reducible refine Ext.setCellc ?_ ?_ | focus (show _ ≤ _; first | omega | (simp; done) | (simp; omega)))) hb3; have hO3 := hO.ext hr3; have hF := hO3.at0 K (by omega); have hF1 := hF.1; have hF2 := hF.2)
          | fail)
      have hO4 := hO3.set (j := K) (gmul p [gpw p q g x, y])
      rw [← HST.out] at hO4
      go_wp2
      go_roundw
      case rel => exact ⟨j + 1, by omega, by go_num, hO4, hx3.setCell (p := ⟨Wb.heap.size, K, none⟩) (Nat.le_refl _) _⟩
      case measure => simp [intOf]; omega
    · obtain rfl : j = perm.length := by omega
      go_wp2
      go_ret
      exact ⟨_, _, rfl, hO.more (base' := w.heap.size) (by have := HSZ.out; omega), E.trans E2⟩

set_option maxRecDepth 100000 in
set_option maxHeartbeats 4000000 in
theorem mColumns_any (p q g H : Int) (AH : Option Addr) (m cH : Nat) (hs : List Int) (A D : Option Addr) (n c d : Nat) (perm ss : List Int) (w : World) (h : GrpB p q) (hg : 0 ≤ g ∧ g ≤ 3000000000) (rh : RdI w AH hs) (lh : hs.length = m) (hnm : n ≤ m) (hmm : m ≤ 1000000) (bh : ∀ y ∈ hs, 0 ≤ y ∧ y ≤ 3000000000)
    (ha : RdI w A perm) (hl : perm.length = n) (hn : n ≤ 24) (hR : allR perm 0 (n - 1) = true) (hb : RdI w D ss) (hls : ss.length = n) (bs : ∀ x ∈ ss, 0 ≤ x ∧ x ≤ 4000000000) :
    Calls Tryz.prog 41 #[.agg #[.int .i64 p, .int .i64 q, .int .i64 g], .agg #[.int .i64 H, .slice AH m cH], .slice A n c, .slice D n d] w fun e w' => ∃ A' c', e = .returned (.slice A' n c') ∧ OwnI w' w.heap.size 3 A' n c' (colL p q g perm ss hs n) ∧ Ext w w' := by
  have E := ((Ext.refl w).alloc (.cells #[.int .i64 p, .int .i64 q, .int .i64 g] 33)).alloc (.cells #[.int .i64 H, .slice AH m cH] 49)
  have B0 := (Blk.new w 33 #[.int .i64 p, .int .i64 q, .int .i64 g]).alloc (.cells #[.int .i64 H, .slice AH m cH] 49)
  have B1 := Blk.new (w.alloc (.cells #[.int .i64 p, .int .i64 q, .int .i64 g] 33)) 49 #[.int .i64 H, .slice AH m cH]
  simp only [World.size_alloc] at B1
  have hsz : ((w.alloc (.cells #[.int .i64 p, .int .i64 q, .int .i64 g] 33)).alloc (.cells #[.int .i64 H, .slice AH m cH] 49)).heap.size = w.heap.size + 2 := by simp only [World.size_alloc]
  have HR := Lib.hid hR
  have BH := Lib.hid bh
  have BS := Lib.hid bs
  have HLS := Lib.hid hls
  have HLH := Lib.hid lh
  clear hR bh bs hls lh
  subst hl
  go_enter Tryz.func41, Tryz.ntmps41
  generalize hWb : ((w.alloc (.cells #[.int .i64 p, .int .i64 q, .int .i64 g] 33)).alloc (.cells #[.int .i64 H, .slice AH m cH] 49)) = Wb at *
  have HSZ := Lib.hid hsz
  clear hsz
  go_wp2_with (at_make; refine wpList_mkI intSl rfl _ _ rfl _ _ _ _ perm.length rfl rfl rfl rfl (by omega) Wb.heap.size (Nat.le_refl _) ?_; intro w1 hO hE1 hz1)
  clear hWb
  go_loopw [17] (fun i wr => ∃ j : Nat, j ≤ perm.length ∧ i = .int .i64 j ∧ OwnI wr Wb.heap.size 3 (some ⟨Wb.heap.size, 0, none⟩) perm.length perm.length (colL p q g perm ss hs j) ∧ Ext Wb wr) (fun i _ => perm.length - (intOf i).toNat)
  case atStart => exact ⟨0, Nat.zero_le _, rfl, hO, hE1⟩
  case round =>
    clear hO hE1 hz1
    obtain ⟨j, hj, rfl, hO, E2⟩ := hrel
    by_cases hlt : j < perm.length
    · have hr := allR_at HR.out hlt
      obtain ⟨K, hK⟩ := Int.eq_ofNat_of_zero_le hr.1
      have hKn : K < perm.length := by omega
      have hKs : K < ss.length := by rw [HLS.out]; exact hKn
      have hjh : j < hs.length := by rw [HLH.out]; omega
      obtain ⟨ad, rfl, hc⟩ := (ha.ext (E.trans E2)).at_ hlt
      obtain ⟨bd, rfl, hx⟩ := (hb.ext E).at_ hKs
      obtain ⟨cd, rfl, hy⟩ := (rh.ext E).at_ hjh
      obtain ⟨x1, x2⟩ := BS.out _ (List.getElem_mem hKs)
      obtain ⟨y1, y2⟩ := BH.out _ (List.getElem_mem hjh)
      have hstep : colL p q g perm ss hs (j + 1) = (colL p q g perm ss hs j).set K (gmul p [gpw p q g ss[K], hs[j]]) := by
        have e1 : (perm.getD j 0).toNat = K := by simp [List.getD, hlt, hK]
        show (colL p q g perm ss hs j).set (perm.getD j 0).toNat (colV p q g perm ss hs j) = _
        unfold colV
        rw [e1]
        simp [List.getD, hKs, hjh]
      have HST := Lib.hid hstep
      clear hstep
      rw [hK] at hc
      generalize ss[K] = x at *
      generalize hs[j] = y at *
      have HKK := Lib.hid hK
      clear hK hr
      have gx := gpw_rg p q g x h
      have hS : ∀ V, Ext Wb V → V.cell? ⟨w.heap.size, 0, none⟩ = some (.int .i64 p) ∧ V.cell? ⟨w.heap.size, 1, none⟩ = some (.int .i64 q) ∧ V.cell? ⟨w.heap.size, 2, none⟩ = some (.int .i64 g) ∧ V.cell? ⟨w.heap.size + 1, 1, none⟩ = some (.slice (some cd) m cH) ∧ V.cell? (bd.add K) = some (.int .i64 x) ∧ V.cell? (cd.add j) = some (.int .i64 y) := fun V hV => by
        have a0 := (B0.ext hV).cells
        have a1 := (B1.ext hV).cells
        exact ⟨a0 0, a0 1, a0 2, a1 1, hV.cell hx, hV.cell hy⟩
      have hjm : (j : Int) < (m : Int) := by omega
      have hj0 : (0 : Int) ≤ (j : Int) := by omega
      have hK0 : (0 : Int) ≤ (K : Int) := by omega
      have hKi : (K : Int) < (perm.length : Int) := by omega
      have hlenC := colL_length p q g perm ss hs j
      go_wp2
      go_region_held3 (fun V => V.cell? ⟨w.heap.size, 0, none⟩ = some (.int .i64 p) ∧ V.cell? ⟨w.heap.size, 1, none⟩ = some (.int .i64 q) ∧ V.cell? ⟨w.heap.size, 2, none⟩ = some (.int .i64 g) ∧ V.cell? ⟨w.heap.size + 1, 1, none⟩ = some (.slice (some cd) m cH) ∧ V.cell? (bd.add K) = some (.int .i64 x) ∧ V.cell? (cd.add j) = some (.int .i64 y)) (exact hS _ (by repeat (first | with_reducible assumption | with_reducible exact Ext.refl _ | with_reducible apply Ext.alloc | with_reducible apply Ext.drew | with_reducible apply Ext.drewN | with_reducible refine Ext.setCellc ?_ ?_ | focus (show _ ≤ _; first | omega | (simp; done) | (simp; omega)))))
        (first
          | (go_at_call 45; refine (gExp_any p q g g x _ h hg.1 hg.2 (by omega) (by omega)).mono ?_; rintro e w2 ⟨rfl, hb2⟩; have hx2 := Ext.trans (w := Wb) (by repeat (first | with_reducible assumption | with_reducible exact Ext.refl _ | with_reducible apply Ext.alloc | with_reducible apply Ext.drew | with_reducible apply Ext.drewN | with_reducible refine Ext.setCellc ?_ ?_ | focus (show _ ≤ _; first | omega | (simp; done) | (simp; omega)))) hb2; have hr2 := Ext.trans (w := wr) (by repeat (first | with_reducible assumption | with_reducible exact Ext.refl _ | with_reducible apply Ext.alloc | with_reducible apply Ext.drew | with_reducible apply Ext.drewN | with_reducible refine Ext.setCellc ?_ ?_ | focus (show _ ≤ _; first | omega | (simp; done) | (simp; omega)))) hb2)
          | (go_at_call 46; refine (gMul_any p q g _ 2 2 [gpw p q g x, y] _ h (rd_two (by simp)) rfl (by decide) (two_rg (by omega) (by omega))).mono ?_; rintro e w3 ⟨rfl, hb3⟩; have hx3 := Ext.trans (w := Wb) (by repeat (first | with_reducible assumption | with_reducible exact Ext.refl _ | with_reducible apply Ext.alloc | with_reducible apply Ext.drew | with_reducible apply Ext.drewN | with_reducible refine Ext.setCellc ?_ ?_ | focus (show _ ≤ _; first | omega | (simp; done) | (simp; omega)))) hb3; have hr3 := Ext.trans (w := wr) (by repeat (first | with_reducible assumption | with_reducible exact Ext.refl _ | with_reducible apply Ext.alloc | with_reducible apply Ext.drew | with_reducible apply Ext.drewN | with_reducible refine Ext.setCellc ?_ ?_ | focus (show _ ≤ _; first | omega | (simp; done) | (simp; omega)))) hb3; have hO3 := hO.ext hr3; have hF := hO3.at0 K (by omega); have hF1 := hF.1; have hF2 := hF.2)
          | fail)
      have hO4 := hO3.set (j := K) (gmul p [gpw p q g x, y])
      rw [← HST.out] at hO4
      go_wp2
      go_roundw
      case rel => exact ⟨j + 1, by omega, by go_num, hO4, hx3.setCell (p := ⟨Wb.heap.size, K, none⟩) (Nat.le_refl _) _⟩
      case measure => simp [intOf]; omega
    · obtain rfl : j = perm.length := by omega
      go_wp2
      go_ret
      exact ⟨_, _, rfl, hO.more (base' := w.heap.size) (by have := HSZ.out; omega), E.trans E2⟩
end Go.Proofs.YtnhdohjlbchniaaGreat
