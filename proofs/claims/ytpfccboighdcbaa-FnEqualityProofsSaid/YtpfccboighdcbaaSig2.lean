/- Contracts for proofs of linear statements: the program's and the reference's. (Printed by tools/gen_sig2.py.) -/
import Derived.Test.YtpfccboighdcbaaProg
import Derived.Test.YtpfccboighdcbaaSig1
import Derived.Test.YtpfccboighdcbaaLies
import Derived.Test.YtpfccboighdcbaaKeep
import Derived.Deep.AppendLies
import Derived.Deep.RegionLaw
import Derived.Deep.CutRange
namespace Go.Proofs.Ytpfccboighdcbaa
open Go.RowKit

theorem Only.thenHigh {w w' w'' : World} {fp fp' : List Nat} (h : Only fp w w') (k : Only fp' w' w'') (hf : High w.heap.size fp') : Only fp w w'' :=
  ⟨k.os.trans h.os, k.tape.trans h.tape, k.output.trans h.output, Nat.le_trans h.size k.size, fun i hi hn =>
    (k.block i (Nat.lt_of_lt_of_le hi h.size) (fun e => by have := hf i e; omega)).trans (h.block i hi hn)⟩
theorem Only.thenExt {w w' w'' : World} {fp : List Nat} (h : Only fp w w') (k : Ext w' w'') : Only fp w w'' := h.thenOnly (k.toOnly fp)
theorem SlI.of_own {w : World} {base n c : Nat} {A : Option Addr} {l : List Int} (h : OwnI w base 3 A n c l) : SlI w A n c l := h.sl
theorem rspL_len {q e : Int} {ws xs : List Int} (h : ws.length = xs.length) : (rspL q e ws xs).length = xs.length := by simp [rspL, h]
theorem stm_len (rows : List (List Int)) (im cm : List Int) : (stmL rows im cm).length = tot rows + im.length + cm.length := by
  unfold stmL
  rw [List.length_append, List.length_append, tot_flat]
set_option maxRecDepth 100000 in
set_option maxHeartbeats 8000000 in
theorem proveLinear_any (p q g : Int) (s : ByteArray) (A D F : Option Addr) (n c m d f : Nat) (rows : List (List Int)) (xs ws : List Int) (w : World) (h : grpB p q g = true) (hs : s.size ≤ 40) (hr : rowsB p q rows = true) (ha : RdSS w A rows) (hl : rows.length = n) (hb : SlI w D m d xs) (hc : SlI w F m f ws) (hm : (rows.headD []).length = m) (hx : allR xs 0 (q - 1) = true) (hw : allR ws 0 (q - 1) = true) :
    Calls Try.prog 140 #[.agg #[.int .i64 p, .int .i64 q, .int .i64 g], .string s, .slice A n c, .slice D m d, .slice F m f] w fun en w' => ∃ A1 c1 A2 c2 A3 c3, en = .returned (.tuple #[.agg #[.slice A1 n c1, .slice A2 1 c2, .slice A3 m c3], .bool true]) ∧ SlI w' A1 n c1 (imgL p q rows ws) ∧ SlI w' A2 1 c2 [lpE p q g s rows xs ws] ∧ SlI w' A3 m c3 (rspL q (lpE p q g s rows xs ws) ws xs) ∧ Ext w w' := by
  have hG := grpB_in h
  have hq2 := hG.q2
  have hp9 := hG.p9
  have hqp := hG.qp
  have hbd := hG.bd
  have hri := rows_in hr
  rw [hm] at hri
  obtain ⟨hn1, hk1⟩ := And.intro hri.n hri.k
  rw [hl] at hn1
  have BR := Lib.hid (hri.rg hG.p9)
  have BX := Lib.hid (allR_iff.1 hx)
  have BW := Lib.hid (allR_iff.1 hw)
  have BX9 : Hid (∀ x ∈ xs, -9000000000000000000 ≤ x ∧ x ≤ 9000000000000000000) := fun x hx => by have := BX.out x hx; omega
  have BW9 : Hid (∀ x ∈ ws, -9000000000000000000 ≤ x ∧ x ≤ 9000000000000000000) := fun x hx => by have := BW.out x hx; omega
  have HRL : Hid (∀ r ∈ rows, r.length ≤ m) := fun r hr => by have := (hri.all r hr).1; omega
  have hp2 : 2 ≤ p := by have := hG.p3; omega
  have b1 : ∀ x ∈ imgL p q rows xs, 0 ≤ x ∧ x ≤ 3000000000 := fun x hx => by have := imgL_rg hp2 x hx; omega
  have b2 : ∀ x ∈ imgL p q rows ws, 0 ≤ x ∧ x ≤ 3000000000 := fun x hx => by have := imgL_rg hp2 x hx; omega
  obtain ⟨hck, hall, hlen⟩ := stm_ok h hs hri (imgL_length p q rows xs) (imgL_length p q rows ws) b1 b2
  have htl : tot rows + n + n = (stmL rows (imgL p q rows xs) (imgL p q rows ws)).length := by rw [stm_len, imgL_length, imgL_length, hl]
  have htot : tot rows ≤ 100 := by omega
  obtain ⟨ev, hev⟩ : ∃ ev, lpE p q g s rows xs ws = ev := ⟨_, rfl⟩
  have hevr := chV_rg h s (stmL rows (imgL p q rows xs) (imgL p q rows ws))
  have hev2 : chV p q g s (stmL rows (imgL p q rows xs) (imgL p q rows ws)) = ev := hev
  rw [hev2] at hevr
  rw [hev]
  have hl1 : (imgL p q rows xs).length = n := by rw [imgL_length, hl]
  have hl2 : (imgL p q rows ws).length = n := by rw [imgL_length, hl]
  generalize himx : imgL p q rows xs = imx at *
  generalize himw : imgL p q rows ws = imw at *
  have HIX := Lib.hid himx
  have HIW := Lib.hid himw
  have HL1 := Lib.hid hl1
  have HL2 := Lib.hid hl2
  have HCK := Lib.hid hck
  have HALL := Lib.hid hall
  have HEV := Lib.hid hev2
  have HGB := Lib.hid h
  have HL := Lib.hid hl
  have HTL := Lib.hid htl
  have HST : Hid ([rows.flatten, imx, imw].flatten = stmL rows imx imw) := by show _ = _; simp [stmL]
  have HT3 : Hid (tot [rows.flatten, imx, imw] ≤ 1000) := by show _ ≤ _; rw [← tot_flat, HST.out]; omega
  have hsl := hb.len
  have hcl := hc.len
  have hs9 : s.size ≤ 1000 := by omega
  have HSL := Lib.hid hsl
  have HCL := Lib.hid hcl
  clear hri hev hev2 himx himw hl1 hl2 hck hall hr h hm hx hw b1 b2 hl htl hsl hcl
  have E := ((Ext.refl w).alloc (.cells #[.int .i64 p, .int .i64 q, .int .i64 g] 38)).alloc (.cells #[.slice none 0 0, .slice none 0 0, .slice none 0 0] 44)
  have B0 := (Blk.new w 38 #[.int .i64 p, .int .i64 q, .int .i64 g]).alloc (.cells #[.slice none 0 0, .slice none 0 0, .slice none 0 0] 44)
  have B1 := Blk.new (w.alloc (.cells #[.int .i64 p, .int .i64 q, .int .i64 g] 38)) 44 #[.slice none 0 0, .slice none 0 0, .slice none 0 0]
  simp only [World.size_alloc] at B1
  have CC := B0.cells
  go_enter Try.func140, Try.ntmps140
  go_wp2_with fail
  generalize (w.alloc (.cells #[.int .i64 p, .int .i64 q, .int .i64 g] 38)).alloc (.cells #[.slice none 0 0, .slice none 0 0, .slice none 0 0] 44) = Wb at *
  refine (images_any p q g A F n c m f rows ws _ hbd (ha.ext E) HL.out (hc.rd.ext E) HCL.out (by omega) HRL.out (by omega) BR.out BW9.out).mono ?_
  rintro en w1 ⟨A1, c1, rfl, o1, hb1⟩
  rw [HIW.out] at o1
  clear CC
  have hzb := B1.lt
  have E1 := E.trans hb1
  have hgp0 := hb1.size
  have BP := Blk.new w1 44 #[.slice A1 n c1, .slice none 0 0, .slice none 0 0]
  have hal := (Ext.refl w1).alloc (.cells #[.slice A1 n c1, .slice none 0 0, .slice none 0 0] 44)
  replace E1 := E1.trans hal
  replace B0 := (B0.ext hb1).ext hal
  replace B1 := (B1.ext hb1).ext hal
  replace o1 := o1.ext hal
  have hlt2 := BP.lt
  go_wp2
  generalize w1.heap.size = gp at *
  generalize w1.alloc (.cells #[.slice A1 n c1, .slice none 0 0, .slice none 0 0] 44) = w2 at *
  clear hb1 hal
  have hS : ∀ V, Ext w2 V → V.cell? ⟨w.heap.size, 0, none⟩ = some (.int .i64 p) ∧ V.cell? ⟨w.heap.size, 1, none⟩ = some (.int .i64 q) ∧ V.cell? ⟨w.heap.size, 2, none⟩ = some (.int .i64 g) ∧ V.cell? ⟨gp, 0, none⟩ = some (.slice A1 n c1) := fun V hV => by
    have a0 := (B0.ext hV).cells
    have a1 := (BP.ext hV).cells
    exact ⟨a0 0, a0 1, a0 2, a1 0⟩
  go_region_held3 (fun V => V.cell? ⟨w.heap.size, 0, none⟩ = some (.int .i64 p) ∧ V.cell? ⟨w.heap.size, 1, none⟩ = some (.int .i64 q) ∧ V.cell? ⟨w.heap.size, 2, none⟩ = some (.int .i64 g) ∧ V.cell? ⟨gp, 0, none⟩ = some (.slice A1 n c1)) (exact hS _ (by repeat (first | with_reducible assumption | with_reducible exact Ext.refl _ | with_reducible apply Ext.alloc | with_reducible apply Ext.drew | with_reducible apply Ext.drewN)))
    (first
      | (go_at_call 185; first
          | (have hz := hx4; have sl1 := SlI.ext o1.sl (Ext.trans (w := w2) hx4 (Ext.refl _)); have sl3 := SlI.ext o3.sl hb4; have sl4 := o4.sl; refine (Concat_any _ 3 _ [rows.flatten, imx, imw] _ (rdSS_lit3 (w := w4) (t := 28) rfl (by repeat (first | with_reducible assumption | with_reducible exact Ext.refl _ | with_reducible apply Ext.alloc | with_reducible apply Ext.drew | with_reducible apply Ext.drewN)) (SlI.ext sl3 (by repeat (first | with_reducible assumption | with_reducible exact Ext.refl _ | with_reducible apply Ext.alloc | with_reducible apply Ext.drew | with_reducible apply Ext.drewN))) (SlI.ext sl4 (by repeat (first | with_reducible assumption | with_reducible exact Ext.refl _ | with_reducible apply Ext.alloc | with_reducible apply Ext.drew | with_reducible apply Ext.drewN))) (SlI.ext sl1 (by repeat (first | with_reducible assumption | with_reducible exact Ext.refl _ | with_reducible apply Ext.alloc | with_reducible apply Ext.drew | with_reducible apply Ext.drewN)))) rfl (by omega) (Nat.le_trans HT3.out (by omega))).mono ?_; rintro en w5 ⟨A5, c5, rfl, o5, hb5⟩; have hx5 := Ext.trans (w := w2) (by repeat (first | with_reducible assumption | with_reducible exact Ext.refl _ | with_reducible apply Ext.alloc | with_reducible apply Ext.drew | with_reducible apply Ext.drewN)) hb5)
          | (refine (Concat_any A n c rows _ (RdSS.ext ha (Ext.trans E1 (by repeat (first | with_reducible assumption | with_reducible exact Ext.refl _ | with_reducible apply Ext.alloc | with_reducible apply Ext.drew | with_reducible apply Ext.drewN)))) HL.out (by omega) (by omega)).mono ?_; rintro en w3 ⟨A3, c3, rfl, o3, hb3⟩; have hx3 := Ext.trans (w := w2) (by repeat (first | with_reducible assumption | with_reducible exact Ext.refl _ | with_reducible apply Ext.alloc | with_reducible apply Ext.drew | with_reducible apply Ext.drewN)) hb3)
          | fail)
      | (go_at_call 201; refine (images_any p q g A D n c m d rows xs _ hbd (RdSS.ext ha (Ext.trans E1 (by repeat (first | with_reducible assumption | with_reducible exact Ext.refl _ | with_reducible apply Ext.alloc | with_reducible apply Ext.drew | with_reducible apply Ext.drewN)))) HL.out (RdI.ext hb.rd (Ext.trans E1 (by repeat (first | with_reducible assumption | with_reducible exact Ext.refl _ | with_reducible apply Ext.alloc | with_reducible apply Ext.drew | with_reducible apply Ext.drewN)))) HSL.out (by omega) HRL.out (by omega) BR.out BX9.out).mono ?_; rintro en w4 ⟨A4, c4, rfl, o4, hb4⟩; rw [HIX.out] at o4; have hx4 := Ext.trans (w := w2) (by repeat (first | with_reducible assumption | with_reducible exact Ext.refl _ | with_reducible apply Ext.alloc | with_reducible apply Ext.drew | with_reducible apply Ext.drewN)) hb4; have hb4 := Ext.trans (w := w3) (by repeat (first | with_reducible assumption | with_reducible exact Ext.refl _ | with_reducible apply Ext.alloc | with_reducible apply Ext.drew | with_reducible apply Ext.drewN)) hb4)
      | (go_at_call 184; refine (challenge_any p q g s A5 _ c5 (stmL rows imx imw) _ HGB.out (by rw [← HST.out]; exact RdI.ext o5.rd (by repeat (first | with_reducible assumption | with_reducible exact Ext.refl _ | with_reducible apply Ext.alloc | with_reducible apply Ext.drew | with_reducible apply Ext.drewN))) (by rw [← HST.out, tot_flat]) (by have := HT3.out; omega) (by omega)).mono ?_; rintro en w6 ⟨he, hb6⟩; rw [HCK.out, if_pos rfl, HEV.out] at he; subst he; have hx6 := Ext.trans (w := w2) (by repeat (first | with_reducible assumption | with_reducible exact Ext.refl _ | with_reducible apply Ext.alloc | with_reducible apply Ext.drew | with_reducible apply Ext.drewN)) hb6)
      | fail)
  have E6 := E1.trans hx6
  have B06 := B0.ext hx6
  have B16 := B1.ext hx6
  have BP6 := BP.ext hx6
  have o16 := o1.ext hx6
  have o26 : OwnI (w6.alloc (.cells #[.int .i64 ev] 3)) w6.heap.size 3 (some ⟨w6.heap.size, 0, none⟩) 1 1 [ev] := ownI_lit (n := 1) [ev] rfl rfl (Nat.le_refl _) (by unfold maxLen; omega)
  have hal := (Ext.refl w6).alloc (.cells #[.int .i64 ev] 3)
  replace E6 := E6.trans hal
  replace B06 := B06.ext hal
  replace B16 := B16.ext hal
  have BPC := BP6.cells
  replace BP6 := BP6.ext hal
  replace o16 := o16.ext hal
  have hlt6 := BP6.lt
  have hz6 := hx6.size
  have FP := BP6.frozen
  have CP := BP6.cells
  have hon : Only [gp] (w6.alloc (.cells #[.int .i64 ev] 3)) ((w6.alloc (.cells #[.int .i64 ev] 3)).setCell ⟨gp, 1, none⟩ (.slice (some ⟨w6.heap.size, 0, none⟩) 1 1)) := (Only.refl _ _).setCell (p := ⟨gp, 1, none⟩) (by simp) _
  have o17 := o16.keepBlk BP6 (by decide) hon
  have o27 := o26.keepBlk BP6 (by decide) hon
  have B07 := B06.only hon (by simp; omega)
  have B17 := B16.only hon (by simp; omega)
  have E7 := E6.only hon (fun b hb => by simp at hb; omega)
  have BP7 := BP6.set_ 1 (.slice (some ⟨w6.heap.size, 0, none⟩) 1 1)
  go_wp2
  clear hS hz6 FP CP BPC BP6 B06 B16 o16 o26 E6 hal
  generalize (w6.alloc (.cells #[.int .i64 ev] 3)).setCell ⟨gp, 1, none⟩ (.slice (some ⟨w6.heap.size, 0, none⟩) 1 1) = w7 at *
  generalize w6.heap.size = g6 at *
  have hz7 := BP7.lt
  go_loopw [46] (fun i wr => ∃ (j : Nat) (X : Option Addr) (x : Nat), j ≤ m ∧ i = .int .i64 j ∧ Blk wr gp 44 #[.slice A1 n c1, .slice (some ⟨g6, 0, none⟩) 1 1, .slice X j x] ∧ OwnI wr w7.heap.size 3 X j x (rspL q ev (ws.take j) (xs.take j)) ∧ Only [gp] w7 wr) (fun i _ => m - (intOf i).toNat)
  case atStart => exact ⟨0, none, 0, Nat.zero_le _, rfl, BP7, OwnI.nil _ _ _, Only.refl _ _⟩
  case round =>
    obtain ⟨j, X, x, hj, rfl, BPr, hX, hon7⟩ := hrel
    have E8 := E7.only hon7 (fun b hb => by simp at hb; omega)
    by_cases hlt : j < m
    · have hjx : j < xs.length := by have := HSL.out; omega
      have hjw : j < ws.length := by have := HCL.out; omega
      obtain ⟨ad, rfl, hcx⟩ := (hb.rd.ext E8).at_ hjx
      obtain ⟨bd, rfl, hcw⟩ := (hc.rd.ext E8).at_ hjw
      obtain ⟨x1, x2⟩ := BX.out _ (List.getElem_mem hjx)
      obtain ⟨y1, y2⟩ := BW.out _ (List.getElem_mem hjw)
      have HRS := Lib.hid (rspL_take (q := q) (e := ev) hjw hjx)
      generalize xs[j] = xv at *
      generalize ws[j] = wv at *
      have hpd := intmul_bd ev xv (by omega) (by omega) (by omega) (by omega)
      have hpd2 : ev * xv ≤ 4000000000000000000 := by
        have h1 : ev * xv ≤ 2000000000 * xv := Int.mul_le_mul_of_nonneg_right (by omega) (by omega)
        omega
      have hs1 : IntKind.i64.wrap (ev * xv) = ev * xv := by rw [IntKind.wrap_i64]; omega
      have hs2 : IntKind.i64.wrap (wv + ev * xv) = wv + ev * xv := by rw [IntKind.wrap_i64]; omega
      have hj0 : (0 : Int) ≤ (j : Int) := by omega
      have hjm : (j : Int) < (m : Int) := by omega
      have hzr := hon7.size
      have B0r := B07.only hon7 (by simp; omega)
      have hXh := hX.high
      have hXl := hX.low
      have hcells : ∀ V, Ext wr V → V.cell? ⟨w.heap.size, 0, none⟩ = some (.int .i64 p) ∧ V.cell? ⟨w.heap.size, 1, none⟩ = some (.int .i64 q) ∧ V.cell? ⟨w.heap.size, 2, none⟩ = some (.int .i64 g) ∧ V.cell? ⟨gp, 2, none⟩ = some (.slice X j x) ∧ V.cell? (ad.add j) = some (.int .i64 xv) := fun V hV => by
        have a0 := (B0r.ext hV).cells
        have a1 := (BPr.ext hV).cells
        exact ⟨a0 0, a0 1, a0 2, a1 2, hV.cell hcx⟩
      obtain ⟨k0, k1, k2, k3, k4⟩ := hcells _ (Ext.refl wr)
      obtain ⟨j0, j1, j2, j3, j4⟩ := hcells _ ((Ext.refl wr).drew)
      go_wp2
      go_region_law (first
        | (go_simp; go_at_call 59; refine (exp_any p q g (wv + ev * xv) _ hbd (by omega) (by omega)).mono ?_; rintro en w8 ⟨rfl, hb8⟩; have hx8 := Ext.trans (w := wr) (by repeat (first | with_reducible assumption | with_reducible exact Ext.refl _ | with_reducible apply Ext.alloc | with_reducible apply Ext.drew | with_reducible apply Ext.drewN)) hb8; have hz8 := hx8.size; obtain ⟨l0, l1, l2, l3, l4⟩ := hcells _ hx8; obtain ⟨m0, m1, m2, m3, m4⟩ := hcells _ (hx8.alloc (.cells #[.int .i64 ((wv + ev * xv) % q)] 3)))
        | (refine step_app1L intSl (by rfl) _ _ (by rfl) (hX.ext (by repeat (first | with_reducible assumption | with_reducible exact Ext.refl _ | with_reducible apply Ext.alloc | with_reducible apply Ext.drew | with_reducible apply Ext.drewN))) (by rfl) _ (by rfl) (by first | exact cell_new (w := w8) rfl (by repeat (first | with_reducible assumption | with_reducible exact Ext.refl _ | with_reducible apply Ext.alloc | with_reducible apply Ext.drew | with_reducible apply Ext.drewN)) | exact cell_new (w := w8.drew) rfl (by repeat (first | with_reducible assumption | with_reducible exact Ext.refl _ | with_reducible apply Ext.alloc | with_reducible apply Ext.drew | with_reducible apply Ext.drewN))) (by omega) (by first | exact Nat.le_refl _ | omega | (simp; done) | (simp; omega)) ?_; intro X2 x2 w9 hX2 hon9 hli9; have BP9 := Blk.only (Blk.ext BPr (by repeat (first | with_reducible assumption | with_reducible exact Ext.refl _ | with_reducible apply Ext.alloc | with_reducible apply Ext.drew | with_reducible apply Ext.drewN))) hon9 (fun hh => BPr.off_own hX.w (by decide) hh); have F9 := BP9.frozen; have C9 := BP9.cells; have ho9 := Only.thenHigh (Only.thenExt hon7 (by repeat (first | with_reducible assumption | with_reducible exact Ext.refl _ | with_reducible apply Ext.alloc | with_reducible apply Ext.drew | with_reducible apply Ext.drewN))) hon9 hXh))
      all_goals
        have BP10 := BP9.set_ 2 (.slice X2 (j + 1) x2)
        have hO10 := hX2.keepBlk BP9 (by decide) ((Only.refl [gp] w9).setCell (p := ⟨gp, 2, none⟩) (by simp) (.slice X2 (j + 1) x2))
        have ho10 := ho9.setCell (p := ⟨gp, 2, none⟩) (by simp) (.slice X2 (j + 1) x2)
        rw [HRS.out] at hO10
        go_wp2
        go_roundw
        case rel => exact ⟨j + 1, X2, x2, by omega, by go_num, BP10, hO10, ho10⟩
        case measure => simp [intOf]; omega
    · obtain rfl : j = m := by omega
      rw [List.take_of_length_le (by have := HSL.out; have := HCL.out; omega), List.take_of_length_le (by have := HSL.out; have := HCL.out; omega)] at hX
      have B1r := B17.only hon7 (by simp; omega)
      have C1 := B1r.cells
      have F1 := B1r.frozen
      have CPr := BPr.cells
      have hne : w.heap.size + 1 ≠ gp := by omega
      have CZ := (((B1r.set_ 0 (.slice A1 n c1)).set_ 1 (.slice (some ⟨g6, 0, none⟩) 1 1)).set_ 2 (.slice X j x)).cells
      have o18 := o17.keepBlk BP7 (by decide) hon7
      have o28 := o27.keepBlk BP7 (by decide) hon7
      have hon9 : Only [w.heap.size + 1] wr (((wr.setCell ⟨w.heap.size + 1, 0, none⟩ (.slice A1 n c1)).setCell ⟨w.heap.size + 1, 1, none⟩ (.slice (some ⟨g6, 0, none⟩) 1 1)).setCell ⟨w.heap.size + 1, 2, none⟩ (.slice X j x)) := (((Only.refl _ _).setCell (p := ⟨w.heap.size + 1, 0, none⟩) (by simp) _).setCell (p := ⟨w.heap.size + 1, 1, none⟩) (by simp) _).setCell (p := ⟨w.heap.size + 1, 2, none⟩) (by simp) _
      go_wp2
      refine bodyPost_ret (v := .tuple #[.agg #[.slice A1 n c1, .slice (some ⟨g6, 0, none⟩) 1 1, .slice X j x], .bool true]) (by simp [results, Try.results140, CZ, go_sem]) rfl ⟨A1, c1, some ⟨g6, 0, none⟩, 1, X, x, rfl, (o18.keepBlk B1r (by decide) hon9).sl, (o28.keepBlk B1r (by decide) hon9).sl, (hX.keepBlk B1r (by decide) hon9).sl, E8.only hon9 (fun b hb => by simp at hb; omega)⟩
set_option maxRecDepth 100000 in
set_option maxHeartbeats 8000000 in
theorem sProve_any (p q g : Int) (s : ByteArray) (A D F : Option Addr) (n c m d f : Nat) (rows : List (List Int)) (xs ws : List Int) (w : World) (h : grpB p q g = true) (hs : s.size ≤ 40) (hr : rowsB p q rows = true) (ha : RdSS w A rows) (hl : rows.length = n) (hb : SlI w D m d xs) (hc : SlI w F m f ws) (hm : (rows.headD []).length = m) (hx : allR xs 0 (q - 1) = true) (hw : allR ws 0 (q - 1) = true) :
    Calls Try.prog 70 #[.agg #[.int .i64 p, .int .i64 q, .int .i64 g], .string s, .slice A n c, .slice D m d, .slice F m f] w fun en w' => ∃ A1 c1 A2 c2 A3 c3, en = .returned (.agg #[.slice A1 n c1, .slice A2 1 c2, .slice A3 m c3]) ∧ SlI w' A1 n c1 (imgL p q rows ws) ∧ SlI w' A2 1 c2 [lpE p q g s rows xs ws] ∧ SlI w' A3 m c3 (rspL q (lpE p q g s rows xs ws) ws xs) ∧ Ext w w' := by
  have hG := grpB_in h
  have hq2 := hG.q2
  have hp9 := hG.p9
  have hqp := hG.qp
  have hbd := hG.bd
  have hri := rows_in hr
  rw [hm] at hri
  obtain ⟨hn1, hk1⟩ := And.intro hri.n hri.k
  rw [hl] at hn1
  have BR := Lib.hid (hri.rg hG.p9)
  have BX := Lib.hid (allR_iff.1 hx)
  have BW := Lib.hid (allR_iff.1 hw)
  have BX9 : Hid (∀ x ∈ xs, -9000000000000000000 ≤ x ∧ x ≤ 9000000000000000000) := fun x hx => by have := BX.out x hx; omega
  have BW9 : Hid (∀ x ∈ ws, -9000000000000000000 ≤ x ∧ x ≤ 9000000000000000000) := fun x hx => by have := BW.out x hx; omega
  have HRL : Hid (∀ r ∈ rows, r.length ≤ m) := fun r hr => by have := (hri.all r hr).1; omega
  have hp2 : 2 ≤ p := by have := hG.p3; omega
  have b1 : ∀ x ∈ imgL p q rows xs, 0 ≤ x ∧ x ≤ 3000000000 := fun x hx => by have := imgL_rg hp2 x hx; omega
  have b2 : ∀ x ∈ imgL p q rows ws, 0 ≤ x ∧ x ≤ 3000000000 := fun x hx => by have := imgL_rg hp2 x hx; omega
  obtain ⟨hck, hall, hlen⟩ := stm_ok h hs hri (imgL_length p q rows xs) (imgL_length p q rows ws) b1 b2
  have htl : tot rows + n + n = (stmL rows (imgL p q rows xs) (imgL p q rows ws)).length := by rw [stm_len, imgL_length, imgL_length, hl]
  have htot : tot rows ≤ 100 := by omega
  obtain ⟨ev, hev⟩ : ∃ ev, lpE p q g s rows xs ws = ev := ⟨_, rfl⟩
  have hevr := chV_rg h s (stmL rows (imgL p q rows xs) (imgL p q rows ws))
  have hev2 : chV p q g s (stmL rows (imgL p q rows xs) (imgL p q rows ws)) = ev := hev
  rw [hev2] at hevr
  rw [hev]
  have hl1 : (imgL p q rows xs).length = n := by rw [imgL_length, hl]
  have hl2 : (imgL p q rows ws).length = n := by rw [imgL_length, hl]
  generalize himx : imgL p q rows xs = imx at *
  generalize himw : imgL p q rows ws = imw at *
  have HIX := Lib.hid himx
  have HIW := Lib.hid himw
  have HL1 := Lib.hid hl1
  have HL2 := Lib.hid hl2
  have HCK := Lib.hid hck
  have HALL := Lib.hid hall
  have HEV := Lib.hid hev2
  have HGB := Lib.hid h
  have HL := Lib.hid hl
  have HTL := Lib.hid htl
  have HST : Hid ([rows.flatten, imx, imw].flatten = stmL rows imx imw) := by show _ = _; simp [stmL]
  have HT3 : Hid (tot [rows.flatten, imx, imw] ≤ 1000) := by show _ ≤ _; rw [← tot_flat, HST.out]; omega
  have hsl := hb.len
  have hcl := hc.len
  have hs9 : s.size ≤ 1000 := by omega
  have HSL := Lib.hid hsl
  have HCL := Lib.hid hcl
  clear hri hev hev2 himx himw hl1 hl2 hck hall hr h hm hx hw b1 b2 hl htl hsl hcl
  have E := ((Ext.refl w).alloc (.cells #[.int .i64 p, .int .i64 q, .int .i64 g] 38)).alloc (.cells #[.slice none 0 0, .slice none 0 0, .slice none 0 0] 44)
  have B0 := (Blk.new w 38 #[.int .i64 p, .int .i64 q, .int .i64 g]).alloc (.cells #[.slice none 0 0, .slice none 0 0, .slice none 0 0] 44)
  have B1 := Blk.new (w.alloc (.cells #[.int .i64 p, .int .i64 q, .int .i64 g] 38)) 44 #[.slice none 0 0, .slice none 0 0, .slice none 0 0]
  simp only [World.size_alloc] at B1
  have CC := B0.cells
  go_enter Try.func70, Try.ntmps70
  go_wp2_with fail
  generalize (w.alloc (.cells #[.int .i64 p, .int .i64 q, .int .i64 g] 38)).alloc (.cells #[.slice none 0 0, .slice none 0 0, .slice none 0 0] 44) = Wb at *
  refine (sImages_any p q g A F n c m f rows ws _ hbd (ha.ext E) HL.out (hc.rd.ext E) HCL.out (by omega) HRL.out (by omega) BR.out BW9.out).mono ?_
  rintro en w1 ⟨A1, c1, rfl, o1, hb1⟩
  rw [HIW.out] at o1
  clear CC
  have hzb := B1.lt
  have E1 := E.trans hb1
  have hgp0 := hb1.size
  have BP := Blk.new w1 44 #[.slice A1 n c1, .slice none 0 0, .slice none 0 0]
  have hal := (Ext.refl w1).alloc (.cells #[.slice A1 n c1, .slice none 0 0, .slice none 0 0] 44)
  replace E1 := E1.trans hal
  replace B0 := (B0.ext hb1).ext hal
  replace B1 := (B1.ext hb1).ext hal
  replace o1 := o1.ext hal
  have hlt2 := BP.lt
  go_wp2
  generalize w1.heap.size = gp at *
  generalize w1.alloc (.cells #[.slice A1 n c1, .slice none 0 0, .slice none 0 0] 44) = w2 at *
  clear hb1 hal
  have hS : ∀ V, Ext w2 V → V.cell? ⟨w.heap.size, 0, none⟩ = some (.int .i64 p) ∧ V.cell? ⟨w.heap.size, 1, none⟩ = some (.int .i64 q) ∧ V.cell? ⟨w.heap.size, 2, none⟩ = some (.int .i64 g) ∧ V.cell? ⟨gp, 0, none⟩ = some (.slice A1 n c1) := fun V hV => by
    have a0 := (B0.ext hV).cells
    have a1 := (BP.ext hV).cells
    exact ⟨a0 0, a0 1, a0 2, a1 0⟩
  go_region_held3 (fun V => V.cell? ⟨w.heap.size, 0, none⟩ = some (.int .i64 p) ∧ V.cell? ⟨w.heap.size, 1, none⟩ = some (.int .i64 q) ∧ V.cell? ⟨w.heap.size, 2, none⟩ = some (.int .i64 g) ∧ V.cell? ⟨gp, 0, none⟩ = some (.slice A1 n c1)) (exact hS _ (by repeat (first | with_reducible assumption | with_reducible exact Ext.refl _ | with_reducible apply Ext.alloc | with_reducible apply Ext.drew | with_reducible apply Ext.drewN)))
    (first
      | (go_at_call 142; refine (sImages_any p q g A D n c m d rows xs _ hbd (RdSS.ext ha (Ext.trans E1 (by repeat (first | with_reducible assumption | with_reducible exact Ext.refl _ | with_reducible apply Ext.alloc | with_reducible apply Ext.drew | with_reducible apply Ext.drewN)))) HL.out (RdI.ext hb.rd (Ext.trans E1 (by repeat (first | with_reducible assumption | with_reducible exact Ext.refl _ | with_reducible apply Ext.alloc | with_reducible apply Ext.drew | with_reducible apply Ext.drewN)))) HSL.out (by omega) HRL.out (by omega) BR.out BX9.out).mono ?_; rintro en w4 ⟨A4, c4, rfl, o4, hb4⟩; rw [HIX.out] at o4; have hx4 := Ext.trans (w := w2) (by repeat (first | with_reducible assumption | with_reducible exact Ext.refl _ | with_reducible apply Ext.alloc | with_reducible apply Ext.drew | with_reducible apply Ext.drewN)) hb4)
      | (go_at_call 144; have sl1 := SlI.ext o1.sl hx4; refine (sStatement_any A A4 A1 n c n c4 n c1 rows imx imw _ (RdSS.ext ha (Ext.trans E1 (Ext.trans hx4 (by repeat (first | with_reducible assumption | with_reducible exact Ext.refl _ | with_reducible apply Ext.alloc | with_reducible apply Ext.drew | with_reducible apply Ext.drewN))))) HL.out (SlI.ext o4.sl (by repeat (first | with_reducible assumption | with_reducible exact Ext.refl _ | with_reducible apply Ext.alloc | with_reducible apply Ext.drew | with_reducible apply Ext.drewN))) (SlI.ext sl1 (by repeat (first | with_reducible assumption | with_reducible exact Ext.refl _ | with_reducible apply Ext.alloc | with_reducible apply Ext.drew | with_reducible apply Ext.drewN))) (by omega) (by omega) (by omega) (by omega)).mono ?_; rintro en w5 ⟨A5, c5, rfl, o5, hb5⟩; have hx5 := Ext.trans (w := w2) (Ext.trans hx4 (by repeat (first | with_reducible assumption | with_reducible exact Ext.refl _ | with_reducible apply Ext.alloc | with_reducible apply Ext.drew | with_reducible apply Ext.drewN))) hb5)
      | (go_at_call 143; refine (hChallenge_any p q g s A5 _ c5 (stmL rows imx imw) _ HGB.out (RdI.ext o5 (by repeat (first | with_reducible assumption | with_reducible exact Ext.refl _ | with_reducible apply Ext.alloc | with_reducible apply Ext.drew | with_reducible apply Ext.drewN))) HTL.out.symm (by have := HTL.out; omega) (by omega) HALL.out).mono ?_; rintro en w6 ⟨he, hb6⟩; rw [HEV.out] at he; subst he; have hx6 := Ext.trans (w := w2) (by repeat (first | with_reducible assumption | with_reducible exact Ext.refl _ | with_reducible apply Ext.alloc | with_reducible apply Ext.drew | with_reducible apply Ext.drewN)) hb6)
      | fail)
  have E6 := E1.trans hx6
  have B06 := B0.ext hx6
  have B16 := B1.ext hx6
  have BP6 := BP.ext hx6
  have o16 := o1.ext hx6
  have o26 : OwnI (w6.alloc (.cells #[.int .i64 ev] 3)) w6.heap.size 3 (some ⟨w6.heap.size, 0, none⟩) 1 1 [ev] := ownI_lit (n := 1) [ev] rfl rfl (Nat.le_refl _) (by unfold maxLen; omega)
  have hal := (Ext.refl w6).alloc (.cells #[.int .i64 ev] 3)
  replace E6 := E6.trans hal
  replace B06 := B06.ext hal
  replace B16 := B16.ext hal
  have BPC := BP6.cells
  replace BP6 := BP6.ext hal
  replace o16 := o16.ext hal
  have hlt6 := BP6.lt
  have hz6 := hx6.size
  have FP := BP6.frozen
  have CP := BP6.cells
  have hon : Only [gp] (w6.alloc (.cells #[.int .i64 ev] 3)) ((w6.alloc (.cells #[.int .i64 ev] 3)).setCell ⟨gp, 1, none⟩ (.slice (some ⟨w6.heap.size, 0, none⟩) 1 1)) := (Only.refl _ _).setCell (p := ⟨gp, 1, none⟩) (by simp) _
  have o17 := o16.keepBlk BP6 (by decide) hon
  have o27 := o26.keepBlk BP6 (by decide) hon
  have B07 := B06.only hon (by simp; omega)
  have B17 := B16.only hon (by simp; omega)
  have E7 := E6.only hon (fun b hb => by simp at hb; omega)
  have BP7 := BP6.set_ 1 (.slice (some ⟨w6.heap.size, 0, none⟩) 1 1)
  go_wp2
  clear hS hz6 FP CP BPC BP6 B06 B16 o16 o26 E6 hal
  generalize (w6.alloc (.cells #[.int .i64 ev] 3)).setCell ⟨gp, 1, none⟩ (.slice (some ⟨w6.heap.size, 0, none⟩) 1 1) = w7 at *
  generalize w6.heap.size = g6 at *
  have hz7 := BP7.lt
  go_loopw [36] (fun i wr => ∃ (j : Nat) (X : Option Addr) (x : Nat), j ≤ m ∧ i = .int .i64 j ∧ Blk wr gp 44 #[.slice A1 n c1, .slice (some ⟨g6, 0, none⟩) 1 1, .slice X j x] ∧ OwnI wr w7.heap.size 3 X j x (rspL q ev (ws.take j) (xs.take j)) ∧ Only [gp] w7 wr) (fun i _ => m - (intOf i).toNat)
  case atStart => exact ⟨0, none, 0, Nat.zero_le _, rfl, BP7, OwnI.nil _ _ _, Only.refl _ _⟩
  case round =>
    obtain ⟨j, X, x, hj, rfl, BPr, hX, hon7⟩ := hrel
    have E8 := E7.only hon7 (fun b hb => by simp at hb; omega)
    by_cases hlt : j < m
    · have hjx : j < xs.length := by have := HSL.out; omega
      have hjw : j < ws.length := by have := HCL.out; omega
      obtain ⟨ad, rfl, hcx⟩ := (hb.rd.ext E8).at_ hjx
      obtain ⟨bd, rfl, hcw⟩ := (hc.rd.ext E8).at_ hjw
      obtain ⟨x1, x2⟩ := BX.out _ (List.getElem_mem hjx)
      obtain ⟨y1, y2⟩ := BW.out _ (List.getElem_mem hjw)
      have HRS := Lib.hid (rspL_take (q := q) (e := ev) hjw hjx)
      generalize xs[j] = xv at *
      generalize ws[j] = wv at *
      have hpd := intmul_bd ev xv (by omega) (by omega) (by omega) (by omega)
      have hpd2 : ev * xv ≤ 4000000000000000000 := by
        have h1 : ev * xv ≤ 2000000000 * xv := Int.mul_le_mul_of_nonneg_right (by omega) (by omega)
        omega
      have hs1 : IntKind.i64.wrap (ev * xv) = ev * xv := by rw [IntKind.wrap_i64]; omega
      have hs2 : IntKind.i64.wrap (wv + ev * xv) = wv + ev * xv := by rw [IntKind.wrap_i64]; omega
      have hj0 : (0 : Int) ≤ (j : Int) := by omega
      have hjm : (j : Int) < (m : Int) := by omega
      have hzr := hon7.size
      have B0r := B07.only hon7 (by simp; omega)
      have hXh := hX.high
      have hXl := hX.low
      have hcells : ∀ V, Ext wr V → V.cell? ⟨w.heap.size, 0, none⟩ = some (.int .i64 p) ∧ V.cell? ⟨w.heap.size, 1, none⟩ = some (.int .i64 q) ∧ V.cell? ⟨w.heap.size, 2, none⟩ = some (.int .i64 g) ∧ V.cell? ⟨gp, 2, none⟩ = some (.slice X j x) ∧ V.cell? (bd.add j) = some (.int .i64 wv) := fun V hV => by
        have a0 := (B0r.ext hV).cells
        have a1 := (BPr.ext hV).cells
        exact ⟨a0 0, a0 1, a0 2, a1 2, hV.cell hcw⟩
      obtain ⟨k0, k1, k2, k3, k4⟩ := hcells _ (Ext.refl wr)
      obtain ⟨j0, j1, j2, j3, j4⟩ := hcells _ ((Ext.refl wr).drew)
      have hq0 : (q == 0) = false := by simp; omega
      have hqn : ¬ q = 0 := by omega
      have hs3 : (wv + ev * xv).tmod q = (wv + ev * xv) % q := Int.tmod_eq_emod_of_nonneg (by omega)
      have hs4 : IntKind.i64.wrap ((wv + ev * xv) % q) = (wv + ev * xv) % q := by have h9 := emod_bd (x := wv + ev * xv) (q := q) (by omega); rw [IntKind.wrap_i64]; omega
      obtain ⟨l0, l1, l2, l3, l4⟩ := hcells _ ((Ext.refl wr).alloc (.cells #[.int .i64 ((wv + ev * xv) % q)] 3))
      go_wp2
      go_region_law (refine step_app1L intSl (by rfl) _ _ (by rfl) (hX.ext (by repeat (first | with_reducible assumption | with_reducible exact Ext.refl _ | with_reducible apply Ext.alloc | with_reducible apply Ext.drew | with_reducible apply Ext.drewN))) (by rfl) _ (by rfl) (by first | exact cell_new (w := wr) rfl (by repeat (first | with_reducible assumption | with_reducible exact Ext.refl _ | with_reducible apply Ext.alloc | with_reducible apply Ext.drew | with_reducible apply Ext.drewN)) | exact cell_new (w := wr.drew) rfl (by repeat (first | with_reducible assumption | with_reducible exact Ext.refl _ | with_reducible apply Ext.alloc | with_reducible apply Ext.drew | with_reducible apply Ext.drewN))) (by omega) (by first | exact Nat.le_refl _ | omega | (simp; done) | (simp; omega)) ?_; intro X2 x2 w9 hX2 hon9 hli9; have BP9 := Blk.only (Blk.ext BPr (by repeat (first | with_reducible assumption | with_reducible exact Ext.refl _ | with_reducible apply Ext.alloc | with_reducible apply Ext.drew | with_reducible apply Ext.drewN))) hon9 (fun hh => BPr.off_own hX.w (by decide) hh); have F9 := BP9.frozen; have C9 := BP9.cells; have ho9 := Only.thenHigh (Only.thenExt hon7 (by repeat (first | with_reducible assumption | with_reducible exact Ext.refl _ | with_reducible apply Ext.alloc | with_reducible apply Ext.drew | with_reducible apply Ext.drewN))) hon9 hXh)
      all_goals
        have BP10 := BP9.set_ 2 (.slice X2 (j + 1) x2)
        have hO10 := hX2.keepBlk BP9 (by decide) ((Only.refl [gp] w9).setCell (p := ⟨gp, 2, none⟩) (by simp) (.slice X2 (j + 1) x2))
        have ho10 := ho9.setCell (p := ⟨gp, 2, none⟩) (by simp) (.slice X2 (j + 1) x2)
        rw [HRS.out] at hO10
        go_wp2
        go_roundw
        case rel => exact ⟨j + 1, X2, x2, by omega, by go_num, BP10, hO10, ho10⟩
        case measure => simp [intOf]; omega
    · obtain rfl : j = m := by omega
      rw [List.take_of_length_le (by have := HSL.out; have := HCL.out; omega), List.take_of_length_le (by have := HSL.out; have := HCL.out; omega)] at hX
      have B1r := B17.only hon7 (by simp; omega)
      have C1 := B1r.cells
      have F1 := B1r.frozen
      have CPr := BPr.cells
      have hne : w.heap.size + 1 ≠ gp := by omega
      have CZ := (((B1r.set_ 0 (.slice A1 n c1)).set_ 1 (.slice (some ⟨g6, 0, none⟩) 1 1)).set_ 2 (.slice X j x)).cells
      have o18 := o17.keepBlk BP7 (by decide) hon7
      have o28 := o27.keepBlk BP7 (by decide) hon7
      have hon9 : Only [w.heap.size + 1] wr (((wr.setCell ⟨w.heap.size + 1, 0, none⟩ (.slice A1 n c1)).setCell ⟨w.heap.size + 1, 1, none⟩ (.slice (some ⟨g6, 0, none⟩) 1 1)).setCell ⟨w.heap.size + 1, 2, none⟩ (.slice X j x)) := (((Only.refl _ _).setCell (p := ⟨w.heap.size + 1, 0, none⟩) (by simp) _).setCell (p := ⟨w.heap.size + 1, 1, none⟩) (by simp) _).setCell (p := ⟨w.heap.size + 1, 2, none⟩) (by simp) _
      go_wp2
      refine bodyPost_ret (v := .agg #[.slice A1 n c1, .slice (some ⟨g6, 0, none⟩) 1 1, .slice X j x]) (by simp [results, Try.results70, CZ, go_sem]) rfl ⟨A1, c1, some ⟨g6, 0, none⟩, 1, X, x, rfl, (o18.keepBlk B1r (by decide) hon9).sl, (o28.keepBlk B1r (by decide) hon9).sl, (hX.keepBlk B1r (by decide) hon9).sl, E8.only hon9 (fun b hb => by simp at hb; omega)⟩
end Go.Proofs.Ytpfccboighdcbaa
