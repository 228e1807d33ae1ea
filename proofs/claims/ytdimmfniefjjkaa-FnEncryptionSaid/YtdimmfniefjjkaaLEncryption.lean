/- The law FnEncryption returns true for every input. It holds without a condition. (Printed by tools/gen_lenc.py.) -/
import Derived.Test.YtdimmfniefjjkaaRows
import Derived.Test.YtdimmfniefjjkaaEncG
import Derived.Test.YtdimmfniefjjkaaCurE
import Derived.Test.YtdimmfniefjjkaaOpenB
import Derived.Test.YtdimmfniefjjkaaFacts
import Derived.Deep.CutRange
namespace Go.Proofs.Ytdimmfniefjjkaa
open Go.ChangeShapes Go.WideShapes Go.ChangeAt Go.RowKit
set_option linter.unusedVariables false

theorem Ext.setCellr {w w' : World} {p : Addr} {u : Value} (hp : w.heap.size ≤ p.block) (h : Ext w w') : Ext w (w'.setCell p u) := h.setCell hp u
theorem qMod_any (a m : Int) (w : World) (ha : 0 ≤ a) (ha2 : a ≤ 9223372036854775807) (hm : 1 ≤ m) (hm2 : m ≤ 4000000000000) : Calls Try.prog 33 #[.int .i64 a, .int .i64 m] w fun e w' => e = .returned (.int .i64 (a % m)) ∧ w = w' := by
  have hm0 : (m == 0) = false := by simp; omega
  have h1 := Int.emod_nonneg a (show m ≠ 0 by omega)
  have h2 := Int.emod_lt_of_pos a (show 0 < m by omega)
  have h3 : (a % m + m) % m = a % m := mod_nonneg
  have H3 := Lib.hid h3
  clear h3
  go_enter Try.func33, Try.ntmps33
  go_wp2
  go_ret
  exact ⟨ret_int H3.out, rfl⟩
/-- Of a valid encryption. -/
theorem enc_el {p q g k m r : Int} (h : (grpB p q g && (elB p q k && (elB p q m && inR r 0 (q - 1)))) = true) : (grpB p q g && (elB p q (gencA p q g r) && elB p q (gencB p q k m r))) = true := by
  simp only [Bool.and_eq_true] at h
  obtain ⟨h1, h2, h3, h4⟩ := h
  rw [h1, gencA, gencB, elB_pw h1 (elB_gen h1), elB_mul h1 h3 (elB_pw h1 h2)]
  rfl
/-- Of a decryption: what the law asks. -/
theorem dec_law {p q g x a b : Int} (h : (grpB p q g && (inR x 0 (q - 1) && (elB p q a && elB p q b))) = true) (n s : Nat) :
    (1 ≤ q ∧ q ≤ 2000000000) ∧ (grpB p q g && (elB p q g && inR x 0 (q - 1))) = true ∧
    (grpB p q g && (elB p q (gpw p q g x) && ((elB p q a && elB p q b) && inR ((n : Int) % q) 0 (q - 1)))) = true ∧
    ((grpB p q g && (inR x 0 (q - 1) && (elB p q (gmul p [a, gencA p q g ((n : Int) % q)]) && elB p q (gmul p [b, gencB p q (gpw p q g x) 1 ((n : Int) % q)])))) = true ∧ gdec p q x (gmul p [a, gencA p q g ((n : Int) % q)]) (gmul p [b, gencB p q (gpw p q g x) 1 ((n : Int) % q)]) = gdec p q x a b) ∧
    (grpB p q g && (elB p q (gpw p q g x) && (elB p q (gdec p q x a b) && inR ((s : Int) % q) 0 (q - 1)))) = true ∧
    ((grpB p q g && (inR x 0 (q - 1) && (elB p q (gencA p q g ((s : Int) % q)) && elB p q (gencB p q (gpw p q g x) (gdec p q x a b) ((s : Int) % q))))) = true ∧ gdec p q x (gencA p q g ((s : Int) % q)) (gencB p q (gpw p q g x) (gdec p q x a b) ((s : Int) % q)) = gdec p q x a b) := by
  simp only [Bool.and_eq_true] at h
  obtain ⟨h1, h2, h3, h4⟩ := h
  have hG := grpB_in h1
  have hq1 := hG.q2
  have hq2 := hG.qp
  have hp := hG.p9
  have i1 : inR ((n : Int) % q) 0 (q - 1) = true := inR_iff.2 ⟨Int.emod_nonneg _ (by omega), by have := Int.emod_lt_of_pos (n : Int) (show 0 < q by omega); omega⟩
  have i2 : inR ((s : Int) % q) 0 (q - 1) = true := inR_iff.2 ⟨Int.emod_nonneg _ (by omega), by have := Int.emod_lt_of_pos (s : Int) (show 0 < q by omega); omega⟩
  have g1 := elB_gen h1
  have g2 : elB p q (gpw p q g x) = true := elB_pw h1 g1
  have g3 : elB p q (gdec p q x a b) = true := elB_mul h1 h4 (elB_pw h1 (elB_pw h1 h3))
  obtain ⟨l1, l2⟩ := enc_laws h1 h2 h3 h4 i1 i2
  have e1 : elB p q (gencA p q g ((n : Int) % q)) = true := elB_pw h1 g1
  have e2 : elB p q (gencB p q (gpw p q g x) 1 ((n : Int) % q)) = true := elB_mul h1 (elB_one h1) (elB_pw h1 g2)
  have e3 : elB p q (gencA p q g ((s : Int) % q)) = true := elB_pw h1 g1
  have e4 : elB p q (gencB p q (gpw p q g x) (gdec p q x a b) ((s : Int) % q)) = true := elB_mul h1 g3 (elB_pw h1 g2)
  refine ⟨⟨by omega, by omega⟩, ?_, ?_, ⟨?_, l1⟩, ?_, ⟨?_, l2⟩⟩
  · simp [h1, h2, g1]
  · simp [h1, h3, h4, g2, i1]
  · simp [h1, h2, elB_mul h1 h3 e1, elB_mul h1 h4 e2]
  · simp [h1, g2, g3, i2]
  · simp [h1, h2, e3, e4]

namespace lawEncryption
set_option maxRecDepth 100000 in
set_option maxHeartbeats 2000000 in
theorem walk (A0 : Option Addr) (l0 : List Int) (c0 : Nat) (A1 : Option Addr) (l1 : List Int) (c1 : Nat) (w : World) (r0 : RdB w A0 l0) (b0 : l0.length ≤ c0) (m0 : c0 ≤ maxLen) (z0 : A0 = none → c0 = 0) (f0 : ∀ n ∈ l0, 0 ≤ n ∧ n ≤ 255) (r1 : RdB w A1 l1) (b1 : l1.length ≤ c1) (m1 : c1 ≤ maxLen) (z1 : A1 = none → c1 = 0) (f1 : ∀ n ∈ l1, 0 ≤ n ∧ n ≤ 255) :
    Calls Try.prog 4 #[.slice A0 l0.length c0, .slice A1 l1.length c1] w fun e w' => e = .returned (.bool true) ∧ Ext w w' := by
  clear z0 z1
  generalize hn0 : l0.length = n0 at *
  generalize hn1 : l1.length = n1 at *
  have Hn0 := Lib.hid hn0
  have Hn1 := Lib.hid hn1
  clear hn0 hn1
  unfold maxLen at m0 m1
  by_cases hbig : (1048576 : Int) < wrap64 ((n0 : Int) + n1)
  · go_enter Try.func4, Try.ntmps4
    go_wp2
    go_ret
    exact ⟨rfl, Ext.refl _⟩
  have hn1b : n1 ≤ 9223372036854775807 := by omega
  have hn0b : n0 ≤ 9223372036854775807 := by omega
  go_enter Try.func4, Try.ntmps4
  go_wp2_with fail
  refine (DrawDecryptElement_any A0 n0 c0 l0 _ r0 Hn0.out hn0b f0).mono ?_
  rintro e w1 ⟨P, Q, G, x, a, b, rfl, E⟩
  have B5 := (Blk.new w1 37 #[.int .i64 P, .int .i64 Q, .int .i64 G]).alloc (.cells #[.int .i64 a, .int .i64 b] 39)
  have B7 := Blk.new (w1.alloc (.cells #[.int .i64 P, .int .i64 Q, .int .i64 G] 37)) 39 #[.int .i64 a, .int .i64 b]
  simp only [World.size_alloc] at B7
  replace E := (E.alloc (.cells #[.int .i64 P, .int .i64 Q, .int .i64 G] 37)).alloc (.cells #[.int .i64 a, .int .i64 b] 39)
  obtain ⟨ok, hok⟩ : ∃ ok, (grpB P Q G && (inR x 0 (Q - 1) && (elB P Q a && elB P Q b))) = ok := ⟨_, rfl⟩
  obtain ⟨m, hm⟩ : ∃ m, (if ok = true then gdec P Q x a b else 0) = m := ⟨_, rfl⟩
  have HOK := Lib.hid hok
  have HM := Lib.hid hm
  clear hok hm
  have C5 := B5.cells
  have C7 := B7.cells
  go_wp2_with fail
  refine (iDecryptElement_any P Q G x a b _).mono ?_
  rintro e w2 ⟨he, hb⟩
  rw [HOK.out, HM.out] at he; subst he
  replace E := E.trans hb
  replace B5 := B5.ext hb
  replace B7 := B7.ext hb
  clear hb C5 C7
  have C5 := B5.cells
  have C7 := B7.cells
  go_wp2_with fail
  refine (sDecryptElement_any P Q G x a b _).mono ?_
  rintro e w3 ⟨he, hb⟩
  rw [HOK.out, HM.out] at he; subst he
  replace E := E.trans hb
  replace B5 := B5.ext hb
  replace B7 := B7.ext hb
  clear hb C5 C7
  go_wp2_with fail
  refine (DrawEncryptElement_any A1 n1 c1 l1 _ (r1.ext E) Hn1.out hn1b f1).mono ?_
  rintro e w4 ⟨P2, Q2, G2, key, msg, r, rfl, hb⟩
  replace E := E.trans hb
  replace B5 := B5.ext hb
  replace B7 := B7.ext hb
  have BH := Blk.new w4 37 #[.int .i64 P2, .int .i64 Q2, .int .i64 G2]
  have hbm := (Ext.refl w4).alloc (.cells #[.int .i64 P2, .int .i64 Q2, .int .i64 G2] 37)
  replace E := E.trans hbm
  replace B5 := B5.ext hbm
  replace B7 := B7.ext hbm
  clear hb hbm
  obtain ⟨one, hone⟩ : ∃ one, (grpB P2 Q2 G2 && (elB P2 Q2 key && (elB P2 Q2 msg && inR r 0 (Q2 - 1)))) = one := ⟨_, rfl⟩
  obtain ⟨y, hy⟩ : ∃ y, (if one = true then gencA P2 Q2 G2 r else 0) = y := ⟨_, rfl⟩
  obtain ⟨z, hz⟩ : ∃ z, (if one = true then gencB P2 Q2 key msg r else 0) = z := ⟨_, rfl⟩
  have HVC : Hid (one = true → (grpB P2 Q2 G2 && (elB P2 Q2 y && elB P2 Q2 z)) = true) := fun h => by
    rw [h] at hone hy hz
    rw [if_pos rfl] at hy hz
    rw [← hy, ← hz]
    exact enc_el hone
  have HONE := Lib.hid hone
  have HY := Lib.hid hy
  have HZ := Lib.hid hz
  clear hone hy hz
  have CH := BH.cells
  go_wp2_with fail
  refine (iEncryptElement_any P2 Q2 G2 key msg r _).mono ?_
  rintro e w5 ⟨he, hb⟩
  rw [HONE.out, HY.out, HZ.out] at he; subst he
  replace E := E.trans hb
  replace B5 := B5.ext hb
  replace B7 := B7.ext hb
  replace BH := BH.ext hb
  have BD := Blk.new w5 39 #[.int .i64 y, .int .i64 z]
  have hbm := (Ext.refl w5).alloc (.cells #[.int .i64 y, .int .i64 z] 39)
  replace E := E.trans hbm
  replace B5 := B5.ext hbm
  replace B7 := B7.ext hbm
  replace BH := BH.ext hbm
  clear hb hbm CH
  have CH := BH.cells
  go_wp2_with fail
  refine (sEncryptElement_any P2 Q2 G2 key msg r _).mono ?_
  rintro e w6 ⟨he, hb⟩
  rw [HONE.out, HY.out, HZ.out] at he; subst he
  replace E := E.trans hb
  replace B5 := B5.ext hb
  replace B7 := B7.ext hb
  replace BH := BH.ext hb
  replace BD := BD.ext hb
  have BE := Blk.new w6 39 #[.int .i64 y, .int .i64 z]
  have hbm := (Ext.refl w6).alloc (.cells #[.int .i64 y, .int .i64 z] 39)
  replace E := E.trans hbm
  replace B5 := B5.ext hbm
  replace B7 := B7.ext hbm
  replace BH := BH.ext hbm
  replace BD := BD.ext hbm
  clear hb hbm CH HONE HY HZ
  have CH := BH.cells
  have CD := BD.cells
  have CE := BE.cells
  cases one
  · clear HVC
    cases ok
    · go_wp2
      go_ret
      exact ⟨rfl, E⟩
    · obtain ⟨⟨q1, q2⟩, k1, k2, ⟨k3, k4⟩, k5, ⟨k6, k7⟩⟩ := dec_law HOK.out n1 n0
      have hmm : gdec P Q x a b = m := by have := HM.out; rw [if_pos rfl] at this; exact this
      rw [hmm] at k4 k5 k6 k7
      have K1 := Lib.hid k1
      have K2 := Lib.hid k2
      have K3 := Lib.hid k3
      have K4 := Lib.hid k4
      have K5 := Lib.hid k5
      have K6 := Lib.hid k6
      have K7 := Lib.hid k7
      clear k1 k2 k3 k4 k5 k6 k7 hmm HM
      have C5 := B5.cells
      go_upto_region 16 with (go_at_call 31; refine (iKeyOf_any P Q G x _).mono ?_; rintro e wa ⟨he, hb⟩; rw [K1.out, if_pos rfl] at he; subst he)
      obtain ⟨key2, hkey2⟩ : ∃ k, gpw P Q G x = k := ⟨_, rfl⟩
      rw [hkey2] at K2 K3 K4 K5 K6 K7 ⊢
      replace E := E.trans hb
      replace B5 := B5.ext hb
      replace B7 := B7.ext hb
      clear hb C5 hkey2 K1
      generalize hg5 : w1.heap.size = g5 at *
      obtain ⟨ag1, hag1⟩ : ∃ v, gmul P [a, gencA P Q G ((n1 : Int) % Q)] = v := ⟨_, rfl⟩
      obtain ⟨ag2, hag2⟩ : ∃ v, gmul P [b, gencB P Q key2 1 ((n1 : Int) % Q)] = v := ⟨_, rfl⟩
      rw [hag1, hag2] at K3 K4
      have HG1 := Lib.hid hag1
      have HG2 := Lib.hid hag2
      obtain ⟨fr1, hfr1⟩ : ∃ v, gencA P Q G ((n0 : Int) % Q) = v := ⟨_, rfl⟩
      obtain ⟨fr2, hfr2⟩ : ∃ v, gencB P Q key2 m ((n0 : Int) % Q) = v := ⟨_, rfl⟩
      rw [hfr1, hfr2] at K6 K7
      have HR1 := Lib.hid hfr1
      have HR2 := Lib.hid hfr2
      clear hag1 hag2 hfr1 hfr2 hg5

      have hS : ∀ V, Ext wa V → V.cell? ⟨g5, 0, none⟩ = some (.int .i64 P) ∧ V.cell? ⟨g5, 1, none⟩ = some (.int .i64 Q) ∧ V.cell? ⟨g5, 2, none⟩ = some (.int .i64 G) ∧ V.cell? ⟨g5 + 1, 0, none⟩ = some (.int .i64 a) ∧ V.cell? ⟨g5 + 1, 1, none⟩ = some (.int .i64 b) := fun V hV => by
        have a0 := (B5.ext hV).cells
        have a1 := (B7.ext hV).cells
        exact ⟨a0 0, a0 1, a0 2, a1 0, a1 1⟩
      go_cut [22, 23] from 112 to 123 (fun c o wx => ∃ k, c = .pointer (some ⟨k, 0, none⟩) ∧ o = .bool true ∧ Blk wx k 39 #[.int .i64 ag1, .int .i64 ag2] ∧ Ext wa wx)
      case first =>
        go_region_held3 (fun V => V.cell? ⟨g5, 0, none⟩ = some (.int .i64 P) ∧ V.cell? ⟨g5, 1, none⟩ = some (.int .i64 Q) ∧ V.cell? ⟨g5, 2, none⟩ = some (.int .i64 G) ∧ V.cell? ⟨g5 + 1, 0, none⟩ = some (.int .i64 a) ∧ V.cell? ⟨g5 + 1, 1, none⟩ = some (.int .i64 b)) (exact hS _ (by repeat (first | with_reducible assumption | with_reducible exact Ext.refl _ | with_reducible apply Ext.alloc | with_reducible apply Ext.drew | with_reducible apply Ext.drewN | with_reducible refine Ext.setCellr ?_ ?_ | (show _ ≤ _; first | omega | (simp; done) | (simp; omega)))))
          (first
            | (go_at_call 33; refine (qMod_any (n1 : Int) Q _ (by omega) (by omega) (by omega) (by omega)).mono ?_; rintro e1 wb ⟨rfl, rfl⟩)
            | (go_at_call 32; refine (iReencrypt_any P Q G key2 a b ((n1 : Int) % Q) _).mono ?_; rintro e2 wz ⟨he, hb⟩; rw [K2.out, if_pos rfl, if_pos rfl, HG1.out, HG2.out] at he; subst he; have hx := Ext.trans (w := wa) (by repeat (first | with_reducible assumption | with_reducible exact Ext.refl _ | with_reducible apply Ext.alloc | with_reducible apply Ext.drew | with_reducible apply Ext.drewN | with_reducible refine Ext.setCellr ?_ ?_ | (show _ ≤ _; first | omega | (simp; done) | (simp; omega)))) hb; (first | (have BN := Blk.ext (Blk.drew (Blk.new wa 39 #[.int .i64 0, .int .i64 0])) hb; have hxN := hx; have hkN : wa.heap.size ≤ wa.heap.size := Nat.le_refl _) | (have BN := Blk.new wz 39 #[.int .i64 0, .int .i64 0]; have hxN := hx.alloc (.cells #[.int .i64 0, .int .i64 0] 39); have hkN := hx.size) | fail); have FN := BN.frozen; have CN := BN.cells)
            | fail)
        all_goals
          go_wp2
          go_meet
          first | exact ⟨_, rfl, rfl, (BN.set_ 0 (.int .i64 ag1)).set_ 1 (.int .i64 ag2), hxN.then (below_two _ _ _) hkN⟩ | exact ⟨_, rfl, rfl, Blk.new wz 39 #[.int .i64 ag1, .int .i64 ag2], hx.alloc _⟩
      case' rest =>
        obtain ⟨k, rfl, rfl, BN, hb⟩ := hcut
        replace E := E.trans hb
        replace B5 := B5.ext hb
        replace B7 := B7.ext hb
        clear hb hS
        have C5 := B5.cells
        have CN := BN.cells

        go_upto_region 18 with (go_at_call 25; refine (iDecryptElement_any P Q G x ag1 ag2 _).mono ?_; rintro e wd ⟨he, hb⟩; rw [K3.out, if_pos rfl, K4.out] at he; subst he)
        replace E := E.trans hb
        replace B5 := B5.ext hb
        clear hb C5 CN BN B7
        have hS : ∀ V, Ext wd V → V.cell? ⟨g5, 0, none⟩ = some (.int .i64 P) ∧ V.cell? ⟨g5, 1, none⟩ = some (.int .i64 Q) ∧ V.cell? ⟨g5, 2, none⟩ = some (.int .i64 G) := fun V hV => by
          have a0 := (B5.ext hV).cells
          exact ⟨a0 0, a0 1, a0 2⟩
        go_cut [26, 27] from 131 to 142 (fun c o wx => ∃ k, c = .pointer (some ⟨k, 0, none⟩) ∧ o = .bool true ∧ Blk wx k 39 #[.int .i64 fr1, .int .i64 fr2] ∧ Ext wd wx)
        case first =>
          go_region_held3 (fun V => V.cell? ⟨g5, 0, none⟩ = some (.int .i64 P) ∧ V.cell? ⟨g5, 1, none⟩ = some (.int .i64 Q) ∧ V.cell? ⟨g5, 2, none⟩ = some (.int .i64 G)) (exact hS _ (by repeat (first | with_reducible assumption | with_reducible exact Ext.refl _ | with_reducible apply Ext.alloc | with_reducible apply Ext.drew | with_reducible apply Ext.drewN | with_reducible refine Ext.setCellr ?_ ?_ | (show _ ≤ _; first | omega | (simp; done) | (simp; omega)))))
            (first
              | (go_at_call 33; refine (qMod_any (n0 : Int) Q _ (by omega) (by omega) (by omega) (by omega)).mono ?_; rintro e1 wb ⟨rfl, rfl⟩)
              | (go_at_call 28; refine (iEncryptElement_any P Q G key2 m ((n0 : Int) % Q) _).mono ?_; rintro e2 wz ⟨he, hb⟩; rw [K5.out, if_pos rfl, if_pos rfl, HR1.out, HR2.out] at he; subst he; have hx := Ext.trans (w := wd) (by repeat (first | with_reducible assumption | with_reducible exact Ext.refl _ | with_reducible apply Ext.alloc | with_reducible apply Ext.drew | with_reducible apply Ext.drewN | with_reducible refine Ext.setCellr ?_ ?_ | (show _ ≤ _; first | omega | (simp; done) | (simp; omega)))) hb; (first | (have BN := Blk.ext (Blk.drew (Blk.new wd 39 #[.int .i64 0, .int .i64 0])) hb; have hxN := hx; have hkN : wd.heap.size ≤ wd.heap.size := Nat.le_refl _) | (have BN := Blk.new wz 39 #[.int .i64 0, .int .i64 0]; have hxN := hx.alloc (.cells #[.int .i64 0, .int .i64 0] 39); have hkN := hx.size) | fail); have FN := BN.frozen; have CN := BN.cells)
              | fail)
          all_goals
            go_wp2
            go_meet
            first | exact ⟨_, rfl, rfl, (BN.set_ 0 (.int .i64 fr1)).set_ 1 (.int .i64 fr2), hxN.then (below_two _ _ _) hkN⟩ | exact ⟨_, rfl, rfl, Blk.new wz 39 #[.int .i64 fr1, .int .i64 fr2], hx.alloc _⟩
        case' rest =>
          obtain ⟨k, rfl, rfl, BN, hb⟩ := hcut
          replace E := E.trans hb
          replace B5 := B5.ext hb
          clear hb hS
          have C5 := B5.cells
          have CN := BN.cells

          have hself : (m == m) = true := by simp
          go_wp2_with fail
          refine (iDecryptElement_any P Q G x fr1 fr2 _).mono ?_
          rintro e we ⟨he, hb⟩
          rw [K6.out, if_pos rfl, K7.out] at he; subst he
          replace E := E.trans hb
          go_wp2
          go_ret
          exact ⟨rfl, E⟩
  · have HV := Lib.hid (HVC.out rfl)
    go_wp2_with fail
    refine (IsValidCipher_any P2 Q2 G2 y z _).mono ?_
    rintro e w7 ⟨he, hb⟩
    rw [HV.out] at he; subst he
    replace E := E.trans hb
    replace B5 := B5.ext hb
    replace B7 := B7.ext hb
    clear hb HV
    clear HVC
    cases ok
    · go_wp2
      go_ret
      exact ⟨rfl, E⟩
    · obtain ⟨⟨q1, q2⟩, k1, k2, ⟨k3, k4⟩, k5, ⟨k6, k7⟩⟩ := dec_law HOK.out n1 n0
      have hmm : gdec P Q x a b = m := by have := HM.out; rw [if_pos rfl] at this; exact this
      rw [hmm] at k4 k5 k6 k7
      have K1 := Lib.hid k1
      have K2 := Lib.hid k2
      have K3 := Lib.hid k3
      have K4 := Lib.hid k4
      have K5 := Lib.hid k5
      have K6 := Lib.hid k6
      have K7 := Lib.hid k7
      clear k1 k2 k3 k4 k5 k6 k7 hmm HM
      have C5 := B5.cells
      go_upto_region 16 with (go_at_call 31; refine (iKeyOf_any P Q G x _).mono ?_; rintro e wa ⟨he, hb⟩; rw [K1.out, if_pos rfl] at he; subst he)
      obtain ⟨key2, hkey2⟩ : ∃ k, gpw P Q G x = k := ⟨_, rfl⟩
      rw [hkey2] at K2 K3 K4 K5 K6 K7 ⊢
      replace E := E.trans hb
      replace B5 := B5.ext hb
      replace B7 := B7.ext hb
      clear hb C5 hkey2 K1
      generalize hg5 : w1.heap.size = g5 at *
      obtain ⟨ag1, hag1⟩ : ∃ v, gmul P [a, gencA P Q G ((n1 : Int) % Q)] = v := ⟨_, rfl⟩
      obtain ⟨ag2, hag2⟩ : ∃ v, gmul P [b, gencB P Q key2 1 ((n1 : Int) % Q)] = v := ⟨_, rfl⟩
      rw [hag1, hag2] at K3 K4
      have HG1 := Lib.hid hag1
      have HG2 := Lib.hid hag2
      obtain ⟨fr1, hfr1⟩ : ∃ v, gencA P Q G ((n0 : Int) % Q) = v := ⟨_, rfl⟩
      obtain ⟨fr2, hfr2⟩ : ∃ v, gencB P Q key2 m ((n0 : Int) % Q) = v := ⟨_, rfl⟩
      rw [hfr1, hfr2] at K6 K7
      have HR1 := Lib.hid hfr1
      have HR2 := Lib.hid hfr2
      clear hag1 hag2 hfr1 hfr2 hg5

      have hS : ∀ V, Ext wa V → V.cell? ⟨g5, 0, none⟩ = some (.int .i64 P) ∧ V.cell? ⟨g5, 1, none⟩ = some (.int .i64 Q) ∧ V.cell? ⟨g5, 2, none⟩ = some (.int .i64 G) ∧ V.cell? ⟨g5 + 1, 0, none⟩ = some (.int .i64 a) ∧ V.cell? ⟨g5 + 1, 1, none⟩ = some (.int .i64 b) := fun V hV => by
        have a0 := (B5.ext hV).cells
        have a1 := (B7.ext hV).cells
        exact ⟨a0 0, a0 1, a0 2, a1 0, a1 1⟩
      go_cut [22, 23] from 112 to 123 (fun c o wx => ∃ k, c = .pointer (some ⟨k, 0, none⟩) ∧ o = .bool true ∧ Blk wx k 39 #[.int .i64 ag1, .int .i64 ag2] ∧ Ext wa wx)
      case first =>
        go_region_held3 (fun V => V.cell? ⟨g5, 0, none⟩ = some (.int .i64 P) ∧ V.cell? ⟨g5, 1, none⟩ = some (.int .i64 Q) ∧ V.cell? ⟨g5, 2, none⟩ = some (.int .i64 G) ∧ V.cell? ⟨g5 + 1, 0, none⟩ = some (.int .i64 a) ∧ V.cell? ⟨g5 + 1, 1, none⟩ = some (.int .i64 b)) (exact hS _ (by repeat (first | with_reducible assumption | with_reducible exact Ext.refl _ | with_reducible apply Ext.alloc | with_reducible apply Ext.drew | with_reducible apply Ext.drewN | with_reducible refine Ext.setCellr ?_ ?_ | (show _ ≤ _; first | omega | (simp; done) | (simp; omega)))))
          (first
            | (go_at_call 33; refine (qMod_any (n1 : Int) Q _ (by omega) (by omega) (by omega) (by omega)).mono ?_; rintro e1 wb ⟨rfl, rfl⟩)
            | (go_at_call 32; refine (iReencrypt_any P Q G key2 a b ((n1 : Int) % Q) _).mono ?_; rintro e2 wz ⟨he, hb⟩; rw [K2.out, if_pos rfl, if_pos rfl, HG1.out, HG2.out] at he; subst he; have hx := Ext.trans (w := wa) (by repeat (first | with_reducible assumption | with_reducible exact Ext.refl _ | with_reducible apply Ext.alloc | with_reducible apply Ext.drew | with_reducible apply Ext.drewN | with_reducible refine Ext.setCellr ?_ ?_ | (show _ ≤ _; first | omega | (simp; done) | (simp; omega)))) hb; (first | (have BN := Blk.ext (Blk.drew (Blk.new wa 39 #[.int .i64 0, .int .i64 0])) hb; have hxN := hx; have hkN : wa.heap.size ≤ wa.heap.size := Nat.le_refl _) | (have BN := Blk.new wz 39 #[.int .i64 0, .int .i64 0]; have hxN := hx.alloc (.cells #[.int .i64 0, .int .i64 0] 39); have hkN := hx.size) | fail); have FN := BN.frozen; have CN := BN.cells)
            | fail)
        all_goals
          go_wp2
          go_meet
          first | exact ⟨_, rfl, rfl, (BN.set_ 0 (.int .i64 ag1)).set_ 1 (.int .i64 ag2), hxN.then (below_two _ _ _) hkN⟩ | exact ⟨_, rfl, rfl, Blk.new wz 39 #[.int .i64 ag1, .int .i64 ag2], hx.alloc _⟩
      case' rest =>
        obtain ⟨k, rfl, rfl, BN, hb⟩ := hcut
        replace E := E.trans hb
        replace B5 := B5.ext hb
        replace B7 := B7.ext hb
        clear hb hS
        have C5 := B5.cells
        have CN := BN.cells

        go_upto_region 18 with (go_at_call 25; refine (iDecryptElement_any P Q G x ag1 ag2 _).mono ?_; rintro e wd ⟨he, hb⟩; rw [K3.out, if_pos rfl, K4.out] at he; subst he)
        replace E := E.trans hb
        replace B5 := B5.ext hb
        clear hb C5 CN BN B7
        have hS : ∀ V, Ext wd V → V.cell? ⟨g5, 0, none⟩ = some (.int .i64 P) ∧ V.cell? ⟨g5, 1, none⟩ = some (.int .i64 Q) ∧ V.cell? ⟨g5, 2, none⟩ = some (.int .i64 G) := fun V hV => by
          have a0 := (B5.ext hV).cells
          exact ⟨a0 0, a0 1, a0 2⟩
        go_cut [26, 27] from 131 to 142 (fun c o wx => ∃ k, c = .pointer (some ⟨k, 0, none⟩) ∧ o = .bool true ∧ Blk wx k 39 #[.int .i64 fr1, .int .i64 fr2] ∧ Ext wd wx)
        case first =>
          go_region_held3 (fun V => V.cell? ⟨g5, 0, none⟩ = some (.int .i64 P) ∧ V.cell? ⟨g5, 1, none⟩ = some (.int .i64 Q) ∧ V.cell? ⟨g5, 2, none⟩ = some (.int .i64 G)) (exact hS _ (by repeat (first | with_reducible assumption | with_reducible exact Ext.refl _ | with_reducible apply Ext.alloc | with_reducible apply Ext.drew | with_reducible apply Ext.drewN | with_reducible refine Ext.setCellr ?_ ?_ | (show _ ≤ _; first | omega | (simp; done) | (simp; omega)))))
            (first
              | (go_at_call 33; refine (qMod_any (n0 : Int) Q _ (by omega) (by omega) (by omega) (by omega)).mono ?_; rintro e1 wb ⟨rfl, rfl⟩)
              | (go_at_call 28; refine (iEncryptElement_any P Q G key2 m ((n0 : Int) % Q) _).mono ?_; rintro e2 wz ⟨he, hb⟩; rw [K5.out, if_pos rfl, if_pos rfl, HR1.out, HR2.out] at he; subst he; have hx := Ext.trans (w := wd) (by repeat (first | with_reducible assumption | with_reducible exact Ext.refl _ | with_reducible apply Ext.alloc | with_reducible apply Ext.drew | with_reducible apply Ext.drewN | with_reducible refine Ext.setCellr ?_ ?_ | (show _ ≤ _; first | omega | (simp; done) | (simp; omega)))) hb; (first | (have BN := Blk.ext (Blk.drew (Blk.new wd 39 #[.int .i64 0, .int .i64 0])) hb; have hxN := hx; have hkN : wd.heap.size ≤ wd.heap.size := Nat.le_refl _) | (have BN := Blk.new wz 39 #[.int .i64 0, .int .i64 0]; have hxN := hx.alloc (.cells #[.int .i64 0, .int .i64 0] 39); have hkN := hx.size) | fail); have FN := BN.frozen; have CN := BN.cells)
              | fail)
          all_goals
            go_wp2
            go_meet
            first | exact ⟨_, rfl, rfl, (BN.set_ 0 (.int .i64 fr1)).set_ 1 (.int .i64 fr2), hxN.then (below_two _ _ _) hkN⟩ | exact ⟨_, rfl, rfl, Blk.new wz 39 #[.int .i64 fr1, .int .i64 fr2], hx.alloc _⟩
        case' rest =>
          obtain ⟨k, rfl, rfl, BN, hb⟩ := hcut
          replace E := E.trans hb
          replace B5 := B5.ext hb
          clear hb hS
          have C5 := B5.cells
          have CN := BN.cells

          have hself : (m == m) = true := by simp
          go_wp2_with fail
          refine (iDecryptElement_any P Q G x fr1 fr2 _).mono ?_
          rintro e we ⟨he, hb⟩
          rw [K6.out, if_pos rfl, K7.out] at he; subst he
          replace E := E.trans hb
          go_wp2
          go_ret
          exact ⟨rfl, E⟩
end lawEncryption

set_option maxRecDepth 100000 in
theorem lawEncryption.lifted (os : Os) (started : os.Started) (H : Type) (enc : TypeId × Value → H) :
    ReturnsInHanded {} Try.checked os 4 .any (Rows.fnEncryptionSpec.pre6 enc Try.prog Try.f4 Rows.fnEncryptionRow.domain false) (Rows.fnEncryptionSpec.post enc Try.prog Try.f4 false true false false) := by
  refine returnsInHanded_of_change (C := Try.checked) Facts.own started (by kernel_rfl) Try.func4
    (ChangeSpec.witness6 (enc := enc) (C := Try.checked) false ⟨#[], #[.slice none 0 0, .slice none 0 0], []⟩ 8 (by kernel_rfl) (by kernel_rfl) (by kernel_rfl) (by kernel_rfl)) ?_
  intro W base args ds gs before hval0 hW _ _
  have hval : ∀ (j : Nat) t v, Try.f4.params[j]? = some t → args[j]? = some v → Value.okWide Try.prog W .any base t v := hval0
  have hW' := hW
  obtain ⟨p, q, hA0, hV, rfl, hfz, hnd⟩ := hW
  have hA : DataW.TrodAll enc Try.prog W 0 (fun _ => true) true Try.f4.params.toList args.toList ds p := hA0
  rw [Try.params4] at hA hval
  obtain ⟨v0, vs0, d0, ds0, p0, q0, hargs, rfl, rfl, h0, r0⟩ := trodAll_cons hA
  obtain ⟨v1, vs1, d1, ds1, p1, q1, rfl, rfl, rfl, h1, r1⟩ := trodAll_cons r0
  obtain ⟨rfl, rfl, rfl⟩ := trodAll_nil r1
  obtain rfl : args = #[v0, v1] := by cases args; simp_all
  obtain ⟨rfl, rfl⟩ := trodVars_none hV
  have hlt := hW'.lt
  clear hA hA0 hval0 hargs r0 r1
  have k0 := h0
  have k1 := h1
  obtain ⟨A0, l0, c0, rfl, r0, b0, m0, z0, f0⟩ := openBS Try.underlying22 Try.underlying5 (by kernel_rfl) (hval 0 22 v0 rfl rfl) h0
  obtain ⟨A1, l1, c1, rfl, r1, b1, m1, z1, f1⟩ := openBS Try.underlying22 Try.underlying5 (by kernel_rfl) (hval 1 22 v1 rfl rfl) h1
  refine (lawEncryption.walk A0 l0 c0 A1 l1 c1 W r0 b0 m0 z0 f0 r1 b1 m1 z1 f1).mono fun e W' ⟨he, hg⟩ => ?_
  subst he
  exact ⟨_, rfl, post_below (pv := []) hW' (fun _ _ _ => (trodAll_cons_mk (shut_bool Try.underlying4 _) trodAll_mk0)) (fun sp hsp => (trodAll_cons_mk (WideElems.Trod_stays Facts.laidOut (by kernel_rfl) (of_decide_eq_true (by kernel_rfl)) k0 (fun x hx => hg.same (hlt x (by simp [hx]))) (fun x hx => hsp x (by simp [hx]))) (trodAll_cons_mk (WideElems.Trod_stays Facts.laidOut (by kernel_rfl) (of_decide_eq_true (by kernel_rfl)) k1 (fun x hx => hg.same (hlt x (by simp [hx]))) (fun x hx => hsp x (by simp [hx]))) trodAll_mk0))) (fun _ _ => rfl) rfl
    hg (ok_one (by kernel_rfl) rfl (okWide_bool_mk Try.underlying4 _))⟩

theorem lawEncryption.named : Try.pinned.checked.prog.funcNamed Rows.fnEncryptionRow.func = some 4 := by kernel_rfl
theorem lawEncryption.z9 : (Rows.fnEncryptionRow.inPlace == Try.prog.inPlace 4) = true := by kernel_rfl
theorem lawEncryption.z10 : (Rows.fnEncryptionRow.unfollowed == Try.prog.unfollowed 4) = true := by kernel_rfl
theorem lawEncryption.z11 : (Rows.fnEncryptionRow.recurses == Try.prog.recurses 4) = true := by kernel_rfl
theorem lawEncryption.z12 : (Rows.fnEncryptionRow.named == Try.prog.varsNamed 4) = true := by kernel_rfl
theorem lawEncryption.closed : joinedFacts Try.prog 4 Try.f4 Rows.fnEncryptionSpec Rows.fnEncryptionRow = true :=
  joined_of (by kernel_rfl) Facts.laidOut Facts.mapsRowed (by kernel_rfl) (by kernel_rfl) (by kernel_rfl) (by kernel_rfl) (by kernel_rfl) (by kernel_rfl) lawEncryption.z9 lawEncryption.z10 lawEncryption.z11 lawEncryption.z12 (by kernel_rfl) (by kernel_rfl) (by kernel_rfl) (by kernel_rfl) (by kernel_rfl) (by kernel_rfl) (by kernel_rfl) (by kernel_rfl) (by kernel_rfl) (by rw [Facts.plainKeys]; rfl) (by kernel_rfl) Facts.heard Facts.enter (by rw [Facts.lifts]; rfl) (by rw [Facts.make]; rfl) (by kernel_rfl) (by kernel_rfl) (by kernel_rfl) (by kernel_rfl)
theorem lawEncryption.inst : Try.f4.isInstance Try.pinned.checked.prog Rows.fnEncryptionRow.origin Rows.fnEncryptionRow.targs := of_decide_eq_true (by kernel_rfl)
theorem lawEncryption.wrap : Try.f4.isWrapper Try.pinned.checked.prog Rows.fnEncryptionRow.wrapper Rows.fnEncryptionRow.mainSum := by
  unfold Func.isWrapper; first | (rw [if_pos (by decide +kernel)]; kernel_rfl) | (rw [if_neg (by decide +kernel)]; exact ⟨rfl, rfl⟩)
theorem lawEncryption.over : Rows.fnEncryptionRow.holds Try.pinned (OpenSpec.ofChange Rows.fnEncryptionSpec) :=
  OpenClaim.holds_of_wide 4 Try.f4 rfl rfl rfl rfl rfl rfl rfl ⟨rfl, rfl, rfl, rfl, rfl⟩ rfl rfl rfl rfl rfl lawEncryption.named Try.func4 lawEncryption.closed
    lawEncryption.inst lawEncryption.wrap (fun os started H enc _ => lawEncryption.lifted os started H enc)

theorem lawEncryption.proved : Rows.FnEncryptionSaid := lawEncryption.over
#print axioms lawEncryption.proved
end Go.Proofs.Ytdimmfniefjjkaa
