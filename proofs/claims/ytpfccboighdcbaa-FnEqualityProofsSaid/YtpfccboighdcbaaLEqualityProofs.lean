/- Two proofs told apart by the law; what a proof of equal logarithms that is made answers. The law FnEqualityProofs returns true for every input. It holds without a condition. (Printed by tools/gen_leqp.py.) -/
import Derived.Test.YtpfccboighdcbaaProg
import Derived.Test.YtpfccboighdcbaaSig6
import Derived.Test.YtpfccboighdcbaaQi
import Derived.Test.YtpfccboighdcbaaRows
import Derived.Test.YtpfccboighdcbaaCurS2
import Derived.Test.YtpfccboighdcbaaOpenB
import Derived.Test.YtpfccboighdcbaaFacts
import Derived.Deep.CutRange
namespace Go.Proofs.Ytpfccboighdcbaa
section
open Go.RowKit

theorem rows1 (p q b : Int) : rowsB p q [[b]] = elB p q b := by
  have h1 : inR ([[b]] : List (List Int)).length 1 8 = true := rfl
  have h2 : inR (([[b]] : List (List Int)).headD []).length 1 8 = true := rfl
  unfold rowsB
  rw [h1, h2]; simp
theorem eq_law {p q g : Int} {s : ByteArray} {g1 y1 g2 y2 x c0 : Int} (h : peK p q g s g1 y1 g2 y2 x c0 = true) :
    teK p q g g1 y1 g2 y2 x = true ∧ teV p q g1 y1 g2 y2 x = true ∧ veK p q g s g1 y1 g2 y2 = true ∧
    lvB p q g s [[g1], [g2]] [y1, y2] (imgL p q [[g1], [g2]] [c0]) [lpE p q g s [[g1], [g2]] [x] [c0]] (rspL q (lpE p q g s [[g1], [g2]] [x] [c0]) [c0] [x]) = true ∧
    plK p q g s [[g1]] [x] [c0] = true ∧ vlK p q g s [[g1]] [y1] = true ∧
    lvB p q g s [[g1]] [y1] (imgL p q [[g1]] [c0]) [lpE p q g s [[g1]] [x] [c0]] (rspL q (lpE p q g s [[g1]] [x] [c0]) [c0] [x]) = true := by
  unfold peK at h
  simp only [Bool.and_eq_true] at h
  obtain ⟨hk, hv, hs, hc⟩ := h
  refine ⟨hk, hv, ?_⟩
  unfold teK at hk
  simp only [Bool.and_eq_true] at hk
  obtain ⟨hg, he, hx⟩ := hk
  have he' := he
  obtain ⟨e1, e2, e3, e4⟩ := eqE_iff.1 he
  unfold teV at hv
  simp only [Bool.and_eq_true, beq_iff_eq] at hv
  obtain ⟨v1, v2⟩ := hv
  have hx' := inR_iff.1 hx
  have hc' := inR_iff.1 hc
  refine ⟨by unfold veK; rw [hg, hs, he]; rfl, ?_, by unfold plK; rw [hg, hs, rows1, e1]; simp [allR, hx, hc], by unfold vlK; rw [hg, hs, rows1, e1]; simp [e2], ?_⟩
  · subst v1; subst v2
    exact lin_law hg (s := s) (bs := [g1, g2]) (by simp) (by intro b hb; simp at hb; rcases hb with h9 | h9 <;> rw [h9] <;> assumption) hx' hc'
  · subst v1
    exact lin_law hg (s := s) (bs := [g1]) (by simp) (by intro b hb; simp at hb; rw [hb]; exact e1) hx' hc'
theorem qInts_eqq {A B : Option Addr} {n m c d : Nat} {l : List Int} {w : World} (ha : SlI w A n c l) (hb : SlI w B m d l) :
    Calls Try.prog 76 #[.slice A n c, .slice B m d] w fun e w' => e = .returned (.bool true) ∧ Ext w w' :=
  (qInts_any A B n m c d l l w ha.rd hb.rd ha.len hb.len ha.le hb.le).mono fun e w' h => by
    obtain ⟨h1, N, h2⟩ := h
    exact ⟨by rw [h1, decide_eq_true rfl], by rw [h2]; exact (Ext.refl w).drewN N⟩
set_option maxRecDepth 100000 in
set_option maxHeartbeats 2000000 in
theorem qProof_same (A1 A2 A3 C1 C2 C3 : Option Addr) (n1 d1 n2 d2 n3 d3 m1 e1 m2 e2 m3 e3 : Nat) (l1 l2 l3 : List Int) (w : World) (s1 : SlI w A1 n1 d1 l1) (s2 : SlI w A2 n2 d2 l2) (s3 : SlI w A3 n3 d3 l3) (t1 : SlI w C1 m1 e1 l1) (t2 : SlI w C2 m2 e2 l2) (t3 : SlI w C3 m3 e3 l3) :
    Calls Try.prog 21 #[.agg #[.slice A1 n1 d1, .slice A2 n2 d2, .slice A3 n3 d3], .agg #[.slice C1 m1 e1, .slice C2 m2 e2, .slice C3 m3 e3]] w fun en w' => en = .returned (.bool true) ∧ Ext w w' := by
  have E := ((Ext.refl w).alloc (.cells #[.slice A1 n1 d1, .slice A2 n2 d2, .slice A3 n3 d3] 44)).alloc (.cells #[.slice C1 m1 e1, .slice C2 m2 e2, .slice C3 m3 e3] 44)
  have B0 := (Blk.new w 44 #[.slice A1 n1 d1, .slice A2 n2 d2, .slice A3 n3 d3]).alloc (.cells #[.slice C1 m1 e1, .slice C2 m2 e2, .slice C3 m3 e3] 44)
  have B1 := Blk.new (w.alloc (.cells #[.slice A1 n1 d1, .slice A2 n2 d2, .slice A3 n3 d3] 44)) 44 #[.slice C1 m1 e1, .slice C2 m2 e2, .slice C3 m3 e3]
  simp only [World.size_alloc] at B1
  have CA := B0.cells
  have CB := B1.cells
  go_enter Try.func21, Try.ntmps21
  go_wp2_with fail
  generalize (w.alloc (.cells #[.slice A1 n1 d1, .slice A2 n2 d2, .slice A3 n3 d3] 44)).alloc (.cells #[.slice C1 m1 e1, .slice C2 m2 e2, .slice C3 m3 e3] 44) = Wb at *
  refine (qInts_eqq (s1.ext E) (t1.ext E)).mono ?_
  rintro en w1 ⟨rfl, b1⟩
  have D0 := (B0.ext b1).cells
  have D1 := (B1.ext b1).cells
  clear CA CB
  go_wp2_with fail
  refine (qInts_eqq (s2.ext (E.trans b1)) (t2.ext (E.trans b1))).mono ?_
  rintro en w2 ⟨rfl, b2⟩
  have F0 := ((B0.ext b1).ext b2).cells
  have F1 := ((B1.ext b1).ext b2).cells
  clear D0 D1
  go_wp2_with fail
  refine (qInts_eqq (s3.ext ((E.trans b1).trans b2)) (t3.ext ((E.trans b1).trans b2))).mono ?_
  rintro en w3 ⟨rfl, b3⟩
  go_wp2
  go_ret
  exact ⟨rfl, ((E.trans b1).trans b2).trans b3⟩
end
section
open Go.ChangeShapes Go.WideShapes Go.ChangeAt Go.RowKit
set_option linter.unusedVariables false

namespace lawEqualityProofs
set_option maxRecDepth 100000 in
set_option maxHeartbeats 8000000 in
theorem walk (A0 : Option Addr) (l0 : List Int) (c0 : Nat) (A9 : Option Addr) (l9 : List Int) (c9 : Nat) (w : World) (r0 : RdB w A0 l0) (b0 : l0.length ≤ c0) (m0 : c0 ≤ maxLen) (z0 : A0 = none → c0 = 0) (f0 : ∀ n ∈ l0, 0 ≤ n ∧ n ≤ 255) (r9 : RdB w A9 l9) (b9 : l9.length ≤ c9) (m9 : c9 ≤ maxLen) (z9 : A9 = none → c9 = 0) (f9 : ∀ n ∈ l9, 0 ≤ n ∧ n ≤ 255) :
    Calls Try.prog 4 #[.slice A0 l0.length c0, .slice A9 l9.length c9] w fun e w' => e = .returned (.bool true) ∧ Ext w w' := by
  clear z0 z9
  generalize hn0 : l0.length = n0 at *
  generalize hn9 : l9.length = n9 at *
  have Hn0 := Lib.hid hn0
  have Hn9 := Lib.hid hn9
  clear hn0 hn9
  have q0 : n0 ≤ maxLen := Nat.le_trans b0 m0
  have q9 : n9 ≤ maxLen := Nat.le_trans b9 m9
  have HF0 := Lib.hid f0
  have HF9 := Lib.hid f9
  clear f0 f9
  have hn0b : n0 ≤ 9223372036854775807 := by unfold maxLen at q0; omega
  have hn9b : n9 ≤ 9223372036854775807 := by unfold maxLen at q9; omega
  cases hbig : decide ((1048576 : Int) < wrap64 ((n0 : Int) + (n9 : Int)))
  case true =>
    go_enter Try.func4, Try.ntmps4
    go_wp2
    go_ret
    exact ⟨rfl, Ext.refl _⟩
  go_enter Try.func4, Try.ntmps4
  go_wp2_with fail
  clear hbig
  refine (DrawProveEqual_any A0 n0 c0 l0 _ r0 Hn0.out hn0b HF0.out).mono ?_
  rintro e w1 ⟨P, Q, G, s, a, b, c, d, x, y, rfl, _, hs, E⟩
  have hs9 : s.size ≤ 1000 := by omega
  clear hs
  have E6 := ((Ext.refl w1).alloc (.cells #[.int .i64 P, .int .i64 Q, .int .i64 G] 38)).alloc (.cells #[.int .i64 a, .int .i64 b, .int .i64 c, .int .i64 d] 53)
  have B5 := (Blk.new w1 38 #[.int .i64 P, .int .i64 Q, .int .i64 G]).alloc (.cells #[.int .i64 a, .int .i64 b, .int .i64 c, .int .i64 d] 53)
  have B7 := Blk.new (w1.alloc (.cells #[.int .i64 P, .int .i64 Q, .int .i64 G] 38)) 53 #[.int .i64 a, .int .i64 b, .int .i64 c, .int .i64 d]
  simp only [World.size_alloc] at B7
  replace E := E.trans E6
  clear E6
  go_upto_region 4 with (fail)
  generalize (w1.alloc (.cells #[.int .i64 P, .int .i64 Q, .int .i64 G] 38)).alloc (.cells #[.int .i64 a, .int .i64 b, .int .i64 c, .int .i64 d] 53) = w2 at *
  generalize w1.heap.size + 1 = g7 at *
  generalize w1.heap.size = g5 at *
  clear w1
  have hlaw := fun h => eq_law (p := P) (q := Q) (g := G) (s := s) (g1 := a) (y1 := b) (g2 := c) (y2 := d) (x := x) (c0 := y) h
  have HLW := Lib.hid hlaw
  clear hlaw
  have C_B5 := B5.cells
  have C_B7 := B7.cells
  go_wp2_with fail
  refine (iProveEqual_any P Q G s a b c d x y _ hs9).mono ?_
  rintro e w3 ⟨A1, n1, e1, A2, n2, e2, A3, n3, e3, rfl, s1, s2, s3, hb⟩
  clear C_B5 C_B7
  replace E := E.trans hb
  replace B5 := B5.ext hb
  replace B7 := B7.ext hb
  have E8 := (Ext.refl w3).alloc (.cells #[.slice A1 n1 e1, .slice A2 n2 e2, .slice A3 n3 e3] 44)
  have B10 := Blk.new w3 44 #[.slice A1 n1 e1, .slice A2 n2 e2, .slice A3 n3 e3]
  replace E := E.trans E8
  replace B5 := B5.ext E8
  replace B7 := B7.ext E8
  replace s1 := s1.ext E8
  replace s2 := s2.ext E8
  replace s3 := s3.ext E8
  clear hb E8
  go_upto_region 5 with (fail)
  generalize w3.alloc (.cells #[.slice A1 n1 e1, .slice A2 n2 e2, .slice A3 n3 e3] 44) = w4 at *
  generalize w3.heap.size = g10 at *
  clear w3 w2
  have C_B5 := B5.cells
  have C_B7 := B7.cells
  go_wp2_with fail
  refine (sProveEqual_any P Q G s a b c d x y _ hs9).mono ?_
  rintro e w3 ⟨D1, m1, f1, D2, m2, f2, D3, m3, f3, rfl, t1, t2, t3, hb⟩
  clear C_B5 C_B7
  replace E := E.trans hb
  replace B5 := B5.ext hb
  replace B7 := B7.ext hb
  replace B10 := B10.ext hb
  replace s1 := s1.ext hb
  replace s2 := s2.ext hb
  replace s3 := s3.ext hb
  have E8 := (Ext.refl w3).alloc (.cells #[.slice D1 m1 f1, .slice D2 m2 f2, .slice D3 m3 f3] 44)
  have B12 := Blk.new w3 44 #[.slice D1 m1 f1, .slice D2 m2 f2, .slice D3 m3 f3]
  replace E := E.trans E8
  replace B5 := B5.ext E8
  replace B7 := B7.ext E8
  replace B10 := B10.ext E8
  replace s1 := s1.ext E8
  replace s2 := s2.ext E8
  replace s3 := s3.ext E8
  replace t1 := t1.ext E8
  replace t2 := t2.ext E8
  replace t3 := t3.ext E8
  clear hb E8
  go_upto_region 6 with (fail)
  generalize w3.alloc (.cells #[.slice D1 m1 f1, .slice D2 m2 f2, .slice D3 m3 f3] 44) = w5 at *
  generalize w3.heap.size = g12 at *
  clear w3 w4
  generalize hKK : peK P Q G s a b c d x y = K at *
  have HKK := Lib.hid hKK
  clear hKK
  go_wp2_with fail
  refine (DrawVerifyEqual_any A9 n9 c9 l9 _ (r9.ext E) Hn9.out hn9b HF9.out).mono ?_
  rintro e w6 ⟨P2, Q2, G2, s', a2, b2, c2, d2, X1, j1, h1, X2, j2, h2, X3, j3, h3, k1, k2, k3, rfl, _, hs', v1, v2, v3, hb⟩
  have hs8 : s'.size ≤ 1000 := by omega
  clear hs'
  replace E := E.trans hb
  replace B5 := B5.ext hb
  replace B7 := B7.ext hb
  replace B10 := B10.ext hb
  replace B12 := B12.ext hb
  replace s1 := s1.ext hb
  replace s2 := s2.ext hb
  replace s3 := s3.ext hb
  replace t1 := t1.ext hb
  replace t2 := t2.ext hb
  replace t3 := t3.ext hb
  have E8 := (((Ext.refl w6).alloc (.cells #[.int .i64 P2, .int .i64 Q2, .int .i64 G2] 38)).alloc (.cells #[.int .i64 a2, .int .i64 b2, .int .i64 c2, .int .i64 d2] 53)).alloc (.cells #[.slice X1 j1 h1, .slice X2 j2 h2, .slice X3 j3 h3] 44)
  have B14 := ((Blk.new w6 38 #[.int .i64 P2, .int .i64 Q2, .int .i64 G2]).alloc (.cells #[.int .i64 a2, .int .i64 b2, .int .i64 c2, .int .i64 d2] 53)).alloc (.cells #[.slice X1 j1 h1, .slice X2 j2 h2, .slice X3 j3 h3] 44)
  have B16 := (Blk.new (w6.alloc (.cells #[.int .i64 P2, .int .i64 Q2, .int .i64 G2] 38)) 53 #[.int .i64 a2, .int .i64 b2, .int .i64 c2, .int .i64 d2]).alloc (.cells #[.slice X1 j1 h1, .slice X2 j2 h2, .slice X3 j3 h3] 44)
  have B17 := Blk.new ((w6.alloc (.cells #[.int .i64 P2, .int .i64 Q2, .int .i64 G2] 38)).alloc (.cells #[.int .i64 a2, .int .i64 b2, .int .i64 c2, .int .i64 d2] 53)) 44 #[.slice X1 j1 h1, .slice X2 j2 h2, .slice X3 j3 h3]
  simp only [World.size_alloc] at B16 B17
  replace E := E.trans E8
  replace B5 := B5.ext E8
  replace B7 := B7.ext E8
  replace B10 := B10.ext E8
  replace B12 := B12.ext E8
  replace s1 := s1.ext E8
  replace s2 := s2.ext E8
  replace s3 := s3.ext E8
  replace t1 := t1.ext E8
  replace t2 := t2.ext E8
  replace t3 := t3.ext E8
  replace v1 := v1.ext E8
  replace v2 := v2.ext E8
  replace v3 := v3.ext E8
  clear hb E8
  go_upto_region 7 with (fail)
  generalize ((w6.alloc (.cells #[.int .i64 P2, .int .i64 Q2, .int .i64 G2] 38)).alloc (.cells #[.int .i64 a2, .int .i64 b2, .int .i64 c2, .int .i64 d2] 53)).alloc (.cells #[.slice X1 j1 h1, .slice X2 j2 h2, .slice X3 j3 h3] 44) = w7 at *
  generalize w6.heap.size + 1 + 1 = g17 at *
  generalize w6.heap.size + 1 = g16 at *
  generalize w6.heap.size = g14 at *
  clear w6 w5
  have hsK : (K != K) = false := by simp
  have C_B14 := B14.cells
  have C_B16 := B16.cells
  have C_B17 := B17.cells
  go_wp2_with fail
  refine (iVerifyEqual_any P2 Q2 G2 s' a2 b2 c2 d2 X1 X2 X3 j1 h1 j2 h2 j3 h3 k1 k2 k3 _ hs8 v1 v2 v3).mono ?_
  rintro e w9 ⟨rfl, hb⟩
  clear C_B14 C_B16 C_B17
  replace E := E.trans hb
  replace B5 := B5.ext hb
  replace B7 := B7.ext hb
  replace B10 := B10.ext hb
  replace B12 := B12.ext hb
  replace B14 := B14.ext hb
  replace B16 := B16.ext hb
  replace B17 := B17.ext hb
  replace s1 := s1.ext hb
  replace s2 := s2.ext hb
  replace s3 := s3.ext hb
  replace t1 := t1.ext hb
  replace t2 := t2.ext hb
  replace t3 := t3.ext hb
  replace v1 := v1.ext hb
  replace v2 := v2.ext hb
  replace v3 := v3.ext hb
  clear hb
  have C_B14 := B14.cells
  have C_B16 := B16.cells
  have C_B17 := B17.cells
  go_wp2_with fail
  refine (sVerifyEqual_any P2 Q2 G2 s' a2 b2 c2 d2 X1 X2 X3 j1 h1 j2 h2 j3 h3 k1 k2 k3 _ hs8 v1 v2 v3).mono ?_
  rintro e w10 ⟨rfl, hb⟩
  clear C_B14 C_B16 C_B17
  replace E := E.trans hb
  replace B5 := B5.ext hb
  replace B7 := B7.ext hb
  replace B10 := B10.ext hb
  replace B12 := B12.ext hb
  replace B14 := B14.ext hb
  replace B16 := B16.ext hb
  replace B17 := B17.ext hb
  replace s1 := s1.ext hb
  replace s2 := s2.ext hb
  replace s3 := s3.ext hb
  replace t1 := t1.ext hb
  replace t2 := t2.ext hb
  replace t3 := t3.ext hb
  replace v1 := v1.ext hb
  replace v2 := v2.ext hb
  replace v3 := v3.ext hb
  clear hb
  obtain ⟨V, hV⟩ : ∃ V, (veK P2 Q2 G2 s' a2 b2 c2 d2 && lvB P2 Q2 G2 s' [[a2], [c2]] [b2, d2] k1 k2 k3) = V := ⟨_, rfl⟩
  obtain ⟨U, hU⟩ : ∃ U, veK P2 Q2 G2 s' a2 b2 c2 d2 = U := ⟨_, rfl⟩
  rw [hV, hU]
  clear hV hU
  have hsV : (V != V) = false := by simp
  have hsU : (U != U) = false := by simp
  have C_B10 := B10.cells
  have C_B12 := B12.cells
  go_wp2_with fail
  refine (qProof_same A1 A2 A3 D1 D2 D3 n1 e1 n2 e2 n3 e3 m1 f1 m2 f2 m3 f3 _ _ _ _ s1 s2 s3 t1 t2 t3).mono ?_
  rintro e w11 ⟨rfl, hb⟩
  clear C_B10 C_B12
  clear B14 B16 B17 v1 v2 v3 t1 t2 t3 B12
  replace E := E.trans hb
  replace B5 := B5.ext hb
  replace B7 := B7.ext hb
  replace B10 := B10.ext hb
  replace s1 := s1.ext hb
  replace s2 := s2.ext hb
  replace s3 := s3.ext hb
  clear hb
  cases K
  · go_wp2
    go_ret
    exact ⟨rfl, E⟩
  obtain ⟨z1, z2, z3, z4, z5, z6, z7⟩ := HLW.out rfl
  have Z1 := Lib.hid z1
  have Z2 := Lib.hid z2
  have Z3 := Lib.hid z3
  have Z4 := Lib.hid z4
  have Z5 := Lib.hid z5
  have Z6 := Lib.hid z6
  have Z7 := Lib.hid z7
  clear z1 z2 z3 z4 z5 z6 z7 HLW HKK
  replace s1 : SlI w11 A1 n1 e1 (imgL P Q [[a], [c]] [y]) := s1
  replace s2 : SlI w11 A2 n2 e2 [lpE P Q G s [[a], [c]] [x] [y]] := s2
  replace s3 : SlI w11 A3 n3 e3 (rspL Q (lpE P Q G s [[a], [c]] [x] [y]) [y] [x]) := s3
  have C_B5 := B5.cells
  have C_B7 := B7.cells
  go_wp2_with fail
  refine (iIsTrueEqual_any P Q G a b c d x _).mono ?_
  rintro e w12 ⟨he, hb⟩
  rw [Z1.out, Z2.out, Bool.and_self] at he; subst he
  clear C_B5 C_B7
  replace E := E.trans hb
  replace B5 := B5.ext hb
  replace B7 := B7.ext hb
  replace B10 := B10.ext hb
  replace s1 := s1.ext hb
  replace s2 := s2.ext hb
  replace s3 := s3.ext hb
  clear hb
  have C_B5 := B5.cells
  have C_B7 := B7.cells
  have C_B10 := B10.cells
  go_wp2_with fail
  refine (iVerifyEqual_any P Q G s a b c d A1 A2 A3 n1 e1 n2 e2 n3 e3 _ _ _ _ hs9 s1 s2 s3).mono ?_
  rintro e w13 ⟨he, hb⟩
  rw [Z3.out, Z4.out, Bool.and_self] at he; subst he
  clear C_B5 C_B7 C_B10
  clear s1 s2 s3 B10
  replace E := E.trans hb
  replace B5 := B5.ext hb
  replace B7 := B7.ext hb
  clear hb
  have C_B5 := B5.cells
  have C_B7 := B7.cells
  go_wp2_with fail
  refine (ProveKnowledge_any P Q G s a x y _ hs9).mono ?_
  rintro e w14 ⟨X1, j1, h1, X2, j2, h2, X3, j3, h3, he, v1, v2, v3, hb⟩
  rw [Z5.out] at he v1 v2 v3; subst he
  replace v1 : SlI w14 X1 j1 h1 (imgL P Q [[a]] [y]) := v1
  replace v2 : SlI w14 X2 j2 h2 [lpE P Q G s [[a]] [x] [y]] := v2
  replace v3 : SlI w14 X3 j3 h3 (rspL Q (lpE P Q G s [[a]] [x] [y]) [y] [x]) := v3
  clear C_B5 C_B7
  replace E := E.trans hb
  replace B5 := B5.ext hb
  replace B7 := B7.ext hb
  have E8 := (Ext.refl w14).alloc (.cells #[.slice X1 j1 h1, .slice X2 j2 h2, .slice X3 j3 h3] 44)
  have B26 := Blk.new w14 44 #[.slice X1 j1 h1, .slice X2 j2 h2, .slice X3 j3 h3]
  replace E := E.trans E8
  replace B5 := B5.ext E8
  replace B7 := B7.ext E8
  replace v1 := v1.ext E8
  replace v2 := v2.ext E8
  replace v3 := v3.ext E8
  clear hb E8
  have C_B5 := B5.cells
  have C_B7 := B7.cells
  have C_B26 := B26.cells
  go_wp2_with fail
  refine (VerifyKnowledge_any P Q G s a b X1 X2 X3 j1 h1 j2 h2 j3 h3 _ _ _ _ hs9 v1 v2 v3).mono ?_
  rintro e w15 ⟨he, hb⟩
  rw [Z6.out, Z7.out, Bool.and_self] at he; subst he
  replace E := E.trans hb
  go_wp2
  go_ret
  exact ⟨rfl, E⟩
end lawEqualityProofs

set_option maxRecDepth 100000 in
theorem lawEqualityProofs.lifted (os : Os) (started : os.Started) (H : Type) (enc : TypeId × Value → H) :
    ReturnsInHanded {} Try.checked os 4 .any (Rows.fnEqualityProofsSpec.pre6 enc Try.prog Try.f4 Rows.fnEqualityProofsRow.domain false) (Rows.fnEqualityProofsSpec.post enc Try.prog Try.f4 false true false false) := by
  refine returnsInHanded_of_change (C := Try.checked) Facts.own started (by kernel_rfl) Try.func4
    (ChangeSpec.witness6 (enc := enc) (C := Try.checked) false ⟨#[], #[.slice none 0 0, .slice none 0 0], []⟩ 8 (by kernel_rfl) (by kernel_rfl) (by kernel_rfl) (by kernel_rfl)) ?_
  intro W base args ds gs before hval0 hW _ _
  have hval : ∀ (j : Nat) t v, Try.f4.params[j]? = some t → args[j]? = some v → Value.okWide Try.prog W .any base t v := hval0
  have hW' := hW
  obtain ⟨p, q, hA0, hV, rfl, hfz, hnd⟩ := hW
  have hA : DataW.TrodAll enc Try.prog W 0 (fun _ => true) true Try.f4.params.toList args.toList ds p := hA0
  rw [Try.params4] at hA hval
  obtain ⟨v0, vs0, d0, ds0, p0, q0, hargs, rfl, rfl, h0, r0⟩ := trodAll_cons hA
  obtain ⟨v1, vs1, d1, ds1, p1, q1, rfl, rfl, rfl, h1, r1⟩ := trodAll_cons r0
  obtain ⟨rfl, rfl, rfl⟩ := trodAll_nil r1
  obtain rfl : args = #[v0, v1] := by cases args; simp_all
  obtain ⟨rfl, rfl⟩ := trodVars_none hV
  have hlt := hW'.lt
  clear hA hA0 hval0 hargs r0 r1
  have k0 := h0
  have k1 := h1
  obtain ⟨A0, l0, c0, rfl, r0, b0, m0, z0, f0⟩ := openBS Try.underlying51 Try.underlying5 (by kernel_rfl) (hval 0 51 v0 rfl rfl) h0
  obtain ⟨A1, l1, c1, rfl, r1, b1, m1, z1, f1⟩ := openBS Try.underlying51 Try.underlying5 (by kernel_rfl) (hval 1 51 v1 rfl rfl) h1
  refine (lawEqualityProofs.walk A0 l0 c0 A1 l1 c1 W r0 b0 m0 z0 f0 r1 b1 m1 z1 f1).mono fun e W' ⟨he, hg⟩ => ?_
  subst he
  exact ⟨_, rfl, post_below (pv := []) hW' (fun _ _ _ => (trodAll_cons_mk (shut_bool Try.underlying4 _) trodAll_mk0)) (fun sp hsp => (trodAll_cons_mk (WideElems.Trod_stays Facts.laidOut (by kernel_rfl) (of_decide_eq_true (by kernel_rfl)) k0 (fun x hx => hg.same (hlt x (by simp [hx]))) (fun x hx => hsp x (by simp [hx]))) (trodAll_cons_mk (WideElems.Trod_stays Facts.laidOut (by kernel_rfl) (of_decide_eq_true (by kernel_rfl)) k1 (fun x hx => hg.same (hlt x (by simp [hx]))) (fun x hx => hsp x (by simp [hx]))) trodAll_mk0))) (fun _ _ => rfl) rfl
    hg (ok_one (by kernel_rfl) rfl (okWide_bool_mk Try.underlying4 _))⟩

theorem lawEqualityProofs.named : Try.pinned.checked.prog.funcNamed Rows.fnEqualityProofsRow.func = some 4 := by kernel_rfl
theorem lawEqualityProofs.z9 : (Rows.fnEqualityProofsRow.inPlace == Try.prog.inPlace 4) = true := by kernel_rfl
theorem lawEqualityProofs.z10 : (Rows.fnEqualityProofsRow.unfollowed == Try.prog.unfollowed 4) = true := by kernel_rfl
theorem lawEqualityProofs.z11 : (Rows.fnEqualityProofsRow.recurses == Try.prog.recurses 4) = true := by kernel_rfl
theorem lawEqualityProofs.z12 : (Rows.fnEqualityProofsRow.named == Try.prog.varsNamed 4) = true := by kernel_rfl
theorem lawEqualityProofs.closed : joinedFacts Try.prog 4 Try.f4 Rows.fnEqualityProofsSpec Rows.fnEqualityProofsRow = true :=
  joined_of (by kernel_rfl) Facts.laidOut Facts.mapsRowed (by kernel_rfl) (by kernel_rfl) (by kernel_rfl) (by kernel_rfl) (by kernel_rfl) (by kernel_rfl) lawEqualityProofs.z9 lawEqualityProofs.z10 lawEqualityProofs.z11 lawEqualityProofs.z12 (by kernel_rfl) (by kernel_rfl) (by kernel_rfl) (by kernel_rfl) (by kernel_rfl) (by kernel_rfl) (by kernel_rfl) (by kernel_rfl) (by kernel_rfl) (by rw [Facts.plainKeys]; rfl) (by kernel_rfl) Facts.heard Facts.enter (by rw [Facts.lifts]; rfl) (by rw [Facts.make]; rfl) (by kernel_rfl) (by kernel_rfl) (by kernel_rfl) (by kernel_rfl)
theorem lawEqualityProofs.inst : Try.f4.isInstance Try.pinned.checked.prog Rows.fnEqualityProofsRow.origin Rows.fnEqualityProofsRow.targs := of_decide_eq_true (by kernel_rfl)
theorem lawEqualityProofs.wrap : Try.f4.isWrapper Try.pinned.checked.prog Rows.fnEqualityProofsRow.wrapper Rows.fnEqualityProofsRow.mainSum := by
  unfold Func.isWrapper; first | (rw [if_pos (by decide +kernel)]; kernel_rfl) | (rw [if_neg (by decide +kernel)]; exact ⟨rfl, rfl⟩)
theorem lawEqualityProofs.over : Rows.fnEqualityProofsRow.holds Try.pinned (OpenSpec.ofChange Rows.fnEqualityProofsSpec) :=
  OpenClaim.holds_of_wide 4 Try.f4 rfl rfl rfl rfl rfl rfl rfl ⟨rfl, rfl, rfl, rfl, rfl⟩ rfl rfl rfl rfl rfl lawEqualityProofs.named Try.func4 lawEqualityProofs.closed
    lawEqualityProofs.inst lawEqualityProofs.wrap (fun os started H enc _ => lawEqualityProofs.lifted os started H enc)

theorem lawEqualityProofs.proved : Rows.FnEqualityProofsSaid := lawEqualityProofs.over
#print axioms lawEqualityProofs.proved
end
end Go.Proofs.Ytpfccboighdcbaa
