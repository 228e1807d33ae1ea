/- A contract for the reference's sum of a key and dealings. (Printed by tools/gen_plus.py.) -/
import Derived.Test.YthamimjejlicpaaProg
import Derived.Test.YthamimjejlicpaaPlus
import Derived.Test.YthamimjejlicpaaSum2
namespace Go.Proofs.Ythamimjejlicpaa
open Go.RowKit

set_option maxRecDepth 100000 in
set_option maxHeartbeats 4000000 in
theorem rShared_any (A : Option Addr) (n c : Nat) (B : Option Addr) (m d : Nat) (l k : List Int) (w : World) (ha : SlI w A n c l) (hb : SlI w B m d k) (hn : n ≤ 100000) (hm : m ≤ 100000) :
    Calls Try.prog 109 #[.agg #[.slice A n c, .slice B m d]] w fun en w' => ∃ A' c' B' d', en = .returned (.agg #[.slice A' n c', .slice B' m d']) ∧ OwnK w' w.heap.size A' n c' B' m d' l k ∧ Ext w w' := by
  have E := (((Ext.refl w).alloc (.cells #[.slice A n c, .slice B m d] 113)).alloc (.cells #[.slice none 0 0, .slice none 0 0] 62))
  have B0 := ((Blk.new w 113 #[.slice A n c, .slice B m d]).alloc (.cells #[.slice none 0 0, .slice none 0 0] 62))
  have B1 := (Blk.new (w.alloc (.cells #[.slice A n c, .slice B m d] 113)) 62 #[.slice none 0 0, .slice none 0 0])
  simp only [World.size_alloc] at B1
  have hwz := E.size
  have hlt := B1.lt
  go_enter Try.func109, Try.ntmps109
  go_wp2
  generalize ((w.alloc (.cells #[.slice A n c, .slice B m d] 113)).alloc (.cells #[.slice none 0 0, .slice none 0 0] 62)) = Wb at *
  have hS : ∀ V, Ext w V → Ext Wb V → V.cell? ⟨w.heap.size, 0, none⟩ = some (.slice A n c) ∧ V.cell? ⟨w.heap.size, 1, none⟩ = some (.slice B m d) := fun V _ hV => by
    have a0 := (B0.ext hV).cells
    exact ⟨a0 0, a0 1⟩
  have K0 := B0.cells
  have K1 := B0.drew.cells
  have hcl : ∀ V, Ext Wb V → Blk V (w.heap.size + 1) 62 #[.slice none 0 0, .slice none 0 0] := fun V hV => B1.ext hV
  go_region_law (first
      | (go_simp; go_at_call 140; first
          | (have hz := hx2; refine (l1Own_any B m d k _ (hb.rd.ext (Ext.trans E (Ext.trans hx2 (by repeat (first | with_reducible assumption | with_reducible exact Ext.refl _ | with_reducible apply Ext.alloc | with_reducible apply Ext.drew | with_reducible apply Ext.drewN))))) hb.len (by omega)).mono ?_; rintro en w3 ⟨A3, c3, rfl, o3, hb3⟩; have hh3 := Ext.trans (w := w2) (by repeat (first | with_reducible assumption | with_reducible exact Ext.refl _ | with_reducible apply Ext.alloc | with_reducible apply Ext.drew | with_reducible apply Ext.drewN)) hb3; have hx3 := hx2.trans hh3; have hl3 := o3.high; have o2 := o2.ext hh3; have B3 := hcl _ hx3; have F3 := B3.frozen; have C3 := B3.cells; have D3 := (B0.ext hx3).cells)
          | (refine (l1Own_any A n c l _ (ha.rd.ext (Ext.trans E (by repeat (first | with_reducible assumption | with_reducible exact Ext.refl _ | with_reducible apply Ext.alloc | with_reducible apply Ext.drew | with_reducible apply Ext.drewN)))) ha.len (by omega)).mono ?_; rintro en w2 ⟨A2, c2, rfl, o2, hb2⟩; have hx2 := Ext.trans (w := Wb) (by repeat (first | with_reducible assumption | with_reducible exact Ext.refl _ | with_reducible apply Ext.alloc | with_reducible apply Ext.drew | with_reducible apply Ext.drewN)) hb2; have lo2 := o2.low; have hz2 := hx2.size; have D2 := (B0.ext hx2).cells)
          | fail)
      | fail)
  all_goals
    have CZ := ((B3.set_ 0 (.slice A2 n c2)).set_ 1 (.slice A3 m c3)).cells
    go_wp2
    refine bodyPost_ret (v := .agg #[.slice A2 n c2, .slice A3 m c3]) (by simp [results, Try.results109, CZ, go_sem]) rfl ⟨A2, c2, A3, c3, rfl, (OwnK.mk (o2.more (by first | exact Nat.le_refl _ | omega | (simp; done) | (simp; omega))) (o3.more (by first | exact Nat.le_refl _ | omega | (simp; done) | (simp; omega))) (Apart.of_low lo2 (hl3.mono (by first | exact Nat.le_refl _ | omega | (simp; done) | (simp; omega))))).keepBlk B3 (by decide) (only_two _ _ _ _ _ _), (E.trans hx3).only1 (by first | exact Nat.le_refl _ | omega | (simp; done) | (simp; omega)) (only_two _ _ _ _ _ _)⟩
set_option maxRecDepth 100000 in
set_option maxHeartbeats 8000000 in
theorem rSum_any (p q g : Int) (A : Option Addr) (n c : Nat) (cs : List Int) (B : Option Addr) (m d : Nat) (ss : List Int) (D : Option Addr) (r e : Nat) (ds : List (List Int × List Int)) (w : World) (h : GrpB p q) (hq : 2 ≤ q) (hq9 : q ≤ 2000000000) (ha : SlI w A n c cs) (hb : SlI w B m d ss) (hd : RdD w D ds) (hl : ds.length = r) (hr : r ≤ 50) (hn : n ≤ 1000) (hm : m ≤ 1000) (hg : ∀ x ∈ (cs, ss) :: ds, RngD q n m x) :
    Calls Try.prog 95 #[.agg #[.int .i64 p, .int .i64 q, .int .i64 g], .agg #[.slice A n c, .slice B m d], .slice D r e] w fun en w' => ∃ A' c' B' d', en = .returned (.agg #[.slice A' n c', .slice B' m d']) ∧ OwnK w' w.heap.size A' n c' B' m d' (sumD p q (cs, ss) ds).1 (sumD p q (cs, ss) ds).2 ∧ Ext w w' := by
  have E := ((((Ext.refl w).alloc (.cells #[.int .i64 p, .int .i64 q, .int .i64 g] 25)).alloc (.cells #[.slice A n c, .slice B m d] 62)).alloc (.cells #[.slice none 0 0, .slice none 0 0] 62))
  have B0 := (((Blk.new w 25 #[.int .i64 p, .int .i64 q, .int .i64 g]).alloc (.cells #[.slice A n c, .slice B m d] 62)).alloc (.cells #[.slice none 0 0, .slice none 0 0] 62))
  have B1 := ((Blk.new (w.alloc (.cells #[.int .i64 p, .int .i64 q, .int .i64 g] 25)) 62 #[.slice A n c, .slice B m d]).alloc (.cells #[.slice none 0 0, .slice none 0 0] 62))
  have B2 := (Blk.new ((w.alloc (.cells #[.int .i64 p, .int .i64 q, .int .i64 g] 25)).alloc (.cells #[.slice A n c, .slice B m d] 62)) 62 #[.slice none 0 0, .slice none 0 0])
  simp only [World.size_alloc] at B1 B2
  obtain ⟨rs, hrs, hrd⟩ := RdSS.rows hd
  have HG := Lib.hid hg
  have hrl : (rs.map rowV).length = r * 2 := by rw [List.length_map, hrs.1, flD_length, hl]
  have HRL := Lib.hid hrl
  have HL := Lib.hid hl
  clear hg hrl hl
  go_enter Try.func95, Try.ntmps95
  go_wp2
  generalize (((w.alloc (.cells #[.int .i64 p, .int .i64 q, .int .i64 g] 25)).alloc (.cells #[.slice A n c, .slice B m d] 62)).alloc (.cells #[.slice none 0 0, .slice none 0 0] 62)) = Wb at *
  have hwz := E.size
  have hcells : ∀ V, Ext Wb V → V.cell? ⟨w.heap.size, 0, none⟩ = some (.int .i64 p) ∧ V.cell? ⟨w.heap.size, 1, none⟩ = some (.int .i64 q) ∧ V.cell? ⟨w.heap.size, 2, none⟩ = some (.int .i64 g) ∧ V.cell? ⟨w.heap.size + 1, 0, none⟩ = some (.slice A n c) ∧ V.cell? ⟨w.heap.size + 1, 1, none⟩ = some (.slice B m d) ∧ V.cell? ⟨w.heap.size + 1 + 1, 0, none⟩ = some (.slice none 0 0) ∧ V.cell? ⟨w.heap.size + 1 + 1, 1, none⟩ = some (.slice none 0 0) ∧ V.frozen? ⟨w.heap.size + 1 + 1, 0, none⟩ = false ∧ V.frozen? ⟨w.heap.size + 1 + 1, 1, none⟩ = false := fun V hV => by
    have a0 := (B0.ext hV).cells
    have a1 := (B1.ext hV).cells
    have a2 := (B2.ext hV).cells
    have a3 := (B2.ext hV).frozen
    exact ⟨a0 0, a0 1, a0 2, a1 0, a1 1, a2 0, a2 1, a3 0, a3 1⟩
  have hb2 : ∀ V, Ext Wb V → Blk V (w.heap.size + 1 + 1) 62 #[.slice none 0 0, .slice none 0 0] := fun V hV => B2.ext hV
  obtain ⟨k0, k1, k2, k3, k4, k5, k6, k7, k8⟩ := hcells _ (Ext.refl Wb)
  obtain ⟨j0, j1, j2, j3, j4, j5, j6, j7, j8⟩ := hcells _ ((Ext.refl Wb).drew)
  obtain ⟨i0, i1, i2, i3, i4, i5, i6, i7, i8⟩ := hcells _ ((Ext.refl Wb).alloc (.cells #[.slice A n c, .slice B m d] 113))
  obtain ⟨l0, l1, l2, l3, l4, l5, l6, l7, l8⟩ := hcells _ (((Ext.refl Wb).drew).alloc (.cells #[.slice A n c, .slice B m d] 113))
  have hkey := RowsRd.append (RowsRd.two (ha.ext E) (hb.ext E)) (hrs.ext E)
  go_region_law (first
      | (go_simp; go_at_call 149; refine (rKey_any A n c B m d _).mono ?_; rintro en w3 ⟨rfl, hb3⟩; have hx3 := Ext.trans (w := Wb) (by repeat (first | with_reducible assumption | with_reducible exact Ext.refl _ | with_reducible apply Ext.alloc | with_reducible apply Ext.drew | with_reducible apply Ext.drewN)) hb3; have hz3 := hx3.size; obtain ⟨r0, r1, r2, r3, r4, r5, r6, r7, r8⟩ := hcells _ hx3; obtain ⟨s0, s1, s2, s3, s4, s5, s6, s7, s8⟩ := hcells _ (hx3.alloc (.cells #[.slice A n c, .slice B m d] 113)))
      | (refine step_appD dealSl (by rfl) _ _ (by rfl) (OwnW.ext (OwnW.more ownW_one (by first | exact Nat.le_refl _ | omega | (simp; done) | (simp; omega))) (by repeat (first | with_reducible assumption | with_reducible exact Ext.refl _ | with_reducible apply Ext.alloc | with_reducible apply Ext.drew | with_reducible apply Ext.drewN))) (by rfl) (Rd.ext hrd (Ext.trans E (by repeat (first | with_reducible assumption | with_reducible exact Ext.refl _ | with_reducible apply Ext.alloc | with_reducible apply Ext.drew | with_reducible apply Ext.drewN)))) HRL.out (rowV_one rs) (by rfl) (by omega) (by first | exact Nat.le_refl _ | omega | (simp; done) | (simp; omega)) ?_; intro A4 c4 w4 hO4 hB4; have hx4 := Ext.then (w := Wb) (by repeat (first | with_reducible assumption | with_reducible exact Ext.refl _ | with_reducible apply Ext.alloc | with_reducible apply Ext.drew | with_reducible apply Ext.drewN)) hB4 (by first | exact Nat.le_refl _ | omega | (simp; done) | (simp; omega)); obtain ⟨q0, q1, q2, q3, q4, q5, q6, q7, q8⟩ := hcells _ hx4)
      | (go_simp; go_at_call 150; refine (sSum_any p q g A4 _ c4 ((cs, ss) :: ds) n m _ h hq hq9 (RdD.ext (RowsRd.rd (hkey.ext hx4) hO4.rd) (by repeat (first | with_reducible assumption | with_reducible exact Ext.refl _ | with_reducible apply Ext.alloc | with_reducible apply Ext.drew | with_reducible apply Ext.drewN))) (by simp; have := HL.out; omega) (by omega) (by omega) hO4.cap hn hm HG.out).mono ?_; rintro en w5 ⟨S5, s5, S6, s6, rfl, o5, hb5⟩; have hx5 := Ext.trans (w := Wb) (Ext.trans hx4 (by repeat (first | with_reducible assumption | with_reducible exact Ext.refl _ | with_reducible apply Ext.alloc | with_reducible apply Ext.drew | with_reducible apply Ext.drewN))) hb5; obtain ⟨p0, p1, p2, p3, p4, p5, p6, p7, p8⟩ := hcells _ hx5; have hz4 := hx4.size)
      | (go_simp; go_at_call 109; refine (rShared_any S5 n s5 S6 m s6 _ _ _ (SlI.ext o5.a.sl (by repeat (first | with_reducible assumption | with_reducible exact Ext.refl _ | with_reducible apply Ext.alloc | with_reducible apply Ext.drew | with_reducible apply Ext.drewN))) (SlI.ext o5.b.sl (by repeat (first | with_reducible assumption | with_reducible exact Ext.refl _ | with_reducible apply Ext.alloc | with_reducible apply Ext.drew | with_reducible apply Ext.drewN))) (by omega) (by omega)).mono ?_; rintro en w7 ⟨A5, c5, A6, c6, rfl, o7, hb7⟩; have hx7 := Ext.trans (w := Wb) (Ext.trans hx5 (by repeat (first | with_reducible assumption | with_reducible exact Ext.refl _ | with_reducible apply Ext.alloc | with_reducible apply Ext.drew | with_reducible apply Ext.drewN))) hb7; obtain ⟨o50, o51, o52, o53, o54, o55, o56, o57, o58⟩ := hcells _ hx7; have hz7 := hx5.size)
      | fail)
  all_goals
    have BF := hb2 _ hx7
    have CZ := ((BF.set_ 0 (.slice A5 n c5)).set_ 1 (.slice A6 m c6)).cells
    go_wp2
    refine bodyPost_ret (v := .agg #[.slice A5 n c5, .slice A6 m c6]) (by simp [results, Try.results95, CZ, go_sem]) rfl ⟨A5, c5, A6, c6, rfl, (o7.keepBlk BF (by decide) (only_two _ _ _ _ _ _)).more (by first | exact Nat.le_refl _ | omega | (simp; done) | (simp; omega)), (E.trans hx7).only1 (by first | exact Nat.le_refl _ | omega | (simp; done) | (simp; omega)) (only_two _ _ _ _ _ _)⟩
end Go.Proofs.Ythamimjejlicpaa
