/- Contracts for the laws' own functions on proofs and lists of them: copies, comparisons, marks, sizes. (Printed by tools/gen_pfk.py.) Contracts for the laws' own functions on sealed ballots and matrix proofs: copies, comparisons, marks, sizes. (Printed by tools/gen_slk.py.) -/
import Derived.Test.YtpfccboighdcbaaProg
import Derived.Test.YtpfccboighdcbaaPf
import Derived.Test.YtpfccboighdcbaaDlK
namespace Go.Proofs.Ytpfccboighdcbaa
section
open Go.RowKit

/-- A row more, of a call's own. -/
theorem OwnL.add {w w' : World} {base n c : Nat} {A : Option Addr} {l : List Int} {rs : List (Option Addr × Nat × Nat)} {ls : List (List Int)} (h : OwnL w base rs ls) (E : Ext w w') (O : OwnI w' w.heap.size 3 A n c l) (hb : base ≤ w.heap.size) : OwnL w' base (rs ++ [(A, n, c)]) (ls ++ [l]) :=
  (h.ext E).app (OwnL.one (O.more hb)) (by rw [rowsFp_one]; exact Apart.of_low h.low O.high)
theorem OwnL.cell {w : World} {base : Nat} {rs : List (Option Addr × Nat × Nat)} {ls : List (List Int)} (h : OwnL w base rs ls) {p : Addr} (hp : p.block < base) (u : Value) : OwnL (w.setCell p u) base rs ls :=
  h.only ((Only.refl [p.block] w).setCell (by simp) u) (Apart.of_high (by intro b hb; simp at hb; omega) h.high)
/-- Three rows are laid into their cells. -/
theorem OwnG.lay3 {w : World} {s t base n c g j : Nat} {P : List Nat} {ls : List (List Int)} {B1 B2 B3 : Option Addr} {m1 e1 m2 e2 m3 e3 : Nat} {l1 l2 l3 : List Int} (h : OwnG s t w base (some ⟨g, 0, none⟩) n c P ls) (ht : t ≠ 3) (hj : j + 2 < ls.length) (L : OwnL w base [(B1, m1, e1), (B2, m2, e2), (B3, m3, e3)] [l1, l2, l3]) (hap : Apart (rowsFp [(B1, m1, e1), (B2, m2, e2), (B3, m3, e3)]) P) :
    ∃ P', OwnG s t (((w.setCell ⟨g, j, none⟩ (.slice B1 m1 e1)).setCell ⟨g, j + 1, none⟩ (.slice B2 m2 e2)).setCell ⟨g, j + 2, none⟩ (.slice B3 m3 e3)) base (some ⟨g, 0, none⟩) n c P' (((ls.set j l1).set (j + 1) l2).set (j + 2) l3) := by
  have hgP : g ∈ P := by obtain ⟨rs, _, _, rfl⟩ := h; exact List.mem_append_left _ (by simp [fpI])
  have a12 : Apart (fpI B1) (fpI B2) := rowsFp_apart (i := 0) (j := 1) L.nd (by simp) (by simp) (by omega)
  have a13 : Apart (fpI B1) (fpI B3) := rowsFp_apart (i := 0) (j := 2) L.nd (by simp) (by simp) (by omega)
  have a23 : Apart (fpI B2) (fpI B3) := rowsFp_apart (i := 1) (j := 2) L.nd (by simp) (by simp) (by omega)
  have p1 : Apart (fpI B1) P := fun b hb => hap b (rowsFp_mem.2 ⟨(B1, m1, e1), by simp, hb⟩)
  have p2 : Apart (fpI B2) P := fun b hb => hap b (rowsFp_mem.2 ⟨(B2, m2, e2), by simp, hb⟩)
  have p3 : Apart (fpI B3) P := fun b hb => hap b (rowsFp_mem.2 ⟨(B3, m3, e3), by simp, hb⟩)
  have hg : Apart (rowsFp [(B1, m1, e1), (B2, m2, e2), (B3, m3, e3)]) [g] := fun b hb hb' => by
    rw [List.mem_singleton] at hb'; subst hb'; exact hap b hb hgP
  obtain ⟨P1, h1, k1⟩ := h.lay ht (j := j) (by omega) L.three.1 p1
  have L1 := L.only ((Only.refl [g] w).setCell (p := ⟨g, j, none⟩) (by simp) (.slice B1 m1 e1)) hg
  obtain ⟨P2, h2, k2⟩ := h1.lay ht (j := j + 1) (by rw [List.length_set]; omega) L1.three.2.1 (fun b hb hb' => (k1 b hb').elim (p2 b hb) (fun hx => a12 b hx hb))
  have L2 := L1.only ((Only.refl [g] _).setCell (p := ⟨g, j + 1, none⟩) (by simp) (.slice B2 m2 e2)) hg
  obtain ⟨P3, h3, _⟩ := h2.lay ht (j := j + 2) (by rw [List.length_set, List.length_set]; omega) L2.three.2.2 (fun b hb hb' => (k2 b hb').elim (fun hx => (k1 b hx).elim (p3 b hb) (fun hy => a13 b hy hb)) (fun hx => a23 b hx hb))
  exact ⟨P3, h3⟩
set_option maxHeartbeats 2000000 in
theorem toProof_any (A1 : Option Addr) (n1 c1 : Nat) (A2 : Option Addr) (n2 c2 : Nat) (A3 : Option Addr) (n3 c3 : Nat) (l1 l2 l3 : List Int) (w : World) (h1 : SlI w A1 n1 c1 l1) (h2 : SlI w A2 n2 c2 l2) (h3 : SlI w A3 n3 c3 l3) (hn : n1 + n2 + n3 ≤ 1000000000) :
    Calls Try.prog 53 #[.agg #[.slice A1 n1 c1, .slice A2 n2 c2, .slice A3 n3 c3]] w fun e w' => ∃ D1 d1 D2 d2 D3 d3, e = .returned (.agg #[.slice D1 n1 d1, .slice D2 n2 d2, .slice D3 n3 d3]) ∧ OwnL w' w.heap.size [(D1, n1, d1), (D2, n2, d2), (D3, n3, d3)] [l1, l2, l3] ∧ Ext w w' := by
  have E := (((Ext.refl w).alloc (.cells #[.slice A1 n1 c1, .slice A2 n2 c2, .slice A3 n3 c3] 30)).alloc (.cells #[.slice none 0 0, .slice none 0 0, .slice none 0 0] 44)).alloc (.cells #[.slice none 0 0, .slice none 0 0, .slice none 0 0] 44)
  have B0 := ((Blk.new w 30 #[.slice A1 n1 c1, .slice A2 n2 c2, .slice A3 n3 c3]).alloc (.cells #[.slice none 0 0, .slice none 0 0, .slice none 0 0] 44)).alloc (.cells #[.slice none 0 0, .slice none 0 0, .slice none 0 0] 44)
  have B1 := (Blk.new (w.alloc (.cells #[.slice A1 n1 c1, .slice A2 n2 c2, .slice A3 n3 c3] 30)) 44 #[.slice none 0 0, .slice none 0 0, .slice none 0 0]).alloc (.cells #[.slice none 0 0, .slice none 0 0, .slice none 0 0] 44)
  have B2 := Blk.new ((w.alloc (.cells #[.slice A1 n1 c1, .slice A2 n2 c2, .slice A3 n3 c3] 30)).alloc (.cells #[.slice none 0 0, .slice none 0 0, .slice none 0 0] 44)) 44 #[.slice none 0 0, .slice none 0 0, .slice none 0 0]
  simp only [World.size_alloc] at B1 B2
  have hz0 : (((w.alloc (.cells #[.slice A1 n1 c1, .slice A2 n2 c2, .slice A3 n3 c3] 30)).alloc (.cells #[.slice none 0 0, .slice none 0 0, .slice none 0 0] 44)).alloc (.cells #[.slice none 0 0, .slice none 0 0, .slice none 0 0] 44)).heap.size = w.heap.size + 3 := by simp only [World.size_alloc]
  go_enter Try.func53, Try.ntmps53
  go_wp2_with fail
  generalize (((w.alloc (.cells #[.slice A1 n1 c1, .slice A2 n2 c2, .slice A3 n3 c3] 30)).alloc (.cells #[.slice none 0 0, .slice none 0 0, .slice none 0 0] 44)).alloc (.cells #[.slice none 0 0, .slice none 0 0, .slice none 0 0] 44)) = w0 at *
  have L := OwnL.nil w0 (w.heap.size + 3)
  have hzz : w.heap.size + 3 ≤ w0.heap.size := by omega
  refine (toIntS_any _ _ _ l1 _ (h1.ext E).rd h1.len (by omega)).mono ?_
  rintro e w1 ⟨D1, d1, rfl, O, e1⟩
  replace L := L.add e1 O hzz
  replace E := E.trans e1
  replace B0 := B0.ext e1
  replace B1 := B1.ext e1
  replace B2 := B2.ext e1
  have F2 := B2.frozen
  have CC2 := B2.cells
  replace B0 := B0.far (p := ⟨w.heap.size + 1 + 1, 0, none⟩) (by simp; omega) (.slice D1 n1 d1)
  replace B1 := B1.far (p := ⟨w.heap.size + 1 + 1, 0, none⟩) (by simp) (.slice D1 n1 d1)
  replace B2 := B2.set_ 0 (.slice D1 n1 d1)
  replace E := E.setCell (p := ⟨w.heap.size + 1 + 1, 0, none⟩) (by simp; omega) (.slice D1 n1 d1)
  replace L := L.cell (p := ⟨w.heap.size + 1 + 1, 0, none⟩) (by simp) (.slice D1 n1 d1)
  have CC0 := B0.cells
  clear e1 O hzz
  go_wp2_with fail
  generalize w1.setCell ⟨w.heap.size + 1 + 1, 0, none⟩ (.slice D1 n1 d1) = v1 at *
  clear F2 CC2
  have hzz : w.heap.size + 3 ≤ v1.heap.size := by have := B2.lt; omega
  refine (toIntS_any _ _ _ l2 _ (h2.ext E).rd h2.len (by omega)).mono ?_
  rintro e w2 ⟨D2, d2, rfl, O, e1⟩
  clear CC0
  replace L := L.add e1 O hzz
  replace E := E.trans e1
  replace B0 := B0.ext e1
  replace B1 := B1.ext e1
  replace B2 := B2.ext e1
  have F2 := B2.frozen
  have CC2 := B2.cells
  replace B0 := B0.far (p := ⟨w.heap.size + 1 + 1, 1, none⟩) (by simp; omega) (.slice D2 n2 d2)
  replace B1 := B1.far (p := ⟨w.heap.size + 1 + 1, 1, none⟩) (by simp) (.slice D2 n2 d2)
  replace B2 := B2.set_ 1 (.slice D2 n2 d2)
  replace E := E.setCell (p := ⟨w.heap.size + 1 + 1, 1, none⟩) (by simp; omega) (.slice D2 n2 d2)
  replace L := L.cell (p := ⟨w.heap.size + 1 + 1, 1, none⟩) (by simp) (.slice D2 n2 d2)
  have CC0 := B0.cells
  clear e1 O hzz
  go_wp2_with fail
  generalize w2.setCell ⟨w.heap.size + 1 + 1, 1, none⟩ (.slice D2 n2 d2) = v2 at *
  clear F2 CC2
  have hzz : w.heap.size + 3 ≤ v2.heap.size := by have := B2.lt; omega
  refine (toIntS_any _ _ _ l3 _ (h3.ext E).rd h3.len (by omega)).mono ?_
  rintro e w3 ⟨D3, d3, rfl, O, e1⟩
  clear CC0
  replace L := L.add e1 O hzz
  replace E := E.trans e1
  replace B0 := B0.ext e1
  replace B1 := B1.ext e1
  replace B2 := B2.ext e1
  have F2 := B2.frozen
  have CC2 := B2.cells
  have CC1 := B1.cells
  have FF1 := B1.frozen
  replace B0 := B0.far (p := ⟨w.heap.size + 1 + 1, 2, none⟩) (by simp; omega) (.slice D3 n3 d3)
  replace B1 := B1.far (p := ⟨w.heap.size + 1 + 1, 2, none⟩) (by simp) (.slice D3 n3 d3)
  replace B2 := B2.set_ 2 (.slice D3 n3 d3)
  replace E := E.setCell (p := ⟨w.heap.size + 1 + 1, 2, none⟩) (by simp; omega) (.slice D3 n3 d3)
  replace L := L.cell (p := ⟨w.heap.size + 1 + 1, 2, none⟩) (by simp) (.slice D3 n3 d3)
  have CC0 := B0.cells
  clear e1 O hzz
  have F1 := B1.frozen
  have CC3 := B2.cells
  have hE := ((E.setCell (p := ⟨w.heap.size + 1, 0, none⟩) (by simp) (.slice D1 n1 d1)).setCell (p := ⟨w.heap.size + 1, 1, none⟩) (by simp) (.slice D2 n2 d2)).setCell (p := ⟨w.heap.size + 1, 2, none⟩) (by simp) (.slice D3 n3 d3)
  have hL := ((L.cell (p := ⟨w.heap.size + 1, 0, none⟩) (by simp) (.slice D1 n1 d1)).cell (p := ⟨w.heap.size + 1, 1, none⟩) (by simp) (.slice D2 n2 d2)).cell (p := ⟨w.heap.size + 1, 2, none⟩) (by simp) (.slice D3 n3 d3)
  have cz := (((B1.set_ 0 (.slice D1 n1 d1)).set_ 1 (.slice D2 n2 d2)).set_ 2 (.slice D3 n3 d3)).cells
  go_wp2
  refine bodyPost_ret (v := .agg #[.slice D1 n1 d1, .slice D2 n2 d2, .slice D3 n3 d3]) (by simp [results, Try.results53, cz, go_sem]) rfl ⟨D1, d1, D2, d2, D3, d3, rfl, hL.more (by omega), hE⟩
set_option maxHeartbeats 2000000 in
theorem eqProof_same {A1 : Option Addr} {n1 c1 : Nat} {A2 : Option Addr} {n2 c2 : Nat} {A3 : Option Addr} {n3 c3 : Nat} {B1 : Option Addr} {m1 e1 : Nat} {B2 : Option Addr} {m2 e2 : Nat} {B3 : Option Addr} {m3 e3 : Nat} {l1 l2 l3 : List Int} {w : World} (h1 : SlI w A1 n1 c1 l1) (h2 : SlI w A2 n2 c2 l2) (h3 : SlI w A3 n3 c3 l3) (k1 : SlI w B1 m1 e1 l1) (k2 : SlI w B2 m2 e2 l2) (k3 : SlI w B3 m3 e3 l3) :
    Calls Try.prog 62 #[.agg #[.slice A1 n1 c1, .slice A2 n2 c2, .slice A3 n3 c3], .agg #[.slice B1 m1 e1, .slice B2 m2 e2, .slice B3 m3 e3]] w fun e w' => e = .returned (.bool true) ∧ Ext w w' := by
  have E := ((Ext.refl w).alloc (.cells #[.slice A1 n1 c1, .slice A2 n2 c2, .slice A3 n3 c3] 44)).alloc (.cells #[.slice B1 m1 e1, .slice B2 m2 e2, .slice B3 m3 e3] 44)
  have B0 := (Blk.new w 44 #[.slice A1 n1 c1, .slice A2 n2 c2, .slice A3 n3 c3]).alloc (.cells #[.slice B1 m1 e1, .slice B2 m2 e2, .slice B3 m3 e3] 44)
  have B1 := Blk.new (w.alloc (.cells #[.slice A1 n1 c1, .slice A2 n2 c2, .slice A3 n3 c3] 44)) 44 #[.slice B1 m1 e1, .slice B2 m2 e2, .slice B3 m3 e3]
  simp only [World.size_alloc] at B1
  have q0 := B0.cells
  have q1 := B1.cells
  go_enter Try.func62, Try.ntmps62
  go_wp2_with fail
  refine (eqIntS_same (h1.rd.ext E) (k1.rd.ext E) h1.len k1.len h1.le k1.le).mono ?_
  rintro e w1 ⟨rfl, e1⟩
  clear q0 q1
  replace B0 := B0.ext e1
  replace B1 := B1.ext e1
  have q0 := B0.cells
  have q1 := B1.cells
  replace E := E.trans e1
  clear e1
  go_wp2_with fail
  refine (eqIntS_same (h2.rd.ext E) (k2.rd.ext E) h2.len k2.len h2.le k2.le).mono ?_
  rintro e w2 ⟨rfl, e1⟩
  clear q0 q1
  replace B0 := B0.ext e1
  replace B1 := B1.ext e1
  have q0 := B0.cells
  have q1 := B1.cells
  replace E := E.trans e1
  clear e1
  go_wp2_with fail
  refine (eqIntS_same (h3.rd.ext E) (k3.rd.ext E) h3.len k3.len h3.le k3.le).mono ?_
  rintro e w3 ⟨rfl, e1⟩
  clear q0 q1
  replace B0 := B0.ext e1
  replace B1 := B1.ext e1
  have q0 := B0.cells
  have q1 := B1.cells
  replace E := E.trans e1
  clear e1
  go_wp2
  go_ret
  exact ⟨rfl, E⟩
set_option maxHeartbeats 2000000 in
theorem szProof_any {A1 : Option Addr} {n1 c1 : Nat} {A2 : Option Addr} {n2 c2 : Nat} {A3 : Option Addr} {n3 c3 : Nat} {z : Int} {w : World} (hz : 0 ≤ z) (hz2 : z ≤ 1000000000) (hn1 : n1 ≤ 9223372036854775807) (hn2 : n2 ≤ 9223372036854775807) (hn3 : n3 ≤ 9223372036854775807) :
    Calls Try.prog 47 #[.agg #[.slice A1 n1 c1, .slice A2 n2 c2, .slice A3 n3 c3], .int .i64 z] w fun e w' => e = .returned (.int .i64 (if (n1 : Int) + n2 + n3 ≤ z then z - n1 - n2 - n3 else -1)) ∧ Ext w w' := by
  have B0 := Blk.new w 30 #[.slice A1 n1 c1, .slice A2 n2 c2, .slice A3 n3 c3]
  have E := (Ext.refl w).alloc (.cells #[.slice A1 n1 c1, .slice A2 n2 c2, .slice A3 n3 c3] 30)
  have q0 := B0.cells
  by_cases h1 : (n1 : Int) ≤ z
  · by_cases h2 : (n1 : Int) + n2 ≤ z
    · by_cases h3 : (n1 : Int) + n2 + n3 ≤ z
      · rw [if_pos h3]
        go_enter Try.func47, Try.ntmps47
        go_wp2_with fail
        refine (szInt1_yes (by omega) (by omega)).mono ?_
        rintro e w1 ⟨rfl, rfl⟩
        go_wp2_with fail
        refine (szInt1_yes (by omega) (by omega)).mono ?_
        rintro e w1 ⟨rfl, rfl⟩
        go_wp2_with fail
        refine (szInt1_yes (by omega) (by omega)).mono ?_
        rintro e w1 ⟨rfl, rfl⟩
        go_wp2
        go_ret
        exact ⟨rfl, E⟩
      · rw [if_neg h3]
        go_enter Try.func47, Try.ntmps47
        go_wp2_with fail
        refine (szInt1_yes (by omega) (by omega)).mono ?_
        rintro e w1 ⟨rfl, rfl⟩
        go_wp2_with fail
        refine (szInt1_yes (by omega) (by omega)).mono ?_
        rintro e w1 ⟨rfl, rfl⟩
        go_wp2_with fail
        refine (szInt1_no (by omega) (by omega) (by omega)).mono ?_
        rintro e w1 ⟨rfl, rfl⟩
        go_wp2
        go_ret
        exact ⟨rfl, E⟩
    · rw [if_neg (by omega)]
      go_enter Try.func47, Try.ntmps47
      go_wp2_with fail
      refine (szInt1_yes (by omega) (by omega)).mono ?_
      rintro e w1 ⟨rfl, rfl⟩
      go_wp2_with fail
      refine (szInt1_no (by omega) (by omega) (by omega)).mono ?_
      rintro e w1 ⟨rfl, rfl⟩
      go_wp2
      go_ret
      exact ⟨rfl, E⟩
  · rw [if_neg (by omega)]
    go_enter Try.func47, Try.ntmps47
    go_wp2_with fail
    refine (szInt1_no (by omega) (by omega) (by omega)).mono ?_
    rintro e w1 ⟨rfl, rfl⟩
    go_wp2
    go_ret
    exact ⟨rfl, E⟩
set_option maxHeartbeats 4000000 in
theorem toProofS_any (A : Option Addr) (n c : Nat) (ps : List (List Int × List Int × List Int)) (w : World) (ha : RdP w A ps) (hl : ps.length = n) (hn : n + tot (flP ps) ≤ 1000000000) :
    Calls Try.prog 52 #[.slice A n c] w fun e w' => ∃ A' c' P, e = .returned (.slice A' n c') ∧ OwnQ w' w.heap.size A' n c' P ps ∧ Ext w w' := by
  subst hl
  go_enter Try.func52, Try.ntmps52
  go_wp2_with (at_make; refine wpList_mkP proofSl rfl _ _ rfl _ _ _ _ ps.length rfl rfl rfl rfl (by omega) w.heap.size (Nat.le_refl _) ?_; intro w1 hO hE hz)
  go_loopw [4] (fun i wr => ∃ (j : Nat) (P : List Nat), j ≤ ps.length ∧ i = .int .i64 j ∧ OwnG 3 44 wr w.heap.size (some ⟨w.heap.size, 0, none⟩) ps.length ps.length P (flP (ps.take j) ++ List.replicate ((ps.length - j) * 3) []) ∧ Ext w wr) (fun i _ => ps.length - (intOf i).toNat)
  case atStart => exact ⟨0, _, Nat.zero_le _, rfl, by simpa [flP] using ownG_pad hO, hE⟩
  case round =>
    clear hO hE hz
    obtain ⟨j, P, hj, rfl, hII, hE⟩ := hrel
    by_cases hlt : j < ps.length
    · obtain ⟨ad, rfl, B, m, d, D, m', d', F, m2, d2, hc, hd, hf, hR, hS, hT⟩ := (ha.ext hE).at_ hlt
      have ht := totP_at hlt
      have hps := padP_set hlt
      have hll : (flP (ps.take j) ++ List.replicate ((ps.length - j) * 3) ([] : List Int)).length = ps.length * 3 := hII.len
      generalize ps[j].1 = l1 at *
      generalize ps[j].2.1 = l2 at *
      generalize ps[j].2.2 = l3 at *
      have HP := Lib.hid hps
      clear hps
      have hlow := hII.low
      have hwz := hE.size
      have hl1 := hR.len
      have hl2 := hS.len
      have hl3 := hT.len
      go_wp2_with fail
      refine (toProof_any _ _ _ _ _ _ _ _ _ l1 l2 l3 _ hR hS hT (by omega)).mono ?_
      rintro e w2 ⟨A2, c2, B2, e2, F2, f2, rfl, hO2, hE2⟩
      obtain ⟨P', hII2⟩ := (hII.ext hE2).lay3 (by decide) (j := j * 3) (by rw [hll]; omega) (hO2.more hwz) (Apart.of_high hlow hO2.high)
      rw [HP.out] at hII2
      obtain ⟨g, B', m1, d1, hg, hcell, _⟩ := (hII.ext hE2).row (by decide) (j := j * 3) (by rw [hll]; omega)
      obtain ⟨g', B9, m9, d9, hg9, hcell9, _⟩ := (hII.ext hE2).row (by decide) (j := j * 3 + 1) (by rw [hll]; omega)
      obtain ⟨g'', B8, m8, d8, hg8, hcell8, _⟩ := (hII.ext hE2).row (by decide) (j := j * 3 + 2) (by rw [hll]; omega)
      obtain rfl : g = w.heap.size := by simpa using hg.symm
      obtain rfl : g' = w.heap.size := by simpa using hg9.symm
      obtain rfl : g'' = w.heap.size := by simpa using hg8.symm
      have hfr := ((hII.ext hE2).frz (j * 3)).out
      have hfr2 := ((hII.ext hE2).frz (j * 3 + 1)).out
      have hfr3 := ((hII.ext hE2).frz (j * 3 + 2)).out
      clear hg hg9 hg8
      go_wp2
      go_roundw
      case rel => exact ⟨j + 1, P', by omega, by go_num, hII2, (((hE.trans hE2).setCell (p := ⟨w.heap.size, j * 3, none⟩) (Nat.le_refl _) _).setCell (p := ⟨w.heap.size, j * 3 + 1, none⟩) (Nat.le_refl _) _).setCell (p := ⟨w.heap.size, j * 3 + 2, none⟩) (Nat.le_refl _) _⟩
      case measure => simp [intOf]; omega
    · obtain rfl : j = ps.length := by omega
      rw [List.take_length, Nat.sub_self, Nat.zero_mul, List.replicate_zero, List.append_nil] at hII
      go_wp2
      go_ret
      exact ⟨_, _, _, rfl, hII, hE⟩
set_option maxHeartbeats 4000000 in
theorem eqProofS_same {A B : Option Addr} {n m c d : Nat} {ps : List (List Int × List Int × List Int)} {w : World} (ha : RdP w A ps) (hb : RdP w B ps) (hl : ps.length = n) (hk : ps.length = m) (hn : n ≤ maxLen) (hm : m ≤ maxLen) :
    Calls Try.prog 61 #[.slice A n c, .slice B m d] w fun e w' => e = .returned (.bool true) ∧ Ext w w' := by
  unfold maxLen at hn hm
  subst hl
  have hne' : ((ps.length : Int) != (m : Int)) = false := by simp [hk]
  have HE := Lib.hid hk
  clear hk
  go_enter Try.func61, Try.ntmps61
  go_wp2
  go_loopw [5] (fun i wr => ∃ j : Nat, j ≤ ps.length ∧ i = .int .i64 j ∧ Ext w wr) (fun i _ => ps.length - (intOf i).toNat)
  case atStart => exact ⟨0, Nat.zero_le _, rfl, Ext.refl _⟩
  case round =>
    obtain ⟨j, hj, rfl, hE⟩ := hrel
    by_cases hlt : j < ps.length
    · have hlt' : j < m := by rw [← HE.out]; exact hlt
      obtain ⟨ad, rfl, A1, n1, c1, A2, n2, c2, A3, n3, c3, hca, hda, hfa, s1, s2, s3⟩ := (ha.ext hE).at_ hlt
      obtain ⟨bd, rfl, B1, m1, e1, B2, m2, e2, B3, m3, e3, hcb, hdb, hfb, s4, s5, s6⟩ := (hb.ext hE).at_ hlt
      generalize ps[j].1 = l1 at *
      generalize ps[j].2.1 = l2 at *
      generalize ps[j].2.2 = l3 at *
      have hS : ∀ V, Ext wr V → V.cell? (ad.add (j * 3)) = some (.slice A1 n1 c1) ∧ V.cell? ⟨(ad.add (j * 3)).block, (ad.add (j * 3)).off + 1, none⟩ = some (.slice A2 n2 c2) ∧ V.cell? ⟨(ad.add (j * 3)).block, (ad.add (j * 3)).off + 2, none⟩ = some (.slice A3 n3 c3) ∧ V.cell? (bd.add (j * 3)) = some (.slice B1 m1 e1) ∧ V.cell? ⟨(bd.add (j * 3)).block, (bd.add (j * 3)).off + 1, none⟩ = some (.slice B2 m2 e2) ∧ V.cell? ⟨(bd.add (j * 3)).block, (bd.add (j * 3)).off + 2, none⟩ = some (.slice B3 m3 e3) := fun V hV => ⟨hV.cell hca, hV.cell hda, hV.cell hfa, hV.cell hcb, hV.cell hdb, hV.cell hfb⟩
      go_wp2
      go_region_held3 (fun V => V.cell? (ad.add (j * 3)) = some (.slice A1 n1 c1) ∧ V.cell? ⟨(ad.add (j * 3)).block, (ad.add (j * 3)).off + 1, none⟩ = some (.slice A2 n2 c2) ∧ V.cell? ⟨(ad.add (j * 3)).block, (ad.add (j * 3)).off + 2, none⟩ = some (.slice A3 n3 c3) ∧ V.cell? (bd.add (j * 3)) = some (.slice B1 m1 e1) ∧ V.cell? ⟨(bd.add (j * 3)).block, (bd.add (j * 3)).off + 1, none⟩ = some (.slice B2 m2 e2) ∧ V.cell? ⟨(bd.add (j * 3)).block, (bd.add (j * 3)).off + 2, none⟩ = some (.slice B3 m3 e3)) (exact hS _ (by repeat (first | with_reducible assumption | with_reducible exact Ext.refl _ | with_reducible apply Ext.alloc | with_reducible apply Ext.drew | with_reducible apply Ext.drewN)))
        (first
          | (go_at_call 62; refine (eqProof_same (s1.ext (Ext.trans (w := wr) (Ext.refl _) (by repeat (first | with_reducible assumption | with_reducible exact Ext.refl _ | with_reducible apply Ext.alloc | with_reducible apply Ext.drew | with_reducible apply Ext.drewN)))) (s2.ext (Ext.trans (w := wr) (Ext.refl _) (by repeat (first | with_reducible assumption | with_reducible exact Ext.refl _ | with_reducible apply Ext.alloc | with_reducible apply Ext.drew | with_reducible apply Ext.drewN)))) (s3.ext (Ext.trans (w := wr) (Ext.refl _) (by repeat (first | with_reducible assumption | with_reducible exact Ext.refl _ | with_reducible apply Ext.alloc | with_reducible apply Ext.drew | with_reducible apply Ext.drewN)))) (s4.ext (Ext.trans (w := wr) (Ext.refl _) (by repeat (first | with_reducible assumption | with_reducible exact Ext.refl _ | with_reducible apply Ext.alloc | with_reducible apply Ext.drew | with_reducible apply Ext.drewN)))) (s5.ext (Ext.trans (w := wr) (Ext.refl _) (by repeat (first | with_reducible assumption | with_reducible exact Ext.refl _ | with_reducible apply Ext.alloc | with_reducible apply Ext.drew | with_reducible apply Ext.drewN)))) (s6.ext (Ext.trans (w := wr) (Ext.refl _) (by repeat (first | with_reducible assumption | with_reducible exact Ext.refl _ | with_reducible apply Ext.alloc | with_reducible apply Ext.drew | with_reducible apply Ext.drewN))))).mono ?_; rintro e w2 ⟨rfl, hb2⟩; have hx2 := Ext.trans (w := wr) (by repeat (first | with_reducible assumption | with_reducible exact Ext.refl _ | with_reducible apply Ext.alloc | with_reducible apply Ext.drew | with_reducible apply Ext.drewN)) hb2)
          | fail)
      go_wp2
      go_roundw
      case rel => exact ⟨j + 1, by omega, by go_num, hE.trans hx2⟩
      case measure => simp [intOf]; omega
    · obtain rfl : j = ps.length := by omega
      go_wp2
      go_ret
      exact ⟨rfl, hE⟩
set_option maxHeartbeats 4000000 in
theorem szProofS_any {A : Option Addr} {n c : Nat} {ps : List (List Int × List Int × List Int)} {k : Int} {w : World} (ha : RdP w A ps) (hl : ps.length = n) (hn : n ≤ 9223372036854775807) (hk : 0 ≤ k) (hk2 : k ≤ 1000000000) :
    Calls Try.prog 46 #[.slice A n c, .int .i64 k] w fun e w' => e = .returned (.int .i64 (if (n : Int) + tot (flP ps) ≤ k then k - n - tot (flP ps) else -1)) ∧ Ext w w' := by
  subst hl
  by_cases h0 : (ps.length : Int) ≤ k
  · go_enter Try.func46, Try.ntmps46
    go_wp2
    go_loopw [1, 5] (fun q i wr => ∃ j : Nat, j ≤ ps.length ∧ i = .int .i64 j ∧ q = .int .i64 (k - ps.length - tot (flP (ps.take j))) ∧ 0 ≤ k - ps.length - tot (flP (ps.take j)) ∧ Ext w wr) (fun _ i _ => ps.length - (intOf i).toNat)
    case atStart => exact ⟨0, Nat.zero_le _, rfl, by simp [tot, flP], by simp [tot, flP]; omega, Ext.refl _⟩
    case round =>
      obtain ⟨j, hj, rfl, rfl, hge, hE⟩ := hrel
      by_cases hlt : j < ps.length
      · obtain ⟨ad, rfl, B, m, d, D, m', d', F, m2, d2, hc, hd, hf, hR, hS, hT⟩ := (ha.ext hE).at_ hlt
        have ht := totP_at hlt
        have ht2 := totP_succ hlt
        have q1 := hR.le
        have q2 := hS.le
        have q3 := hT.le
        unfold maxLen at q1 q2 q3
        rw [hR.len, hS.len, hT.len] at ht ht2
        have HT := Lib.hid ht2
        clear ht2
        by_cases hh : (m : Int) + m' + m2 ≤ k - ps.length - tot (flP (ps.take j))
        · go_wp2_with fail
          refine (szProof_any hge (by omega) (by omega) (by omega) (by omega)).mono ?_
          rw [if_pos hh]
          rintro e w1 ⟨rfl, hb⟩
          go_wp2
          go_roundw
          case rel => exact ⟨j + 1, by omega, by go_num, by rw [HT.out]; push_cast; congr 1; omega, by rw [HT.out]; push_cast; omega, hE.trans hb⟩
          case measure => simp [intOf]; omega
        · go_wp2_with fail
          refine (szProof_any hge (by omega) (by omega) (by omega) (by omega)).mono ?_
          rw [if_neg (by omega)]
          rintro e w1 ⟨rfl, hb⟩
          go_wp2
          go_ret
          exact ⟨ret_int (by first | rfl | rw [if_neg (by omega)]), hE.trans hb⟩
      · obtain rfl : j = ps.length := by omega
        rw [List.take_length] at hge
        rw [List.take_length]
        go_wp2
        go_ret
        exact ⟨ret_int (by first | rfl | rw [if_pos (by omega)]), hE⟩
  · go_enter Try.func46, Try.ntmps46
    go_wp2
    go_ret
    exact ⟨ret_int (by first | rfl | rw [if_neg (by omega)]), Ext.refl _⟩
end
section
open Go.RowKit

theorem OwnC.cell {w : World} {base e n c : Nat} {A : Option Addr} {l : List (Int × Int)} (h : OwnC w base e A n c l) {p : Addr} (hp : p.block < base) (u : Value) : OwnC (w.setCell p u) base e A n c l :=
  h.only ((Only.refl [p.block] w).setCell (by simp) u) (Apart.of_high (by intro b hb; simp at hb; omega) h.high)
theorem OwnQ.cell {w : World} {base n c : Nat} {A : Option Addr} {P : List Nat} {ps : List (List Int × List Int × List Int)} (h : OwnQ w base A n c P ps) {p : Addr} (hp : p.block < base) (u : Value) : OwnQ (w.setCell p u) base A n c P ps :=
  h.only ((Only.refl [p.block] w).setCell (by simp) u) (Apart.of_high (by intro b hb; simp at hb; omega) h.high)
/-- A sealed ballot of the call's own: its ciphertexts, its proofs, its last proof. -/
structure OwnX (w : World) (base : Nat) (A : Option Addr) (n c : Nat) (B : Option Addr) (m d : Nat) (P : List Nat) (rs : List (Option Addr × Nat × Nat)) (ci : List (Int × Int)) (ps : List (List Int × List Int × List Int)) (ls : List (List Int)) : Prop where
  c : OwnC w base 35 A n c ci
  q : OwnQ w base B m d P ps
  s : OwnL w base rs ls
  cq : Apart (fpI A) P
  cs : Apart (fpI A) (rowsFp rs)
  qs : Apart P (rowsFp rs)
section
variable {w w' : World} {base n c m d : Nat} {A B : Option Addr} {P fp : List Nat} {rs : List (Option Addr × Nat × Nat)} {ci : List (Int × Int)} {ps : List (List Int × List Int × List Int)} {ls : List (List Int)}
theorem OwnX.ext (h : OwnX w base A n c B m d P rs ci ps ls) (hb : Ext w w') : OwnX w' base A n c B m d P rs ci ps ls := ⟨h.c.ext hb, h.q.ext hb, h.s.ext hb, h.cq, h.cs, h.qs⟩
theorem OwnX.more {base' : Nat} (h : OwnX w base A n c B m d P rs ci ps ls) (hb : base' ≤ base) : OwnX w base' A n c B m d P rs ci ps ls := ⟨h.c.more hb, h.q.more hb, h.s.more hb, h.cq, h.cs, h.qs⟩
theorem OwnX.low (h : OwnX w base A n c B m d P rs ci ps ls) : Low (fpI A ++ (P ++ rowsFp rs)) w.heap.size := fun b hb => (List.mem_append.1 hb).elim (h.c.low b) fun hb => (List.mem_append.1 hb).elim (h.q.low b) (h.s.low b)
theorem OwnX.high (h : OwnX w base A n c B m d P rs ci ps ls) : High base (fpI A ++ (P ++ rowsFp rs)) := fun b hb => (List.mem_append.1 hb).elim (h.c.high b) fun hb => (List.mem_append.1 hb).elim (h.q.high b) (h.s.high b)
end
set_option maxHeartbeats 4000000 in
theorem toSealed_any (v : Int) (A : Option Addr) (n c : Nat) (B : Option Addr) (m d : Nat) (C1 : Option Addr) (k1 f1 : Nat) (C2 : Option Addr) (k2 f2 : Nat) (C3 : Option Addr) (k3 f3 : Nat) (ci : List (Int × Int)) (ps : List (List Int × List Int × List Int)) (l1 l2 l3 : List Int) (w : World) (ha : RdC w A ci) (hl : ci.length = n) (hb : RdP w B ps) (hm : ps.length = m) (h1 : SlI w C1 k1 f1 l1) (h2 : SlI w C2 k2 f2 l2) (h3 : SlI w C3 k3 f3 l3) (hn : n + (m + tot (flP ps)) + (k1 + k2 + k3) ≤ 1000000000) :
    Calls Try.prog 11 #[.agg #[.int .i64 v, .slice A n c, .slice B m d, .slice C1 k1 f1, .slice C2 k2 f2, .slice C3 k3 f3]] w fun e w' => ∃ A1 c1 X1 d1 P D1 g1 D2 g2 D3 g3, e = .returned (.agg #[.int .i64 v, .slice A1 n c1, .slice X1 m d1, .slice D1 k1 g1, .slice D2 k2 g2, .slice D3 k3 g3]) ∧ OwnX w' w.heap.size A1 n c1 X1 m d1 P [(D1, k1, g1), (D2, k2, g2), (D3, k3, g3)] ci ps [l1, l2, l3] ∧ Ext w w' := by
  have E := (((Ext.refl w).alloc (.cells #[.int .i64 v, .slice A n c, .slice B m d, .slice C1 k1 f1, .slice C2 k2 f2, .slice C3 k3 f3] 32)).alloc (.cells #[.int .i64 0, .slice none 0 0, .slice none 0 0, .slice none 0 0, .slice none 0 0, .slice none 0 0] 46)).alloc (.cells #[.int .i64 v, .slice none 0 0, .slice none 0 0, .slice none 0 0, .slice none 0 0, .slice none 0 0] 46)
  have B0 := ((Blk.new w 32 #[.int .i64 v, .slice A n c, .slice B m d, .slice C1 k1 f1, .slice C2 k2 f2, .slice C3 k3 f3]).alloc (.cells #[.int .i64 0, .slice none 0 0, .slice none 0 0, .slice none 0 0, .slice none 0 0, .slice none 0 0] 46)).alloc (.cells #[.int .i64 v, .slice none 0 0, .slice none 0 0, .slice none 0 0, .slice none 0 0, .slice none 0 0] 46)
  have B1 := (Blk.new (w.alloc (.cells #[.int .i64 v, .slice A n c, .slice B m d, .slice C1 k1 f1, .slice C2 k2 f2, .slice C3 k3 f3] 32)) 46 #[.int .i64 0, .slice none 0 0, .slice none 0 0, .slice none 0 0, .slice none 0 0, .slice none 0 0]).alloc (.cells #[.int .i64 v, .slice none 0 0, .slice none 0 0, .slice none 0 0, .slice none 0 0, .slice none 0 0] 46)
  have B2 := Blk.new ((w.alloc (.cells #[.int .i64 v, .slice A n c, .slice B m d, .slice C1 k1 f1, .slice C2 k2 f2, .slice C3 k3 f3] 32)).alloc (.cells #[.int .i64 0, .slice none 0 0, .slice none 0 0, .slice none 0 0, .slice none 0 0, .slice none 0 0] 46)) 46 #[.int .i64 v, .slice none 0 0, .slice none 0 0, .slice none 0 0, .slice none 0 0, .slice none 0 0]
  simp only [World.size_alloc] at B1 B2
  have hz0 : (((w.alloc (.cells #[.int .i64 v, .slice A n c, .slice B m d, .slice C1 k1 f1, .slice C2 k2 f2, .slice C3 k3 f3] 32)).alloc (.cells #[.int .i64 0, .slice none 0 0, .slice none 0 0, .slice none 0 0, .slice none 0 0, .slice none 0 0] 46)).alloc (.cells #[.int .i64 v, .slice none 0 0, .slice none 0 0, .slice none 0 0, .slice none 0 0, .slice none 0 0] 46)).heap.size = w.heap.size + 3 := by simp only [World.size_alloc]
  go_enter Try.func11, Try.ntmps11
  go_wp2_with fail
  generalize (((w.alloc (.cells #[.int .i64 v, .slice A n c, .slice B m d, .slice C1 k1 f1, .slice C2 k2 f2, .slice C3 k3 f3] 32)).alloc (.cells #[.int .i64 0, .slice none 0 0, .slice none 0 0, .slice none 0 0, .slice none 0 0, .slice none 0 0] 46)).alloc (.cells #[.int .i64 v, .slice none 0 0, .slice none 0 0, .slice none 0 0, .slice none 0 0, .slice none 0 0] 46)) = w0 at *
  have hzz : w.heap.size + 3 ≤ w0.heap.size := by omega
  refine (toCipherS_any A n c ci _ (ha.ext E) hl (by omega)).mono ?_
  rintro e v0 ⟨A1, c1, rfl, O, e1⟩
  (first | clear CC0 | skip)
  have OC := O.more hzz
  replace E := E.trans e1
  replace B0 := B0.ext e1
  replace B1 := B1.ext e1
  replace B2 := B2.ext e1
  have F2 := B2.frozen
  have CC2 := B2.cells
  replace B0 := B0.far (p := ⟨w.heap.size + 1 + 1, 1, none⟩) (by first | (simp; done) | (simp; omega)) (.slice A1 n c1)
  replace B1 := B1.far (p := ⟨w.heap.size + 1 + 1, 1, none⟩) (by first | (simp; done) | (simp; omega)) (.slice A1 n c1)
  replace B2 := B2.set_ 1 (.slice A1 n c1)
  replace E := E.setCell (p := ⟨w.heap.size + 1 + 1, 1, none⟩) (by first | (simp; done) | (simp; omega)) (.slice A1 n c1)
  replace OC := OC.cell (p := ⟨w.heap.size + 1 + 1, 1, none⟩) (by first | (simp; done) | (simp; omega)) (.slice A1 n c1)
  have CC0 := B0.cells
  clear e1 O hzz
  go_wp2_with fail
  generalize v0.setCell ⟨w.heap.size + 1 + 1, 1, none⟩ (.slice A1 n c1) = u0 at *
  clear F2 CC2
  have hzz : w.heap.size + 3 ≤ u0.heap.size := by have := B2.lt; omega
  refine (toProofS_any B m d ps _ (hb.ext E) hm (by omega)).mono ?_
  rintro e v1 ⟨X1, d1, P, rfl, O, e1⟩
  (first | clear CC0 | skip)
  have cq : Apart (fpI A1) P := Apart.of_low OC.low O.high
  replace OC := OC.ext e1
  have OQ := O.more hzz
  replace E := E.trans e1
  replace B0 := B0.ext e1
  replace B1 := B1.ext e1
  replace B2 := B2.ext e1
  have F2 := B2.frozen
  have CC2 := B2.cells
  replace B0 := B0.far (p := ⟨w.heap.size + 1 + 1, 2, none⟩) (by first | (simp; done) | (simp; omega)) (.slice X1 m d1)
  replace B1 := B1.far (p := ⟨w.heap.size + 1 + 1, 2, none⟩) (by first | (simp; done) | (simp; omega)) (.slice X1 m d1)
  replace B2 := B2.set_ 2 (.slice X1 m d1)
  replace E := E.setCell (p := ⟨w.heap.size + 1 + 1, 2, none⟩) (by first | (simp; done) | (simp; omega)) (.slice X1 m d1)
  replace OC := OC.cell (p := ⟨w.heap.size + 1 + 1, 2, none⟩) (by first | (simp; done) | (simp; omega)) (.slice X1 m d1)
  replace OQ := OQ.cell (p := ⟨w.heap.size + 1 + 1, 2, none⟩) (by first | (simp; done) | (simp; omega)) (.slice X1 m d1)
  have CC0 := B0.cells
  clear e1 O hzz
  go_wp2_with fail
  generalize v1.setCell ⟨w.heap.size + 1 + 1, 2, none⟩ (.slice X1 m d1) = u1 at *
  clear F2 CC2
  have hzz : w.heap.size + 3 ≤ u1.heap.size := by have := B2.lt; omega
  refine (toProof_any C1 k1 f1 C2 k2 f2 C3 k3 f3 l1 l2 l3 _ (h1.ext E) (h2.ext E) (h3.ext E) (by omega)).mono ?_
  rintro e v2 ⟨D1, g1, D2, g2, D3, g3, rfl, O, e1⟩
  (first | clear CC0 | skip)
  have cs : Apart (fpI A1) (rowsFp [(D1, k1, g1), (D2, k2, g2), (D3, k3, g3)]) := Apart.of_low OC.low O.high
  have qs : Apart P (rowsFp [(D1, k1, g1), (D2, k2, g2), (D3, k3, g3)]) := Apart.of_low OQ.low O.high
  replace OC := OC.ext e1
  replace OQ := OQ.ext e1
  have OL := O.more hzz
  replace E := E.trans e1
  replace B0 := B0.ext e1
  replace B1 := B1.ext e1
  replace B2 := B2.ext e1
  have F2 := B2.frozen
  have CC2 := B2.cells
  have CC1 := B1.cells
  have FF1 := B1.frozen
  replace B0 := B0.far (p := ⟨w.heap.size + 1 + 1, 3, none⟩) (by first | (simp; done) | (simp; omega)) (.slice D1 k1 g1)
  replace B1 := B1.far (p := ⟨w.heap.size + 1 + 1, 3, none⟩) (by first | (simp; done) | (simp; omega)) (.slice D1 k1 g1)
  replace B2 := B2.set_ 3 (.slice D1 k1 g1)
  replace E := E.setCell (p := ⟨w.heap.size + 1 + 1, 3, none⟩) (by first | (simp; done) | (simp; omega)) (.slice D1 k1 g1)
  replace OC := OC.cell (p := ⟨w.heap.size + 1 + 1, 3, none⟩) (by first | (simp; done) | (simp; omega)) (.slice D1 k1 g1)
  replace OQ := OQ.cell (p := ⟨w.heap.size + 1 + 1, 3, none⟩) (by first | (simp; done) | (simp; omega)) (.slice D1 k1 g1)
  replace OL := OL.cell (p := ⟨w.heap.size + 1 + 1, 3, none⟩) (by first | (simp; done) | (simp; omega)) (.slice D1 k1 g1)
  replace B0 := B0.far (p := ⟨w.heap.size + 1 + 1, 4, none⟩) (by first | (simp; done) | (simp; omega)) (.slice D2 k2 g2)
  replace B1 := B1.far (p := ⟨w.heap.size + 1 + 1, 4, none⟩) (by first | (simp; done) | (simp; omega)) (.slice D2 k2 g2)
  replace B2 := B2.set_ 4 (.slice D2 k2 g2)
  replace E := E.setCell (p := ⟨w.heap.size + 1 + 1, 4, none⟩) (by first | (simp; done) | (simp; omega)) (.slice D2 k2 g2)
  replace OC := OC.cell (p := ⟨w.heap.size + 1 + 1, 4, none⟩) (by first | (simp; done) | (simp; omega)) (.slice D2 k2 g2)
  replace OQ := OQ.cell (p := ⟨w.heap.size + 1 + 1, 4, none⟩) (by first | (simp; done) | (simp; omega)) (.slice D2 k2 g2)
  replace OL := OL.cell (p := ⟨w.heap.size + 1 + 1, 4, none⟩) (by first | (simp; done) | (simp; omega)) (.slice D2 k2 g2)
  replace B0 := B0.far (p := ⟨w.heap.size + 1 + 1, 5, none⟩) (by first | (simp; done) | (simp; omega)) (.slice D3 k3 g3)
  replace B1 := B1.far (p := ⟨w.heap.size + 1 + 1, 5, none⟩) (by first | (simp; done) | (simp; omega)) (.slice D3 k3 g3)
  replace B2 := B2.set_ 5 (.slice D3 k3 g3)
  replace E := E.setCell (p := ⟨w.heap.size + 1 + 1, 5, none⟩) (by first | (simp; done) | (simp; omega)) (.slice D3 k3 g3)
  replace OC := OC.cell (p := ⟨w.heap.size + 1 + 1, 5, none⟩) (by first | (simp; done) | (simp; omega)) (.slice D3 k3 g3)
  replace OQ := OQ.cell (p := ⟨w.heap.size + 1 + 1, 5, none⟩) (by first | (simp; done) | (simp; omega)) (.slice D3 k3 g3)
  replace OL := OL.cell (p := ⟨w.heap.size + 1 + 1, 5, none⟩) (by first | (simp; done) | (simp; omega)) (.slice D3 k3 g3)
  have CC0 := B0.cells
  clear e1 O hzz
  have F1 := B1.frozen
  have CC3 := B2.cells
  have hE := ((((((E.setCell (p := ⟨w.heap.size + 1, 0, none⟩) (by simp) (.int .i64 v)).setCell (p := ⟨w.heap.size + 1, 1, none⟩) (by simp) (.slice A1 n c1)).setCell (p := ⟨w.heap.size + 1, 2, none⟩) (by simp) (.slice X1 m d1)).setCell (p := ⟨w.heap.size + 1, 3, none⟩) (by simp) (.slice D1 k1 g1)).setCell (p := ⟨w.heap.size + 1, 4, none⟩) (by simp) (.slice D2 k2 g2)).setCell (p := ⟨w.heap.size + 1, 5, none⟩) (by simp) (.slice D3 k3 g3))
  have hOC := ((((((OC.cell (p := ⟨w.heap.size + 1, 0, none⟩) (by simp) (.int .i64 v)).cell (p := ⟨w.heap.size + 1, 1, none⟩) (by simp) (.slice A1 n c1)).cell (p := ⟨w.heap.size + 1, 2, none⟩) (by simp) (.slice X1 m d1)).cell (p := ⟨w.heap.size + 1, 3, none⟩) (by simp) (.slice D1 k1 g1)).cell (p := ⟨w.heap.size + 1, 4, none⟩) (by simp) (.slice D2 k2 g2)).cell (p := ⟨w.heap.size + 1, 5, none⟩) (by simp) (.slice D3 k3 g3))
  have hOQ := ((((((OQ.cell (p := ⟨w.heap.size + 1, 0, none⟩) (by simp) (.int .i64 v)).cell (p := ⟨w.heap.size + 1, 1, none⟩) (by simp) (.slice A1 n c1)).cell (p := ⟨w.heap.size + 1, 2, none⟩) (by simp) (.slice X1 m d1)).cell (p := ⟨w.heap.size + 1, 3, none⟩) (by simp) (.slice D1 k1 g1)).cell (p := ⟨w.heap.size + 1, 4, none⟩) (by simp) (.slice D2 k2 g2)).cell (p := ⟨w.heap.size + 1, 5, none⟩) (by simp) (.slice D3 k3 g3))
  have hOL := ((((((OL.cell (p := ⟨w.heap.size + 1, 0, none⟩) (by simp) (.int .i64 v)).cell (p := ⟨w.heap.size + 1, 1, none⟩) (by simp) (.slice A1 n c1)).cell (p := ⟨w.heap.size + 1, 2, none⟩) (by simp) (.slice X1 m d1)).cell (p := ⟨w.heap.size + 1, 3, none⟩) (by simp) (.slice D1 k1 g1)).cell (p := ⟨w.heap.size + 1, 4, none⟩) (by simp) (.slice D2 k2 g2)).cell (p := ⟨w.heap.size + 1, 5, none⟩) (by simp) (.slice D3 k3 g3))
  have cz := ((((((B1.set_ 0 (.int .i64 v)).set_ 1 (.slice A1 n c1)).set_ 2 (.slice X1 m d1)).set_ 3 (.slice D1 k1 g1)).set_ 4 (.slice D2 k2 g2)).set_ 5 (.slice D3 k3 g3)).cells
  go_wp2
  refine bodyPost_ret (v := .agg #[.int .i64 v, .slice A1 n c1, .slice X1 m d1, .slice D1 k1 g1, .slice D2 k2 g2, .slice D3 k3 g3]) (by simp [results, Try.results11, cz, go_sem]) rfl ⟨A1, c1, X1, d1, P, D1, g1, D2, g2, D3, g3, rfl, ⟨hOC.more (by omega), hOQ.more (by omega), hOL.more (by omega), cq, cs, qs⟩, hE⟩
set_option maxHeartbeats 4000000 in
theorem eqSealed_same {v : Int} {A : Option Addr} {n c : Nat} {B : Option Addr} {m d : Nat} {C1 : Option Addr} {k1 f1 : Nat} {C2 : Option Addr} {k2 f2 : Nat} {C3 : Option Addr} {k3 f3 : Nat} {A' : Option Addr} {n' c' : Nat} {B' : Option Addr} {m' d' : Nat} {C1' : Option Addr} {k1' f1' : Nat} {C2' : Option Addr} {k2' f2' : Nat} {C3' : Option Addr} {k3' f3' : Nat} {ci : List (Int × Int)} {ps : List (List Int × List Int × List Int)} {l1 l2 l3 : List Int} {w : World} (ha : RdC w A ci) (hl : ci.length = n) (hb : RdP w B ps) (hm : ps.length = m) (h1 : SlI w C1 k1 f1 l1) (h2 : SlI w C2 k2 f2 l2) (h3 : SlI w C3 k3 f3 l3) (ga : RdC w A' ci) (gl : ci.length = n') (gb : RdP w B' ps) (gm : ps.length = m') (g1 : SlI w C1' k1' f1' l1) (g2 : SlI w C2' k2' f2' l2) (g3 : SlI w C3' k3' f3' l3) (hn : n ≤ maxLen) (gn : n' ≤ maxLen) (hn2 : m ≤ maxLen) (gn2 : m' ≤ maxLen) :
    Calls Try.prog 14 #[.agg #[.int .i64 v, .slice A n c, .slice B m d, .slice C1 k1 f1, .slice C2 k2 f2, .slice C3 k3 f3], .agg #[.int .i64 v, .slice A' n' c', .slice B' m' d', .slice C1' k1' f1', .slice C2' k2' f2', .slice C3' k3' f3']] w fun e w' => e = .returned (.bool true) ∧ Ext w w' := by
  have hv : (v != v) = false := by simp
  have E := ((Ext.refl w).alloc (.cells #[.int .i64 v, .slice A n c, .slice B m d, .slice C1 k1 f1, .slice C2 k2 f2, .slice C3 k3 f3] 46)).alloc (.cells #[.int .i64 v, .slice A' n' c', .slice B' m' d', .slice C1' k1' f1', .slice C2' k2' f2', .slice C3' k3' f3'] 46)
  have B0 := (Blk.new w 46 #[.int .i64 v, .slice A n c, .slice B m d, .slice C1 k1 f1, .slice C2 k2 f2, .slice C3 k3 f3]).alloc (.cells #[.int .i64 v, .slice A' n' c', .slice B' m' d', .slice C1' k1' f1', .slice C2' k2' f2', .slice C3' k3' f3'] 46)
  have B1 := Blk.new (w.alloc (.cells #[.int .i64 v, .slice A n c, .slice B m d, .slice C1 k1 f1, .slice C2 k2 f2, .slice C3 k3 f3] 46)) 46 #[.int .i64 v, .slice A' n' c', .slice B' m' d', .slice C1' k1' f1', .slice C2' k2' f2', .slice C3' k3' f3']
  simp only [World.size_alloc] at B1
  have q0 := B0.cells
  have q1 := B1.cells
  go_enter Try.func14, Try.ntmps14
  go_wp2_with fail
  refine (eqCipherS_same (ha.ext E) (ga.ext E) hl gl hn gn).mono ?_
  rintro e w1 ⟨rfl, e1⟩
  clear q0 q1
  replace B0 := B0.ext e1
  replace B1 := B1.ext e1
  have q0 := B0.cells
  have q1 := B1.cells
  replace E := E.trans e1
  clear e1
  generalize w1 = w0 at *
  go_wp2_with fail
  refine (eqProofS_same (hb.ext E) (gb.ext E) hm gm hn2 gn2).mono ?_
  rintro e w1 ⟨rfl, e1⟩
  clear q0 q1
  replace B0 := B0.ext e1
  replace B1 := B1.ext e1
  have q0 := B0.cells
  have q1 := B1.cells
  replace E := E.trans e1
  clear e1
  generalize w1 = w0 at *
  go_wp2_with fail
  refine (eqProof_same (h1.ext E) (h2.ext E) (h3.ext E) (g1.ext E) (g2.ext E) (g3.ext E)).mono ?_
  rintro e w1 ⟨rfl, e1⟩
  clear q0 q1
  replace B0 := B0.ext e1
  replace B1 := B1.ext e1
  have q0 := B0.cells
  have q1 := B1.cells
  replace E := E.trans e1
  clear e1
  generalize w1 = w0 at *
  go_wp2
  go_ret
  exact ⟨rfl, E⟩
set_option maxHeartbeats 4000000 in
theorem szSealed_any {v : Int} {A : Option Addr} {n c : Nat} {B : Option Addr} {m d : Nat} {C1 : Option Addr} {k1 f1 : Nat} {C2 : Option Addr} {k2 f2 : Nat} {C3 : Option Addr} {k3 f3 : Nat} {ps : List (List Int × List Int × List Int)} {l1 l2 l3 : List Int} {w : World} {z : Int} (hb : RdP w B ps) (hm : ps.length = m) (h1 : SlI w C1 k1 f1 l1) (h2 : SlI w C2 k2 f2 l2) (h3 : SlI w C3 k3 f3 l3) (hz : 0 ≤ z) (hz2 : z ≤ 1000000000) (hn1 : n ≤ maxLen) (hn2 : m ≤ maxLen) :
    Calls Try.prog 7 #[.agg #[.int .i64 v, .slice A n c, .slice B m d, .slice C1 k1 f1, .slice C2 k2 f2, .slice C3 k3 f3], .int .i64 z] w fun e w' => e = .returned (.int .i64 (if (n : Int) + (m + tot (flP ps)) + (k1 + k2 + k3) ≤ z then z - (n + (m + tot (flP ps)) + (k1 + k2 + k3)) else -1)) ∧ Ext w w' := by
  have B0 := Blk.new w 32 #[.int .i64 v, .slice A n c, .slice B m d, .slice C1 k1 f1, .slice C2 k2 f2, .slice C3 k3 f3]
  have E := (Ext.refl w).alloc (.cells #[.int .i64 v, .slice A n c, .slice B m d, .slice C1 k1 f1, .slice C2 k2 f2, .slice C3 k3 f3] 32)
  have q0 := B0.cells
  unfold maxLen at hn1 hn2
  have e9 := h1.le
  have e8 := h2.le
  have e7 := h3.le
  unfold maxLen at e7 e8 e9
  by_cases j1 : (n : Int) ≤ z
  · by_cases j2 : (n : Int) + (m + tot (flP ps)) ≤ z
    · by_cases j3 : (n : Int) + (m + tot (flP ps)) + (k1 + k2 + k3) ≤ z
      · rw [if_pos j3]
        go_enter Try.func7, Try.ntmps7
        go_wp2_with fail
        refine (szCipherS_yes (by omega)).mono ?_
        rintro e w1 ⟨rfl, rfl⟩
        go_wp2_with fail
        refine (szProofS_any (k := z - n) (hb.ext E) hm (by omega) (by omega) (by omega)).mono ?_
        rintro e w1 ⟨he, e1⟩
        rw [if_pos (by omega)] at he
        subst he
        clear q0
        replace B0 := B0.ext e1
        replace E := E.trans e1
        have q0 := B0.cells
        clear e1
        go_wp2_with fail
        refine (szProof_any (z := z - n - m - tot (flP ps)) (by omega) (by omega) (by omega) (by omega) (by omega)).mono ?_
        rintro e w1 ⟨he, e1⟩
        rw [if_pos (by omega)] at he
        subst he
        clear q0
        replace B0 := B0.ext e1
        replace E := E.trans e1
        have q0 := B0.cells
        clear e1
        go_wp2
        go_ret
        exact ⟨ret_int (by omega), E⟩
      · rw [if_neg j3]
        go_enter Try.func7, Try.ntmps7
        go_wp2_with fail
        refine (szCipherS_yes (by omega)).mono ?_
        rintro e w1 ⟨rfl, rfl⟩
        go_wp2_with fail
        refine (szProofS_any (k := z - n) (hb.ext E) hm (by omega) (by omega) (by omega)).mono ?_
        rintro e w1 ⟨he, e1⟩
        rw [if_pos (by omega)] at he
        subst he
        clear q0
        replace B0 := B0.ext e1
        replace E := E.trans e1
        have q0 := B0.cells
        clear e1
        go_wp2_with fail
        refine (szProof_any (z := z - n - m - tot (flP ps)) (by omega) (by omega) (by omega) (by omega) (by omega)).mono ?_
        rintro e w1 ⟨he, e1⟩
        rw [if_neg (by omega)] at he
        subst he
        clear q0
        replace B0 := B0.ext e1
        replace E := E.trans e1
        have q0 := B0.cells
        clear e1
        go_wp2
        go_ret
        exact ⟨rfl, E⟩
    · rw [if_neg (by omega)]
      go_enter Try.func7, Try.ntmps7
      go_wp2_with fail
      refine (szCipherS_yes (by omega)).mono ?_
      rintro e w1 ⟨rfl, rfl⟩
      go_wp2_with fail
      refine (szProofS_any (k := z - n) (hb.ext E) hm (by omega) (by omega) (by omega)).mono ?_
      rintro e w1 ⟨he, e1⟩
      rw [if_neg (by omega)] at he
      subst he
      clear q0
      replace B0 := B0.ext e1
      replace E := E.trans e1
      have q0 := B0.cells
      clear e1
      go_wp2
      go_ret
      exact ⟨rfl, E⟩
  · rw [if_neg (by omega)]
    go_enter Try.func7, Try.ntmps7
    go_wp2_with fail
    refine (szCipherS_no (by omega) (by omega) (by omega)).mono ?_
    rintro e w1 ⟨rfl, rfl⟩
    go_wp2
    go_ret
    exact ⟨rfl, E⟩
set_option maxHeartbeats 4000000 in
theorem toMatrixProof_any (C1 : Option Addr) (k1 f1 : Nat) (C2 : Option Addr) (k2 f2 : Nat) (C3 : Option Addr) (k3 f3 : Nat) (C4 : Option Addr) (k4 f4 : Nat) (C5 : Option Addr) (k5 f5 : Nat) (l1 l2 l3 l4 l5 : List Int) (w : World) (h1 : SlI w C1 k1 f1 l1) (h2 : SlI w C2 k2 f2 l2) (h3 : SlI w C3 k3 f3 l3) (h4 : SlI w C4 k4 f4 l4) (h5 : SlI w C5 k5 f5 l5) (hn : k1 + k2 + (k3 + k4 + k5) ≤ 1000000000) :
    Calls Try.prog 42 #[.agg #[.slice C1 k1 f1, .slice C2 k2 f2, .slice C3 k3 f3, .slice C4 k4 f4, .slice C5 k5 f5]] w fun e w' => ∃ D1 g1 D2 g2 D3 g3 D4 g4 D5 g5, e = .returned (.agg #[.slice D1 k1 g1, .slice D2 k2 g2, .slice D3 k3 g3, .slice D4 k4 g4, .slice D5 k5 g5]) ∧ OwnL w' w.heap.size [(D1, k1, g1), (D2, k2, g2), (D3, k3, g3), (D4, k4, g4), (D5, k5, g5)] [l1, l2, l3, l4, l5] ∧ Ext w w' := by
  have E := (((Ext.refl w).alloc (.cells #[.slice C1 k1 f1, .slice C2 k2 f2, .slice C3 k3 f3, .slice C4 k4 f4, .slice C5 k5 f5] 84)).alloc (.cells #[.slice none 0 0, .slice none 0 0, .slice none 0 0, .slice none 0 0, .slice none 0 0] 90)).alloc (.cells #[.slice none 0 0, .slice none 0 0, .slice none 0 0, .slice none 0 0, .slice none 0 0] 90)
  have B0 := ((Blk.new w 84 #[.slice C1 k1 f1, .slice C2 k2 f2, .slice C3 k3 f3, .slice C4 k4 f4, .slice C5 k5 f5]).alloc (.cells #[.slice none 0 0, .slice none 0 0, .slice none 0 0, .slice none 0 0, .slice none 0 0] 90)).alloc (.cells #[.slice none 0 0, .slice none 0 0, .slice none 0 0, .slice none 0 0, .slice none 0 0] 90)
  have B1 := (Blk.new (w.alloc (.cells #[.slice C1 k1 f1, .slice C2 k2 f2, .slice C3 k3 f3, .slice C4 k4 f4, .slice C5 k5 f5] 84)) 90 #[.slice none 0 0, .slice none 0 0, .slice none 0 0, .slice none 0 0, .slice none 0 0]).alloc (.cells #[.slice none 0 0, .slice none 0 0, .slice none 0 0, .slice none 0 0, .slice none 0 0] 90)
  have B2 := Blk.new ((w.alloc (.cells #[.slice C1 k1 f1, .slice C2 k2 f2, .slice C3 k3 f3, .slice C4 k4 f4, .slice C5 k5 f5] 84)).alloc (.cells #[.slice none 0 0, .slice none 0 0, .slice none 0 0, .slice none 0 0, .slice none 0 0] 90)) 90 #[.slice none 0 0, .slice none 0 0, .slice none 0 0, .slice none 0 0, .slice none 0 0]
  simp only [World.size_alloc] at B1 B2
  have hz0 : (((w.alloc (.cells #[.slice C1 k1 f1, .slice C2 k2 f2, .slice C3 k3 f3, .slice C4 k4 f4, .slice C5 k5 f5] 84)).alloc (.cells #[.slice none 0 0, .slice none 0 0, .slice none 0 0, .slice none 0 0, .slice none 0 0] 90)).alloc (.cells #[.slice none 0 0, .slice none 0 0, .slice none 0 0, .slice none 0 0, .slice none 0 0] 90)).heap.size = w.heap.size + 3 := by simp only [World.size_alloc]
  go_enter Try.func42, Try.ntmps42
  go_wp2_with fail
  generalize (((w.alloc (.cells #[.slice C1 k1 f1, .slice C2 k2 f2, .slice C3 k3 f3, .slice C4 k4 f4, .slice C5 k5 f5] 84)).alloc (.cells #[.slice none 0 0, .slice none 0 0, .slice none 0 0, .slice none 0 0, .slice none 0 0] 90)).alloc (.cells #[.slice none 0 0, .slice none 0 0, .slice none 0 0, .slice none 0 0, .slice none 0 0] 90)) = w0 at *
  have hzz : w.heap.size + 3 ≤ w0.heap.size := by omega
  refine (toIntS_any C1 k1 f1 l1 _ (h1.ext E).rd h1.len (by omega)).mono ?_
  rintro e v0 ⟨D1, g1, rfl, O, e1⟩
  have L := OwnL.one (O.more hzz)
  replace E := E.trans e1
  replace B0 := B0.ext e1
  replace B1 := B1.ext e1
  replace B2 := B2.ext e1
  have F2 := B2.frozen
  have CC2 := B2.cells
  replace B0 := B0.far (p := ⟨w.heap.size + 1 + 1, 0, none⟩) (by first | (simp; done) | (simp; omega)) (.slice D1 k1 g1)
  replace B1 := B1.far (p := ⟨w.heap.size + 1 + 1, 0, none⟩) (by first | (simp; done) | (simp; omega)) (.slice D1 k1 g1)
  replace B2 := B2.set_ 0 (.slice D1 k1 g1)
  replace E := E.setCell (p := ⟨w.heap.size + 1 + 1, 0, none⟩) (by first | (simp; done) | (simp; omega)) (.slice D1 k1 g1)
  replace L := L.cell (p := ⟨w.heap.size + 1 + 1, 0, none⟩) (by first | (simp; done) | (simp; omega)) (.slice D1 k1 g1)
  have CC0 := B0.cells
  clear e1 O hzz
  go_wp2_with fail
  generalize v0.setCell ⟨w.heap.size + 1 + 1, 0, none⟩ (.slice D1 k1 g1) = u0 at *
  clear F2 CC2
  have hzz : w.heap.size + 3 ≤ u0.heap.size := by have := B2.lt; omega
  refine (toIntS_any C2 k2 f2 l2 _ (h2.ext E).rd h2.len (by omega)).mono ?_
  rintro e v1 ⟨D2, g2, rfl, O, e1⟩
  (first | clear CC0 | skip)
  replace L := L.add e1 O hzz
  replace E := E.trans e1
  replace B0 := B0.ext e1
  replace B1 := B1.ext e1
  replace B2 := B2.ext e1
  have F2 := B2.frozen
  have CC2 := B2.cells
  replace B0 := B0.far (p := ⟨w.heap.size + 1 + 1, 1, none⟩) (by first | (simp; done) | (simp; omega)) (.slice D2 k2 g2)
  replace B1 := B1.far (p := ⟨w.heap.size + 1 + 1, 1, none⟩) (by first | (simp; done) | (simp; omega)) (.slice D2 k2 g2)
  replace B2 := B2.set_ 1 (.slice D2 k2 g2)
  replace E := E.setCell (p := ⟨w.heap.size + 1 + 1, 1, none⟩) (by first | (simp; done) | (simp; omega)) (.slice D2 k2 g2)
  replace L := L.cell (p := ⟨w.heap.size + 1 + 1, 1, none⟩) (by first | (simp; done) | (simp; omega)) (.slice D2 k2 g2)
  have CC0 := B0.cells
  clear e1 O hzz
  go_wp2_with fail
  generalize v1.setCell ⟨w.heap.size + 1 + 1, 1, none⟩ (.slice D2 k2 g2) = u1 at *
  clear F2 CC2
  have hzz : w.heap.size + 3 ≤ u1.heap.size := by have := B2.lt; omega
  refine (toProof_any C3 k3 f3 C4 k4 f4 C5 k5 f5 l3 l4 l5 _ (h3.ext E) (h4.ext E) (h5.ext E) (by omega)).mono ?_
  rintro e v2 ⟨D3, g3, D4, g4, D5, g5, rfl, O, e1⟩
  (first | clear CC0 | skip)
  replace L := (L.ext e1).app (O.more hzz) (Apart.of_low L.low O.high)
  replace E := E.trans e1
  replace B0 := B0.ext e1
  replace B1 := B1.ext e1
  replace B2 := B2.ext e1
  have F2 := B2.frozen
  have CC2 := B2.cells
  have CC1 := B1.cells
  have FF1 := B1.frozen
  replace B0 := B0.far (p := ⟨w.heap.size + 1 + 1, 2, none⟩) (by first | (simp; done) | (simp; omega)) (.slice D3 k3 g3)
  replace B1 := B1.far (p := ⟨w.heap.size + 1 + 1, 2, none⟩) (by first | (simp; done) | (simp; omega)) (.slice D3 k3 g3)
  replace B2 := B2.set_ 2 (.slice D3 k3 g3)
  replace E := E.setCell (p := ⟨w.heap.size + 1 + 1, 2, none⟩) (by first | (simp; done) | (simp; omega)) (.slice D3 k3 g3)
  replace L := L.cell (p := ⟨w.heap.size + 1 + 1, 2, none⟩) (by first | (simp; done) | (simp; omega)) (.slice D3 k3 g3)
  replace B0 := B0.far (p := ⟨w.heap.size + 1 + 1, 3, none⟩) (by first | (simp; done) | (simp; omega)) (.slice D4 k4 g4)
  replace B1 := B1.far (p := ⟨w.heap.size + 1 + 1, 3, none⟩) (by first | (simp; done) | (simp; omega)) (.slice D4 k4 g4)
  replace B2 := B2.set_ 3 (.slice D4 k4 g4)
  replace E := E.setCell (p := ⟨w.heap.size + 1 + 1, 3, none⟩) (by first | (simp; done) | (simp; omega)) (.slice D4 k4 g4)
  replace L := L.cell (p := ⟨w.heap.size + 1 + 1, 3, none⟩) (by first | (simp; done) | (simp; omega)) (.slice D4 k4 g4)
  replace B0 := B0.far (p := ⟨w.heap.size + 1 + 1, 4, none⟩) (by first | (simp; done) | (simp; omega)) (.slice D5 k5 g5)
  replace B1 := B1.far (p := ⟨w.heap.size + 1 + 1, 4, none⟩) (by first | (simp; done) | (simp; omega)) (.slice D5 k5 g5)
  replace B2 := B2.set_ 4 (.slice D5 k5 g5)
  replace E := E.setCell (p := ⟨w.heap.size + 1 + 1, 4, none⟩) (by first | (simp; done) | (simp; omega)) (.slice D5 k5 g5)
  replace L := L.cell (p := ⟨w.heap.size + 1 + 1, 4, none⟩) (by first | (simp; done) | (simp; omega)) (.slice D5 k5 g5)
  have CC0 := B0.cells
  clear e1 O hzz
  have F1 := B1.frozen
  have CC3 := B2.cells
  have hE := (((((E.setCell (p := ⟨w.heap.size + 1, 0, none⟩) (by simp) (.slice D1 k1 g1)).setCell (p := ⟨w.heap.size + 1, 1, none⟩) (by simp) (.slice D2 k2 g2)).setCell (p := ⟨w.heap.size + 1, 2, none⟩) (by simp) (.slice D3 k3 g3)).setCell (p := ⟨w.heap.size + 1, 3, none⟩) (by simp) (.slice D4 k4 g4)).setCell (p := ⟨w.heap.size + 1, 4, none⟩) (by simp) (.slice D5 k5 g5))
  have hL := (((((L.cell (p := ⟨w.heap.size + 1, 0, none⟩) (by simp) (.slice D1 k1 g1)).cell (p := ⟨w.heap.size + 1, 1, none⟩) (by simp) (.slice D2 k2 g2)).cell (p := ⟨w.heap.size + 1, 2, none⟩) (by simp) (.slice D3 k3 g3)).cell (p := ⟨w.heap.size + 1, 3, none⟩) (by simp) (.slice D4 k4 g4)).cell (p := ⟨w.heap.size + 1, 4, none⟩) (by simp) (.slice D5 k5 g5))
  have cz := (((((B1.set_ 0 (.slice D1 k1 g1)).set_ 1 (.slice D2 k2 g2)).set_ 2 (.slice D3 k3 g3)).set_ 3 (.slice D4 k4 g4)).set_ 4 (.slice D5 k5 g5)).cells
  go_wp2
  refine bodyPost_ret (v := .agg #[.slice D1 k1 g1, .slice D2 k2 g2, .slice D3 k3 g3, .slice D4 k4 g4, .slice D5 k5 g5]) (by simp [results, Try.results42, cz, go_sem]) rfl ⟨D1, g1, D2, g2, D3, g3, D4, g4, D5, g5, rfl, hL.more (by omega), hE⟩
set_option maxHeartbeats 4000000 in
theorem eqMatrixProof_same {C1 : Option Addr} {k1 f1 : Nat} {C2 : Option Addr} {k2 f2 : Nat} {C3 : Option Addr} {k3 f3 : Nat} {C4 : Option Addr} {k4 f4 : Nat} {C5 : Option Addr} {k5 f5 : Nat} {C1' : Option Addr} {k1' f1' : Nat} {C2' : Option Addr} {k2' f2' : Nat} {C3' : Option Addr} {k3' f3' : Nat} {C4' : Option Addr} {k4' f4' : Nat} {C5' : Option Addr} {k5' f5' : Nat} {l1 l2 l3 l4 l5 : List Int} {w : World} (h1 : SlI w C1 k1 f1 l1) (h2 : SlI w C2 k2 f2 l2) (h3 : SlI w C3 k3 f3 l3) (h4 : SlI w C4 k4 f4 l4) (h5 : SlI w C5 k5 f5 l5) (g1 : SlI w C1' k1' f1' l1) (g2 : SlI w C2' k2' f2' l2) (g3 : SlI w C3' k3' f3' l3) (g4 : SlI w C4' k4' f4' l4) (g5 : SlI w C5' k5' f5' l5) :
    Calls Try.prog 45 #[.agg #[.slice C1 k1 f1, .slice C2 k2 f2, .slice C3 k3 f3, .slice C4 k4 f4, .slice C5 k5 f5], .agg #[.slice C1' k1' f1', .slice C2' k2' f2', .slice C3' k3' f3', .slice C4' k4' f4', .slice C5' k5' f5']] w fun e w' => e = .returned (.bool true) ∧ Ext w w' := by
  have E := ((Ext.refl w).alloc (.cells #[.slice C1 k1 f1, .slice C2 k2 f2, .slice C3 k3 f3, .slice C4 k4 f4, .slice C5 k5 f5] 90)).alloc (.cells #[.slice C1' k1' f1', .slice C2' k2' f2', .slice C3' k3' f3', .slice C4' k4' f4', .slice C5' k5' f5'] 90)
  have B0 := (Blk.new w 90 #[.slice C1 k1 f1, .slice C2 k2 f2, .slice C3 k3 f3, .slice C4 k4 f4, .slice C5 k5 f5]).alloc (.cells #[.slice C1' k1' f1', .slice C2' k2' f2', .slice C3' k3' f3', .slice C4' k4' f4', .slice C5' k5' f5'] 90)
  have B1 := Blk.new (w.alloc (.cells #[.slice C1 k1 f1, .slice C2 k2 f2, .slice C3 k3 f3, .slice C4 k4 f4, .slice C5 k5 f5] 90)) 90 #[.slice C1' k1' f1', .slice C2' k2' f2', .slice C3' k3' f3', .slice C4' k4' f4', .slice C5' k5' f5']
  simp only [World.size_alloc] at B1
  have q0 := B0.cells
  have q1 := B1.cells
  go_enter Try.func45, Try.ntmps45
  go_wp2_with fail
  refine (eqIntS_same (h1.rd.ext E) (g1.rd.ext E) h1.len g1.len h1.le g1.le).mono ?_
  rintro e w1 ⟨rfl, e1⟩
  clear q0 q1
  replace B0 := B0.ext e1
  replace B1 := B1.ext e1
  have q0 := B0.cells
  have q1 := B1.cells
  replace E := E.trans e1
  clear e1
  generalize w1 = w0 at *
  go_wp2_with fail
  refine (eqIntS_same (h2.rd.ext E) (g2.rd.ext E) h2.len g2.len h2.le g2.le).mono ?_
  rintro e w1 ⟨rfl, e1⟩
  clear q0 q1
  replace B0 := B0.ext e1
  replace B1 := B1.ext e1
  have q0 := B0.cells
  have q1 := B1.cells
  replace E := E.trans e1
  clear e1
  generalize w1 = w0 at *
  go_wp2_with fail
  refine (eqProof_same (h3.ext E) (h4.ext E) (h5.ext E) (g3.ext E) (g4.ext E) (g5.ext E)).mono ?_
  rintro e w1 ⟨rfl, e1⟩
  clear q0 q1
  replace B0 := B0.ext e1
  replace B1 := B1.ext e1
  have q0 := B0.cells
  have q1 := B1.cells
  replace E := E.trans e1
  clear e1
  generalize w1 = w0 at *
  go_wp2
  go_ret
  exact ⟨rfl, E⟩
set_option maxHeartbeats 4000000 in
theorem szMatrixProof_any {C1 : Option Addr} {k1 f1 : Nat} {C2 : Option Addr} {k2 f2 : Nat} {C3 : Option Addr} {k3 f3 : Nat} {C4 : Option Addr} {k4 f4 : Nat} {C5 : Option Addr} {k5 f5 : Nat} {l1 l2 l3 l4 l5 : List Int} {z : Int} {w : World} (h1 : SlI w C1 k1 f1 l1) (h2 : SlI w C2 k2 f2 l2) (h3 : SlI w C3 k3 f3 l3) (h4 : SlI w C4 k4 f4 l4) (h5 : SlI w C5 k5 f5 l5) (hz : 0 ≤ z) (hz2 : z ≤ 1000000000) :
    Calls Try.prog 39 #[.agg #[.slice C1 k1 f1, .slice C2 k2 f2, .slice C3 k3 f3, .slice C4 k4 f4, .slice C5 k5 f5], .int .i64 z] w fun e w' => e = .returned (.int .i64 (if (k1 : Int) + k2 + (k3 + k4 + k5) ≤ z then z - (k1 + k2 + (k3 + k4 + k5)) else -1)) ∧ Ext w w' := by
  have B0 := Blk.new w 84 #[.slice C1 k1 f1, .slice C2 k2 f2, .slice C3 k3 f3, .slice C4 k4 f4, .slice C5 k5 f5]
  have E := (Ext.refl w).alloc (.cells #[.slice C1 k1 f1, .slice C2 k2 f2, .slice C3 k3 f3, .slice C4 k4 f4, .slice C5 k5 f5] 84)
  have q0 := B0.cells
  have e2 := h1.le
  have e3 := h2.le
  have e4 := h3.le
  have e5 := h4.le
  have e6 := h5.le
  unfold maxLen at e2 e3 e4 e5 e6
  by_cases j1 : (k1 : Int) ≤ z
  · by_cases j2 : (k1 : Int) + k2 ≤ z
    · by_cases j3 : (k1 : Int) + k2 + (k3 + k4 + k5) ≤ z
      · rw [if_pos j3]
        go_enter Try.func39, Try.ntmps39
        go_wp2_with fail
        refine (szInt1_yes (by omega) (by omega)).mono ?_
        rintro e w1 ⟨rfl, rfl⟩
        go_wp2_with fail
        refine (szInt1_yes (by omega) (by omega)).mono ?_
        rintro e w1 ⟨rfl, rfl⟩
        go_wp2_with fail
        refine (szProof_any (z := z - k1 - k2) (by omega) (by omega) (by omega) (by omega) (by omega)).mono ?_
        rintro e w1 ⟨he, e1⟩
        rw [if_pos (by omega)] at he
        subst he
        clear q0
        replace B0 := B0.ext e1
        replace E := E.trans e1
        have q0 := B0.cells
        clear e1
        go_wp2
        go_ret
        exact ⟨ret_int (by omega), E⟩
      · rw [if_neg j3]
        go_enter Try.func39, Try.ntmps39
        go_wp2_with fail
        refine (szInt1_yes (by omega) (by omega)).mono ?_
        rintro e w1 ⟨rfl, rfl⟩
        go_wp2_with fail
        refine (szInt1_yes (by omega) (by omega)).mono ?_
        rintro e w1 ⟨rfl, rfl⟩
        go_wp2_with fail
        refine (szProof_any (z := z - k1 - k2) (by omega) (by omega) (by omega) (by omega) (by omega)).mono ?_
        rintro e w1 ⟨he, e1⟩
        rw [if_neg (by omega)] at he
        subst he
        clear q0
        replace B0 := B0.ext e1
        replace E := E.trans e1
        have q0 := B0.cells
        clear e1
        go_wp2
        go_ret
        exact ⟨rfl, E⟩
    · rw [if_neg (by omega)]
      go_enter Try.func39, Try.ntmps39
      go_wp2_with fail
      refine (szInt1_yes (by omega) (by omega)).mono ?_
      rintro e w1 ⟨rfl, rfl⟩
      go_wp2_with fail
      refine (szInt1_no (by omega) (by omega) (by omega)).mono ?_
      rintro e w1 ⟨rfl, rfl⟩
      go_wp2
      go_ret
      exact ⟨rfl, E⟩
  · rw [if_neg (by omega)]
    go_enter Try.func39, Try.ntmps39
    go_wp2_with fail
    refine (szInt1_no (by omega) (by omega) (by omega)).mono ?_
    rintro e w1 ⟨rfl, rfl⟩
    go_wp2
    go_ret
    exact ⟨rfl, E⟩
end
end Go.Proofs.Ytpfccboighdcbaa
