/- Contracts for the verification of linear statements: the program's and the reference's. (Printed by tools/gen_sig3.py.) -/
import Derived.Test.YtpfccboighdcbaaProg
import Derived.Test.YtpfccboighdcbaaSig1
import Derived.Test.YtpfccboighdcbaaLies
import Derived.Deep.RegionLaw
import Derived.Deep.CutRange
import Derived.Deep.QuietTactic
import Derived.BigQuiet
namespace Go.Proofs.Ytpfccboighdcbaa
open Go.RowKit

theorem stm_len' (rows : List (List Int)) (im cm : List Int) : (stmL rows im cm).length = tot rows + im.length + cm.length := by
  unfold stmL
  rw [List.length_append, List.length_append, tot_flat]
theorem lvQ_at {p q : Int} {rows : List (List Int)} {im cm rs : List Int} {e : Int} {i : Nat} (h1 : i < rows.length) (h2 : i < im.length) (h3 : i < cm.length) : lvQ p q rows im cm rs e i = (prodV p q rows[i] rs rows[i].length == gmul p [cm[i], gpw p q im[i] e]) := by
  simp [lvQ, List.getD, h1, h2, h3]
theorem els_in {p q : Int} {l : List Int} (hp : p ≤ 2000000000) (h : l.all (elB p q) = true) : ∀ x ∈ l, 0 ≤ x ∧ x ≤ 3000000000 := fun x hx => by
  rw [List.all_eq_true] at h
  have := (elB_iff.1 (h x hx)).1
  omega
theorem range_no {f : Nat → Bool} {n j : Nat} (hj : j < n) (h : f j = false) : (List.range n).all f = false := by
  rw [List.all_eq_false]
  exact ⟨j, List.mem_range.2 hj, by rw [h]; simp⟩
theorem range_yes {f : Nat → Bool} {n : Nat} (h : ∀ i, i < n → f i = true) : (List.range n).all f = true := by
  rw [List.all_eq_true]
  exact fun i hi => h i (List.mem_range.1 hi)
set_option maxRecDepth 100000 in
set_option maxHeartbeats 8000000 in
theorem verifyLinear_any (p q g : Int) (s : ByteArray) (A D C1 C2 C3 : Option Addr) (n c m d k1 e1 k2 e2 k3 e3 : Nat) (rows : List (List Int)) (im cm ch rs : List Int) (w : World) (h : grpB p q g = true) (hs : s.size ≤ 40) (hr : rowsB p q rows = true) (ha : RdSS w A rows) (hl : rows.length = n) (hb : SlI w D m d im) (hm : m = n) (bim : im.all (elB p q) = true) (s1 : SlI w C1 k1 e1 cm) (s2 : SlI w C2 k2 e2 ch) (s3 : SlI w C3 k3 e3 rs) :
    Calls Try.prog 148 #[.agg #[.int .i64 p, .int .i64 q, .int .i64 g], .string s, .slice A n c, .slice D m d, .agg #[.slice C1 k1 e1, .slice C2 k2 e2, .slice C3 k3 e3]] w fun en w' => en = .returned (.bool (lvB p q g s rows im cm ch rs)) ∧ Ext w w' := by
  obtain rfl : n = m := hm.symm
  clear hm
  have hG := grpB_in h
  have hq2 := hG.q2
  have hp9 := hG.p9
  have hqp := hG.qp
  have hbd := hG.bd
  have hri := rows_in hr
  obtain ⟨K, hK⟩ : ∃ K, (rows.headD []).length = K := ⟨_, rfl⟩
  rw [hK] at hri
  obtain ⟨hn1, hk1⟩ := And.intro hri.n hri.k
  rw [hl] at hn1
  have hs1 := s1.len
  have hs2 := s2.len
  have hs3 := s3.len
  have q1 := s1.le
  have q2 := s2.le
  have q3 := s3.le
  have q1' := q1
  have q3' := q3
  unfold maxLen at q1 q2 q3
  obtain ⟨ad, hA, Y, y, yc, hcell, hry, hly, hyc, hym⟩ := ha.at_ (show 0 < rows.length by omega)
  rw [show ad.add 0 = ad from rfl] at hcell
  have e0 : rows[0]'(by omega) = rows.headD [] := by cases rows with
    | nil => simp at hl; omega
    | cons a l => rfl
  rw [e0, hK] at hly
  obtain rfl : K = y := hly
  have hHD := Lib.hid hK
  have hb0 : (0 : Int) < (n : Int) := by omega
  have hb0n : 0 < n := by omega
  have hF : Hid (lvF p q rows cm ch rs = (decide (k1 = n) && (decide (k2 = 1) && (decide (k3 = K) && (cm.all (elB p q) && allR rs 0 (q - 1)))))) := by show _ = _; unfold lvF; rw [hs1, hs2, hs3, hl, hK]
  have E := ((Ext.refl w).alloc (.cells #[.int .i64 p, .int .i64 q, .int .i64 g] 38)).alloc (.cells #[.slice C1 k1 e1, .slice C2 k2 e2, .slice C3 k3 e3] 44)
  have B0 := (Blk.new w 38 #[.int .i64 p, .int .i64 q, .int .i64 g]).alloc (.cells #[.slice C1 k1 e1, .slice C2 k2 e2, .slice C3 k3 e3] 44)
  have B1 := Blk.new (w.alloc (.cells #[.int .i64 p, .int .i64 q, .int .i64 g] 38)) 44 #[.slice C1 k1 e1, .slice C2 k2 e2, .slice C3 k3 e3]
  simp only [World.size_alloc] at B1
  have hcell2 := E.cell hcell
  subst hA
  clear e0 hK
  by_cases f1 : k1 = n
  case neg =>
    have d1 : ((k1 : Int) != (n : Int)) = true := by simp; omega
    have HV : Hid (lvB p q g s rows im cm ch rs = false) := by show _ = _; unfold lvB; rw [hF.out]; simp [f1]
    clear hF f1
    go_enter Try.func148, Try.ntmps148
    go_wp2
    generalize hWb : (w.alloc (.cells #[.int .i64 p, .int .i64 q, .int .i64 g] 38)).alloc (.cells #[.slice C1 k1 e1, .slice C2 k2 e2, .slice C3 k3 e3] 44) = Wb at *
    clear hWb
    have hS : ∀ V, Ext Wb V → V.cell? ⟨w.heap.size, 0, none⟩ = some (.int .i64 p) ∧ V.cell? ⟨w.heap.size, 1, none⟩ = some (.int .i64 q) ∧ V.cell? ⟨w.heap.size, 2, none⟩ = some (.int .i64 g) ∧ V.cell? ⟨w.heap.size + 1, 0, none⟩ = some (.slice C1 k1 e1) ∧ V.cell? ⟨w.heap.size + 1, 1, none⟩ = some (.slice C2 k2 e2) ∧ V.cell? ⟨w.heap.size + 1, 2, none⟩ = some (.slice C3 k3 e3) ∧ V.cell? ad = some (.slice Y K yc) := fun V hV => by
      have a0 := (B0.ext hV).cells
      have a1 := (B1.ext hV).cells
      exact ⟨a0 0, a0 1, a0 2, a1 0, a1 1, a1 2, hV.cell hcell2⟩
    obtain ⟨t0, t1, t2, t3, t4, t5, t6⟩ := hS _ (Ext.refl Wb)
    go_quiet (fail)
    go_wp2
    go_ret
    exact ⟨ret_bool HV.out.symm, E.drewN _⟩
  obtain rfl : n = k1 := f1.symm
  clear f1
  have d1 : ((n : Int) != (n : Int)) = false := by simp
  by_cases f2 : k2 = 1
  case neg =>
    have d2 : ((k2 : Int) != 1) = true := by simp; omega
    have HV : Hid (lvB p q g s rows im cm ch rs = false) := by show _ = _; unfold lvB; rw [hF.out]; simp [f2]
    clear hF f2
    go_enter Try.func148, Try.ntmps148
    go_wp2
    generalize hWb : (w.alloc (.cells #[.int .i64 p, .int .i64 q, .int .i64 g] 38)).alloc (.cells #[.slice C1 n e1, .slice C2 k2 e2, .slice C3 k3 e3] 44) = Wb at *
    clear hWb
    have hS : ∀ V, Ext Wb V → V.cell? ⟨w.heap.size, 0, none⟩ = some (.int .i64 p) ∧ V.cell? ⟨w.heap.size, 1, none⟩ = some (.int .i64 q) ∧ V.cell? ⟨w.heap.size, 2, none⟩ = some (.int .i64 g) ∧ V.cell? ⟨w.heap.size + 1, 0, none⟩ = some (.slice C1 n e1) ∧ V.cell? ⟨w.heap.size + 1, 1, none⟩ = some (.slice C2 k2 e2) ∧ V.cell? ⟨w.heap.size + 1, 2, none⟩ = some (.slice C3 k3 e3) ∧ V.cell? ad = some (.slice Y K yc) := fun V hV => by
      have a0 := (B0.ext hV).cells
      have a1 := (B1.ext hV).cells
      exact ⟨a0 0, a0 1, a0 2, a1 0, a1 1, a1 2, hV.cell hcell2⟩
    obtain ⟨t0, t1, t2, t3, t4, t5, t6⟩ := hS _ (Ext.refl Wb)
    go_quiet (fail)
    go_wp2
    go_ret
    exact ⟨ret_bool HV.out.symm, E.drewN _⟩
  obtain rfl : 1 = k2 := f2.symm
  clear f2
  by_cases f3 : k3 = K
  case neg =>
    have d3 : ((k3 : Int) != (K : Int)) = true := by simp; omega
    have HV : Hid (lvB p q g s rows im cm ch rs = false) := by show _ = _; unfold lvB; rw [hF.out]; simp [f3]
    clear hF f3
    go_enter Try.func148, Try.ntmps148
    go_wp2
    generalize hWb : (w.alloc (.cells #[.int .i64 p, .int .i64 q, .int .i64 g] 38)).alloc (.cells #[.slice C1 n e1, .slice C2 1 e2, .slice C3 k3 e3] 44) = Wb at *
    clear hWb
    have hS : ∀ V, Ext Wb V → V.cell? ⟨w.heap.size, 0, none⟩ = some (.int .i64 p) ∧ V.cell? ⟨w.heap.size, 1, none⟩ = some (.int .i64 q) ∧ V.cell? ⟨w.heap.size, 2, none⟩ = some (.int .i64 g) ∧ V.cell? ⟨w.heap.size + 1, 0, none⟩ = some (.slice C1 n e1) ∧ V.cell? ⟨w.heap.size + 1, 1, none⟩ = some (.slice C2 1 e2) ∧ V.cell? ⟨w.heap.size + 1, 2, none⟩ = some (.slice C3 k3 e3) ∧ V.cell? ad = some (.slice Y K yc) := fun V hV => by
      have a0 := (B0.ext hV).cells
      have a1 := (B1.ext hV).cells
      exact ⟨a0 0, a0 1, a0 2, a1 0, a1 1, a1 2, hV.cell hcell2⟩
    obtain ⟨t0, t1, t2, t3, t4, t5, t6⟩ := hS _ (Ext.refl Wb)
    go_quiet (fail)
    go_wp2
    go_ret
    exact ⟨ret_bool HV.out.symm, E.drewN _⟩
  obtain rfl : K = k3 := f3.symm
  clear f3
  have d3 : ((K : Int) != (K : Int)) = false := by simp
  cases f4 : cm.all (elB p q)
  case false =>
    have H4 := Lib.hid f4
    have HV : Hid (lvB p q g s rows im cm ch rs = false) := by show _ = _; unfold lvB; rw [hF.out]; simp [f4]
    clear hF f4
    go_enter Try.func148, Try.ntmps148
    go_wp2
    generalize hWb : (w.alloc (.cells #[.int .i64 p, .int .i64 q, .int .i64 g] 38)).alloc (.cells #[.slice C1 n e1, .slice C2 1 e2, .slice C3 K e3] 44) = Wb at *
    clear hWb
    have hS : ∀ V, Ext Wb V → V.cell? ⟨w.heap.size, 0, none⟩ = some (.int .i64 p) ∧ V.cell? ⟨w.heap.size, 1, none⟩ = some (.int .i64 q) ∧ V.cell? ⟨w.heap.size, 2, none⟩ = some (.int .i64 g) ∧ V.cell? ⟨w.heap.size + 1, 0, none⟩ = some (.slice C1 n e1) ∧ V.cell? ⟨w.heap.size + 1, 1, none⟩ = some (.slice C2 1 e2) ∧ V.cell? ⟨w.heap.size + 1, 2, none⟩ = some (.slice C3 K e3) ∧ V.cell? ad = some (.slice Y K yc) := fun V hV => by
      have a0 := (B0.ext hV).cells
      have a1 := (B1.ext hV).cells
      exact ⟨a0 0, a0 1, a0 2, a1 0, a1 1, a1 2, hV.cell hcell2⟩
    obtain ⟨t0, t1, t2, t3, t4, t5, t6⟩ := hS _ (Ext.refl Wb)
    go_cut [50] from 15 to 49 (fun b wx => b = .bool true ∧ Ext Wb wx)
    case first =>
      refine wp_region_held_drew (S := fun V => V.cell? ⟨w.heap.size, 0, none⟩ = some (.int .i64 p) ∧ V.cell? ⟨w.heap.size, 1, none⟩ = some (.int .i64 q) ∧ V.cell? ⟨w.heap.size, 2, none⟩ = some (.int .i64 g) ∧ V.cell? ⟨w.heap.size + 1, 0, none⟩ = some (.slice C1 n e1) ∧ V.cell? ⟨w.heap.size + 1, 1, none⟩ = some (.slice C2 1 e2) ∧ V.cell? ⟨w.heap.size + 1, 2, none⟩ = some (.slice C3 K e3) ∧ V.cell? ad = some (.slice Y K yc)) (by kernel_rfl) ?_ (fun hHeld => ?_)
      · exact hS _ (by repeat (first | with_reducible assumption | with_reducible exact Ext.refl _ | with_reducible apply Ext.alloc | with_reducible apply Ext.drew | with_reducible apply Ext.drewN))
      refine' wpAnyH_take (i := 0) (v := _) ?hi0 (by kernel_rfl) (by kernel_rfl) (by kernel_rfl) ?hQ0 ?hy0 (by assumption) ?_
      case hi0 => (simp only [List.getElem?_toArray, List.getElem?_cons_zero]; rfl)
      case hy0 => refine Or.inl ⟨by rfl, ?_⟩; intro w hSw; (try dsimp only at hSw); go_simp <;> with_reducible rfl
      case hQ0 => exact fun _ _ _ h => h
      try simp only [Act.put, List.setIfInBounds_toArray, List.set_cons_zero, List.set_cons_succ]
      refine' wpAnyH_take (i := 1) (v := _) ?hi1 (by kernel_rfl) (by kernel_rfl) (by kernel_rfl) ?hQ1 ?hy1 (by assumption) ?_
      case hi1 => (simp only [List.getElem?_toArray, List.getElem?_cons_succ, List.getElem?_cons_zero]; rfl)
      case hy1 => refine Or.inl ⟨by rfl, ?_⟩; intro w hSw; (try dsimp only at hSw); go_simp <;> with_reducible rfl
      case hQ1 => exact fun _ _ _ h => h
      try simp only [Act.put, List.setIfInBounds_toArray, List.set_cons_zero, List.set_cons_succ]
      refine' wpAnyH_take (i := 2) (v := _) ?hi2 (by kernel_rfl) (by kernel_rfl) (by kernel_rfl) ?hQ2 ?hy2 (by assumption) ?_
      case hi2 => (simp only [List.getElem?_toArray, List.getElem?_cons_succ, List.getElem?_cons_zero]; rfl)
      case hy2 => refine Or.inl ⟨by rfl, ?_⟩; intro w hSw; (try dsimp only at hSw); go_simp <;> with_reducible rfl
      case hQ2 => exact fun _ _ _ h => h
      try simp only [Act.put, List.setIfInBounds_toArray, List.set_cons_zero, List.set_cons_succ]
      refine' wpAnyH_take (i := 3) (v := _) ?hi3 (by kernel_rfl) (by kernel_rfl) (by kernel_rfl) ?hQ3 ?hy3 (by assumption) ?_
      case hi3 => (simp only [List.getElem?_toArray, List.getElem?_cons_succ, List.getElem?_cons_zero]; rfl)
      case hy3 => refine Or.inl ⟨by rfl, ?_⟩; intro w hSw; (try dsimp only at hSw); go_simp <;> with_reducible rfl
      case hQ3 => exact fun _ _ _ h => h
      try simp only [Act.put, List.setIfInBounds_toArray, List.set_cons_zero, List.set_cons_succ]
      refine' wpAnyH_take (i := 4) (v := _) ?hi4 (by kernel_rfl) (by kernel_rfl) (by kernel_rfl) ?hQ4 ?hy4 (by assumption) ?_
      case hi4 => (simp only [List.getElem?_toArray, List.getElem?_cons_succ, List.getElem?_cons_zero]; rfl)
      case hy4 => refine Or.inl ⟨by rfl, ?_⟩; intro w hSw; (try dsimp only at hSw); go_simp <;> with_reducible rfl
      case hQ4 => exact fun _ _ _ h => h
      try simp only [Act.put, List.setIfInBounds_toArray, List.set_cons_zero, List.set_cons_succ]
      refine' wpAnyH_take (i := 5) (v := _) ?hi5 (by kernel_rfl) (by kernel_rfl) (by kernel_rfl) ?hQ5 ?hy5 (by assumption) ?_
      case hi5 => (simp only [List.getElem?_toArray, List.getElem?_cons_succ, List.getElem?_cons_zero]; rfl)
      case hy5 => refine Or.inl ⟨by rfl, ?_⟩; intro w hSw; (try dsimp only at hSw); go_simp <;> with_reducible rfl
      case hQ5 => exact fun _ _ _ h => h
      try simp only [Act.put, List.setIfInBounds_toArray, List.set_cons_zero, List.set_cons_succ]
      refine' wpAnyH_take (i := 6) (v := _) ?hi6 (by kernel_rfl) (by kernel_rfl) (by kernel_rfl) ?hQ6 ?hy6 (by assumption) ?_
      case hi6 => (simp only [List.getElem?_toArray, List.getElem?_cons_succ, List.getElem?_cons_zero]; rfl)
      case hy6 => refine Or.inl ⟨by rfl, ?_⟩; intro w hSw; (try dsimp only at hSw); go_simp <;> with_reducible rfl
      case hQ6 => exact fun _ _ _ h => h
      try simp only [Act.put, List.setIfInBounds_toArray, List.set_cons_zero, List.set_cons_succ]
      refine' wpAnyH_take (i := 7) (v := _) ?hi7 (by kernel_rfl) (by kernel_rfl) (by kernel_rfl) ?hQ7 ?hy7 (by assumption) ?_
      case hi7 => (simp only [List.getElem?_toArray, List.getElem?_cons_succ, List.getElem?_cons_zero]; rfl)
      case hy7 => refine Or.inl ⟨by rfl, ?_⟩; intro w hSw; (try dsimp only at hSw); go_simp <;> with_reducible rfl
      case hQ7 => exact fun _ _ _ h => h
      try simp only [Act.put, List.setIfInBounds_toArray, List.set_cons_zero, List.set_cons_succ]
      refine' wpAnyH_take (i := 8) (v := _) ?hi8 (by kernel_rfl) (by kernel_rfl) (by kernel_rfl) ?hQ8 ?hy8 (by assumption) ?_
      case hi8 => (simp only [List.getElem?_toArray, List.getElem?_cons_succ, List.getElem?_cons_zero]; rfl)
      case hy8 => refine Or.inl ⟨by rfl, ?_⟩; intro w hSw; (try dsimp only at hSw); go_simp <;> with_reducible rfl
      case hQ8 => exact fun _ _ _ h => h
      try simp only [Act.put, List.setIfInBounds_toArray, List.set_cons_zero, List.set_cons_succ]
      refine' wpAnyH_take (i := 9) (v := _) ?hi9 (by kernel_rfl) (by kernel_rfl) (by kernel_rfl) ?hQ9 ?hy9 (by assumption) ?_
      case hi9 => (simp only [List.getElem?_toArray, List.getElem?_cons_succ, List.getElem?_cons_zero]; rfl)
      case hy9 => refine Or.inl ⟨by rfl, ?_⟩; intro w hSw; (try dsimp only at hSw); go_simp <;> with_reducible rfl
      case hQ9 => exact fun _ _ _ h => h
      try simp only [Act.put, List.setIfInBounds_toArray, List.set_cons_zero, List.set_cons_succ]
      refine' wpAnyH_take (i := 10) (v := _) ?hi10 (by kernel_rfl) (by kernel_rfl) (by kernel_rfl) ?hQ10 ?hy10 (by assumption) ?_
      case hi10 => (simp only [List.getElem?_toArray, List.getElem?_cons_succ, List.getElem?_cons_zero]; rfl)
      case hy10 => refine Or.inl ⟨by rfl, ?_⟩; intro w hSw; (try dsimp only at hSw); go_simp <;> with_reducible rfl
      case hQ10 => exact fun _ _ _ h => h
      try simp only [Act.put, List.setIfInBounds_toArray, List.set_cons_zero, List.set_cons_succ]
      refine' wpAnyH_take (i := 11) (v := _) ?hi11 (by kernel_rfl) (by kernel_rfl) (by kernel_rfl) ?hQ11 ?hy11 (by assumption) ?_
      case hi11 => (simp only [List.getElem?_toArray, List.getElem?_cons_succ, List.getElem?_cons_zero]; rfl)
      case hy11 => refine Or.inl ⟨by rfl, ?_⟩; intro w hSw; (try dsimp only at hSw); go_simp <;> with_reducible rfl
      case hQ11 => exact fun _ _ _ h => h
      try simp only [Act.put, List.setIfInBounds_toArray, List.set_cons_zero, List.set_cons_succ]
      refine' wpAnyH_take (i := 12) (v := _) ?hi12 (by kernel_rfl) (by kernel_rfl) (by kernel_rfl) ?hQ12 ?hy12 (by assumption) ?_
      case hi12 => (simp only [List.getElem?_toArray, List.getElem?_cons_succ, List.getElem?_cons_zero]; rfl)
      case hy12 => refine Or.inl ⟨by rfl, ?_⟩; intro w hSw; (try dsimp only at hSw); go_simp <;> with_reducible rfl
      case hQ12 => exact fun _ _ _ h => h
      try simp only [Act.put, List.setIfInBounds_toArray, List.set_cons_zero, List.set_cons_succ]
      refine' wpAnyH_take (i := 13) (v := _) ?hi13 (by kernel_rfl) (by kernel_rfl) (by kernel_rfl) ?hQ13 ?hy13 (by assumption) ?_
      case hi13 => (simp only [List.getElem?_toArray, List.getElem?_cons_succ, List.getElem?_cons_zero]; rfl)
      case hy13 => refine Or.inl ⟨by rfl, ?_⟩; intro w hSw; (try dsimp only at hSw); go_simp <;> with_reducible rfl
      case hQ13 => exact fun _ _ _ h => h
      try simp only [Act.put, List.setIfInBounds_toArray, List.set_cons_zero, List.set_cons_succ]
      refine' wpAnyH_take (i := 14) (v := _) ?hi14 (by kernel_rfl) (by kernel_rfl) (by kernel_rfl) ?hQ14 ?hy14 (by assumption) ?_
      case hi14 => (simp only [List.getElem?_toArray, List.getElem?_cons_succ, List.getElem?_cons_zero]; rfl)
      case hy14 => refine Or.inl ⟨by rfl, ?_⟩; intro w hSw; (try dsimp only at hSw); go_simp <;> with_reducible rfl
      case hQ14 => exact fun _ _ _ h => h
      try simp only [Act.put, List.setIfInBounds_toArray, List.set_cons_zero, List.set_cons_succ]
      refine' wpAnyH_take (i := 15) (v := _) ?hi15 (by kernel_rfl) (by kernel_rfl) (by kernel_rfl) ?hQ15 ?hy15 (by assumption) ?_
      case hi15 => (simp only [List.getElem?_toArray, List.getElem?_cons_succ, List.getElem?_cons_zero]; rfl)
      case hy15 => refine Or.inl ⟨by rfl, ?_⟩; intro w hSw; (try dsimp only at hSw); go_simp <;> with_reducible rfl
      case hQ15 => exact fun _ _ _ h => h
      try simp only [Act.put, List.setIfInBounds_toArray, List.set_cons_zero, List.set_cons_succ]
      refine' wpAnyH_take (i := 16) (v := _) ?hi16 (by kernel_rfl) (by kernel_rfl) (by kernel_rfl) ?hQ16 ?hy16 (by assumption) ?_
      case hi16 => (simp only [List.getElem?_toArray, List.getElem?_cons_succ, List.getElem?_cons_zero]; rfl)
      case hy16 => refine Or.inl ⟨by rfl, ?_⟩; intro w hSw; (try dsimp only at hSw); go_simp <;> with_reducible rfl
      case hQ16 => exact fun _ _ _ h => h
      try simp only [Act.put, List.setIfInBounds_toArray, List.set_cons_zero, List.set_cons_succ]
      refine' wpAnyH_take (i := 17) (v := _) ?hi17 (by kernel_rfl) (by kernel_rfl) (by kernel_rfl) ?hQ17 ?hy17 (by assumption) ?_
      case hi17 => (simp only [List.getElem?_toArray, List.getElem?_cons_succ, List.getElem?_cons_zero]; rfl)
      case hy17 => refine Or.inl ⟨by rfl, ?_⟩; intro w hSw; (try dsimp only at hSw); go_simp <;> with_reducible rfl
      case hQ17 => exact fun _ _ _ h => h
      try simp only [Act.put, List.setIfInBounds_toArray, List.set_cons_zero, List.set_cons_succ]
      refine' wpAnyH_take (i := 18) (v := _) ?hi18 (by kernel_rfl) (by kernel_rfl) (by kernel_rfl) ?hQ18 ?hy18 (by assumption) ?_
      case hi18 => (simp only [List.getElem?_toArray, List.getElem?_cons_succ, List.getElem?_cons_zero]; rfl)
      case hy18 => refine Or.inl ⟨by rfl, ?_⟩; intro w hSw; (try dsimp only at hSw); go_simp <;> with_reducible rfl
      case hQ18 => exact fun _ _ _ h => h
      try simp only [Act.put, List.setIfInBounds_toArray, List.set_cons_zero, List.set_cons_succ]
      refine' wpAnyH_take (i := 19) (v := _) ?hi19 (by kernel_rfl) (by kernel_rfl) (by kernel_rfl) ?hQ19 ?hy19 (by assumption) ?_
      case hi19 => (simp only [List.getElem?_toArray, List.getElem?_cons_succ, List.getElem?_cons_zero]; rfl)
      case hy19 => refine Or.inl ⟨by rfl, ?_⟩; intro w hSw; (try dsimp only at hSw); go_simp <;> with_reducible rfl
      case hQ19 => exact fun _ _ _ h => h
      try simp only [Act.put, List.setIfInBounds_toArray, List.set_cons_zero, List.set_cons_succ]
      refine' wpAnyH_take (i := 20) (v := _) ?hi20 (by kernel_rfl) (by kernel_rfl) (by kernel_rfl) ?hQ20 ?hy20 (by assumption) ?_
      case hi20 => (simp only [List.getElem?_toArray, List.getElem?_cons_succ, List.getElem?_cons_zero]; rfl)
      case hy20 => refine Or.inl ⟨by rfl, ?_⟩; intro w hSw; (try dsimp only at hSw); go_simp <;> with_reducible rfl
      case hQ20 => exact fun _ _ _ h => h
      try simp only [Act.put, List.setIfInBounds_toArray, List.set_cons_zero, List.set_cons_succ]
      refine' wpAnyH_take (i := 21) (v := _) ?hi21 (by kernel_rfl) (by kernel_rfl) (by kernel_rfl) ?hQ21 ?hy21 (by assumption) ?_
      case hi21 => (simp only [List.getElem?_toArray, List.getElem?_cons_succ, List.getElem?_cons_zero]; rfl)
      case hy21 => refine Or.inl ⟨by rfl, ?_⟩; intro w hSw; (try dsimp only at hSw); go_simp <;> with_reducible rfl
      case hQ21 => exact fun _ _ _ h => h
      try simp only [Act.put, List.setIfInBounds_toArray, List.set_cons_zero, List.set_cons_succ]
      refine' wpAnyH_take (i := 22) (v := _) ?hi22 (by kernel_rfl) (by kernel_rfl) (by kernel_rfl) ?hQ22 ?hy22 (by assumption) ?_
      case hi22 => (simp only [List.getElem?_toArray, List.getElem?_cons_succ, List.getElem?_cons_zero]; rfl)
      case hy22 => refine Or.inl ⟨by rfl, ?_⟩; intro w hSw; (try dsimp only at hSw); go_simp <;> with_reducible rfl
      case hQ22 => exact fun _ _ _ h => h
      try simp only [Act.put, List.setIfInBounds_toArray, List.set_cons_zero, List.set_cons_succ]
      refine' wpAnyH_take (i := 23) (v := _) ?hi23 (by kernel_rfl) (by kernel_rfl) (by kernel_rfl) ?hQ23 ?hy23 (by assumption) ?_
      case hi23 => (simp only [List.getElem?_toArray, List.getElem?_cons_succ, List.getElem?_cons_zero]; rfl)
      case hy23 => refine Or.inl ⟨by rfl, ?_⟩; intro w hSw; (try dsimp only at hSw); go_simp <;> with_reducible rfl
      case hQ23 => exact fun _ _ _ h => h
      try simp only [Act.put, List.setIfInBounds_toArray, List.set_cons_zero, List.set_cons_succ]
      refine' wpAnyH_take (i := 24) (v := _) ?hi24 (by kernel_rfl) (by kernel_rfl) (by kernel_rfl) ?hQ24 ?hy24 (by assumption) ?_
      case hi24 => (simp only [List.getElem?_toArray, List.getElem?_cons_succ, List.getElem?_cons_zero]; rfl)
      case hy24 => refine Or.inl ⟨by rfl, ?_⟩; intro w hSw; (try dsimp only at hSw); go_simp <;> with_reducible rfl
      case hQ24 => exact fun _ _ _ h => h
      try simp only [Act.put, List.setIfInBounds_toArray, List.set_cons_zero, List.set_cons_succ]
      refine' wpAnyH_take (i := 25) (v := _) ?hi25 (by kernel_rfl) (by kernel_rfl) (by kernel_rfl) ?hQ25 ?hy25 (by assumption) ?_
      case hi25 => (simp only [List.getElem?_toArray, List.getElem?_cons_succ, List.getElem?_cons_zero]; rfl)
      case hy25 => refine Or.inl ⟨by rfl, ?_⟩; intro w hSw; (try dsimp only at hSw); go_simp <;> with_reducible rfl
      case hQ25 => exact fun _ _ _ h => h
      try simp only [Act.put, List.setIfInBounds_toArray, List.set_cons_zero, List.set_cons_succ]
      refine wpAnyH_ready (rs := [26]) (by kernel_rfl) (by simp) ?_
      refine AllReadyH.cons rfl (fun KK hKK => ?_) AllReadyH.nil
      go_simp
      go_at_call 147; refine (hasAll_any p q g C1 n e1 cm _ hbd (RdI.ext s1.rd (Ext.trans E (by repeat (first | with_reducible assumption | with_reducible exact Ext.refl _ | with_reducible apply Ext.alloc | with_reducible apply Ext.drew | with_reducible apply Ext.drewN)))) hs1 q1').mono ?_; rintro en w3 ⟨he, hb3⟩; rw [H4.out] at he; subst he; have hx3 := Ext.trans (w := Wb) (by repeat (first | with_reducible assumption | with_reducible exact Ext.refl _ | with_reducible apply Ext.alloc | with_reducible apply Ext.drew | with_reducible apply Ext.drewN)) hb3
      refine hKK.out _ _ ?_ (fun hHeld => ?_)
      · exact hS _ (by repeat (first | with_reducible assumption | with_reducible exact Ext.refl _ | with_reducible apply Ext.alloc | with_reducible apply Ext.drew | with_reducible apply Ext.drewN))
      clear hKK KK
      try simp only [Act.put, List.setIfInBounds_toArray, List.set_cons_zero, List.set_cons_succ]
      refine' wpAnyH_take (i := 27) (v := _) ?hi27 (by kernel_rfl) (by kernel_rfl) (by kernel_rfl) ?hQ27 ?hy27 (by assumption) ?_
      case hi27 => (simp only [List.getElem?_toArray, List.getElem?_cons_succ, List.getElem?_cons_zero]; rfl)
      case hy27 => refine Or.inl ⟨by rfl, ?_⟩; intro w hSw; (try dsimp only at hSw); go_simp <;> with_reducible rfl
      case hQ27 => exact fun _ _ _ h => h
      try simp only [Act.put, List.setIfInBounds_toArray, List.set_cons_zero, List.set_cons_succ]
      refine' wpAnyH_take (i := 28) (v := _) ?hi28 (by kernel_rfl) (by kernel_rfl) (by kernel_rfl) ?hQ28 ?hy28 (by assumption) ?_
      case hi28 => (simp only [List.getElem?_toArray, List.getElem?_cons_succ, List.getElem?_cons_zero]; rfl)
      case hy28 => refine Or.inl ⟨by rfl, ?_⟩; intro w hSw; (try dsimp only at hSw); go_simp <;> with_reducible rfl
      case hQ28 => exact fun _ _ _ h => h
      try simp only [Act.put, List.setIfInBounds_toArray, List.set_cons_zero, List.set_cons_succ]
      refine' wpAnyH_take (i := 29) (v := _) ?hi29 (by kernel_rfl) (by kernel_rfl) (by kernel_rfl) ?hQ29 ?hy29 (by assumption) ?_
      case hi29 => (simp only [List.getElem?_toArray, List.getElem?_cons_succ, List.getElem?_cons_zero]; rfl)
      case hy29 => refine Or.inl ⟨by rfl, ?_⟩; intro w hSw; (try dsimp only at hSw); go_simp <;> with_reducible rfl
      case hQ29 => exact fun _ _ _ h => h
      try simp only [Act.put, List.setIfInBounds_toArray, List.set_cons_zero, List.set_cons_succ]
      refine' wpAnyH_take (i := 30) (v := undef) ?hi30 (by kernel_rfl) (by kernel_rfl) (by kernel_rfl) ?hQ30 ?hy30 (by assumption) ?_
      case hi30 => (simp only [List.getElem?_toArray, List.getElem?_cons_succ, List.getElem?_cons_zero]; rfl)
      case hQ30 => exact fun _ _ _ h => h
      case hy30 => exact Or.inr ⟨by rfl, rfl⟩
      try simp only [Act.put, List.setIfInBounds_toArray, List.set_cons_zero, List.set_cons_succ]
      refine' wpAnyH_take (i := 31) (v := undef) ?hi31 (by kernel_rfl) (by kernel_rfl) (by kernel_rfl) ?hQ31 ?hy31 (by assumption) ?_
      case hi31 => (simp only [List.getElem?_toArray, List.getElem?_cons_succ, List.getElem?_cons_zero]; rfl)
      case hQ31 => exact fun _ _ _ h => h
      case hy31 => exact Or.inr ⟨by rfl, rfl⟩
      try simp only [Act.put, List.setIfInBounds_toArray, List.set_cons_zero, List.set_cons_succ]
      refine' wpAnyH_take (i := 32) (v := undef) ?hi32 (by kernel_rfl) (by kernel_rfl) (by kernel_rfl) ?hQ32 ?hy32 (by assumption) ?_
      case hi32 => (simp only [List.getElem?_toArray, List.getElem?_cons_succ, List.getElem?_cons_zero]; rfl)
      case hQ32 => exact fun _ _ _ h => h
      case hy32 => exact Or.inr ⟨by rfl, rfl⟩
      try simp only [Act.put, List.setIfInBounds_toArray, List.set_cons_zero, List.set_cons_succ]
      refine' wpAnyH_take (i := 33) (v := undef) ?hi33 (by kernel_rfl) (by kernel_rfl) (by kernel_rfl) ?hQ33 ?hy33 (by assumption) ?_
      case hi33 => (simp only [List.getElem?_toArray, List.getElem?_cons_succ, List.getElem?_cons_zero]; rfl)
      case hQ33 => exact fun _ _ _ h => h
      case hy33 => exact Or.inr ⟨by rfl, rfl⟩
      try simp only [Act.put, List.setIfInBounds_toArray, List.set_cons_zero, List.set_cons_succ]
      refine' wpAnyH_take (i := 34) (v := undef) ?hi34 (by kernel_rfl) (by kernel_rfl) (by kernel_rfl) ?hQ34 ?hy34 (by assumption) ?_
      case hi34 => (simp only [List.getElem?_toArray, List.getElem?_cons_succ, List.getElem?_cons_zero]; rfl)
      case hQ34 => exact fun _ _ _ h => h
      case hy34 => exact Or.inr ⟨by rfl, rfl⟩
      try simp only [Act.put, List.setIfInBounds_toArray, List.set_cons_zero, List.set_cons_succ]
      refine' wpAnyH_take (i := 35) (v := _) ?hi35 (by kernel_rfl) (by kernel_rfl) (by kernel_rfl) ?hQ35 ?hy35 (by assumption) ?_
      case hi35 => (simp only [List.getElem?_toArray, List.getElem?_cons_succ, List.getElem?_cons_zero]; rfl)
      case hy35 => refine Or.inl ⟨by rfl, ?_⟩; intro w hSw; (try dsimp only at hSw); go_simp <;> with_reducible rfl
      case hQ35 => exact fun _ _ _ h => h
      try simp only [Act.put, List.setIfInBounds_toArray, List.set_cons_zero, List.set_cons_succ]
      refine wpAnyH_done (by kernel_rfl) ?_ _
      all_goals
        go_wp2
        go_meet
        exact ⟨rfl, by first | exact hx3 | exact hx3.drew⟩
    case' rest =>
      obtain ⟨rfl, hb⟩ := hcut
      go_wp2
      go_ret
      exact ⟨ret_bool HV.out.symm, E.trans hb⟩
  cases f5 : allR rs 0 (q - 1)
  case false =>
    have H4 := Lib.hid f4
    have H5 := Lib.hid f5
    have HV : Hid (lvB p q g s rows im cm ch rs = false) := by show _ = _; unfold lvB; rw [hF.out]; simp [f5]
    clear hF f4 f5
    go_enter Try.func148, Try.ntmps148
    go_wp2
    generalize hWb : (w.alloc (.cells #[.int .i64 p, .int .i64 q, .int .i64 g] 38)).alloc (.cells #[.slice C1 n e1, .slice C2 1 e2, .slice C3 K e3] 44) = Wb at *
    clear hWb
    have hS : ∀ V, Ext Wb V → V.cell? ⟨w.heap.size, 0, none⟩ = some (.int .i64 p) ∧ V.cell? ⟨w.heap.size, 1, none⟩ = some (.int .i64 q) ∧ V.cell? ⟨w.heap.size, 2, none⟩ = some (.int .i64 g) ∧ V.cell? ⟨w.heap.size + 1, 0, none⟩ = some (.slice C1 n e1) ∧ V.cell? ⟨w.heap.size + 1, 1, none⟩ = some (.slice C2 1 e2) ∧ V.cell? ⟨w.heap.size + 1, 2, none⟩ = some (.slice C3 K e3) ∧ V.cell? ad = some (.slice Y K yc) := fun V hV => by
      have a0 := (B0.ext hV).cells
      have a1 := (B1.ext hV).cells
      exact ⟨a0 0, a0 1, a0 2, a1 0, a1 1, a1 2, hV.cell hcell2⟩
    obtain ⟨t0, t1, t2, t3, t4, t5, t6⟩ := hS _ (Ext.refl Wb)
    go_cut [50] from 15 to 49 (fun b wx => b = .bool true ∧ Ext Wb wx)
    case first =>
      refine wp_region_held_drew (S := fun V => V.cell? ⟨w.heap.size, 0, none⟩ = some (.int .i64 p) ∧ V.cell? ⟨w.heap.size, 1, none⟩ = some (.int .i64 q) ∧ V.cell? ⟨w.heap.size, 2, none⟩ = some (.int .i64 g) ∧ V.cell? ⟨w.heap.size + 1, 0, none⟩ = some (.slice C1 n e1) ∧ V.cell? ⟨w.heap.size + 1, 1, none⟩ = some (.slice C2 1 e2) ∧ V.cell? ⟨w.heap.size + 1, 2, none⟩ = some (.slice C3 K e3) ∧ V.cell? ad = some (.slice Y K yc)) (by kernel_rfl) ?_ (fun hHeld => ?_)
      · exact hS _ (by repeat (first | with_reducible assumption | with_reducible exact Ext.refl _ | with_reducible apply Ext.alloc | with_reducible apply Ext.drew | with_reducible apply Ext.drewN))
      refine' wpAnyH_take (i := 0) (v := _) ?hi0 (by kernel_rfl) (by kernel_rfl) (by kernel_rfl) ?hQ0 ?hy0 (by assumption) ?_
      case hi0 => (simp only [List.getElem?_toArray, List.getElem?_cons_zero]; rfl)
      case hy0 => refine Or.inl ⟨by rfl, ?_⟩; intro w hSw; (try dsimp only at hSw); go_simp <;> with_reducible rfl
      case hQ0 => exact fun _ _ _ h => h
      try simp only [Act.put, List.setIfInBounds_toArray, List.set_cons_zero, List.set_cons_succ]
      refine' wpAnyH_take (i := 1) (v := _) ?hi1 (by kernel_rfl) (by kernel_rfl) (by kernel_rfl) ?hQ1 ?hy1 (by assumption) ?_
      case hi1 => (simp only [List.getElem?_toArray, List.getElem?_cons_succ, List.getElem?_cons_zero]; rfl)
      case hy1 => refine Or.inl ⟨by rfl, ?_⟩; intro w hSw; (try dsimp only at hSw); go_simp <;> with_reducible rfl
      case hQ1 => exact fun _ _ _ h => h
      try simp only [Act.put, List.setIfInBounds_toArray, List.set_cons_zero, List.set_cons_succ]
      refine' wpAnyH_take (i := 2) (v := _) ?hi2 (by kernel_rfl) (by kernel_rfl) (by kernel_rfl) ?hQ2 ?hy2 (by assumption) ?_
      case hi2 => (simp only [List.getElem?_toArray, List.getElem?_cons_succ, List.getElem?_cons_zero]; rfl)
      case hy2 => refine Or.inl ⟨by rfl, ?_⟩; intro w hSw; (try dsimp only at hSw); go_simp <;> with_reducible rfl
      case hQ2 => exact fun _ _ _ h => h
      try simp only [Act.put, List.setIfInBounds_toArray, List.set_cons_zero, List.set_cons_succ]
      refine' wpAnyH_take (i := 3) (v := _) ?hi3 (by kernel_rfl) (by kernel_rfl) (by kernel_rfl) ?hQ3 ?hy3 (by assumption) ?_
      case hi3 => (simp only [List.getElem?_toArray, List.getElem?_cons_succ, List.getElem?_cons_zero]; rfl)
      case hy3 => refine Or.inl ⟨by rfl, ?_⟩; intro w hSw; (try dsimp only at hSw); go_simp <;> with_reducible rfl
      case hQ3 => exact fun _ _ _ h => h
      try simp only [Act.put, List.setIfInBounds_toArray, List.set_cons_zero, List.set_cons_succ]
      refine' wpAnyH_take (i := 4) (v := _) ?hi4 (by kernel_rfl) (by kernel_rfl) (by kernel_rfl) ?hQ4 ?hy4 (by assumption) ?_
      case hi4 => (simp only [List.getElem?_toArray, List.getElem?_cons_succ, List.getElem?_cons_zero]; rfl)
      case hy4 => refine Or.inl ⟨by rfl, ?_⟩; intro w hSw; (try dsimp only at hSw); go_simp <;> with_reducible rfl
      case hQ4 => exact fun _ _ _ h => h
      try simp only [Act.put, List.setIfInBounds_toArray, List.set_cons_zero, List.set_cons_succ]
      refine' wpAnyH_take (i := 5) (v := _) ?hi5 (by kernel_rfl) (by kernel_rfl) (by kernel_rfl) ?hQ5 ?hy5 (by assumption) ?_
      case hi5 => (simp only [List.getElem?_toArray, List.getElem?_cons_succ, List.getElem?_cons_zero]; rfl)
      case hy5 => refine Or.inl ⟨by rfl, ?_⟩; intro w hSw; (try dsimp only at hSw); go_simp <;> with_reducible rfl
      case hQ5 => exact fun _ _ _ h => h
      try simp only [Act.put, List.setIfInBounds_toArray, List.set_cons_zero, List.set_cons_succ]
      refine' wpAnyH_take (i := 6) (v := _) ?hi6 (by kernel_rfl) (by kernel_rfl) (by kernel_rfl) ?hQ6 ?hy6 (by assumption) ?_
      case hi6 => (simp only [List.getElem?_toArray, List.getElem?_cons_succ, List.getElem?_cons_zero]; rfl)
      case hy6 => refine Or.inl ⟨by rfl, ?_⟩; intro w hSw; (try dsimp only at hSw); go_simp <;> with_reducible rfl
      case hQ6 => exact fun _ _ _ h => h
      try simp only [Act.put, List.setIfInBounds_toArray, List.set_cons_zero, List.set_cons_succ]
      refine' wpAnyH_take (i := 7) (v := _) ?hi7 (by kernel_rfl) (by kernel_rfl) (by kernel_rfl) ?hQ7 ?hy7 (by assumption) ?_
      case hi7 => (simp only [List.getElem?_toArray, List.getElem?_cons_succ, List.getElem?_cons_zero]; rfl)
      case hy7 => refine Or.inl ⟨by rfl, ?_⟩; intro w hSw; (try dsimp only at hSw); go_simp <;> with_reducible rfl
      case hQ7 => exact fun _ _ _ h => h
      try simp only [Act.put, List.setIfInBounds_toArray, List.set_cons_zero, List.set_cons_succ]
      refine' wpAnyH_take (i := 8) (v := _) ?hi8 (by kernel_rfl) (by kernel_rfl) (by kernel_rfl) ?hQ8 ?hy8 (by assumption) ?_
      case hi8 => (simp only [List.getElem?_toArray, List.getElem?_cons_succ, List.getElem?_cons_zero]; rfl)
      case hy8 => refine Or.inl ⟨by rfl, ?_⟩; intro w hSw; (try dsimp only at hSw); go_simp <;> with_reducible rfl
      case hQ8 => exact fun _ _ _ h => h
      try simp only [Act.put, List.setIfInBounds_toArray, List.set_cons_zero, List.set_cons_succ]
      refine' wpAnyH_take (i := 9) (v := _) ?hi9 (by kernel_rfl) (by kernel_rfl) (by kernel_rfl) ?hQ9 ?hy9 (by assumption) ?_
      case hi9 => (simp only [List.getElem?_toArray, List.getElem?_cons_succ, List.getElem?_cons_zero]; rfl)
      case hy9 => refine Or.inl ⟨by rfl, ?_⟩; intro w hSw; (try dsimp only at hSw); go_simp <;> with_reducible rfl
      case hQ9 => exact fun _ _ _ h => h
      try simp only [Act.put, List.setIfInBounds_toArray, List.set_cons_zero, List.set_cons_succ]
      refine' wpAnyH_take (i := 10) (v := _) ?hi10 (by kernel_rfl) (by kernel_rfl) (by kernel_rfl) ?hQ10 ?hy10 (by assumption) ?_
      case hi10 => (simp only [List.getElem?_toArray, List.getElem?_cons_succ, List.getElem?_cons_zero]; rfl)
      case hy10 => refine Or.inl ⟨by rfl, ?_⟩; intro w hSw; (try dsimp only at hSw); go_simp <;> with_reducible rfl
      case hQ10 => exact fun _ _ _ h => h
      try simp only [Act.put, List.setIfInBounds_toArray, List.set_cons_zero, List.set_cons_succ]
      refine' wpAnyH_take (i := 11) (v := _) ?hi11 (by kernel_rfl) (by kernel_rfl) (by kernel_rfl) ?hQ11 ?hy11 (by assumption) ?_
      case hi11 => (simp only [List.getElem?_toArray, List.getElem?_cons_succ, List.getElem?_cons_zero]; rfl)
      case hy11 => refine Or.inl ⟨by rfl, ?_⟩; intro w hSw; (try dsimp only at hSw); go_simp <;> with_reducible rfl
      case hQ11 => exact fun _ _ _ h => h
      try simp only [Act.put, List.setIfInBounds_toArray, List.set_cons_zero, List.set_cons_succ]
      refine' wpAnyH_take (i := 12) (v := _) ?hi12 (by kernel_rfl) (by kernel_rfl) (by kernel_rfl) ?hQ12 ?hy12 (by assumption) ?_
      case hi12 => (simp only [List.getElem?_toArray, List.getElem?_cons_succ, List.getElem?_cons_zero]; rfl)
      case hy12 => refine Or.inl ⟨by rfl, ?_⟩; intro w hSw; (try dsimp only at hSw); go_simp <;> with_reducible rfl
      case hQ12 => exact fun _ _ _ h => h
      try simp only [Act.put, List.setIfInBounds_toArray, List.set_cons_zero, List.set_cons_succ]
      refine' wpAnyH_take (i := 13) (v := _) ?hi13 (by kernel_rfl) (by kernel_rfl) (by kernel_rfl) ?hQ13 ?hy13 (by assumption) ?_
      case hi13 => (simp only [List.getElem?_toArray, List.getElem?_cons_succ, List.getElem?_cons_zero]; rfl)
      case hy13 => refine Or.inl ⟨by rfl, ?_⟩; intro w hSw; (try dsimp only at hSw); go_simp <;> with_reducible rfl
      case hQ13 => exact fun _ _ _ h => h
      try simp only [Act.put, List.setIfInBounds_toArray, List.set_cons_zero, List.set_cons_succ]
      refine' wpAnyH_take (i := 14) (v := _) ?hi14 (by kernel_rfl) (by kernel_rfl) (by kernel_rfl) ?hQ14 ?hy14 (by assumption) ?_
      case hi14 => (simp only [List.getElem?_toArray, List.getElem?_cons_succ, List.getElem?_cons_zero]; rfl)
      case hy14 => refine Or.inl ⟨by rfl, ?_⟩; intro w hSw; (try dsimp only at hSw); go_simp <;> with_reducible rfl
      case hQ14 => exact fun _ _ _ h => h
      try simp only [Act.put, List.setIfInBounds_toArray, List.set_cons_zero, List.set_cons_succ]
      refine' wpAnyH_take (i := 15) (v := _) ?hi15 (by kernel_rfl) (by kernel_rfl) (by kernel_rfl) ?hQ15 ?hy15 (by assumption) ?_
      case hi15 => (simp only [List.getElem?_toArray, List.getElem?_cons_succ, List.getElem?_cons_zero]; rfl)
      case hy15 => refine Or.inl ⟨by rfl, ?_⟩; intro w hSw; (try dsimp only at hSw); go_simp <;> with_reducible rfl
      case hQ15 => exact fun _ _ _ h => h
      try simp only [Act.put, List.setIfInBounds_toArray, List.set_cons_zero, List.set_cons_succ]
      refine' wpAnyH_take (i := 16) (v := _) ?hi16 (by kernel_rfl) (by kernel_rfl) (by kernel_rfl) ?hQ16 ?hy16 (by assumption) ?_
      case hi16 => (simp only [List.getElem?_toArray, List.getElem?_cons_succ, List.getElem?_cons_zero]; rfl)
      case hy16 => refine Or.inl ⟨by rfl, ?_⟩; intro w hSw; (try dsimp only at hSw); go_simp <;> with_reducible rfl
      case hQ16 => exact fun _ _ _ h => h
      try simp only [Act.put, List.setIfInBounds_toArray, List.set_cons_zero, List.set_cons_succ]
      refine' wpAnyH_take (i := 17) (v := _) ?hi17 (by kernel_rfl) (by kernel_rfl) (by kernel_rfl) ?hQ17 ?hy17 (by assumption) ?_
      case hi17 => (simp only [List.getElem?_toArray, List.getElem?_cons_succ, List.getElem?_cons_zero]; rfl)
      case hy17 => refine Or.inl ⟨by rfl, ?_⟩; intro w hSw; (try dsimp only at hSw); go_simp <;> with_reducible rfl
      case hQ17 => exact fun _ _ _ h => h
      try simp only [Act.put, List.setIfInBounds_toArray, List.set_cons_zero, List.set_cons_succ]
      refine' wpAnyH_take (i := 18) (v := _) ?hi18 (by kernel_rfl) (by kernel_rfl) (by kernel_rfl) ?hQ18 ?hy18 (by assumption) ?_
      case hi18 => (simp only [List.getElem?_toArray, List.getElem?_cons_succ, List.getElem?_cons_zero]; rfl)
      case hy18 => refine Or.inl ⟨by rfl, ?_⟩; intro w hSw; (try dsimp only at hSw); go_simp <;> with_reducible rfl
      case hQ18 => exact fun _ _ _ h => h
      try simp only [Act.put, List.setIfInBounds_toArray, List.set_cons_zero, List.set_cons_succ]
      refine' wpAnyH_take (i := 19) (v := _) ?hi19 (by kernel_rfl) (by kernel_rfl) (by kernel_rfl) ?hQ19 ?hy19 (by assumption) ?_
      case hi19 => (simp only [List.getElem?_toArray, List.getElem?_cons_succ, List.getElem?_cons_zero]; rfl)
      case hy19 => refine Or.inl ⟨by rfl, ?_⟩; intro w hSw; (try dsimp only at hSw); go_simp <;> with_reducible rfl
      case hQ19 => exact fun _ _ _ h => h
      try simp only [Act.put, List.setIfInBounds_toArray, List.set_cons_zero, List.set_cons_succ]
      refine' wpAnyH_take (i := 20) (v := _) ?hi20 (by kernel_rfl) (by kernel_rfl) (by kernel_rfl) ?hQ20 ?hy20 (by assumption) ?_
      case hi20 => (simp only [List.getElem?_toArray, List.getElem?_cons_succ, List.getElem?_cons_zero]; rfl)
      case hy20 => refine Or.inl ⟨by rfl, ?_⟩; intro w hSw; (try dsimp only at hSw); go_simp <;> with_reducible rfl
      case hQ20 => exact fun _ _ _ h => h
      try simp only [Act.put, List.setIfInBounds_toArray, List.set_cons_zero, List.set_cons_succ]
      refine' wpAnyH_take (i := 21) (v := _) ?hi21 (by kernel_rfl) (by kernel_rfl) (by kernel_rfl) ?hQ21 ?hy21 (by assumption) ?_
      case hi21 => (simp only [List.getElem?_toArray, List.getElem?_cons_succ, List.getElem?_cons_zero]; rfl)
      case hy21 => refine Or.inl ⟨by rfl, ?_⟩; intro w hSw; (try dsimp only at hSw); go_simp <;> with_reducible rfl
      case hQ21 => exact fun _ _ _ h => h
      try simp only [Act.put, List.setIfInBounds_toArray, List.set_cons_zero, List.set_cons_succ]
      refine' wpAnyH_take (i := 22) (v := _) ?hi22 (by kernel_rfl) (by kernel_rfl) (by kernel_rfl) ?hQ22 ?hy22 (by assumption) ?_
      case hi22 => (simp only [List.getElem?_toArray, List.getElem?_cons_succ, List.getElem?_cons_zero]; rfl)
      case hy22 => refine Or.inl ⟨by rfl, ?_⟩; intro w hSw; (try dsimp only at hSw); go_simp <;> with_reducible rfl
      case hQ22 => exact fun _ _ _ h => h
      try simp only [Act.put, List.setIfInBounds_toArray, List.set_cons_zero, List.set_cons_succ]
      refine' wpAnyH_take (i := 23) (v := _) ?hi23 (by kernel_rfl) (by kernel_rfl) (by kernel_rfl) ?hQ23 ?hy23 (by assumption) ?_
      case hi23 => (simp only [List.getElem?_toArray, List.getElem?_cons_succ, List.getElem?_cons_zero]; rfl)
      case hy23 => refine Or.inl ⟨by rfl, ?_⟩; intro w hSw; (try dsimp only at hSw); go_simp <;> with_reducible rfl
      case hQ23 => exact fun _ _ _ h => h
      try simp only [Act.put, List.setIfInBounds_toArray, List.set_cons_zero, List.set_cons_succ]
      refine' wpAnyH_take (i := 24) (v := _) ?hi24 (by kernel_rfl) (by kernel_rfl) (by kernel_rfl) ?hQ24 ?hy24 (by assumption) ?_
      case hi24 => (simp only [List.getElem?_toArray, List.getElem?_cons_succ, List.getElem?_cons_zero]; rfl)
      case hy24 => refine Or.inl ⟨by rfl, ?_⟩; intro w hSw; (try dsimp only at hSw); go_simp <;> with_reducible rfl
      case hQ24 => exact fun _ _ _ h => h
      try simp only [Act.put, List.setIfInBounds_toArray, List.set_cons_zero, List.set_cons_succ]
      refine' wpAnyH_take (i := 25) (v := _) ?hi25 (by kernel_rfl) (by kernel_rfl) (by kernel_rfl) ?hQ25 ?hy25 (by assumption) ?_
      case hi25 => (simp only [List.getElem?_toArray, List.getElem?_cons_succ, List.getElem?_cons_zero]; rfl)
      case hy25 => refine Or.inl ⟨by rfl, ?_⟩; intro w hSw; (try dsimp only at hSw); go_simp <;> with_reducible rfl
      case hQ25 => exact fun _ _ _ h => h
      try simp only [Act.put, List.setIfInBounds_toArray, List.set_cons_zero, List.set_cons_succ]
      refine wpAnyH_ready (rs := [26]) (by kernel_rfl) (by simp) ?_
      refine AllReadyH.cons rfl (fun KK hKK => ?_) AllReadyH.nil
      go_simp
      go_at_call 147; refine (hasAll_any p q g C1 n e1 cm _ hbd (RdI.ext s1.rd (Ext.trans E (by repeat (first | with_reducible assumption | with_reducible exact Ext.refl _ | with_reducible apply Ext.alloc | with_reducible apply Ext.drew | with_reducible apply Ext.drewN)))) hs1 q1').mono ?_; rintro en w3 ⟨he, hb3⟩; rw [H4.out] at he; subst he; have hx3 := Ext.trans (w := Wb) (by repeat (first | with_reducible assumption | with_reducible exact Ext.refl _ | with_reducible apply Ext.alloc | with_reducible apply Ext.drew | with_reducible apply Ext.drewN)) hb3
      refine hKK.out _ _ ?_ (fun hHeld => ?_)
      · exact hS _ (by repeat (first | with_reducible assumption | with_reducible exact Ext.refl _ | with_reducible apply Ext.alloc | with_reducible apply Ext.drew | with_reducible apply Ext.drewN))
      clear hKK KK
      try simp only [Act.put, List.setIfInBounds_toArray, List.set_cons_zero, List.set_cons_succ]
      refine' wpAnyH_take (i := 27) (v := _) ?hi27 (by kernel_rfl) (by kernel_rfl) (by kernel_rfl) ?hQ27 ?hy27 (by assumption) ?_
      case hi27 => (simp only [List.getElem?_toArray, List.getElem?_cons_succ, List.getElem?_cons_zero]; rfl)
      case hy27 => refine Or.inl ⟨by rfl, ?_⟩; intro w hSw; (try dsimp only at hSw); go_simp <;> with_reducible rfl
      case hQ27 => exact fun _ _ _ h => h
      try simp only [Act.put, List.setIfInBounds_toArray, List.set_cons_zero, List.set_cons_succ]
      refine' wpAnyH_take (i := 28) (v := _) ?hi28 (by kernel_rfl) (by kernel_rfl) (by kernel_rfl) ?hQ28 ?hy28 (by assumption) ?_
      case hi28 => (simp only [List.getElem?_toArray, List.getElem?_cons_succ, List.getElem?_cons_zero]; rfl)
      case hy28 => refine Or.inl ⟨by rfl, ?_⟩; intro w hSw; (try dsimp only at hSw); go_simp <;> with_reducible rfl
      case hQ28 => exact fun _ _ _ h => h
      try simp only [Act.put, List.setIfInBounds_toArray, List.set_cons_zero, List.set_cons_succ]
      refine' wpAnyH_take (i := 29) (v := _) ?hi29 (by kernel_rfl) (by kernel_rfl) (by kernel_rfl) ?hQ29 ?hy29 (by assumption) ?_
      case hi29 => (simp only [List.getElem?_toArray, List.getElem?_cons_succ, List.getElem?_cons_zero]; rfl)
      case hy29 => refine Or.inl ⟨by rfl, ?_⟩; intro w hSw; (try dsimp only at hSw); go_simp <;> with_reducible rfl
      case hQ29 => exact fun _ _ _ h => h
      try simp only [Act.put, List.setIfInBounds_toArray, List.set_cons_zero, List.set_cons_succ]
      refine' wpAnyH_take (i := 30) (v := _) ?hi30 (by kernel_rfl) (by kernel_rfl) (by kernel_rfl) ?hQ30 ?hy30 (by assumption) ?_
      case hi30 => (simp only [List.getElem?_toArray, List.getElem?_cons_succ, List.getElem?_cons_zero]; rfl)
      case hy30 => refine Or.inl ⟨by rfl, ?_⟩; intro w hSw; (try dsimp only at hSw); go_simp <;> with_reducible rfl
      case hQ30 => exact fun _ _ _ h => h
      try simp only [Act.put, List.setIfInBounds_toArray, List.set_cons_zero, List.set_cons_succ]
      refine' wpAnyH_take (i := 31) (v := _) ?hi31 (by kernel_rfl) (by kernel_rfl) (by kernel_rfl) ?hQ31 ?hy31 (by assumption) ?_
      case hi31 => (simp only [List.getElem?_toArray, List.getElem?_cons_succ, List.getElem?_cons_zero]; rfl)
      case hy31 => refine Or.inl ⟨by rfl, ?_⟩; intro w hSw; (try dsimp only at hSw); go_simp <;> with_reducible rfl
      case hQ31 => exact fun _ _ _ h => h
      try simp only [Act.put, List.setIfInBounds_toArray, List.set_cons_zero, List.set_cons_succ]
      refine' wpAnyH_take (i := 32) (v := _) ?hi32 (by kernel_rfl) (by kernel_rfl) (by kernel_rfl) ?hQ32 ?hy32 (by assumption) ?_
      case hi32 => (simp only [List.getElem?_toArray, List.getElem?_cons_succ, List.getElem?_cons_zero]; rfl)
      case hy32 => refine Or.inl ⟨by rfl, ?_⟩; intro w hSw; (try dsimp only at hSw); go_simp <;> with_reducible rfl
      case hQ32 => exact fun _ _ _ h => h
      try simp only [Act.put, List.setIfInBounds_toArray, List.set_cons_zero, List.set_cons_succ]
      refine wpAnyH_ready (rs := [33]) (by kernel_rfl) (by simp) ?_
      refine AllReadyH.cons rfl (fun KK hKK => ?_) AllReadyH.nil
      go_simp
      go_at_call 139; refine (areExps_any p q g C3 K e3 rs _ hbd (RdI.ext s3.rd (Ext.trans E (Ext.trans hx3 (by repeat (first | with_reducible assumption | with_reducible exact Ext.refl _ | with_reducible apply Ext.alloc | with_reducible apply Ext.drew | with_reducible apply Ext.drewN))))) hs3 q3').mono ?_; rintro en w4 ⟨he, hb4⟩; rw [H5.out] at he; subst he; have hx4 := Ext.trans (w := Wb) (Ext.trans hx3 (by repeat (first | with_reducible assumption | with_reducible exact Ext.refl _ | with_reducible apply Ext.alloc | with_reducible apply Ext.drew | with_reducible apply Ext.drewN))) hb4
      refine hKK.out _ _ ?_ (fun hHeld => ?_)
      · exact hS _ (by repeat (first | with_reducible assumption | with_reducible exact Ext.refl _ | with_reducible apply Ext.alloc | with_reducible apply Ext.drew | with_reducible apply Ext.drewN))
      clear hKK KK
      try simp only [Act.put, List.setIfInBounds_toArray, List.set_cons_zero, List.set_cons_succ]
      refine' wpAnyH_take (i := 34) (v := _) ?hi34 (by kernel_rfl) (by kernel_rfl) (by kernel_rfl) ?hQ34 ?hy34 (by assumption) ?_
      case hi34 => (simp only [List.getElem?_toArray, List.getElem?_cons_succ, List.getElem?_cons_zero]; rfl)
      case hy34 => refine Or.inl ⟨by rfl, ?_⟩; intro w hSw; (try dsimp only at hSw); go_simp <;> with_reducible rfl
      case hQ34 => exact fun _ _ _ h => h
      try simp only [Act.put, List.setIfInBounds_toArray, List.set_cons_zero, List.set_cons_succ]
      refine' wpAnyH_take (i := 35) (v := _) ?hi35 (by kernel_rfl) (by kernel_rfl) (by kernel_rfl) ?hQ35 ?hy35 (by assumption) ?_
      case hi35 => (simp only [List.getElem?_toArray, List.getElem?_cons_succ, List.getElem?_cons_zero]; rfl)
      case hy35 => refine Or.inl ⟨by rfl, ?_⟩; intro w hSw; (try dsimp only at hSw); go_simp <;> with_reducible rfl
      case hQ35 => exact fun _ _ _ h => h
      try simp only [Act.put, List.setIfInBounds_toArray, List.set_cons_zero, List.set_cons_succ]
      refine wpAnyH_done (by kernel_rfl) ?_ _
      all_goals
        go_wp2
        go_meet
        exact ⟨rfl, by first | exact hx4 | exact hx4.drew⟩
    case' rest =>
      obtain ⟨rfl, hb⟩ := hcut
      go_wp2
      go_ret
      exact ⟨ret_bool HV.out.symm, E.trans hb⟩
  have H4 := Lib.hid f4
  have H5 := Lib.hid f5
  have hf : lvF p q rows cm ch rs = true := by rw [hF.out, f4, f5]; simp
  have BCM := Lib.hid (els_in hp9 f4)
  have BIM := Lib.hid (els_in hp9 bim)
  have BRS := Lib.hid (allR_iff.1 f5)
  have him := hb.len
  obtain ⟨hck, hall, hlen⟩ := stm_ok h hs hri (by omega : im.length = rows.length) (by omega : cm.length = rows.length) BIM.out BCM.out
  have htl : tot rows + n + n = (stmL rows im cm).length := by rw [stm_len', him, hs1]
  have htot : tot rows ≤ 100 := by omega
  obtain ⟨ev, hev⟩ : ∃ ev, chV p q g s (stmL rows im cm) = ev := ⟨_, rfl⟩
  have hevr := chV_rg h s (stmL rows im cm)
  rw [hev] at hevr
  have HF := Lib.hid hf
  have HCK := Lib.hid hck
  have HALL := Lib.hid hall
  have HEV := Lib.hid hev
  have HGB := Lib.hid h
  have HL := Lib.hid hl
  have HTL := Lib.hid htl
  have HIM := Lib.hid him
  have HS1 := Lib.hid hs1
  have HS3 := Lib.hid hs3
  have HVV : Hid (lvB p q g s rows im cm ch rs = ((ch.getD 0 0 == ev) && (List.range n).all (lvQ p q rows im cm rs ev))) := by show _ = _; unfold lvB; rw [hf, hev, Bool.true_and, hl]
  have HRL : Hid (∀ r ∈ rows, r.length = K) := fun r hr => (hri.all r hr).1
  have BR := Lib.hid (hri.rg hp9)
  have BRS9 : Hid (∀ x ∈ rs, -9000000000000000000 ≤ x ∧ x ≤ 9000000000000000000) := fun x hx => by have := BRS.out x hx; omega
  obtain ⟨dd, hDA, hd0⟩ := s2.rd.at_ (show 0 < ch.length by omega)
  rw [show dd.add 0 = dd from rfl] at hd0
  obtain ⟨cv, hcv⟩ : ∃ cv, ch[0]'(by omega) = cv := ⟨_, rfl⟩
  rw [hcv] at hd0
  have hcg : ch.getD 0 0 = cv := by rw [← hcv]; simp [List.getD, show 0 < ch.length by omega]
  rw [hcg] at HVV
  have HST : Hid ([rows.flatten, im, cm].flatten = stmL rows im cm) := by show _ = _; simp [stmL]
  have HT3 : Hid (tot [rows.flatten, im, cm] ≤ 1000) := by show _ ≤ _; rw [← tot_flat, HST.out]; omega
  have hd1 := E.cell hd0
  subst hDA
  clear hF hri hf hev him hs1 hs3 hck hall h f4 f5 htl hlen hcv hcg hd0 hr hs2
  go_enter Try.func148, Try.ntmps148
  go_wp2
  generalize hWb : (w.alloc (.cells #[.int .i64 p, .int .i64 q, .int .i64 g] 38)).alloc (.cells #[.slice C1 n e1, .slice (some dd) 1 e2, .slice C3 K e3] 44) = Wb at *
  clear hWb
  have hS : ∀ V, Ext Wb V → V.cell? ⟨w.heap.size, 0, none⟩ = some (.int .i64 p) ∧ V.cell? ⟨w.heap.size, 1, none⟩ = some (.int .i64 q) ∧ V.cell? ⟨w.heap.size, 2, none⟩ = some (.int .i64 g) ∧ V.cell? ⟨w.heap.size + 1, 0, none⟩ = some (.slice C1 n e1) ∧ V.cell? ⟨w.heap.size + 1, 1, none⟩ = some (.slice (some dd) 1 e2) ∧ V.cell? ⟨w.heap.size + 1, 2, none⟩ = some (.slice C3 K e3) ∧ V.cell? ad = some (.slice Y K yc) := fun V hV => by
    have a0 := (B0.ext hV).cells
    have a1 := (B1.ext hV).cells
    exact ⟨a0 0, a0 1, a0 2, a1 0, a1 1, a1 2, hV.cell hcell2⟩
  obtain ⟨t0, t1, t2, t3, t4, t5, t6⟩ := hS _ (Ext.refl Wb)
  go_cut [50] from 15 to 49 (fun b wx => b = .bool false ∧ Ext Wb wx)
  case first =>
    refine wp_region_held_drew (S := fun V => V.cell? ⟨w.heap.size, 0, none⟩ = some (.int .i64 p) ∧ V.cell? ⟨w.heap.size, 1, none⟩ = some (.int .i64 q) ∧ V.cell? ⟨w.heap.size, 2, none⟩ = some (.int .i64 g) ∧ V.cell? ⟨w.heap.size + 1, 0, none⟩ = some (.slice C1 n e1) ∧ V.cell? ⟨w.heap.size + 1, 1, none⟩ = some (.slice (some dd) 1 e2) ∧ V.cell? ⟨w.heap.size + 1, 2, none⟩ = some (.slice C3 K e3) ∧ V.cell? ad = some (.slice Y K yc)) (by kernel_rfl) ?_ (fun hHeld => ?_)
    · exact hS _ (by repeat (first | with_reducible assumption | with_reducible exact Ext.refl _ | with_reducible apply Ext.alloc | with_reducible apply Ext.drew | with_reducible apply Ext.drewN))
    refine' wpAnyH_take (i := 0) (v := _) ?hi0 (by kernel_rfl) (by kernel_rfl) (by kernel_rfl) ?hQ0 ?hy0 (by assumption) ?_
    case hi0 => (simp only [List.getElem?_toArray, List.getElem?_cons_zero]; rfl)
    case hy0 => refine Or.inl ⟨by rfl, ?_⟩; intro w hSw; (try dsimp only at hSw); go_simp <;> with_reducible rfl
    case hQ0 => exact fun _ _ _ h => h
    try simp only [Act.put, List.setIfInBounds_toArray, List.set_cons_zero, List.set_cons_succ]
    refine' wpAnyH_take (i := 1) (v := _) ?hi1 (by kernel_rfl) (by kernel_rfl) (by kernel_rfl) ?hQ1 ?hy1 (by assumption) ?_
    case hi1 => (simp only [List.getElem?_toArray, List.getElem?_cons_succ, List.getElem?_cons_zero]; rfl)
    case hy1 => refine Or.inl ⟨by rfl, ?_⟩; intro w hSw; (try dsimp only at hSw); go_simp <;> with_reducible rfl
    case hQ1 => exact fun _ _ _ h => h
    try simp only [Act.put, List.setIfInBounds_toArray, List.set_cons_zero, List.set_cons_succ]
    refine' wpAnyH_take (i := 2) (v := _) ?hi2 (by kernel_rfl) (by kernel_rfl) (by kernel_rfl) ?hQ2 ?hy2 (by assumption) ?_
    case hi2 => (simp only [List.getElem?_toArray, List.getElem?_cons_succ, List.getElem?_cons_zero]; rfl)
    case hy2 => refine Or.inl ⟨by rfl, ?_⟩; intro w hSw; (try dsimp only at hSw); go_simp <;> with_reducible rfl
    case hQ2 => exact fun _ _ _ h => h
    try simp only [Act.put, List.setIfInBounds_toArray, List.set_cons_zero, List.set_cons_succ]
    refine' wpAnyH_take (i := 3) (v := _) ?hi3 (by kernel_rfl) (by kernel_rfl) (by kernel_rfl) ?hQ3 ?hy3 (by assumption) ?_
    case hi3 => (simp only [List.getElem?_toArray, List.getElem?_cons_succ, List.getElem?_cons_zero]; rfl)
    case hy3 => refine Or.inl ⟨by rfl, ?_⟩; intro w hSw; (try dsimp only at hSw); go_simp <;> with_reducible rfl
    case hQ3 => exact fun _ _ _ h => h
    try simp only [Act.put, List.setIfInBounds_toArray, List.set_cons_zero, List.set_cons_succ]
    refine' wpAnyH_take (i := 4) (v := _) ?hi4 (by kernel_rfl) (by kernel_rfl) (by kernel_rfl) ?hQ4 ?hy4 (by assumption) ?_
    case hi4 => (simp only [List.getElem?_toArray, List.getElem?_cons_succ, List.getElem?_cons_zero]; rfl)
    case hy4 => refine Or.inl ⟨by rfl, ?_⟩; intro w hSw; (try dsimp only at hSw); go_simp <;> with_reducible rfl
    case hQ4 => exact fun _ _ _ h => h
    try simp only [Act.put, List.setIfInBounds_toArray, List.set_cons_zero, List.set_cons_succ]
    refine' wpAnyH_take (i := 5) (v := _) ?hi5 (by kernel_rfl) (by kernel_rfl) (by kernel_rfl) ?hQ5 ?hy5 (by assumption) ?_
    case hi5 => (simp only [List.getElem?_toArray, List.getElem?_cons_succ, List.getElem?_cons_zero]; rfl)
    case hy5 => refine Or.inl ⟨by rfl, ?_⟩; intro w hSw; (try dsimp only at hSw); go_simp <;> with_reducible rfl
    case hQ5 => exact fun _ _ _ h => h
    try simp only [Act.put, List.setIfInBounds_toArray, List.set_cons_zero, List.set_cons_succ]
    refine' wpAnyH_take (i := 6) (v := _) ?hi6 (by kernel_rfl) (by kernel_rfl) (by kernel_rfl) ?hQ6 ?hy6 (by assumption) ?_
    case hi6 => (simp only [List.getElem?_toArray, List.getElem?_cons_succ, List.getElem?_cons_zero]; rfl)
    case hy6 => refine Or.inl ⟨by rfl, ?_⟩; intro w hSw; (try dsimp only at hSw); go_simp <;> with_reducible rfl
    case hQ6 => exact fun _ _ _ h => h
    try simp only [Act.put, List.setIfInBounds_toArray, List.set_cons_zero, List.set_cons_succ]
    refine' wpAnyH_take (i := 7) (v := _) ?hi7 (by kernel_rfl) (by kernel_rfl) (by kernel_rfl) ?hQ7 ?hy7 (by assumption) ?_
    case hi7 => (simp only [List.getElem?_toArray, List.getElem?_cons_succ, List.getElem?_cons_zero]; rfl)
    case hy7 => refine Or.inl ⟨by rfl, ?_⟩; intro w hSw; (try dsimp only at hSw); go_simp <;> with_reducible rfl
    case hQ7 => exact fun _ _ _ h => h
    try simp only [Act.put, List.setIfInBounds_toArray, List.set_cons_zero, List.set_cons_succ]
    refine' wpAnyH_take (i := 8) (v := _) ?hi8 (by kernel_rfl) (by kernel_rfl) (by kernel_rfl) ?hQ8 ?hy8 (by assumption) ?_
    case hi8 => (simp only [List.getElem?_toArray, List.getElem?_cons_succ, List.getElem?_cons_zero]; rfl)
    case hy8 => refine Or.inl ⟨by rfl, ?_⟩; intro w hSw; (try dsimp only at hSw); go_simp <;> with_reducible rfl
    case hQ8 => exact fun _ _ _ h => h
    try simp only [Act.put, List.setIfInBounds_toArray, List.set_cons_zero, List.set_cons_succ]
    refine' wpAnyH_take (i := 9) (v := _) ?hi9 (by kernel_rfl) (by kernel_rfl) (by kernel_rfl) ?hQ9 ?hy9 (by assumption) ?_
    case hi9 => (simp only [List.getElem?_toArray, List.getElem?_cons_succ, List.getElem?_cons_zero]; rfl)
    case hy9 => refine Or.inl ⟨by rfl, ?_⟩; intro w hSw; (try dsimp only at hSw); go_simp <;> with_reducible rfl
    case hQ9 => exact fun _ _ _ h => h
    try simp only [Act.put, List.setIfInBounds_toArray, List.set_cons_zero, List.set_cons_succ]
    refine' wpAnyH_take (i := 10) (v := _) ?hi10 (by kernel_rfl) (by kernel_rfl) (by kernel_rfl) ?hQ10 ?hy10 (by assumption) ?_
    case hi10 => (simp only [List.getElem?_toArray, List.getElem?_cons_succ, List.getElem?_cons_zero]; rfl)
    case hy10 => refine Or.inl ⟨by rfl, ?_⟩; intro w hSw; (try dsimp only at hSw); go_simp <;> with_reducible rfl
    case hQ10 => exact fun _ _ _ h => h
    try simp only [Act.put, List.setIfInBounds_toArray, List.set_cons_zero, List.set_cons_succ]
    refine' wpAnyH_take (i := 11) (v := _) ?hi11 (by kernel_rfl) (by kernel_rfl) (by kernel_rfl) ?hQ11 ?hy11 (by assumption) ?_
    case hi11 => (simp only [List.getElem?_toArray, List.getElem?_cons_succ, List.getElem?_cons_zero]; rfl)
    case hy11 => refine Or.inl ⟨by rfl, ?_⟩; intro w hSw; (try dsimp only at hSw); go_simp <;> with_reducible rfl
    case hQ11 => exact fun _ _ _ h => h
    try simp only [Act.put, List.setIfInBounds_toArray, List.set_cons_zero, List.set_cons_succ]
    refine' wpAnyH_take (i := 12) (v := _) ?hi12 (by kernel_rfl) (by kernel_rfl) (by kernel_rfl) ?hQ12 ?hy12 (by assumption) ?_
    case hi12 => (simp only [List.getElem?_toArray, List.getElem?_cons_succ, List.getElem?_cons_zero]; rfl)
    case hy12 => refine Or.inl ⟨by rfl, ?_⟩; intro w hSw; (try dsimp only at hSw); go_simp <;> with_reducible rfl
    case hQ12 => exact fun _ _ _ h => h
    try simp only [Act.put, List.setIfInBounds_toArray, List.set_cons_zero, List.set_cons_succ]
    refine' wpAnyH_take (i := 13) (v := _) ?hi13 (by kernel_rfl) (by kernel_rfl) (by kernel_rfl) ?hQ13 ?hy13 (by assumption) ?_
    case hi13 => (simp only [List.getElem?_toArray, List.getElem?_cons_succ, List.getElem?_cons_zero]; rfl)
    case hy13 => refine Or.inl ⟨by rfl, ?_⟩; intro w hSw; (try dsimp only at hSw); go_simp <;> with_reducible rfl
    case hQ13 => exact fun _ _ _ h => h
    try simp only [Act.put, List.setIfInBounds_toArray, List.set_cons_zero, List.set_cons_succ]
    refine' wpAnyH_take (i := 14) (v := _) ?hi14 (by kernel_rfl) (by kernel_rfl) (by kernel_rfl) ?hQ14 ?hy14 (by assumption) ?_
    case hi14 => (simp only [List.getElem?_toArray, List.getElem?_cons_succ, List.getElem?_cons_zero]; rfl)
    case hy14 => refine Or.inl ⟨by rfl, ?_⟩; intro w hSw; (try dsimp only at hSw); go_simp <;> with_reducible rfl
    case hQ14 => exact fun _ _ _ h => h
    try simp only [Act.put, List.setIfInBounds_toArray, List.set_cons_zero, List.set_cons_succ]
    refine' wpAnyH_take (i := 15) (v := _) ?hi15 (by kernel_rfl) (by kernel_rfl) (by kernel_rfl) ?hQ15 ?hy15 (by assumption) ?_
    case hi15 => (simp only [List.getElem?_toArray, List.getElem?_cons_succ, List.getElem?_cons_zero]; rfl)
    case hy15 => refine Or.inl ⟨by rfl, ?_⟩; intro w hSw; (try dsimp only at hSw); go_simp <;> with_reducible rfl
    case hQ15 => exact fun _ _ _ h => h
    try simp only [Act.put, List.setIfInBounds_toArray, List.set_cons_zero, List.set_cons_succ]
    refine' wpAnyH_take (i := 16) (v := _) ?hi16 (by kernel_rfl) (by kernel_rfl) (by kernel_rfl) ?hQ16 ?hy16 (by assumption) ?_
    case hi16 => (simp only [List.getElem?_toArray, List.getElem?_cons_succ, List.getElem?_cons_zero]; rfl)
    case hy16 => refine Or.inl ⟨by rfl, ?_⟩; intro w hSw; (try dsimp only at hSw); go_simp <;> with_reducible rfl
    case hQ16 => exact fun _ _ _ h => h
    try simp only [Act.put, List.setIfInBounds_toArray, List.set_cons_zero, List.set_cons_succ]
    refine' wpAnyH_take (i := 17) (v := _) ?hi17 (by kernel_rfl) (by kernel_rfl) (by kernel_rfl) ?hQ17 ?hy17 (by assumption) ?_
    case hi17 => (simp only [List.getElem?_toArray, List.getElem?_cons_succ, List.getElem?_cons_zero]; rfl)
    case hy17 => refine Or.inl ⟨by rfl, ?_⟩; intro w hSw; (try dsimp only at hSw); go_simp <;> with_reducible rfl
    case hQ17 => exact fun _ _ _ h => h
    try simp only [Act.put, List.setIfInBounds_toArray, List.set_cons_zero, List.set_cons_succ]
    refine' wpAnyH_take (i := 18) (v := _) ?hi18 (by kernel_rfl) (by kernel_rfl) (by kernel_rfl) ?hQ18 ?hy18 (by assumption) ?_
    case hi18 => (simp only [List.getElem?_toArray, List.getElem?_cons_succ, List.getElem?_cons_zero]; rfl)
    case hy18 => refine Or.inl ⟨by rfl, ?_⟩; intro w hSw; (try dsimp only at hSw); go_simp <;> with_reducible rfl
    case hQ18 => exact fun _ _ _ h => h
    try simp only [Act.put, List.setIfInBounds_toArray, List.set_cons_zero, List.set_cons_succ]
    refine' wpAnyH_take (i := 19) (v := _) ?hi19 (by kernel_rfl) (by kernel_rfl) (by kernel_rfl) ?hQ19 ?hy19 (by assumption) ?_
    case hi19 => (simp only [List.getElem?_toArray, List.getElem?_cons_succ, List.getElem?_cons_zero]; rfl)
    case hy19 => refine Or.inl ⟨by rfl, ?_⟩; intro w hSw; (try dsimp only at hSw); go_simp <;> with_reducible rfl
    case hQ19 => exact fun _ _ _ h => h
    try simp only [Act.put, List.setIfInBounds_toArray, List.set_cons_zero, List.set_cons_succ]
    refine' wpAnyH_take (i := 20) (v := _) ?hi20 (by kernel_rfl) (by kernel_rfl) (by kernel_rfl) ?hQ20 ?hy20 (by assumption) ?_
    case hi20 => (simp only [List.getElem?_toArray, List.getElem?_cons_succ, List.getElem?_cons_zero]; rfl)
    case hy20 => refine Or.inl ⟨by rfl, ?_⟩; intro w hSw; (try dsimp only at hSw); go_simp <;> with_reducible rfl
    case hQ20 => exact fun _ _ _ h => h
    try simp only [Act.put, List.setIfInBounds_toArray, List.set_cons_zero, List.set_cons_succ]
    refine' wpAnyH_take (i := 21) (v := _) ?hi21 (by kernel_rfl) (by kernel_rfl) (by kernel_rfl) ?hQ21 ?hy21 (by assumption) ?_
    case hi21 => (simp only [List.getElem?_toArray, List.getElem?_cons_succ, List.getElem?_cons_zero]; rfl)
    case hy21 => refine Or.inl ⟨by rfl, ?_⟩; intro w hSw; (try dsimp only at hSw); go_simp <;> with_reducible rfl
    case hQ21 => exact fun _ _ _ h => h
    try simp only [Act.put, List.setIfInBounds_toArray, List.set_cons_zero, List.set_cons_succ]
    refine' wpAnyH_take (i := 22) (v := _) ?hi22 (by kernel_rfl) (by kernel_rfl) (by kernel_rfl) ?hQ22 ?hy22 (by assumption) ?_
    case hi22 => (simp only [List.getElem?_toArray, List.getElem?_cons_succ, List.getElem?_cons_zero]; rfl)
    case hy22 => refine Or.inl ⟨by rfl, ?_⟩; intro w hSw; (try dsimp only at hSw); go_simp <;> with_reducible rfl
    case hQ22 => exact fun _ _ _ h => h
    try simp only [Act.put, List.setIfInBounds_toArray, List.set_cons_zero, List.set_cons_succ]
    refine' wpAnyH_take (i := 23) (v := _) ?hi23 (by kernel_rfl) (by kernel_rfl) (by kernel_rfl) ?hQ23 ?hy23 (by assumption) ?_
    case hi23 => (simp only [List.getElem?_toArray, List.getElem?_cons_succ, List.getElem?_cons_zero]; rfl)
    case hy23 => refine Or.inl ⟨by rfl, ?_⟩; intro w hSw; (try dsimp only at hSw); go_simp <;> with_reducible rfl
    case hQ23 => exact fun _ _ _ h => h
    try simp only [Act.put, List.setIfInBounds_toArray, List.set_cons_zero, List.set_cons_succ]
    refine' wpAnyH_take (i := 24) (v := _) ?hi24 (by kernel_rfl) (by kernel_rfl) (by kernel_rfl) ?hQ24 ?hy24 (by assumption) ?_
    case hi24 => (simp only [List.getElem?_toArray, List.getElem?_cons_succ, List.getElem?_cons_zero]; rfl)
    case hy24 => refine Or.inl ⟨by rfl, ?_⟩; intro w hSw; (try dsimp only at hSw); go_simp <;> with_reducible rfl
    case hQ24 => exact fun _ _ _ h => h
    try simp only [Act.put, List.setIfInBounds_toArray, List.set_cons_zero, List.set_cons_succ]
    refine' wpAnyH_take (i := 25) (v := _) ?hi25 (by kernel_rfl) (by kernel_rfl) (by kernel_rfl) ?hQ25 ?hy25 (by assumption) ?_
    case hi25 => (simp only [List.getElem?_toArray, List.getElem?_cons_succ, List.getElem?_cons_zero]; rfl)
    case hy25 => refine Or.inl ⟨by rfl, ?_⟩; intro w hSw; (try dsimp only at hSw); go_simp <;> with_reducible rfl
    case hQ25 => exact fun _ _ _ h => h
    try simp only [Act.put, List.setIfInBounds_toArray, List.set_cons_zero, List.set_cons_succ]
    refine wpAnyH_ready (rs := [26]) (by kernel_rfl) (by simp) ?_
    refine AllReadyH.cons rfl (fun KK hKK => ?_) AllReadyH.nil
    go_simp
    go_at_call 147; refine (hasAll_any p q g C1 n e1 cm _ hbd (RdI.ext s1.rd (Ext.trans E (by repeat (first | with_reducible assumption | with_reducible exact Ext.refl _ | with_reducible apply Ext.alloc | with_reducible apply Ext.drew | with_reducible apply Ext.drewN)))) HS1.out q1').mono ?_; rintro en w3 ⟨he, hb3⟩; rw [H4.out] at he; subst he; have hx3 := Ext.trans (w := Wb) (by repeat (first | with_reducible assumption | with_reducible exact Ext.refl _ | with_reducible apply Ext.alloc | with_reducible apply Ext.drew | with_reducible apply Ext.drewN)) hb3
    refine hKK.out _ _ ?_ (fun hHeld => ?_)
    · exact hS _ (by repeat (first | with_reducible assumption | with_reducible exact Ext.refl _ | with_reducible apply Ext.alloc | with_reducible apply Ext.drew | with_reducible apply Ext.drewN))
    clear hKK KK
    try simp only [Act.put, List.setIfInBounds_toArray, List.set_cons_zero, List.set_cons_succ]
    refine' wpAnyH_take (i := 27) (v := _) ?hi27 (by kernel_rfl) (by kernel_rfl) (by kernel_rfl) ?hQ27 ?hy27 (by assumption) ?_
    case hi27 => (simp only [List.getElem?_toArray, List.getElem?_cons_succ, List.getElem?_cons_zero]; rfl)
    case hy27 => refine Or.inl ⟨by rfl, ?_⟩; intro w hSw; (try dsimp only at hSw); go_simp <;> with_reducible rfl
    case hQ27 => exact fun _ _ _ h => h
    try simp only [Act.put, List.setIfInBounds_toArray, List.set_cons_zero, List.set_cons_succ]
    refine' wpAnyH_take (i := 28) (v := _) ?hi28 (by kernel_rfl) (by kernel_rfl) (by kernel_rfl) ?hQ28 ?hy28 (by assumption) ?_
    case hi28 => (simp only [List.getElem?_toArray, List.getElem?_cons_succ, List.getElem?_cons_zero]; rfl)
    case hy28 => refine Or.inl ⟨by rfl, ?_⟩; intro w hSw; (try dsimp only at hSw); go_simp <;> with_reducible rfl
    case hQ28 => exact fun _ _ _ h => h
    try simp only [Act.put, List.setIfInBounds_toArray, List.set_cons_zero, List.set_cons_succ]
    refine' wpAnyH_take (i := 29) (v := _) ?hi29 (by kernel_rfl) (by kernel_rfl) (by kernel_rfl) ?hQ29 ?hy29 (by assumption) ?_
    case hi29 => (simp only [List.getElem?_toArray, List.getElem?_cons_succ, List.getElem?_cons_zero]; rfl)
    case hy29 => refine Or.inl ⟨by rfl, ?_⟩; intro w hSw; (try dsimp only at hSw); go_simp <;> with_reducible rfl
    case hQ29 => exact fun _ _ _ h => h
    try simp only [Act.put, List.setIfInBounds_toArray, List.set_cons_zero, List.set_cons_succ]
    refine' wpAnyH_take (i := 30) (v := _) ?hi30 (by kernel_rfl) (by kernel_rfl) (by kernel_rfl) ?hQ30 ?hy30 (by assumption) ?_
    case hi30 => (simp only [List.getElem?_toArray, List.getElem?_cons_succ, List.getElem?_cons_zero]; rfl)
    case hy30 => refine Or.inl ⟨by rfl, ?_⟩; intro w hSw; (try dsimp only at hSw); go_simp <;> with_reducible rfl
    case hQ30 => exact fun _ _ _ h => h
    try simp only [Act.put, List.setIfInBounds_toArray, List.set_cons_zero, List.set_cons_succ]
    refine' wpAnyH_take (i := 31) (v := _) ?hi31 (by kernel_rfl) (by kernel_rfl) (by kernel_rfl) ?hQ31 ?hy31 (by assumption) ?_
    case hi31 => (simp only [List.getElem?_toArray, List.getElem?_cons_succ, List.getElem?_cons_zero]; rfl)
    case hy31 => refine Or.inl ⟨by rfl, ?_⟩; intro w hSw; (try dsimp only at hSw); go_simp <;> with_reducible rfl
    case hQ31 => exact fun _ _ _ h => h
    try simp only [Act.put, List.setIfInBounds_toArray, List.set_cons_zero, List.set_cons_succ]
    refine' wpAnyH_take (i := 32) (v := _) ?hi32 (by kernel_rfl) (by kernel_rfl) (by kernel_rfl) ?hQ32 ?hy32 (by assumption) ?_
    case hi32 => (simp only [List.getElem?_toArray, List.getElem?_cons_succ, List.getElem?_cons_zero]; rfl)
    case hy32 => refine Or.inl ⟨by rfl, ?_⟩; intro w hSw; (try dsimp only at hSw); go_simp <;> with_reducible rfl
    case hQ32 => exact fun _ _ _ h => h
    try simp only [Act.put, List.setIfInBounds_toArray, List.set_cons_zero, List.set_cons_succ]
    refine wpAnyH_ready (rs := [33]) (by kernel_rfl) (by simp) ?_
    refine AllReadyH.cons rfl (fun KK hKK => ?_) AllReadyH.nil
    go_simp
    go_at_call 139; refine (areExps_any p q g C3 K e3 rs _ hbd (RdI.ext s3.rd (Ext.trans E (Ext.trans hx3 (by repeat (first | with_reducible assumption | with_reducible exact Ext.refl _ | with_reducible apply Ext.alloc | with_reducible apply Ext.drew | with_reducible apply Ext.drewN))))) HS3.out q3').mono ?_; rintro en w4 ⟨he, hb4⟩; rw [H5.out] at he; subst he; have hx4 := Ext.trans (w := Wb) (Ext.trans hx3 (by repeat (first | with_reducible assumption | with_reducible exact Ext.refl _ | with_reducible apply Ext.alloc | with_reducible apply Ext.drew | with_reducible apply Ext.drewN))) hb4
    refine hKK.out _ _ ?_ (fun hHeld => ?_)
    · exact hS _ (by repeat (first | with_reducible assumption | with_reducible exact Ext.refl _ | with_reducible apply Ext.alloc | with_reducible apply Ext.drew | with_reducible apply Ext.drewN))
    clear hKK KK
    try simp only [Act.put, List.setIfInBounds_toArray, List.set_cons_zero, List.set_cons_succ]
    refine' wpAnyH_take (i := 34) (v := _) ?hi34 (by kernel_rfl) (by kernel_rfl) (by kernel_rfl) ?hQ34 ?hy34 (by assumption) ?_
    case hi34 => (simp only [List.getElem?_toArray, List.getElem?_cons_succ, List.getElem?_cons_zero]; rfl)
    case hy34 => refine Or.inl ⟨by rfl, ?_⟩; intro w hSw; (try dsimp only at hSw); go_simp <;> with_reducible rfl
    case hQ34 => exact fun _ _ _ h => h
    try simp only [Act.put, List.setIfInBounds_toArray, List.set_cons_zero, List.set_cons_succ]
    refine' wpAnyH_take (i := 35) (v := _) ?hi35 (by kernel_rfl) (by kernel_rfl) (by kernel_rfl) ?hQ35 ?hy35 (by assumption) ?_
    case hi35 => (simp only [List.getElem?_toArray, List.getElem?_cons_succ, List.getElem?_cons_zero]; rfl)
    case hy35 => refine Or.inl ⟨by rfl, ?_⟩; intro w hSw; (try dsimp only at hSw); go_simp <;> with_reducible rfl
    case hQ35 => exact fun _ _ _ h => h
    try simp only [Act.put, List.setIfInBounds_toArray, List.set_cons_zero, List.set_cons_succ]
    refine wpAnyH_done (by kernel_rfl) ?_ _
    all_goals
      go_wp2
      go_meet
      exact ⟨rfl, by first | exact hx4 | exact hx4.drew⟩
  case' rest =>
  obtain ⟨rfl, hb2⟩ := hcut
  have B2 := B0.ext hb2
  have B3 := B1.ext hb2
  have E2 := E.trans hb2
  have hd2 := hb2.cell hd1
  have hS2 : ∀ V, Ext wc V → V.cell? ⟨w.heap.size, 0, none⟩ = some (.int .i64 p) ∧ V.cell? ⟨w.heap.size, 1, none⟩ = some (.int .i64 q) ∧ V.cell? ⟨w.heap.size, 2, none⟩ = some (.int .i64 g) ∧ V.cell? ⟨w.heap.size + 1, 0, none⟩ = some (.slice C1 n e1) ∧ V.cell? ⟨w.heap.size + 1, 1, none⟩ = some (.slice (some dd) 1 e2) ∧ V.cell? ⟨w.heap.size + 1, 2, none⟩ = some (.slice C3 K e3) ∧ V.cell? dd = some (.int .i64 cv) := fun V hV => by
    have a0 := (B2.ext hV).cells
    have a1 := (B3.ext hV).cells
    exact ⟨a0 0, a0 1, a0 2, a1 0, a1 1, a1 2, hV.cell hd2⟩
  clear hS t0 t1 t2 t3 t4 t5 t6 hb2 hd1
  obtain ⟨t0, t1, t2, t3, t4, t5, t6⟩ := hS2 _ (Ext.refl wc)
  go_upto_region 3 with (fail)
  go_region_held3 (fun V => V.cell? ⟨w.heap.size, 0, none⟩ = some (.int .i64 p) ∧ V.cell? ⟨w.heap.size, 1, none⟩ = some (.int .i64 q) ∧ V.cell? ⟨w.heap.size, 2, none⟩ = some (.int .i64 g) ∧ V.cell? ⟨w.heap.size + 1, 0, none⟩ = some (.slice C1 n e1) ∧ V.cell? ⟨w.heap.size + 1, 1, none⟩ = some (.slice (some dd) 1 e2) ∧ V.cell? ⟨w.heap.size + 1, 2, none⟩ = some (.slice C3 K e3) ∧ V.cell? dd = some (.int .i64 cv)) (exact hS2 _ (by repeat (first | with_reducible assumption | with_reducible exact Ext.refl _ | with_reducible apply Ext.alloc | with_reducible apply Ext.drew | with_reducible apply Ext.drewN)))
    (first
      | (go_at_call 185; first
          | (have hz := hx3; have sl1 := SlI.ext s1 (Ext.trans E2 hx3); have sl2 := SlI.ext hb (Ext.trans E2 hx3); have sl3 := o3.sl; refine (Concat_any _ 3 _ [rows.flatten, im, cm] _ (rdSS_lit3 (w := w3) (t := 28) rfl (by repeat (first | with_reducible assumption | with_reducible exact Ext.refl _ | with_reducible apply Ext.alloc | with_reducible apply Ext.drew | with_reducible apply Ext.drewN)) (SlI.ext sl3 (by repeat (first | with_reducible assumption | with_reducible exact Ext.refl _ | with_reducible apply Ext.alloc | with_reducible apply Ext.drew | with_reducible apply Ext.drewN))) (SlI.ext sl2 (by repeat (first | with_reducible assumption | with_reducible exact Ext.refl _ | with_reducible apply Ext.alloc | with_reducible apply Ext.drew | with_reducible apply Ext.drewN))) (SlI.ext sl1 (by repeat (first | with_reducible assumption | with_reducible exact Ext.refl _ | with_reducible apply Ext.alloc | with_reducible apply Ext.drew | with_reducible apply Ext.drewN)))) rfl (by omega) (Nat.le_trans HT3.out (by omega))).mono ?_; rintro en w5 ⟨A5, c5, rfl, o5, hb5⟩; have hx5 := Ext.trans (w := wc) (Ext.trans hx3 (by repeat (first | with_reducible assumption | with_reducible exact Ext.refl _ | with_reducible apply Ext.alloc | with_reducible apply Ext.drew | with_reducible apply Ext.drewN))) hb5)
          | (refine (Concat_any (some ad) n c rows _ (RdSS.ext ha (Ext.trans E2 (by repeat (first | with_reducible assumption | with_reducible exact Ext.refl _ | with_reducible apply Ext.alloc | with_reducible apply Ext.drew | with_reducible apply Ext.drewN)))) HL.out (by omega) (by omega)).mono ?_; rintro en w3 ⟨A3, c3, rfl, o3, hb3⟩; have hx3 := Ext.trans (w := wc) (by repeat (first | with_reducible assumption | with_reducible exact Ext.refl _ | with_reducible apply Ext.alloc | with_reducible apply Ext.drew | with_reducible apply Ext.drewN)) hb3)
          | fail)
      | (go_at_call 184; refine (challenge_any p q g s A5 _ c5 (stmL rows im cm) _ HGB.out (by rw [← HST.out]; exact RdI.ext o5.rd (by repeat (first | with_reducible assumption | with_reducible exact Ext.refl _ | with_reducible apply Ext.alloc | with_reducible apply Ext.drew | with_reducible apply Ext.drewN))) (by rw [← HST.out, tot_flat]) (by have := HT3.out; omega) (by omega)).mono ?_; rintro en w6 ⟨he, hb6⟩; rw [HCK.out, if_pos rfl, HEV.out] at he; subst he; have hx6 := Ext.trans (w := wc) (Ext.trans hx5 (by repeat (first | with_reducible assumption | with_reducible exact Ext.refl _ | with_reducible apply Ext.alloc | with_reducible apply Ext.drew | with_reducible apply Ext.drewN))) hb6)
      | fail)
  obtain ⟨u0, u1, u2, u3, u4, u5, u6⟩ := hS2 _ hx6
  by_cases hcv : cv = ev
  case neg =>
    have hne : (cv != ev) = true := by simp [hcv]
    have HVX : Hid (lvB p q g s rows im cm ch rs = false) := by show _ = _; rw [HVV.out, beq_eq_false_iff_ne.2 hcv, Bool.false_and]
    clear hcv
    go_wp2
    go_ret
    exact ⟨ret_bool HVX.out.symm, E2.trans hx6⟩
  have hne : (cv != ev) = false := by simp [hcv]
  have hcv' : (cv == ev) = true := by simp [hcv]
  have HVX : Hid (lvB p q g s rows im cm ch rs = (List.range n).all (lvQ p q rows im cm rs ev)) := by show _ = _; rw [HVV.out, hcv', Bool.true_and]
  clear hcv hcv'
  go_wp2_with fail
  refine (images_any p q g (some ad) C3 n c K e3 rows rs _ hbd (RdSS.ext ha (Ext.trans E2 hx6)) HL.out (RdI.ext s3.rd (Ext.trans E2 hx6)) HS3.out (by omega) (fun r hr => Nat.le_of_eq (HRL.out r hr)) (by omega) BR.out BRS9.out).mono ?_
  rintro en w7 ⟨Z, zc, rfl, o7, hb7⟩
  have hx7 := hx6.trans hb7
  have E7 := E2.trans hx7
  clear u0 u1 u2 u3 u4 u5 u6 t0 t1 t2 t3 t4 t5 t6
  have B2 := B2.ext hx7
  have B3 := B3.ext hx7
  have him2 := imgL_length p q rows rs
  rw [HL.out] at him2
  have HI2 := Lib.hid him2
  go_wp2
  go_loopw [80] (fun i wr => ∃ j : Nat, j ≤ n ∧ i = .int .i64 j ∧ Hid (∀ i, i < j → lvQ p q rows im cm rs ev i = true) ∧ Ext w7 wr) (fun i _ => n - (intOf i).toNat)
  case atStart => exact ⟨0, Nat.zero_le _, rfl, fun i h => absurd h (by omega), Ext.refl _⟩
  case round =>
    obtain ⟨j, hj, rfl, hP, hE⟩ := hrel
    by_cases hlt : j < n
    · have hji : j < im.length := by have := HIM.out; omega
      have hjc : j < cm.length := by have := HS1.out; omega
      have hjr : j < rows.length := by have := HL.out; omega
      have hjz : j < (imgL p q rows rs).length := by have := HI2.out; omega
      have HQ := Lib.hid (lvQ_at (p := p) (q := q) (rs := rs) (e := ev) hjr hji hjc)
      obtain ⟨zd, hZ, hcz⟩ := (o7.rd.ext hE).at_ hjz
      obtain ⟨id, hD, hci⟩ := (hb.rd.ext (E7.trans hE)).at_ hji
      obtain ⟨kd, hC, hck⟩ := (s1.rd.ext (E7.trans hE)).at_ hjc
      subst hZ
      subst hD
      subst hC
      have b1 := BIM.out _ (List.getElem_mem hji)
      have b2 := BCM.out _ (List.getElem_mem hjc)
      have ezz : (imgL p q rows rs)[j] = prodV p q rows[j] rs rows[j].length := by simp [imgL]
      rw [ezz] at hcz
      generalize prodV p q rows[j] rs rows[j].length = zv at *
      generalize im[j] = iv at *
      generalize cm[j] = kv at *
      have gx := gpw_rg p q iv ev hbd
      have hj0 : (0 : Int) ≤ (j : Int) := by omega
      have hjn : (j : Int) < (n : Int) := by omega
      have hS3 : ∀ V, Ext wr V → V.cell? ⟨w.heap.size, 0, none⟩ = some (.int .i64 p) ∧ V.cell? ⟨w.heap.size, 1, none⟩ = some (.int .i64 q) ∧ V.cell? ⟨w.heap.size, 2, none⟩ = some (.int .i64 g) ∧ V.cell? ⟨w.heap.size + 1, 0, none⟩ = some (.slice (some kd) n e1) ∧ V.cell? (id.add j) = some (.int .i64 iv) ∧ V.cell? (kd.add j) = some (.int .i64 kv) := fun V hV => by
        have a0 := (B2.ext (hE.trans hV)).cells
        have a1 := (B3.ext (hE.trans hV)).cells
        exact ⟨a0 0, a0 1, a0 2, a1 0, hV.cell hci, hV.cell hck⟩
      obtain ⟨mv, hmv⟩ : ∃ mv, gmul p [kv, gpw p q iv ev] = mv := ⟨_, rfl⟩
      have HMV := Lib.hid hmv
      rw [hmv] at HQ
      clear hmv ezz
      go_wp2
      go_region_held3 (fun V => V.cell? ⟨w.heap.size, 0, none⟩ = some (.int .i64 p) ∧ V.cell? ⟨w.heap.size, 1, none⟩ = some (.int .i64 q) ∧ V.cell? ⟨w.heap.size, 2, none⟩ = some (.int .i64 g) ∧ V.cell? ⟨w.heap.size + 1, 0, none⟩ = some (.slice (some kd) n e1) ∧ V.cell? (id.add j) = some (.int .i64 iv) ∧ V.cell? (kd.add j) = some (.int .i64 kv)) (exact hS3 _ (by repeat (first | with_reducible assumption | with_reducible exact Ext.refl _ | with_reducible apply Ext.alloc | with_reducible apply Ext.drew | with_reducible apply Ext.drewN)))
        (first
          | (go_at_call 103; refine (pow_any p q g iv ev _ hbd b1.1 b1.2 (by omega) (by omega)).mono ?_; rintro en w8 ⟨rfl, hb8⟩; have hx8 := Ext.trans (w := wr) (by repeat (first | with_reducible assumption | with_reducible exact Ext.refl _ | with_reducible apply Ext.alloc | with_reducible apply Ext.drew | with_reducible apply Ext.drewN)) hb8)
          | (go_at_call 128; refine (mul_any p q g _ 2 2 [kv, gpw p q iv ev] _ hbd (rd_two (by simp)) rfl (by decide) (two_rg (by omega) (by omega))).mono ?_; rintro en w9 ⟨he, hb9⟩; rw [HMV.out] at he; subst he; have hx9 := Ext.trans (w := wr) (Ext.trans hx8 (by repeat (first | with_reducible assumption | with_reducible exact Ext.refl _ | with_reducible apply Ext.alloc | with_reducible apply Ext.drew | with_reducible apply Ext.drewN))) hb9)
          | fail)
      by_cases hzm : zv = mv
      · have hne2 : (zv != mv) = false := by simp [hzm]
        have hok : (zv == mv) = true := by simp [hzm]
        rw [hok] at HQ
        clear hzm hok
        have HP2 : Hid (∀ i, i < j + 1 → lvQ p q rows im cm rs ev i = true) := fun i hi => by
          by_cases e : i = j
          · subst e; exact HQ.out
          · exact hP.out i (by omega)
        go_wp2
        go_roundw
        case rel => first | exact ⟨j + 1, by omega, by go_num, HP2, hE.trans hx9⟩ | ((repeat apply Exists.intro); exact ⟨⟨j + 1, by omega, by go_num, HP2, hE.trans hx9⟩, rfl⟩)
        case measure => simp [intOf]; omega
      · have hne2 : (zv != mv) = true := by simp [hzm]
        have hno : (zv == mv) = false := by simp [hzm]
        rw [hno] at HQ
        have HV9 : Hid ((List.range n).all (lvQ p q rows im (cm) rs ev) = false) := range_no hlt HQ.out
        clear hzm hno
        go_wp2
        go_ret
        exact ⟨ret_bool (by rw [HVX.out, HV9.out]), E7.trans (hE.trans hx9)⟩
    · obtain rfl : j = n := by omega
      have HV9 : Hid ((List.range j).all (lvQ p q rows im cm rs ev) = true) := range_yes hP.out
      go_wp2
      go_ret
      exact ⟨ret_bool (by rw [HVX.out, HV9.out]), E7.trans hE⟩
set_option maxRecDepth 100000 in
set_option maxHeartbeats 8000000 in
theorem sVerify_any (p q g : Int) (s : ByteArray) (A D C1 C2 C3 : Option Addr) (n c m d k1 e1 k2 e2 k3 e3 : Nat) (rows : List (List Int)) (im cm ch rs : List Int) (w : World) (h : grpB p q g = true) (hs : s.size ≤ 40) (hr : rowsB p q rows = true) (ha : RdSS w A rows) (hl : rows.length = n) (hb : SlI w D m d im) (hm : m = n) (bim : im.all (elB p q) = true) (s1 : SlI w C1 k1 e1 cm) (s2 : SlI w C2 k2 e2 ch) (s3 : SlI w C3 k3 e3 rs) :
    Calls Try.prog 149 #[.agg #[.int .i64 p, .int .i64 q, .int .i64 g], .string s, .slice A n c, .slice D m d, .agg #[.slice C1 k1 e1, .slice C2 k2 e2, .slice C3 k3 e3]] w fun en w' => en = .returned (.bool (lvB p q g s rows im cm ch rs)) ∧ Ext w w' := by
  obtain rfl : n = m := hm.symm
  clear hm
  have hG := grpB_in h
  have hq2 := hG.q2
  have hp9 := hG.p9
  have hqp := hG.qp
  have hbd := hG.bd
  have hri := rows_in hr
  obtain ⟨K, hK⟩ : ∃ K, (rows.headD []).length = K := ⟨_, rfl⟩
  rw [hK] at hri
  obtain ⟨hn1, hk1⟩ := And.intro hri.n hri.k
  rw [hl] at hn1
  have hs1 := s1.len
  have hs2 := s2.len
  have hs3 := s3.len
  have q1 := s1.le
  have q2 := s2.le
  have q3 := s3.le
  have q1' := q1
  have q3' := q3
  unfold maxLen at q1 q2 q3
  obtain ⟨ad, hA, Y, y, yc, hcell, hry, hly, hyc, hym⟩ := ha.at_ (show 0 < rows.length by omega)
  rw [show ad.add 0 = ad from rfl] at hcell
  have e0 : rows[0]'(by omega) = rows.headD [] := by cases rows with
    | nil => simp at hl; omega
    | cons a l => rfl
  rw [e0, hK] at hly
  obtain rfl : K = y := hly
  have hHD := Lib.hid hK
  have hb0 : (0 : Int) < (n : Int) := by omega
  have hb0n : 0 < n := by omega
  have hF : Hid (lvF p q rows cm ch rs = (decide (k1 = n) && (decide (k2 = 1) && (decide (k3 = K) && (cm.all (elB p q) && allR rs 0 (q - 1)))))) := by show _ = _; unfold lvF; rw [hs1, hs2, hs3, hl, hK]
  have E := ((Ext.refl w).alloc (.cells #[.int .i64 p, .int .i64 q, .int .i64 g] 38)).alloc (.cells #[.slice C1 k1 e1, .slice C2 k2 e2, .slice C3 k3 e3] 44)
  have B0 := (Blk.new w 38 #[.int .i64 p, .int .i64 q, .int .i64 g]).alloc (.cells #[.slice C1 k1 e1, .slice C2 k2 e2, .slice C3 k3 e3] 44)
  have B1 := Blk.new (w.alloc (.cells #[.int .i64 p, .int .i64 q, .int .i64 g] 38)) 44 #[.slice C1 k1 e1, .slice C2 k2 e2, .slice C3 k3 e3]
  simp only [World.size_alloc] at B1
  have hcell2 := E.cell hcell
  subst hA
  clear e0 hK
  by_cases f1 : k1 = n
  case neg =>
    have d1 : ((k1 : Int) != (n : Int)) = true := by simp; omega
    have HV : Hid (lvB p q g s rows im cm ch rs = false) := by show _ = _; unfold lvB; rw [hF.out]; simp [f1]
    clear hF f1
    go_enter Try.func149, Try.ntmps149
    go_wp2
    generalize hWb : (w.alloc (.cells #[.int .i64 p, .int .i64 q, .int .i64 g] 38)).alloc (.cells #[.slice C1 k1 e1, .slice C2 k2 e2, .slice C3 k3 e3] 44) = Wb at *
    clear hWb
    have hS : ∀ V, Ext Wb V → V.cell? ⟨w.heap.size, 0, none⟩ = some (.int .i64 p) ∧ V.cell? ⟨w.heap.size, 1, none⟩ = some (.int .i64 q) ∧ V.cell? ⟨w.heap.size, 2, none⟩ = some (.int .i64 g) ∧ V.cell? ⟨w.heap.size + 1, 0, none⟩ = some (.slice C1 k1 e1) ∧ V.cell? ⟨w.heap.size + 1, 1, none⟩ = some (.slice C2 k2 e2) ∧ V.cell? ⟨w.heap.size + 1, 2, none⟩ = some (.slice C3 k3 e3) ∧ V.cell? ad = some (.slice Y K yc) := fun V hV => by
      have a0 := (B0.ext hV).cells
      have a1 := (B1.ext hV).cells
      exact ⟨a0 0, a0 1, a0 2, a1 0, a1 1, a1 2, hV.cell hcell2⟩
    obtain ⟨t0, t1, t2, t3, t4, t5, t6⟩ := hS _ (Ext.refl Wb)
    go_quiet (fail)
    go_wp2
    go_ret
    exact ⟨ret_bool HV.out.symm, E.drewN _⟩
  obtain rfl : n = k1 := f1.symm
  clear f1
  have d1 : ((n : Int) != (n : Int)) = false := by simp
  by_cases f2 : k2 = 1
  case neg =>
    have d2 : ((k2 : Int) != 1) = true := by simp; omega
    have HV : Hid (lvB p q g s rows im cm ch rs = false) := by show _ = _; unfold lvB; rw [hF.out]; simp [f2]
    clear hF f2
    go_enter Try.func149, Try.ntmps149
    go_wp2
    generalize hWb : (w.alloc (.cells #[.int .i64 p, .int .i64 q, .int .i64 g] 38)).alloc (.cells #[.slice C1 n e1, .slice C2 k2 e2, .slice C3 k3 e3] 44) = Wb at *
    clear hWb
    have hS : ∀ V, Ext Wb V → V.cell? ⟨w.heap.size, 0, none⟩ = some (.int .i64 p) ∧ V.cell? ⟨w.heap.size, 1, none⟩ = some (.int .i64 q) ∧ V.cell? ⟨w.heap.size, 2, none⟩ = some (.int .i64 g) ∧ V.cell? ⟨w.heap.size + 1, 0, none⟩ = some (.slice C1 n e1) ∧ V.cell? ⟨w.heap.size + 1, 1, none⟩ = some (.slice C2 k2 e2) ∧ V.cell? ⟨w.heap.size + 1, 2, none⟩ = some (.slice C3 k3 e3) ∧ V.cell? ad = some (.slice Y K yc) := fun V hV => by
      have a0 := (B0.ext hV).cells
      have a1 := (B1.ext hV).cells
      exact ⟨a0 0, a0 1, a0 2, a1 0, a1 1, a1 2, hV.cell hcell2⟩
    obtain ⟨t0, t1, t2, t3, t4, t5, t6⟩ := hS _ (Ext.refl Wb)
    go_quiet (fail)
    go_wp2
    go_ret
    exact ⟨ret_bool HV.out.symm, E.drewN _⟩
  obtain rfl : 1 = k2 := f2.symm
  clear f2
  by_cases f3 : k3 = K
  case neg =>
    have d3 : ((k3 : Int) != (K : Int)) = true := by simp; omega
    have HV : Hid (lvB p q g s rows im cm ch rs = false) := by show _ = _; unfold lvB; rw [hF.out]; simp [f3]
    clear hF f3
    go_enter Try.func149, Try.ntmps149
    go_wp2
    generalize hWb : (w.alloc (.cells #[.int .i64 p, .int .i64 q, .int .i64 g] 38)).alloc (.cells #[.slice C1 n e1, .slice C2 1 e2, .slice C3 k3 e3] 44) = Wb at *
    clear hWb
    have hS : ∀ V, Ext Wb V → V.cell? ⟨w.heap.size, 0, none⟩ = some (.int .i64 p) ∧ V.cell? ⟨w.heap.size, 1, none⟩ = some (.int .i64 q) ∧ V.cell? ⟨w.heap.size, 2, none⟩ = some (.int .i64 g) ∧ V.cell? ⟨w.heap.size + 1, 0, none⟩ = some (.slice C1 n e1) ∧ V.cell? ⟨w.heap.size + 1, 1, none⟩ = some (.slice C2 1 e2) ∧ V.cell? ⟨w.heap.size + 1, 2, none⟩ = some (.slice C3 k3 e3) ∧ V.cell? ad = some (.slice Y K yc) := fun V hV => by
      have a0 := (B0.ext hV).cells
      have a1 := (B1.ext hV).cells
      exact ⟨a0 0, a0 1, a0 2, a1 0, a1 1, a1 2, hV.cell hcell2⟩
    obtain ⟨t0, t1, t2, t3, t4, t5, t6⟩ := hS _ (Ext.refl Wb)
    go_quiet (fail)
    go_wp2
    go_ret
    exact ⟨ret_bool HV.out.symm, E.drewN _⟩
  obtain rfl : K = k3 := f3.symm
  clear f3
  have d3 : ((K : Int) != (K : Int)) = false := by simp
  cases f4 : cm.all (elB p q)
  case false =>
    have H4 := Lib.hid f4
    have HV : Hid (lvB p q g s rows im cm ch rs = false) := by show _ = _; unfold lvB; rw [hF.out]; simp [f4]
    clear hF f4
    go_enter Try.func149, Try.ntmps149
    go_wp2
    generalize hWb : (w.alloc (.cells #[.int .i64 p, .int .i64 q, .int .i64 g] 38)).alloc (.cells #[.slice C1 n e1, .slice C2 1 e2, .slice C3 K e3] 44) = Wb at *
    clear hWb
    have hS : ∀ V, Ext Wb V → V.cell? ⟨w.heap.size, 0, none⟩ = some (.int .i64 p) ∧ V.cell? ⟨w.heap.size, 1, none⟩ = some (.int .i64 q) ∧ V.cell? ⟨w.heap.size, 2, none⟩ = some (.int .i64 g) ∧ V.cell? ⟨w.heap.size + 1, 0, none⟩ = some (.slice C1 n e1) ∧ V.cell? ⟨w.heap.size + 1, 1, none⟩ = some (.slice C2 1 e2) ∧ V.cell? ⟨w.heap.size + 1, 2, none⟩ = some (.slice C3 K e3) ∧ V.cell? ad = some (.slice Y K yc) := fun V hV => by
      have a0 := (B0.ext hV).cells
      have a1 := (B1.ext hV).cells
      exact ⟨a0 0, a0 1, a0 2, a1 0, a1 1, a1 2, hV.cell hcell2⟩
    obtain ⟨t0, t1, t2, t3, t4, t5, t6⟩ := hS _ (Ext.refl Wb)
    go_cut [49] from 14 to 48 (fun b wx => b = .bool true ∧ Ext Wb wx)
    case first =>
      refine wp_region_held_drew (S := fun V => V.cell? ⟨w.heap.size, 0, none⟩ = some (.int .i64 p) ∧ V.cell? ⟨w.heap.size, 1, none⟩ = some (.int .i64 q) ∧ V.cell? ⟨w.heap.size, 2, none⟩ = some (.int .i64 g) ∧ V.cell? ⟨w.heap.size + 1, 0, none⟩ = some (.slice C1 n e1) ∧ V.cell? ⟨w.heap.size + 1, 1, none⟩ = some (.slice C2 1 e2) ∧ V.cell? ⟨w.heap.size + 1, 2, none⟩ = some (.slice C3 K e3) ∧ V.cell? ad = some (.slice Y K yc)) (by kernel_rfl) ?_ (fun hHeld => ?_)
      · exact hS _ (by repeat (first | with_reducible assumption | with_reducible exact Ext.refl _ | with_reducible apply Ext.alloc | with_reducible apply Ext.drew | with_reducible apply Ext.drewN))
      refine' wpAnyH_take (i := 0) (v := _) ?hi0 (by kernel_rfl) (by kernel_rfl) (by kernel_rfl) ?hQ0 ?hy0 (by assumption) ?_
      case hi0 => (simp only [List.getElem?_toArray, List.getElem?_cons_zero]; rfl)
      case hy0 => refine Or.inl ⟨by rfl, ?_⟩; intro w hSw; (try dsimp only at hSw); go_simp <;> with_reducible rfl
      case hQ0 => exact fun _ _ _ h => h
      try simp only [Act.put, List.setIfInBounds_toArray, List.set_cons_zero, List.set_cons_succ]
      refine' wpAnyH_take (i := 1) (v := _) ?hi1 (by kernel_rfl) (by kernel_rfl) (by kernel_rfl) ?hQ1 ?hy1 (by assumption) ?_
      case hi1 => (simp only [List.getElem?_toArray, List.getElem?_cons_succ, List.getElem?_cons_zero]; rfl)
      case hy1 => refine Or.inl ⟨by rfl, ?_⟩; intro w hSw; (try dsimp only at hSw); go_simp <;> with_reducible rfl
      case hQ1 => exact fun _ _ _ h => h
      try simp only [Act.put, List.setIfInBounds_toArray, List.set_cons_zero, List.set_cons_succ]
      refine' wpAnyH_take (i := 2) (v := _) ?hi2 (by kernel_rfl) (by kernel_rfl) (by kernel_rfl) ?hQ2 ?hy2 (by assumption) ?_
      case hi2 => (simp only [List.getElem?_toArray, List.getElem?_cons_succ, List.getElem?_cons_zero]; rfl)
      case hy2 => refine Or.inl ⟨by rfl, ?_⟩; intro w hSw; (try dsimp only at hSw); go_simp <;> with_reducible rfl
      case hQ2 => exact fun _ _ _ h => h
      try simp only [Act.put, List.setIfInBounds_toArray, List.set_cons_zero, List.set_cons_succ]
      refine' wpAnyH_take (i := 3) (v := _) ?hi3 (by kernel_rfl) (by kernel_rfl) (by kernel_rfl) ?hQ3 ?hy3 (by assumption) ?_
      case hi3 => (simp only [List.getElem?_toArray, List.getElem?_cons_succ, List.getElem?_cons_zero]; rfl)
      case hy3 => refine Or.inl ⟨by rfl, ?_⟩; intro w hSw; (try dsimp only at hSw); go_simp <;> with_reducible rfl
      case hQ3 => exact fun _ _ _ h => h
      try simp only [Act.put, List.setIfInBounds_toArray, List.set_cons_zero, List.set_cons_succ]
      refine' wpAnyH_take (i := 4) (v := _) ?hi4 (by kernel_rfl) (by kernel_rfl) (by kernel_rfl) ?hQ4 ?hy4 (by assumption) ?_
      case hi4 => (simp only [List.getElem?_toArray, List.getElem?_cons_succ, List.getElem?_cons_zero]; rfl)
      case hy4 => refine Or.inl ⟨by rfl, ?_⟩; intro w hSw; (try dsimp only at hSw); go_simp <;> with_reducible rfl
      case hQ4 => exact fun _ _ _ h => h
      try simp only [Act.put, List.setIfInBounds_toArray, List.set_cons_zero, List.set_cons_succ]
      refine' wpAnyH_take (i := 5) (v := _) ?hi5 (by kernel_rfl) (by kernel_rfl) (by kernel_rfl) ?hQ5 ?hy5 (by assumption) ?_
      case hi5 => (simp only [List.getElem?_toArray, List.getElem?_cons_succ, List.getElem?_cons_zero]; rfl)
      case hy5 => refine Or.inl ⟨by rfl, ?_⟩; intro w hSw; (try dsimp only at hSw); go_simp <;> with_reducible rfl
      case hQ5 => exact fun _ _ _ h => h
      try simp only [Act.put, List.setIfInBounds_toArray, List.set_cons_zero, List.set_cons_succ]
      refine' wpAnyH_take (i := 6) (v := _) ?hi6 (by kernel_rfl) (by kernel_rfl) (by kernel_rfl) ?hQ6 ?hy6 (by assumption) ?_
      case hi6 => (simp only [List.getElem?_toArray, List.getElem?_cons_succ, List.getElem?_cons_zero]; rfl)
      case hy6 => refine Or.inl ⟨by rfl, ?_⟩; intro w hSw; (try dsimp only at hSw); go_simp <;> with_reducible rfl
      case hQ6 => exact fun _ _ _ h => h
      try simp only [Act.put, List.setIfInBounds_toArray, List.set_cons_zero, List.set_cons_succ]
      refine' wpAnyH_take (i := 7) (v := _) ?hi7 (by kernel_rfl) (by kernel_rfl) (by kernel_rfl) ?hQ7 ?hy7 (by assumption) ?_
      case hi7 => (simp only [List.getElem?_toArray, List.getElem?_cons_succ, List.getElem?_cons_zero]; rfl)
      case hy7 => refine Or.inl ⟨by rfl, ?_⟩; intro w hSw; (try dsimp only at hSw); go_simp <;> with_reducible rfl
      case hQ7 => exact fun _ _ _ h => h
      try simp only [Act.put, List.setIfInBounds_toArray, List.set_cons_zero, List.set_cons_succ]
      refine' wpAnyH_take (i := 8) (v := _) ?hi8 (by kernel_rfl) (by kernel_rfl) (by kernel_rfl) ?hQ8 ?hy8 (by assumption) ?_
      case hi8 => (simp only [List.getElem?_toArray, List.getElem?_cons_succ, List.getElem?_cons_zero]; rfl)
      case hy8 => refine Or.inl ⟨by rfl, ?_⟩; intro w hSw; (try dsimp only at hSw); go_simp <;> with_reducible rfl
      case hQ8 => exact fun _ _ _ h => h
      try simp only [Act.put, List.setIfInBounds_toArray, List.set_cons_zero, List.set_cons_succ]
      refine' wpAnyH_take (i := 9) (v := _) ?hi9 (by kernel_rfl) (by kernel_rfl) (by kernel_rfl) ?hQ9 ?hy9 (by assumption) ?_
      case hi9 => (simp only [List.getElem?_toArray, List.getElem?_cons_succ, List.getElem?_cons_zero]; rfl)
      case hy9 => refine Or.inl ⟨by rfl, ?_⟩; intro w hSw; (try dsimp only at hSw); go_simp <;> with_reducible rfl
      case hQ9 => exact fun _ _ _ h => h
      try simp only [Act.put, List.setIfInBounds_toArray, List.set_cons_zero, List.set_cons_succ]
      refine' wpAnyH_take (i := 10) (v := _) ?hi10 (by kernel_rfl) (by kernel_rfl) (by kernel_rfl) ?hQ10 ?hy10 (by assumption) ?_
      case hi10 => (simp only [List.getElem?_toArray, List.getElem?_cons_succ, List.getElem?_cons_zero]; rfl)
      case hy10 => refine Or.inl ⟨by rfl, ?_⟩; intro w hSw; (try dsimp only at hSw); go_simp <;> with_reducible rfl
      case hQ10 => exact fun _ _ _ h => h
      try simp only [Act.put, List.setIfInBounds_toArray, List.set_cons_zero, List.set_cons_succ]
      refine' wpAnyH_take (i := 11) (v := _) ?hi11 (by kernel_rfl) (by kernel_rfl) (by kernel_rfl) ?hQ11 ?hy11 (by assumption) ?_
      case hi11 => (simp only [List.getElem?_toArray, List.getElem?_cons_succ, List.getElem?_cons_zero]; rfl)
      case hy11 => refine Or.inl ⟨by rfl, ?_⟩; intro w hSw; (try dsimp only at hSw); go_simp <;> with_reducible rfl
      case hQ11 => exact fun _ _ _ h => h
      try simp only [Act.put, List.setIfInBounds_toArray, List.set_cons_zero, List.set_cons_succ]
      refine' wpAnyH_take (i := 12) (v := _) ?hi12 (by kernel_rfl) (by kernel_rfl) (by kernel_rfl) ?hQ12 ?hy12 (by assumption) ?_
      case hi12 => (simp only [List.getElem?_toArray, List.getElem?_cons_succ, List.getElem?_cons_zero]; rfl)
      case hy12 => refine Or.inl ⟨by rfl, ?_⟩; intro w hSw; (try dsimp only at hSw); go_simp <;> with_reducible rfl
      case hQ12 => exact fun _ _ _ h => h
      try simp only [Act.put, List.setIfInBounds_toArray, List.set_cons_zero, List.set_cons_succ]
      refine' wpAnyH_take (i := 13) (v := _) ?hi13 (by kernel_rfl) (by kernel_rfl) (by kernel_rfl) ?hQ13 ?hy13 (by assumption) ?_
      case hi13 => (simp only [List.getElem?_toArray, List.getElem?_cons_succ, List.getElem?_cons_zero]; rfl)
      case hy13 => refine Or.inl ⟨by rfl, ?_⟩; intro w hSw; (try dsimp only at hSw); go_simp <;> with_reducible rfl
      case hQ13 => exact fun _ _ _ h => h
      try simp only [Act.put, List.setIfInBounds_toArray, List.set_cons_zero, List.set_cons_succ]
      refine' wpAnyH_take (i := 14) (v := _) ?hi14 (by kernel_rfl) (by kernel_rfl) (by kernel_rfl) ?hQ14 ?hy14 (by assumption) ?_
      case hi14 => (simp only [List.getElem?_toArray, List.getElem?_cons_succ, List.getElem?_cons_zero]; rfl)
      case hy14 => refine Or.inl ⟨by rfl, ?_⟩; intro w hSw; (try dsimp only at hSw); go_simp <;> with_reducible rfl
      case hQ14 => exact fun _ _ _ h => h
      try simp only [Act.put, List.setIfInBounds_toArray, List.set_cons_zero, List.set_cons_succ]
      refine' wpAnyH_take (i := 15) (v := _) ?hi15 (by kernel_rfl) (by kernel_rfl) (by kernel_rfl) ?hQ15 ?hy15 (by assumption) ?_
      case hi15 => (simp only [List.getElem?_toArray, List.getElem?_cons_succ, List.getElem?_cons_zero]; rfl)
      case hy15 => refine Or.inl ⟨by rfl, ?_⟩; intro w hSw; (try dsimp only at hSw); go_simp <;> with_reducible rfl
      case hQ15 => exact fun _ _ _ h => h
      try simp only [Act.put, List.setIfInBounds_toArray, List.set_cons_zero, List.set_cons_succ]
      refine' wpAnyH_take (i := 16) (v := _) ?hi16 (by kernel_rfl) (by kernel_rfl) (by kernel_rfl) ?hQ16 ?hy16 (by assumption) ?_
      case hi16 => (simp only [List.getElem?_toArray, List.getElem?_cons_succ, List.getElem?_cons_zero]; rfl)
      case hy16 => refine Or.inl ⟨by rfl, ?_⟩; intro w hSw; (try dsimp only at hSw); go_simp <;> with_reducible rfl
      case hQ16 => exact fun _ _ _ h => h
      try simp only [Act.put, List.setIfInBounds_toArray, List.set_cons_zero, List.set_cons_succ]
      refine' wpAnyH_take (i := 17) (v := _) ?hi17 (by kernel_rfl) (by kernel_rfl) (by kernel_rfl) ?hQ17 ?hy17 (by assumption) ?_
      case hi17 => (simp only [List.getElem?_toArray, List.getElem?_cons_succ, List.getElem?_cons_zero]; rfl)
      case hy17 => refine Or.inl ⟨by rfl, ?_⟩; intro w hSw; (try dsimp only at hSw); go_simp <;> with_reducible rfl
      case hQ17 => exact fun _ _ _ h => h
      try simp only [Act.put, List.setIfInBounds_toArray, List.set_cons_zero, List.set_cons_succ]
      refine' wpAnyH_take (i := 18) (v := _) ?hi18 (by kernel_rfl) (by kernel_rfl) (by kernel_rfl) ?hQ18 ?hy18 (by assumption) ?_
      case hi18 => (simp only [List.getElem?_toArray, List.getElem?_cons_succ, List.getElem?_cons_zero]; rfl)
      case hy18 => refine Or.inl ⟨by rfl, ?_⟩; intro w hSw; (try dsimp only at hSw); go_simp <;> with_reducible rfl
      case hQ18 => exact fun _ _ _ h => h
      try simp only [Act.put, List.setIfInBounds_toArray, List.set_cons_zero, List.set_cons_succ]
      refine' wpAnyH_take (i := 19) (v := _) ?hi19 (by kernel_rfl) (by kernel_rfl) (by kernel_rfl) ?hQ19 ?hy19 (by assumption) ?_
      case hi19 => (simp only [List.getElem?_toArray, List.getElem?_cons_succ, List.getElem?_cons_zero]; rfl)
      case hy19 => refine Or.inl ⟨by rfl, ?_⟩; intro w hSw; (try dsimp only at hSw); go_simp <;> with_reducible rfl
      case hQ19 => exact fun _ _ _ h => h
      try simp only [Act.put, List.setIfInBounds_toArray, List.set_cons_zero, List.set_cons_succ]
      refine' wpAnyH_take (i := 20) (v := _) ?hi20 (by kernel_rfl) (by kernel_rfl) (by kernel_rfl) ?hQ20 ?hy20 (by assumption) ?_
      case hi20 => (simp only [List.getElem?_toArray, List.getElem?_cons_succ, List.getElem?_cons_zero]; rfl)
      case hy20 => refine Or.inl ⟨by rfl, ?_⟩; intro w hSw; (try dsimp only at hSw); go_simp <;> with_reducible rfl
      case hQ20 => exact fun _ _ _ h => h
      try simp only [Act.put, List.setIfInBounds_toArray, List.set_cons_zero, List.set_cons_succ]
      refine' wpAnyH_take (i := 21) (v := _) ?hi21 (by kernel_rfl) (by kernel_rfl) (by kernel_rfl) ?hQ21 ?hy21 (by assumption) ?_
      case hi21 => (simp only [List.getElem?_toArray, List.getElem?_cons_succ, List.getElem?_cons_zero]; rfl)
      case hy21 => refine Or.inl ⟨by rfl, ?_⟩; intro w hSw; (try dsimp only at hSw); go_simp <;> with_reducible rfl
      case hQ21 => exact fun _ _ _ h => h
      try simp only [Act.put, List.setIfInBounds_toArray, List.set_cons_zero, List.set_cons_succ]
      refine' wpAnyH_take (i := 22) (v := _) ?hi22 (by kernel_rfl) (by kernel_rfl) (by kernel_rfl) ?hQ22 ?hy22 (by assumption) ?_
      case hi22 => (simp only [List.getElem?_toArray, List.getElem?_cons_succ, List.getElem?_cons_zero]; rfl)
      case hy22 => refine Or.inl ⟨by rfl, ?_⟩; intro w hSw; (try dsimp only at hSw); go_simp <;> with_reducible rfl
      case hQ22 => exact fun _ _ _ h => h
      try simp only [Act.put, List.setIfInBounds_toArray, List.set_cons_zero, List.set_cons_succ]
      refine' wpAnyH_take (i := 23) (v := _) ?hi23 (by kernel_rfl) (by kernel_rfl) (by kernel_rfl) ?hQ23 ?hy23 (by assumption) ?_
      case hi23 => (simp only [List.getElem?_toArray, List.getElem?_cons_succ, List.getElem?_cons_zero]; rfl)
      case hy23 => refine Or.inl ⟨by rfl, ?_⟩; intro w hSw; (try dsimp only at hSw); go_simp <;> with_reducible rfl
      case hQ23 => exact fun _ _ _ h => h
      try simp only [Act.put, List.setIfInBounds_toArray, List.set_cons_zero, List.set_cons_succ]
      refine' wpAnyH_take (i := 24) (v := _) ?hi24 (by kernel_rfl) (by kernel_rfl) (by kernel_rfl) ?hQ24 ?hy24 (by assumption) ?_
      case hi24 => (simp only [List.getElem?_toArray, List.getElem?_cons_succ, List.getElem?_cons_zero]; rfl)
      case hy24 => refine Or.inl ⟨by rfl, ?_⟩; intro w hSw; (try dsimp only at hSw); go_simp <;> with_reducible rfl
      case hQ24 => exact fun _ _ _ h => h
      try simp only [Act.put, List.setIfInBounds_toArray, List.set_cons_zero, List.set_cons_succ]
      refine' wpAnyH_take (i := 25) (v := _) ?hi25 (by kernel_rfl) (by kernel_rfl) (by kernel_rfl) ?hQ25 ?hy25 (by assumption) ?_
      case hi25 => (simp only [List.getElem?_toArray, List.getElem?_cons_succ, List.getElem?_cons_zero]; rfl)
      case hy25 => refine Or.inl ⟨by rfl, ?_⟩; intro w hSw; (try dsimp only at hSw); go_simp <;> with_reducible rfl
      case hQ25 => exact fun _ _ _ h => h
      try simp only [Act.put, List.setIfInBounds_toArray, List.set_cons_zero, List.set_cons_succ]
      refine wpAnyH_ready (rs := [26]) (by kernel_rfl) (by simp) ?_
      refine AllReadyH.cons rfl (fun KK hKK => ?_) AllReadyH.nil
      go_simp
      go_at_call 118; refine (gIs_any p q g C1 n e1 cm _ hbd (RdI.ext s1.rd (Ext.trans E (by repeat (first | with_reducible assumption | with_reducible exact Ext.refl _ | with_reducible apply Ext.alloc | with_reducible apply Ext.drew | with_reducible apply Ext.drewN)))) hs1 q1').mono ?_; rintro en w3 ⟨he, hb3⟩; rw [H4.out] at he; subst he; have hx3 := Ext.trans (w := Wb) (by repeat (first | with_reducible assumption | with_reducible exact Ext.refl _ | with_reducible apply Ext.alloc | with_reducible apply Ext.drew | with_reducible apply Ext.drewN)) hb3
      refine hKK.out _ _ ?_ (fun hHeld => ?_)
      · exact hS _ (by repeat (first | with_reducible assumption | with_reducible exact Ext.refl _ | with_reducible apply Ext.alloc | with_reducible apply Ext.drew | with_reducible apply Ext.drewN))
      clear hKK KK
      try simp only [Act.put, List.setIfInBounds_toArray, List.set_cons_zero, List.set_cons_succ]
      refine' wpAnyH_take (i := 27) (v := _) ?hi27 (by kernel_rfl) (by kernel_rfl) (by kernel_rfl) ?hQ27 ?hy27 (by assumption) ?_
      case hi27 => (simp only [List.getElem?_toArray, List.getElem?_cons_succ, List.getElem?_cons_zero]; rfl)
      case hy27 => refine Or.inl ⟨by rfl, ?_⟩; intro w hSw; (try dsimp only at hSw); go_simp <;> with_reducible rfl
      case hQ27 => exact fun _ _ _ h => h
      try simp only [Act.put, List.setIfInBounds_toArray, List.set_cons_zero, List.set_cons_succ]
      refine' wpAnyH_take (i := 28) (v := _) ?hi28 (by kernel_rfl) (by kernel_rfl) (by kernel_rfl) ?hQ28 ?hy28 (by assumption) ?_
      case hi28 => (simp only [List.getElem?_toArray, List.getElem?_cons_succ, List.getElem?_cons_zero]; rfl)
      case hy28 => refine Or.inl ⟨by rfl, ?_⟩; intro w hSw; (try dsimp only at hSw); go_simp <;> with_reducible rfl
      case hQ28 => exact fun _ _ _ h => h
      try simp only [Act.put, List.setIfInBounds_toArray, List.set_cons_zero, List.set_cons_succ]
      refine' wpAnyH_take (i := 29) (v := _) ?hi29 (by kernel_rfl) (by kernel_rfl) (by kernel_rfl) ?hQ29 ?hy29 (by assumption) ?_
      case hi29 => (simp only [List.getElem?_toArray, List.getElem?_cons_succ, List.getElem?_cons_zero]; rfl)
      case hy29 => refine Or.inl ⟨by rfl, ?_⟩; intro w hSw; (try dsimp only at hSw); go_simp <;> with_reducible rfl
      case hQ29 => exact fun _ _ _ h => h
      try simp only [Act.put, List.setIfInBounds_toArray, List.set_cons_zero, List.set_cons_succ]
      refine' wpAnyH_take (i := 30) (v := undef) ?hi30 (by kernel_rfl) (by kernel_rfl) (by kernel_rfl) ?hQ30 ?hy30 (by assumption) ?_
      case hi30 => (simp only [List.getElem?_toArray, List.getElem?_cons_succ, List.getElem?_cons_zero]; rfl)
      case hQ30 => exact fun _ _ _ h => h
      case hy30 => exact Or.inr ⟨by rfl, rfl⟩
      try simp only [Act.put, List.setIfInBounds_toArray, List.set_cons_zero, List.set_cons_succ]
      refine' wpAnyH_take (i := 31) (v := undef) ?hi31 (by kernel_rfl) (by kernel_rfl) (by kernel_rfl) ?hQ31 ?hy31 (by assumption) ?_
      case hi31 => (simp only [List.getElem?_toArray, List.getElem?_cons_succ, List.getElem?_cons_zero]; rfl)
      case hQ31 => exact fun _ _ _ h => h
      case hy31 => exact Or.inr ⟨by rfl, rfl⟩
      try simp only [Act.put, List.setIfInBounds_toArray, List.set_cons_zero, List.set_cons_succ]
      refine' wpAnyH_take (i := 32) (v := undef) ?hi32 (by kernel_rfl) (by kernel_rfl) (by kernel_rfl) ?hQ32 ?hy32 (by assumption) ?_
      case hi32 => (simp only [List.getElem?_toArray, List.getElem?_cons_succ, List.getElem?_cons_zero]; rfl)
      case hQ32 => exact fun _ _ _ h => h
      case hy32 => exact Or.inr ⟨by rfl, rfl⟩
      try simp only [Act.put, List.setIfInBounds_toArray, List.set_cons_zero, List.set_cons_succ]
      refine' wpAnyH_take (i := 33) (v := undef) ?hi33 (by kernel_rfl) (by kernel_rfl) (by kernel_rfl) ?hQ33 ?hy33 (by assumption) ?_
      case hi33 => (simp only [List.getElem?_toArray, List.getElem?_cons_succ, List.getElem?_cons_zero]; rfl)
      case hQ33 => exact fun _ _ _ h => h
      case hy33 => exact Or.inr ⟨by rfl, rfl⟩
      try simp only [Act.put, List.setIfInBounds_toArray, List.set_cons_zero, List.set_cons_succ]
      refine' wpAnyH_take (i := 34) (v := undef) ?hi34 (by kernel_rfl) (by kernel_rfl) (by kernel_rfl) ?hQ34 ?hy34 (by assumption) ?_
      case hi34 => (simp only [List.getElem?_toArray, List.getElem?_cons_succ, List.getElem?_cons_zero]; rfl)
      case hQ34 => exact fun _ _ _ h => h
      case hy34 => exact Or.inr ⟨by rfl, rfl⟩
      try simp only [Act.put, List.setIfInBounds_toArray, List.set_cons_zero, List.set_cons_succ]
      refine' wpAnyH_take (i := 35) (v := _) ?hi35 (by kernel_rfl) (by kernel_rfl) (by kernel_rfl) ?hQ35 ?hy35 (by assumption) ?_
      case hi35 => (simp only [List.getElem?_toArray, List.getElem?_cons_succ, List.getElem?_cons_zero]; rfl)
      case hy35 => refine Or.inl ⟨by rfl, ?_⟩; intro w hSw; (try dsimp only at hSw); go_simp <;> with_reducible rfl
      case hQ35 => exact fun _ _ _ h => h
      try simp only [Act.put, List.setIfInBounds_toArray, List.set_cons_zero, List.set_cons_succ]
      refine wpAnyH_done (by kernel_rfl) ?_ _
      all_goals
        go_wp2
        go_meet
        exact ⟨rfl, by first | exact hx3 | exact hx3.drew⟩
    case' rest =>
      obtain ⟨rfl, hb⟩ := hcut
      go_wp2
      go_ret
      exact ⟨ret_bool HV.out.symm, E.trans hb⟩
  cases f5 : allR rs 0 (q - 1)
  case false =>
    have H4 := Lib.hid f4
    have H5 := Lib.hid f5
    have HV : Hid (lvB p q g s rows im cm ch rs = false) := by show _ = _; unfold lvB; rw [hF.out]; simp [f5]
    clear hF f4 f5
    go_enter Try.func149, Try.ntmps149
    go_wp2
    generalize hWb : (w.alloc (.cells #[.int .i64 p, .int .i64 q, .int .i64 g] 38)).alloc (.cells #[.slice C1 n e1, .slice C2 1 e2, .slice C3 K e3] 44) = Wb at *
    clear hWb
    have hS : ∀ V, Ext Wb V → V.cell? ⟨w.heap.size, 0, none⟩ = some (.int .i64 p) ∧ V.cell? ⟨w.heap.size, 1, none⟩ = some (.int .i64 q) ∧ V.cell? ⟨w.heap.size, 2, none⟩ = some (.int .i64 g) ∧ V.cell? ⟨w.heap.size + 1, 0, none⟩ = some (.slice C1 n e1) ∧ V.cell? ⟨w.heap.size + 1, 1, none⟩ = some (.slice C2 1 e2) ∧ V.cell? ⟨w.heap.size + 1, 2, none⟩ = some (.slice C3 K e3) ∧ V.cell? ad = some (.slice Y K yc) := fun V hV => by
      have a0 := (B0.ext hV).cells
      have a1 := (B1.ext hV).cells
      exact ⟨a0 0, a0 1, a0 2, a1 0, a1 1, a1 2, hV.cell hcell2⟩
    obtain ⟨t0, t1, t2, t3, t4, t5, t6⟩ := hS _ (Ext.refl Wb)
    go_cut [49] from 14 to 48 (fun b wx => b = .bool true ∧ Ext Wb wx)
    case first =>
      refine wp_region_held_drew (S := fun V => V.cell? ⟨w.heap.size, 0, none⟩ = some (.int .i64 p) ∧ V.cell? ⟨w.heap.size, 1, none⟩ = some (.int .i64 q) ∧ V.cell? ⟨w.heap.size, 2, none⟩ = some (.int .i64 g) ∧ V.cell? ⟨w.heap.size + 1, 0, none⟩ = some (.slice C1 n e1) ∧ V.cell? ⟨w.heap.size + 1, 1, none⟩ = some (.slice C2 1 e2) ∧ V.cell? ⟨w.heap.size + 1, 2, none⟩ = some (.slice C3 K e3) ∧ V.cell? ad = some (.slice Y K yc)) (by kernel_rfl) ?_ (fun hHeld => ?_)
      · exact hS _ (by repeat (first | with_reducible assumption | with_reducible exact Ext.refl _ | with_reducible apply Ext.alloc | with_reducible apply Ext.drew | with_reducible apply Ext.drewN))
      refine' wpAnyH_take (i := 0) (v := _) ?hi0 (by kernel_rfl) (by kernel_rfl) (by kernel_rfl) ?hQ0 ?hy0 (by assumption) ?_
      case hi0 => (simp only [List.getElem?_toArray, List.getElem?_cons_zero]; rfl)
      case hy0 => refine Or.inl ⟨by rfl, ?_⟩; intro w hSw; (try dsimp only at hSw); go_simp <;> with_reducible rfl
      case hQ0 => exact fun _ _ _ h => h
      try simp only [Act.put, List.setIfInBounds_toArray, List.set_cons_zero, List.set_cons_succ]
      refine' wpAnyH_take (i := 1) (v := _) ?hi1 (by kernel_rfl) (by kernel_rfl) (by kernel_rfl) ?hQ1 ?hy1 (by assumption) ?_
      case hi1 => (simp only [List.getElem?_toArray, List.getElem?_cons_succ, List.getElem?_cons_zero]; rfl)
      case hy1 => refine Or.inl ⟨by rfl, ?_⟩; intro w hSw; (try dsimp only at hSw); go_simp <;> with_reducible rfl
      case hQ1 => exact fun _ _ _ h => h
      try simp only [Act.put, List.setIfInBounds_toArray, List.set_cons_zero, List.set_cons_succ]
      refine' wpAnyH_take (i := 2) (v := _) ?hi2 (by kernel_rfl) (by kernel_rfl) (by kernel_rfl) ?hQ2 ?hy2 (by assumption) ?_
      case hi2 => (simp only [List.getElem?_toArray, List.getElem?_cons_succ, List.getElem?_cons_zero]; rfl)
      case hy2 => refine Or.inl ⟨by rfl, ?_⟩; intro w hSw; (try dsimp only at hSw); go_simp <;> with_reducible rfl
      case hQ2 => exact fun _ _ _ h => h
      try simp only [Act.put, List.setIfInBounds_toArray, List.set_cons_zero, List.set_cons_succ]
      refine' wpAnyH_take (i := 3) (v := _) ?hi3 (by kernel_rfl) (by kernel_rfl) (by kernel_rfl) ?hQ3 ?hy3 (by assumption) ?_
      case hi3 => (simp only [List.getElem?_toArray, List.getElem?_cons_succ, List.getElem?_cons_zero]; rfl)
      case hy3 => refine Or.inl ⟨by rfl, ?_⟩; intro w hSw; (try dsimp only at hSw); go_simp <;> with_reducible rfl
      case hQ3 => exact fun _ _ _ h => h
      try simp only [Act.put, List.setIfInBounds_toArray, List.set_cons_zero, List.set_cons_succ]
      refine' wpAnyH_take (i := 4) (v := _) ?hi4 (by kernel_rfl) (by kernel_rfl) (by kernel_rfl) ?hQ4 ?hy4 (by assumption) ?_
      case hi4 => (simp only [List.getElem?_toArray, List.getElem?_cons_succ, List.getElem?_cons_zero]; rfl)
      case hy4 => refine Or.inl ⟨by rfl, ?_⟩; intro w hSw; (try dsimp only at hSw); go_simp <;> with_reducible rfl
      case hQ4 => exact fun _ _ _ h => h
      try simp only [Act.put, List.setIfInBounds_toArray, List.set_cons_zero, List.set_cons_succ]
      refine' wpAnyH_take (i := 5) (v := _) ?hi5 (by kernel_rfl) (by kernel_rfl) (by kernel_rfl) ?hQ5 ?hy5 (by assumption) ?_
      case hi5 => (simp only [List.getElem?_toArray, List.getElem?_cons_succ, List.getElem?_cons_zero]; rfl)
      case hy5 => refine Or.inl ⟨by rfl, ?_⟩; intro w hSw; (try dsimp only at hSw); go_simp <;> with_reducible rfl
      case hQ5 => exact fun _ _ _ h => h
      try simp only [Act.put, List.setIfInBounds_toArray, List.set_cons_zero, List.set_cons_succ]
      refine' wpAnyH_take (i := 6) (v := _) ?hi6 (by kernel_rfl) (by kernel_rfl) (by kernel_rfl) ?hQ6 ?hy6 (by assumption) ?_
      case hi6 => (simp only [List.getElem?_toArray, List.getElem?_cons_succ, List.getElem?_cons_zero]; rfl)
      case hy6 => refine Or.inl ⟨by rfl, ?_⟩; intro w hSw; (try dsimp only at hSw); go_simp <;> with_reducible rfl
      case hQ6 => exact fun _ _ _ h => h
      try simp only [Act.put, List.setIfInBounds_toArray, List.set_cons_zero, List.set_cons_succ]
      refine' wpAnyH_take (i := 7) (v := _) ?hi7 (by kernel_rfl) (by kernel_rfl) (by kernel_rfl) ?hQ7 ?hy7 (by assumption) ?_
      case hi7 => (simp only [List.getElem?_toArray, List.getElem?_cons_succ, List.getElem?_cons_zero]; rfl)
      case hy7 => refine Or.inl ⟨by rfl, ?_⟩; intro w hSw; (try dsimp only at hSw); go_simp <;> with_reducible rfl
      case hQ7 => exact fun _ _ _ h => h
      try simp only [Act.put, List.setIfInBounds_toArray, List.set_cons_zero, List.set_cons_succ]
      refine' wpAnyH_take (i := 8) (v := _) ?hi8 (by kernel_rfl) (by kernel_rfl) (by kernel_rfl) ?hQ8 ?hy8 (by assumption) ?_
      case hi8 => (simp only [List.getElem?_toArray, List.getElem?_cons_succ, List.getElem?_cons_zero]; rfl)
      case hy8 => refine Or.inl ⟨by rfl, ?_⟩; intro w hSw; (try dsimp only at hSw); go_simp <;> with_reducible rfl
      case hQ8 => exact fun _ _ _ h => h
      try simp only [Act.put, List.setIfInBounds_toArray, List.set_cons_zero, List.set_cons_succ]
      refine' wpAnyH_take (i := 9) (v := _) ?hi9 (by kernel_rfl) (by kernel_rfl) (by kernel_rfl) ?hQ9 ?hy9 (by assumption) ?_
      case hi9 => (simp only [List.getElem?_toArray, List.getElem?_cons_succ, List.getElem?_cons_zero]; rfl)
      case hy9 => refine Or.inl ⟨by rfl, ?_⟩; intro w hSw; (try dsimp only at hSw); go_simp <;> with_reducible rfl
      case hQ9 => exact fun _ _ _ h => h
      try simp only [Act.put, List.setIfInBounds_toArray, List.set_cons_zero, List.set_cons_succ]
      refine' wpAnyH_take (i := 10) (v := _) ?hi10 (by kernel_rfl) (by kernel_rfl) (by kernel_rfl) ?hQ10 ?hy10 (by assumption) ?_
      case hi10 => (simp only [List.getElem?_toArray, List.getElem?_cons_succ, List.getElem?_cons_zero]; rfl)
      case hy10 => refine Or.inl ⟨by rfl, ?_⟩; intro w hSw; (try dsimp only at hSw); go_simp <;> with_reducible rfl
      case hQ10 => exact fun _ _ _ h => h
      try simp only [Act.put, List.setIfInBounds_toArray, List.set_cons_zero, List.set_cons_succ]
      refine' wpAnyH_take (i := 11) (v := _) ?hi11 (by kernel_rfl) (by kernel_rfl) (by kernel_rfl) ?hQ11 ?hy11 (by assumption) ?_
      case hi11 => (simp only [List.getElem?_toArray, List.getElem?_cons_succ, List.getElem?_cons_zero]; rfl)
      case hy11 => refine Or.inl ⟨by rfl, ?_⟩; intro w hSw; (try dsimp only at hSw); go_simp <;> with_reducible rfl
      case hQ11 => exact fun _ _ _ h => h
      try simp only [Act.put, List.setIfInBounds_toArray, List.set_cons_zero, List.set_cons_succ]
      refine' wpAnyH_take (i := 12) (v := _) ?hi12 (by kernel_rfl) (by kernel_rfl) (by kernel_rfl) ?hQ12 ?hy12 (by assumption) ?_
      case hi12 => (simp only [List.getElem?_toArray, List.getElem?_cons_succ, List.getElem?_cons_zero]; rfl)
      case hy12 => refine Or.inl ⟨by rfl, ?_⟩; intro w hSw; (try dsimp only at hSw); go_simp <;> with_reducible rfl
      case hQ12 => exact fun _ _ _ h => h
      try simp only [Act.put, List.setIfInBounds_toArray, List.set_cons_zero, List.set_cons_succ]
      refine' wpAnyH_take (i := 13) (v := _) ?hi13 (by kernel_rfl) (by kernel_rfl) (by kernel_rfl) ?hQ13 ?hy13 (by assumption) ?_
      case hi13 => (simp only [List.getElem?_toArray, List.getElem?_cons_succ, List.getElem?_cons_zero]; rfl)
      case hy13 => refine Or.inl ⟨by rfl, ?_⟩; intro w hSw; (try dsimp only at hSw); go_simp <;> with_reducible rfl
      case hQ13 => exact fun _ _ _ h => h
      try simp only [Act.put, List.setIfInBounds_toArray, List.set_cons_zero, List.set_cons_succ]
      refine' wpAnyH_take (i := 14) (v := _) ?hi14 (by kernel_rfl) (by kernel_rfl) (by kernel_rfl) ?hQ14 ?hy14 (by assumption) ?_
      case hi14 => (simp only [List.getElem?_toArray, List.getElem?_cons_succ, List.getElem?_cons_zero]; rfl)
      case hy14 => refine Or.inl ⟨by rfl, ?_⟩; intro w hSw; (try dsimp only at hSw); go_simp <;> with_reducible rfl
      case hQ14 => exact fun _ _ _ h => h
      try simp only [Act.put, List.setIfInBounds_toArray, List.set_cons_zero, List.set_cons_succ]
      refine' wpAnyH_take (i := 15) (v := _) ?hi15 (by kernel_rfl) (by kernel_rfl) (by kernel_rfl) ?hQ15 ?hy15 (by assumption) ?_
      case hi15 => (simp only [List.getElem?_toArray, List.getElem?_cons_succ, List.getElem?_cons_zero]; rfl)
      case hy15 => refine Or.inl ⟨by rfl, ?_⟩; intro w hSw; (try dsimp only at hSw); go_simp <;> with_reducible rfl
      case hQ15 => exact fun _ _ _ h => h
      try simp only [Act.put, List.setIfInBounds_toArray, List.set_cons_zero, List.set_cons_succ]
      refine' wpAnyH_take (i := 16) (v := _) ?hi16 (by kernel_rfl) (by kernel_rfl) (by kernel_rfl) ?hQ16 ?hy16 (by assumption) ?_
      case hi16 => (simp only [List.getElem?_toArray, List.getElem?_cons_succ, List.getElem?_cons_zero]; rfl)
      case hy16 => refine Or.inl ⟨by rfl, ?_⟩; intro w hSw; (try dsimp only at hSw); go_simp <;> with_reducible rfl
      case hQ16 => exact fun _ _ _ h => h
      try simp only [Act.put, List.setIfInBounds_toArray, List.set_cons_zero, List.set_cons_succ]
      refine' wpAnyH_take (i := 17) (v := _) ?hi17 (by kernel_rfl) (by kernel_rfl) (by kernel_rfl) ?hQ17 ?hy17 (by assumption) ?_
      case hi17 => (simp only [List.getElem?_toArray, List.getElem?_cons_succ, List.getElem?_cons_zero]; rfl)
      case hy17 => refine Or.inl ⟨by rfl, ?_⟩; intro w hSw; (try dsimp only at hSw); go_simp <;> with_reducible rfl
      case hQ17 => exact fun _ _ _ h => h
      try simp only [Act.put, List.setIfInBounds_toArray, List.set_cons_zero, List.set_cons_succ]
      refine' wpAnyH_take (i := 18) (v := _) ?hi18 (by kernel_rfl) (by kernel_rfl) (by kernel_rfl) ?hQ18 ?hy18 (by assumption) ?_
      case hi18 => (simp only [List.getElem?_toArray, List.getElem?_cons_succ, List.getElem?_cons_zero]; rfl)
      case hy18 => refine Or.inl ⟨by rfl, ?_⟩; intro w hSw; (try dsimp only at hSw); go_simp <;> with_reducible rfl
      case hQ18 => exact fun _ _ _ h => h
      try simp only [Act.put, List.setIfInBounds_toArray, List.set_cons_zero, List.set_cons_succ]
      refine' wpAnyH_take (i := 19) (v := _) ?hi19 (by kernel_rfl) (by kernel_rfl) (by kernel_rfl) ?hQ19 ?hy19 (by assumption) ?_
      case hi19 => (simp only [List.getElem?_toArray, List.getElem?_cons_succ, List.getElem?_cons_zero]; rfl)
      case hy19 => refine Or.inl ⟨by rfl, ?_⟩; intro w hSw; (try dsimp only at hSw); go_simp <;> with_reducible rfl
      case hQ19 => exact fun _ _ _ h => h
      try simp only [Act.put, List.setIfInBounds_toArray, List.set_cons_zero, List.set_cons_succ]
      refine' wpAnyH_take (i := 20) (v := _) ?hi20 (by kernel_rfl) (by kernel_rfl) (by kernel_rfl) ?hQ20 ?hy20 (by assumption) ?_
      case hi20 => (simp only [List.getElem?_toArray, List.getElem?_cons_succ, List.getElem?_cons_zero]; rfl)
      case hy20 => refine Or.inl ⟨by rfl, ?_⟩; intro w hSw; (try dsimp only at hSw); go_simp <;> with_reducible rfl
      case hQ20 => exact fun _ _ _ h => h
      try simp only [Act.put, List.setIfInBounds_toArray, List.set_cons_zero, List.set_cons_succ]
      refine' wpAnyH_take (i := 21) (v := _) ?hi21 (by kernel_rfl) (by kernel_rfl) (by kernel_rfl) ?hQ21 ?hy21 (by assumption) ?_
      case hi21 => (simp only [List.getElem?_toArray, List.getElem?_cons_succ, List.getElem?_cons_zero]; rfl)
      case hy21 => refine Or.inl ⟨by rfl, ?_⟩; intro w hSw; (try dsimp only at hSw); go_simp <;> with_reducible rfl
      case hQ21 => exact fun _ _ _ h => h
      try simp only [Act.put, List.setIfInBounds_toArray, List.set_cons_zero, List.set_cons_succ]
      refine' wpAnyH_take (i := 22) (v := _) ?hi22 (by kernel_rfl) (by kernel_rfl) (by kernel_rfl) ?hQ22 ?hy22 (by assumption) ?_
      case hi22 => (simp only [List.getElem?_toArray, List.getElem?_cons_succ, List.getElem?_cons_zero]; rfl)
      case hy22 => refine Or.inl ⟨by rfl, ?_⟩; intro w hSw; (try dsimp only at hSw); go_simp <;> with_reducible rfl
      case hQ22 => exact fun _ _ _ h => h
      try simp only [Act.put, List.setIfInBounds_toArray, List.set_cons_zero, List.set_cons_succ]
      refine' wpAnyH_take (i := 23) (v := _) ?hi23 (by kernel_rfl) (by kernel_rfl) (by kernel_rfl) ?hQ23 ?hy23 (by assumption) ?_
      case hi23 => (simp only [List.getElem?_toArray, List.getElem?_cons_succ, List.getElem?_cons_zero]; rfl)
      case hy23 => refine Or.inl ⟨by rfl, ?_⟩; intro w hSw; (try dsimp only at hSw); go_simp <;> with_reducible rfl
      case hQ23 => exact fun _ _ _ h => h
      try simp only [Act.put, List.setIfInBounds_toArray, List.set_cons_zero, List.set_cons_succ]
      refine' wpAnyH_take (i := 24) (v := _) ?hi24 (by kernel_rfl) (by kernel_rfl) (by kernel_rfl) ?hQ24 ?hy24 (by assumption) ?_
      case hi24 => (simp only [List.getElem?_toArray, List.getElem?_cons_succ, List.getElem?_cons_zero]; rfl)
      case hy24 => refine Or.inl ⟨by rfl, ?_⟩; intro w hSw; (try dsimp only at hSw); go_simp <;> with_reducible rfl
      case hQ24 => exact fun _ _ _ h => h
      try simp only [Act.put, List.setIfInBounds_toArray, List.set_cons_zero, List.set_cons_succ]
      refine' wpAnyH_take (i := 25) (v := _) ?hi25 (by kernel_rfl) (by kernel_rfl) (by kernel_rfl) ?hQ25 ?hy25 (by assumption) ?_
      case hi25 => (simp only [List.getElem?_toArray, List.getElem?_cons_succ, List.getElem?_cons_zero]; rfl)
      case hy25 => refine Or.inl ⟨by rfl, ?_⟩; intro w hSw; (try dsimp only at hSw); go_simp <;> with_reducible rfl
      case hQ25 => exact fun _ _ _ h => h
      try simp only [Act.put, List.setIfInBounds_toArray, List.set_cons_zero, List.set_cons_succ]
      refine wpAnyH_ready (rs := [26]) (by kernel_rfl) (by simp) ?_
      refine AllReadyH.cons rfl (fun KK hKK => ?_) AllReadyH.nil
      go_simp
      go_at_call 118; refine (gIs_any p q g C1 n e1 cm _ hbd (RdI.ext s1.rd (Ext.trans E (by repeat (first | with_reducible assumption | with_reducible exact Ext.refl _ | with_reducible apply Ext.alloc | with_reducible apply Ext.drew | with_reducible apply Ext.drewN)))) hs1 q1').mono ?_; rintro en w3 ⟨he, hb3⟩; rw [H4.out] at he; subst he; have hx3 := Ext.trans (w := Wb) (by repeat (first | with_reducible assumption | with_reducible exact Ext.refl _ | with_reducible apply Ext.alloc | with_reducible apply Ext.drew | with_reducible apply Ext.drewN)) hb3
      refine hKK.out _ _ ?_ (fun hHeld => ?_)
      · exact hS _ (by repeat (first | with_reducible assumption | with_reducible exact Ext.refl _ | with_reducible apply Ext.alloc | with_reducible apply Ext.drew | with_reducible apply Ext.drewN))
      clear hKK KK
      try simp only [Act.put, List.setIfInBounds_toArray, List.set_cons_zero, List.set_cons_succ]
      refine' wpAnyH_take (i := 27) (v := _) ?hi27 (by kernel_rfl) (by kernel_rfl) (by kernel_rfl) ?hQ27 ?hy27 (by assumption) ?_
      case hi27 => (simp only [List.getElem?_toArray, List.getElem?_cons_succ, List.getElem?_cons_zero]; rfl)
      case hy27 => refine Or.inl ⟨by rfl, ?_⟩; intro w hSw; (try dsimp only at hSw); go_simp <;> with_reducible rfl
      case hQ27 => exact fun _ _ _ h => h
      try simp only [Act.put, List.setIfInBounds_toArray, List.set_cons_zero, List.set_cons_succ]
      refine' wpAnyH_take (i := 28) (v := _) ?hi28 (by kernel_rfl) (by kernel_rfl) (by kernel_rfl) ?hQ28 ?hy28 (by assumption) ?_
      case hi28 => (simp only [List.getElem?_toArray, List.getElem?_cons_succ, List.getElem?_cons_zero]; rfl)
      case hy28 => refine Or.inl ⟨by rfl, ?_⟩; intro w hSw; (try dsimp only at hSw); go_simp <;> with_reducible rfl
      case hQ28 => exact fun _ _ _ h => h
      try simp only [Act.put, List.setIfInBounds_toArray, List.set_cons_zero, List.set_cons_succ]
      refine' wpAnyH_take (i := 29) (v := _) ?hi29 (by kernel_rfl) (by kernel_rfl) (by kernel_rfl) ?hQ29 ?hy29 (by assumption) ?_
      case hi29 => (simp only [List.getElem?_toArray, List.getElem?_cons_succ, List.getElem?_cons_zero]; rfl)
      case hy29 => refine Or.inl ⟨by rfl, ?_⟩; intro w hSw; (try dsimp only at hSw); go_simp <;> with_reducible rfl
      case hQ29 => exact fun _ _ _ h => h
      try simp only [Act.put, List.setIfInBounds_toArray, List.set_cons_zero, List.set_cons_succ]
      refine' wpAnyH_take (i := 30) (v := _) ?hi30 (by kernel_rfl) (by kernel_rfl) (by kernel_rfl) ?hQ30 ?hy30 (by assumption) ?_
      case hi30 => (simp only [List.getElem?_toArray, List.getElem?_cons_succ, List.getElem?_cons_zero]; rfl)
      case hy30 => refine Or.inl ⟨by rfl, ?_⟩; intro w hSw; (try dsimp only at hSw); go_simp <;> with_reducible rfl
      case hQ30 => exact fun _ _ _ h => h
      try simp only [Act.put, List.setIfInBounds_toArray, List.set_cons_zero, List.set_cons_succ]
      refine' wpAnyH_take (i := 31) (v := _) ?hi31 (by kernel_rfl) (by kernel_rfl) (by kernel_rfl) ?hQ31 ?hy31 (by assumption) ?_
      case hi31 => (simp only [List.getElem?_toArray, List.getElem?_cons_succ, List.getElem?_cons_zero]; rfl)
      case hy31 => refine Or.inl ⟨by rfl, ?_⟩; intro w hSw; (try dsimp only at hSw); go_simp <;> with_reducible rfl
      case hQ31 => exact fun _ _ _ h => h
      try simp only [Act.put, List.setIfInBounds_toArray, List.set_cons_zero, List.set_cons_succ]
      refine' wpAnyH_take (i := 32) (v := _) ?hi32 (by kernel_rfl) (by kernel_rfl) (by kernel_rfl) ?hQ32 ?hy32 (by assumption) ?_
      case hi32 => (simp only [List.getElem?_toArray, List.getElem?_cons_succ, List.getElem?_cons_zero]; rfl)
      case hy32 => refine Or.inl ⟨by rfl, ?_⟩; intro w hSw; (try dsimp only at hSw); go_simp <;> with_reducible rfl
      case hQ32 => exact fun _ _ _ h => h
      try simp only [Act.put, List.setIfInBounds_toArray, List.set_cons_zero, List.set_cons_succ]
      refine wpAnyH_ready (rs := [33]) (by kernel_rfl) (by simp) ?_
      refine AllReadyH.cons rfl (fun KK hKK => ?_) AllReadyH.nil
      go_simp
      go_at_call 69; refine (gExps_any p q g C3 K e3 rs _ hbd (RdI.ext s3.rd (Ext.trans E (Ext.trans hx3 (by repeat (first | with_reducible assumption | with_reducible exact Ext.refl _ | with_reducible apply Ext.alloc | with_reducible apply Ext.drew | with_reducible apply Ext.drewN))))) hs3 q3').mono ?_; rintro en w4 ⟨he, hb4⟩; rw [H5.out] at he; subst he; have hx4 := Ext.trans (w := Wb) (Ext.trans hx3 (by repeat (first | with_reducible assumption | with_reducible exact Ext.refl _ | with_reducible apply Ext.alloc | with_reducible apply Ext.drew | with_reducible apply Ext.drewN))) hb4
      refine hKK.out _ _ ?_ (fun hHeld => ?_)
      · exact hS _ (by repeat (first | with_reducible assumption | with_reducible exact Ext.refl _ | with_reducible apply Ext.alloc | with_reducible apply Ext.drew | with_reducible apply Ext.drewN))
      clear hKK KK
      try simp only [Act.put, List.setIfInBounds_toArray, List.set_cons_zero, List.set_cons_succ]
      refine' wpAnyH_take (i := 34) (v := _) ?hi34 (by kernel_rfl) (by kernel_rfl) (by kernel_rfl) ?hQ34 ?hy34 (by assumption) ?_
      case hi34 => (simp only [List.getElem?_toArray, List.getElem?_cons_succ, List.getElem?_cons_zero]; rfl)
      case hy34 => refine Or.inl ⟨by rfl, ?_⟩; intro w hSw; (try dsimp only at hSw); go_simp <;> with_reducible rfl
      case hQ34 => exact fun _ _ _ h => h
      try simp only [Act.put, List.setIfInBounds_toArray, List.set_cons_zero, List.set_cons_succ]
      refine' wpAnyH_take (i := 35) (v := _) ?hi35 (by kernel_rfl) (by kernel_rfl) (by kernel_rfl) ?hQ35 ?hy35 (by assumption) ?_
      case hi35 => (simp only [List.getElem?_toArray, List.getElem?_cons_succ, List.getElem?_cons_zero]; rfl)
      case hy35 => refine Or.inl ⟨by rfl, ?_⟩; intro w hSw; (try dsimp only at hSw); go_simp <;> with_reducible rfl
      case hQ35 => exact fun _ _ _ h => h
      try simp only [Act.put, List.setIfInBounds_toArray, List.set_cons_zero, List.set_cons_succ]
      refine wpAnyH_done (by kernel_rfl) ?_ _
      all_goals
        go_wp2
        go_meet
        exact ⟨rfl, by first | exact hx4 | exact hx4.drew⟩
    case' rest =>
      obtain ⟨rfl, hb⟩ := hcut
      go_wp2
      go_ret
      exact ⟨ret_bool HV.out.symm, E.trans hb⟩
  have H4 := Lib.hid f4
  have H5 := Lib.hid f5
  have hf : lvF p q rows cm ch rs = true := by rw [hF.out, f4, f5]; simp
  have BCM := Lib.hid (els_in hp9 f4)
  have BIM := Lib.hid (els_in hp9 bim)
  have BRS := Lib.hid (allR_iff.1 f5)
  have him := hb.len
  obtain ⟨hck, hall, hlen⟩ := stm_ok h hs hri (by omega : im.length = rows.length) (by omega : cm.length = rows.length) BIM.out BCM.out
  have htl : tot rows + n + n = (stmL rows im cm).length := by rw [stm_len', him, hs1]
  have htot : tot rows ≤ 100 := by omega
  obtain ⟨ev, hev⟩ : ∃ ev, chV p q g s (stmL rows im cm) = ev := ⟨_, rfl⟩
  have hevr := chV_rg h s (stmL rows im cm)
  rw [hev] at hevr
  have HF := Lib.hid hf
  have HCK := Lib.hid hck
  have HALL := Lib.hid hall
  have HEV := Lib.hid hev
  have HGB := Lib.hid h
  have HL := Lib.hid hl
  have HTL := Lib.hid htl
  have HIM := Lib.hid him
  have HS1 := Lib.hid hs1
  have HS3 := Lib.hid hs3
  have HVV : Hid (lvB p q g s rows im cm ch rs = ((ch.getD 0 0 == ev) && (List.range n).all (lvQ p q rows im cm rs ev))) := by show _ = _; unfold lvB; rw [hf, hev, Bool.true_and, hl]
  have HRL : Hid (∀ r ∈ rows, r.length = K) := fun r hr => (hri.all r hr).1
  have BR := Lib.hid (hri.rg hp9)
  have BRS9 : Hid (∀ x ∈ rs, -9000000000000000000 ≤ x ∧ x ≤ 9000000000000000000) := fun x hx => by have := BRS.out x hx; omega
  obtain ⟨dd, hDA, hd0⟩ := s2.rd.at_ (show 0 < ch.length by omega)
  rw [show dd.add 0 = dd from rfl] at hd0
  obtain ⟨cv, hcv⟩ : ∃ cv, ch[0]'(by omega) = cv := ⟨_, rfl⟩
  rw [hcv] at hd0
  have hcg : ch.getD 0 0 = cv := by rw [← hcv]; simp [List.getD, show 0 < ch.length by omega]
  rw [hcg] at HVV
  have HST : Hid ([rows.flatten, im, cm].flatten = stmL rows im cm) := by show _ = _; simp [stmL]
  have HT3 : Hid (tot [rows.flatten, im, cm] ≤ 1000) := by show _ ≤ _; rw [← tot_flat, HST.out]; omega
  have hd1 := E.cell hd0
  subst hDA
  clear hF hri hf hev him hs1 hs3 hck hall h f4 f5 htl hlen hcv hcg hd0 hr hs2
  go_enter Try.func149, Try.ntmps149
  go_wp2
  generalize hWb : (w.alloc (.cells #[.int .i64 p, .int .i64 q, .int .i64 g] 38)).alloc (.cells #[.slice C1 n e1, .slice (some dd) 1 e2, .slice C3 K e3] 44) = Wb at *
  clear hWb
  have hS : ∀ V, Ext Wb V → V.cell? ⟨w.heap.size, 0, none⟩ = some (.int .i64 p) ∧ V.cell? ⟨w.heap.size, 1, none⟩ = some (.int .i64 q) ∧ V.cell? ⟨w.heap.size, 2, none⟩ = some (.int .i64 g) ∧ V.cell? ⟨w.heap.size + 1, 0, none⟩ = some (.slice C1 n e1) ∧ V.cell? ⟨w.heap.size + 1, 1, none⟩ = some (.slice (some dd) 1 e2) ∧ V.cell? ⟨w.heap.size + 1, 2, none⟩ = some (.slice C3 K e3) ∧ V.cell? ad = some (.slice Y K yc) := fun V hV => by
    have a0 := (B0.ext hV).cells
    have a1 := (B1.ext hV).cells
    exact ⟨a0 0, a0 1, a0 2, a1 0, a1 1, a1 2, hV.cell hcell2⟩
  obtain ⟨t0, t1, t2, t3, t4, t5, t6⟩ := hS _ (Ext.refl Wb)
  go_cut [49] from 14 to 48 (fun b wx => b = .bool false ∧ Ext Wb wx)
  case first =>
    refine wp_region_held_drew (S := fun V => V.cell? ⟨w.heap.size, 0, none⟩ = some (.int .i64 p) ∧ V.cell? ⟨w.heap.size, 1, none⟩ = some (.int .i64 q) ∧ V.cell? ⟨w.heap.size, 2, none⟩ = some (.int .i64 g) ∧ V.cell? ⟨w.heap.size + 1, 0, none⟩ = some (.slice C1 n e1) ∧ V.cell? ⟨w.heap.size + 1, 1, none⟩ = some (.slice (some dd) 1 e2) ∧ V.cell? ⟨w.heap.size + 1, 2, none⟩ = some (.slice C3 K e3) ∧ V.cell? ad = some (.slice Y K yc)) (by kernel_rfl) ?_ (fun hHeld => ?_)
    · exact hS _ (by repeat (first | with_reducible assumption | with_reducible exact Ext.refl _ | with_reducible apply Ext.alloc | with_reducible apply Ext.drew | with_reducible apply Ext.drewN))
    refine' wpAnyH_take (i := 0) (v := _) ?hi0 (by kernel_rfl) (by kernel_rfl) (by kernel_rfl) ?hQ0 ?hy0 (by assumption) ?_
    case hi0 => (simp only [List.getElem?_toArray, List.getElem?_cons_zero]; rfl)
    case hy0 => refine Or.inl ⟨by rfl, ?_⟩; intro w hSw; (try dsimp only at hSw); go_simp <;> with_reducible rfl
    case hQ0 => exact fun _ _ _ h => h
    try simp only [Act.put, List.setIfInBounds_toArray, List.set_cons_zero, List.set_cons_succ]
    refine' wpAnyH_take (i := 1) (v := _) ?hi1 (by kernel_rfl) (by kernel_rfl) (by kernel_rfl) ?hQ1 ?hy1 (by assumption) ?_
    case hi1 => (simp only [List.getElem?_toArray, List.getElem?_cons_succ, List.getElem?_cons_zero]; rfl)
    case hy1 => refine Or.inl ⟨by rfl, ?_⟩; intro w hSw; (try dsimp only at hSw); go_simp <;> with_reducible rfl
    case hQ1 => exact fun _ _ _ h => h
    try simp only [Act.put, List.setIfInBounds_toArray, List.set_cons_zero, List.set_cons_succ]
    refine' wpAnyH_take (i := 2) (v := _) ?hi2 (by kernel_rfl) (by kernel_rfl) (by kernel_rfl) ?hQ2 ?hy2 (by assumption) ?_
    case hi2 => (simp only [List.getElem?_toArray, List.getElem?_cons_succ, List.getElem?_cons_zero]; rfl)
    case hy2 => refine Or.inl ⟨by rfl, ?_⟩; intro w hSw; (try dsimp only at hSw); go_simp <;> with_reducible rfl
    case hQ2 => exact fun _ _ _ h => h
    try simp only [Act.put, List.setIfInBounds_toArray, List.set_cons_zero, List.set_cons_succ]
    refine' wpAnyH_take (i := 3) (v := _) ?hi3 (by kernel_rfl) (by kernel_rfl) (by kernel_rfl) ?hQ3 ?hy3 (by assumption) ?_
    case hi3 => (simp only [List.getElem?_toArray, List.getElem?_cons_succ, List.getElem?_cons_zero]; rfl)
    case hy3 => refine Or.inl ⟨by rfl, ?_⟩; intro w hSw; (try dsimp only at hSw); go_simp <;> with_reducible rfl
    case hQ3 => exact fun _ _ _ h => h
    try simp only [Act.put, List.setIfInBounds_toArray, List.set_cons_zero, List.set_cons_succ]
    refine' wpAnyH_take (i := 4) (v := _) ?hi4 (by kernel_rfl) (by kernel_rfl) (by kernel_rfl) ?hQ4 ?hy4 (by assumption) ?_
    case hi4 => (simp only [List.getElem?_toArray, List.getElem?_cons_succ, List.getElem?_cons_zero]; rfl)
    case hy4 => refine Or.inl ⟨by rfl, ?_⟩; intro w hSw; (try dsimp only at hSw); go_simp <;> with_reducible rfl
    case hQ4 => exact fun _ _ _ h => h
    try simp only [Act.put, List.setIfInBounds_toArray, List.set_cons_zero, List.set_cons_succ]
    refine' wpAnyH_take (i := 5) (v := _) ?hi5 (by kernel_rfl) (by kernel_rfl) (by kernel_rfl) ?hQ5 ?hy5 (by assumption) ?_
    case hi5 => (simp only [List.getElem?_toArray, List.getElem?_cons_succ, List.getElem?_cons_zero]; rfl)
    case hy5 => refine Or.inl ⟨by rfl, ?_⟩; intro w hSw; (try dsimp only at hSw); go_simp <;> with_reducible rfl
    case hQ5 => exact fun _ _ _ h => h
    try simp only [Act.put, List.setIfInBounds_toArray, List.set_cons_zero, List.set_cons_succ]
    refine' wpAnyH_take (i := 6) (v := _) ?hi6 (by kernel_rfl) (by kernel_rfl) (by kernel_rfl) ?hQ6 ?hy6 (by assumption) ?_
    case hi6 => (simp only [List.getElem?_toArray, List.getElem?_cons_succ, List.getElem?_cons_zero]; rfl)
    case hy6 => refine Or.inl ⟨by rfl, ?_⟩; intro w hSw; (try dsimp only at hSw); go_simp <;> with_reducible rfl
    case hQ6 => exact fun _ _ _ h => h
    try simp only [Act.put, List.setIfInBounds_toArray, List.set_cons_zero, List.set_cons_succ]
    refine' wpAnyH_take (i := 7) (v := _) ?hi7 (by kernel_rfl) (by kernel_rfl) (by kernel_rfl) ?hQ7 ?hy7 (by assumption) ?_
    case hi7 => (simp only [List.getElem?_toArray, List.getElem?_cons_succ, List.getElem?_cons_zero]; rfl)
    case hy7 => refine Or.inl ⟨by rfl, ?_⟩; intro w hSw; (try dsimp only at hSw); go_simp <;> with_reducible rfl
    case hQ7 => exact fun _ _ _ h => h
    try simp only [Act.put, List.setIfInBounds_toArray, List.set_cons_zero, List.set_cons_succ]
    refine' wpAnyH_take (i := 8) (v := _) ?hi8 (by kernel_rfl) (by kernel_rfl) (by kernel_rfl) ?hQ8 ?hy8 (by assumption) ?_
    case hi8 => (simp only [List.getElem?_toArray, List.getElem?_cons_succ, List.getElem?_cons_zero]; rfl)
    case hy8 => refine Or.inl ⟨by rfl, ?_⟩; intro w hSw; (try dsimp only at hSw); go_simp <;> with_reducible rfl
    case hQ8 => exact fun _ _ _ h => h
    try simp only [Act.put, List.setIfInBounds_toArray, List.set_cons_zero, List.set_cons_succ]
    refine' wpAnyH_take (i := 9) (v := _) ?hi9 (by kernel_rfl) (by kernel_rfl) (by kernel_rfl) ?hQ9 ?hy9 (by assumption) ?_
    case hi9 => (simp only [List.getElem?_toArray, List.getElem?_cons_succ, List.getElem?_cons_zero]; rfl)
    case hy9 => refine Or.inl ⟨by rfl, ?_⟩; intro w hSw; (try dsimp only at hSw); go_simp <;> with_reducible rfl
    case hQ9 => exact fun _ _ _ h => h
    try simp only [Act.put, List.setIfInBounds_toArray, List.set_cons_zero, List.set_cons_succ]
    refine' wpAnyH_take (i := 10) (v := _) ?hi10 (by kernel_rfl) (by kernel_rfl) (by kernel_rfl) ?hQ10 ?hy10 (by assumption) ?_
    case hi10 => (simp only [List.getElem?_toArray, List.getElem?_cons_succ, List.getElem?_cons_zero]; rfl)
    case hy10 => refine Or.inl ⟨by rfl, ?_⟩; intro w hSw; (try dsimp only at hSw); go_simp <;> with_reducible rfl
    case hQ10 => exact fun _ _ _ h => h
    try simp only [Act.put, List.setIfInBounds_toArray, List.set_cons_zero, List.set_cons_succ]
    refine' wpAnyH_take (i := 11) (v := _) ?hi11 (by kernel_rfl) (by kernel_rfl) (by kernel_rfl) ?hQ11 ?hy11 (by assumption) ?_
    case hi11 => (simp only [List.getElem?_toArray, List.getElem?_cons_succ, List.getElem?_cons_zero]; rfl)
    case hy11 => refine Or.inl ⟨by rfl, ?_⟩; intro w hSw; (try dsimp only at hSw); go_simp <;> with_reducible rfl
    case hQ11 => exact fun _ _ _ h => h
    try simp only [Act.put, List.setIfInBounds_toArray, List.set_cons_zero, List.set_cons_succ]
    refine' wpAnyH_take (i := 12) (v := _) ?hi12 (by kernel_rfl) (by kernel_rfl) (by kernel_rfl) ?hQ12 ?hy12 (by assumption) ?_
    case hi12 => (simp only [List.getElem?_toArray, List.getElem?_cons_succ, List.getElem?_cons_zero]; rfl)
    case hy12 => refine Or.inl ⟨by rfl, ?_⟩; intro w hSw; (try dsimp only at hSw); go_simp <;> with_reducible rfl
    case hQ12 => exact fun _ _ _ h => h
    try simp only [Act.put, List.setIfInBounds_toArray, List.set_cons_zero, List.set_cons_succ]
    refine' wpAnyH_take (i := 13) (v := _) ?hi13 (by kernel_rfl) (by kernel_rfl) (by kernel_rfl) ?hQ13 ?hy13 (by assumption) ?_
    case hi13 => (simp only [List.getElem?_toArray, List.getElem?_cons_succ, List.getElem?_cons_zero]; rfl)
    case hy13 => refine Or.inl ⟨by rfl, ?_⟩; intro w hSw; (try dsimp only at hSw); go_simp <;> with_reducible rfl
    case hQ13 => exact fun _ _ _ h => h
    try simp only [Act.put, List.setIfInBounds_toArray, List.set_cons_zero, List.set_cons_succ]
    refine' wpAnyH_take (i := 14) (v := _) ?hi14 (by kernel_rfl) (by kernel_rfl) (by kernel_rfl) ?hQ14 ?hy14 (by assumption) ?_
    case hi14 => (simp only [List.getElem?_toArray, List.getElem?_cons_succ, List.getElem?_cons_zero]; rfl)
    case hy14 => refine Or.inl ⟨by rfl, ?_⟩; intro w hSw; (try dsimp only at hSw); go_simp <;> with_reducible rfl
    case hQ14 => exact fun _ _ _ h => h
    try simp only [Act.put, List.setIfInBounds_toArray, List.set_cons_zero, List.set_cons_succ]
    refine' wpAnyH_take (i := 15) (v := _) ?hi15 (by kernel_rfl) (by kernel_rfl) (by kernel_rfl) ?hQ15 ?hy15 (by assumption) ?_
    case hi15 => (simp only [List.getElem?_toArray, List.getElem?_cons_succ, List.getElem?_cons_zero]; rfl)
    case hy15 => refine Or.inl ⟨by rfl, ?_⟩; intro w hSw; (try dsimp only at hSw); go_simp <;> with_reducible rfl
    case hQ15 => exact fun _ _ _ h => h
    try simp only [Act.put, List.setIfInBounds_toArray, List.set_cons_zero, List.set_cons_succ]
    refine' wpAnyH_take (i := 16) (v := _) ?hi16 (by kernel_rfl) (by kernel_rfl) (by kernel_rfl) ?hQ16 ?hy16 (by assumption) ?_
    case hi16 => (simp only [List.getElem?_toArray, List.getElem?_cons_succ, List.getElem?_cons_zero]; rfl)
    case hy16 => refine Or.inl ⟨by rfl, ?_⟩; intro w hSw; (try dsimp only at hSw); go_simp <;> with_reducible rfl
    case hQ16 => exact fun _ _ _ h => h
    try simp only [Act.put, List.setIfInBounds_toArray, List.set_cons_zero, List.set_cons_succ]
    refine' wpAnyH_take (i := 17) (v := _) ?hi17 (by kernel_rfl) (by kernel_rfl) (by kernel_rfl) ?hQ17 ?hy17 (by assumption) ?_
    case hi17 => (simp only [List.getElem?_toArray, List.getElem?_cons_succ, List.getElem?_cons_zero]; rfl)
    case hy17 => refine Or.inl ⟨by rfl, ?_⟩; intro w hSw; (try dsimp only at hSw); go_simp <;> with_reducible rfl
    case hQ17 => exact fun _ _ _ h => h
    try simp only [Act.put, List.setIfInBounds_toArray, List.set_cons_zero, List.set_cons_succ]
    refine' wpAnyH_take (i := 18) (v := _) ?hi18 (by kernel_rfl) (by kernel_rfl) (by kernel_rfl) ?hQ18 ?hy18 (by assumption) ?_
    case hi18 => (simp only [List.getElem?_toArray, List.getElem?_cons_succ, List.getElem?_cons_zero]; rfl)
    case hy18 => refine Or.inl ⟨by rfl, ?_⟩; intro w hSw; (try dsimp only at hSw); go_simp <;> with_reducible rfl
    case hQ18 => exact fun _ _ _ h => h
    try simp only [Act.put, List.setIfInBounds_toArray, List.set_cons_zero, List.set_cons_succ]
    refine' wpAnyH_take (i := 19) (v := _) ?hi19 (by kernel_rfl) (by kernel_rfl) (by kernel_rfl) ?hQ19 ?hy19 (by assumption) ?_
    case hi19 => (simp only [List.getElem?_toArray, List.getElem?_cons_succ, List.getElem?_cons_zero]; rfl)
    case hy19 => refine Or.inl ⟨by rfl, ?_⟩; intro w hSw; (try dsimp only at hSw); go_simp <;> with_reducible rfl
    case hQ19 => exact fun _ _ _ h => h
    try simp only [Act.put, List.setIfInBounds_toArray, List.set_cons_zero, List.set_cons_succ]
    refine' wpAnyH_take (i := 20) (v := _) ?hi20 (by kernel_rfl) (by kernel_rfl) (by kernel_rfl) ?hQ20 ?hy20 (by assumption) ?_
    case hi20 => (simp only [List.getElem?_toArray, List.getElem?_cons_succ, List.getElem?_cons_zero]; rfl)
    case hy20 => refine Or.inl ⟨by rfl, ?_⟩; intro w hSw; (try dsimp only at hSw); go_simp <;> with_reducible rfl
    case hQ20 => exact fun _ _ _ h => h
    try simp only [Act.put, List.setIfInBounds_toArray, List.set_cons_zero, List.set_cons_succ]
    refine' wpAnyH_take (i := 21) (v := _) ?hi21 (by kernel_rfl) (by kernel_rfl) (by kernel_rfl) ?hQ21 ?hy21 (by assumption) ?_
    case hi21 => (simp only [List.getElem?_toArray, List.getElem?_cons_succ, List.getElem?_cons_zero]; rfl)
    case hy21 => refine Or.inl ⟨by rfl, ?_⟩; intro w hSw; (try dsimp only at hSw); go_simp <;> with_reducible rfl
    case hQ21 => exact fun _ _ _ h => h
    try simp only [Act.put, List.setIfInBounds_toArray, List.set_cons_zero, List.set_cons_succ]
    refine' wpAnyH_take (i := 22) (v := _) ?hi22 (by kernel_rfl) (by kernel_rfl) (by kernel_rfl) ?hQ22 ?hy22 (by assumption) ?_
    case hi22 => (simp only [List.getElem?_toArray, List.getElem?_cons_succ, List.getElem?_cons_zero]; rfl)
    case hy22 => refine Or.inl ⟨by rfl, ?_⟩; intro w hSw; (try dsimp only at hSw); go_simp <;> with_reducible rfl
    case hQ22 => exact fun _ _ _ h => h
    try simp only [Act.put, List.setIfInBounds_toArray, List.set_cons_zero, List.set_cons_succ]
    refine' wpAnyH_take (i := 23) (v := _) ?hi23 (by kernel_rfl) (by kernel_rfl) (by kernel_rfl) ?hQ23 ?hy23 (by assumption) ?_
    case hi23 => (simp only [List.getElem?_toArray, List.getElem?_cons_succ, List.getElem?_cons_zero]; rfl)
    case hy23 => refine Or.inl ⟨by rfl, ?_⟩; intro w hSw; (try dsimp only at hSw); go_simp <;> with_reducible rfl
    case hQ23 => exact fun _ _ _ h => h
    try simp only [Act.put, List.setIfInBounds_toArray, List.set_cons_zero, List.set_cons_succ]
    refine' wpAnyH_take (i := 24) (v := _) ?hi24 (by kernel_rfl) (by kernel_rfl) (by kernel_rfl) ?hQ24 ?hy24 (by assumption) ?_
    case hi24 => (simp only [List.getElem?_toArray, List.getElem?_cons_succ, List.getElem?_cons_zero]; rfl)
    case hy24 => refine Or.inl ⟨by rfl, ?_⟩; intro w hSw; (try dsimp only at hSw); go_simp <;> with_reducible rfl
    case hQ24 => exact fun _ _ _ h => h
    try simp only [Act.put, List.setIfInBounds_toArray, List.set_cons_zero, List.set_cons_succ]
    refine' wpAnyH_take (i := 25) (v := _) ?hi25 (by kernel_rfl) (by kernel_rfl) (by kernel_rfl) ?hQ25 ?hy25 (by assumption) ?_
    case hi25 => (simp only [List.getElem?_toArray, List.getElem?_cons_succ, List.getElem?_cons_zero]; rfl)
    case hy25 => refine Or.inl ⟨by rfl, ?_⟩; intro w hSw; (try dsimp only at hSw); go_simp <;> with_reducible rfl
    case hQ25 => exact fun _ _ _ h => h
    try simp only [Act.put, List.setIfInBounds_toArray, List.set_cons_zero, List.set_cons_succ]
    refine wpAnyH_ready (rs := [26]) (by kernel_rfl) (by simp) ?_
    refine AllReadyH.cons rfl (fun KK hKK => ?_) AllReadyH.nil
    go_simp
    go_at_call 118; refine (gIs_any p q g C1 n e1 cm _ hbd (RdI.ext s1.rd (Ext.trans E (by repeat (first | with_reducible assumption | with_reducible exact Ext.refl _ | with_reducible apply Ext.alloc | with_reducible apply Ext.drew | with_reducible apply Ext.drewN)))) HS1.out q1').mono ?_; rintro en w3 ⟨he, hb3⟩; rw [H4.out] at he; subst he; have hx3 := Ext.trans (w := Wb) (by repeat (first | with_reducible assumption | with_reducible exact Ext.refl _ | with_reducible apply Ext.alloc | with_reducible apply Ext.drew | with_reducible apply Ext.drewN)) hb3
    refine hKK.out _ _ ?_ (fun hHeld => ?_)
    · exact hS _ (by repeat (first | with_reducible assumption | with_reducible exact Ext.refl _ | with_reducible apply Ext.alloc | with_reducible apply Ext.drew | with_reducible apply Ext.drewN))
    clear hKK KK
    try simp only [Act.put, List.setIfInBounds_toArray, List.set_cons_zero, List.set_cons_succ]
    refine' wpAnyH_take (i := 27) (v := _) ?hi27 (by kernel_rfl) (by kernel_rfl) (by kernel_rfl) ?hQ27 ?hy27 (by assumption) ?_
    case hi27 => (simp only [List.getElem?_toArray, List.getElem?_cons_succ, List.getElem?_cons_zero]; rfl)
    case hy27 => refine Or.inl ⟨by rfl, ?_⟩; intro w hSw; (try dsimp only at hSw); go_simp <;> with_reducible rfl
    case hQ27 => exact fun _ _ _ h => h
    try simp only [Act.put, List.setIfInBounds_toArray, List.set_cons_zero, List.set_cons_succ]
    refine' wpAnyH_take (i := 28) (v := _) ?hi28 (by kernel_rfl) (by kernel_rfl) (by kernel_rfl) ?hQ28 ?hy28 (by assumption) ?_
    case hi28 => (simp only [List.getElem?_toArray, List.getElem?_cons_succ, List.getElem?_cons_zero]; rfl)
    case hy28 => refine Or.inl ⟨by rfl, ?_⟩; intro w hSw; (try dsimp only at hSw); go_simp <;> with_reducible rfl
    case hQ28 => exact fun _ _ _ h => h
    try simp only [Act.put, List.setIfInBounds_toArray, List.set_cons_zero, List.set_cons_succ]
    refine' wpAnyH_take (i := 29) (v := _) ?hi29 (by kernel_rfl) (by kernel_rfl) (by kernel_rfl) ?hQ29 ?hy29 (by assumption) ?_
    case hi29 => (simp only [List.getElem?_toArray, List.getElem?_cons_succ, List.getElem?_cons_zero]; rfl)
    case hy29 => refine Or.inl ⟨by rfl, ?_⟩; intro w hSw; (try dsimp only at hSw); go_simp <;> with_reducible rfl
    case hQ29 => exact fun _ _ _ h => h
    try simp only [Act.put, List.setIfInBounds_toArray, List.set_cons_zero, List.set_cons_succ]
    refine' wpAnyH_take (i := 30) (v := _) ?hi30 (by kernel_rfl) (by kernel_rfl) (by kernel_rfl) ?hQ30 ?hy30 (by assumption) ?_
    case hi30 => (simp only [List.getElem?_toArray, List.getElem?_cons_succ, List.getElem?_cons_zero]; rfl)
    case hy30 => refine Or.inl ⟨by rfl, ?_⟩; intro w hSw; (try dsimp only at hSw); go_simp <;> with_reducible rfl
    case hQ30 => exact fun _ _ _ h => h
    try simp only [Act.put, List.setIfInBounds_toArray, List.set_cons_zero, List.set_cons_succ]
    refine' wpAnyH_take (i := 31) (v := _) ?hi31 (by kernel_rfl) (by kernel_rfl) (by kernel_rfl) ?hQ31 ?hy31 (by assumption) ?_
    case hi31 => (simp only [List.getElem?_toArray, List.getElem?_cons_succ, List.getElem?_cons_zero]; rfl)
    case hy31 => refine Or.inl ⟨by rfl, ?_⟩; intro w hSw; (try dsimp only at hSw); go_simp <;> with_reducible rfl
    case hQ31 => exact fun _ _ _ h => h
    try simp only [Act.put, List.setIfInBounds_toArray, List.set_cons_zero, List.set_cons_succ]
    refine' wpAnyH_take (i := 32) (v := _) ?hi32 (by kernel_rfl) (by kernel_rfl) (by kernel_rfl) ?hQ32 ?hy32 (by assumption) ?_
    case hi32 => (simp only [List.getElem?_toArray, List.getElem?_cons_succ, List.getElem?_cons_zero]; rfl)
    case hy32 => refine Or.inl ⟨by rfl, ?_⟩; intro w hSw; (try dsimp only at hSw); go_simp <;> with_reducible rfl
    case hQ32 => exact fun _ _ _ h => h
    try simp only [Act.put, List.setIfInBounds_toArray, List.set_cons_zero, List.set_cons_succ]
    refine wpAnyH_ready (rs := [33]) (by kernel_rfl) (by simp) ?_
    refine AllReadyH.cons rfl (fun KK hKK => ?_) AllReadyH.nil
    go_simp
    go_at_call 69; refine (gExps_any p q g C3 K e3 rs _ hbd (RdI.ext s3.rd (Ext.trans E (Ext.trans hx3 (by repeat (first | with_reducible assumption | with_reducible exact Ext.refl _ | with_reducible apply Ext.alloc | with_reducible apply Ext.drew | with_reducible apply Ext.drewN))))) HS3.out q3').mono ?_; rintro en w4 ⟨he, hb4⟩; rw [H5.out] at he; subst he; have hx4 := Ext.trans (w := Wb) (Ext.trans hx3 (by repeat (first | with_reducible assumption | with_reducible exact Ext.refl _ | with_reducible apply Ext.alloc | with_reducible apply Ext.drew | with_reducible apply Ext.drewN))) hb4
    refine hKK.out _ _ ?_ (fun hHeld => ?_)
    · exact hS _ (by repeat (first | with_reducible assumption | with_reducible exact Ext.refl _ | with_reducible apply Ext.alloc | with_reducible apply Ext.drew | with_reducible apply Ext.drewN))
    clear hKK KK
    try simp only [Act.put, List.setIfInBounds_toArray, List.set_cons_zero, List.set_cons_succ]
    refine' wpAnyH_take (i := 34) (v := _) ?hi34 (by kernel_rfl) (by kernel_rfl) (by kernel_rfl) ?hQ34 ?hy34 (by assumption) ?_
    case hi34 => (simp only [List.getElem?_toArray, List.getElem?_cons_succ, List.getElem?_cons_zero]; rfl)
    case hy34 => refine Or.inl ⟨by rfl, ?_⟩; intro w hSw; (try dsimp only at hSw); go_simp <;> with_reducible rfl
    case hQ34 => exact fun _ _ _ h => h
    try simp only [Act.put, List.setIfInBounds_toArray, List.set_cons_zero, List.set_cons_succ]
    refine' wpAnyH_take (i := 35) (v := _) ?hi35 (by kernel_rfl) (by kernel_rfl) (by kernel_rfl) ?hQ35 ?hy35 (by assumption) ?_
    case hi35 => (simp only [List.getElem?_toArray, List.getElem?_cons_succ, List.getElem?_cons_zero]; rfl)
    case hy35 => refine Or.inl ⟨by rfl, ?_⟩; intro w hSw; (try dsimp only at hSw); go_simp <;> with_reducible rfl
    case hQ35 => exact fun _ _ _ h => h
    try simp only [Act.put, List.setIfInBounds_toArray, List.set_cons_zero, List.set_cons_succ]
    refine wpAnyH_done (by kernel_rfl) ?_ _
    all_goals
      go_wp2
      go_meet
      exact ⟨rfl, by first | exact hx4 | exact hx4.drew⟩
  case' rest =>
  obtain ⟨rfl, hb2⟩ := hcut
  have B2 := B0.ext hb2
  have B3 := B1.ext hb2
  have E2 := E.trans hb2
  have hd2 := hb2.cell hd1
  have hS2 : ∀ V, Ext wc V → V.cell? ⟨w.heap.size, 0, none⟩ = some (.int .i64 p) ∧ V.cell? ⟨w.heap.size, 1, none⟩ = some (.int .i64 q) ∧ V.cell? ⟨w.heap.size, 2, none⟩ = some (.int .i64 g) ∧ V.cell? ⟨w.heap.size + 1, 0, none⟩ = some (.slice C1 n e1) ∧ V.cell? ⟨w.heap.size + 1, 1, none⟩ = some (.slice (some dd) 1 e2) ∧ V.cell? ⟨w.heap.size + 1, 2, none⟩ = some (.slice C3 K e3) ∧ V.cell? dd = some (.int .i64 cv) := fun V hV => by
    have a0 := (B2.ext hV).cells
    have a1 := (B3.ext hV).cells
    exact ⟨a0 0, a0 1, a0 2, a1 0, a1 1, a1 2, hV.cell hd2⟩
  clear hS t0 t1 t2 t3 t4 t5 t6 hb2 hd1
  obtain ⟨t0, t1, t2, t3, t4, t5, t6⟩ := hS2 _ (Ext.refl wc)
  by_cases hcv : cv = ev
  case neg =>
    have hne : (cv != ev) = true := by simp [hcv]
    have HVX : Hid (lvB p q g s rows im cm ch rs = false) := by show _ = _; rw [HVV.out, beq_eq_false_iff_ne.2 hcv, Bool.false_and]
    clear hcv
    go_wp2
    go_region_held3 (fun V => V.cell? ⟨w.heap.size, 0, none⟩ = some (.int .i64 p) ∧ V.cell? ⟨w.heap.size, 1, none⟩ = some (.int .i64 q) ∧ V.cell? ⟨w.heap.size, 2, none⟩ = some (.int .i64 g) ∧ V.cell? ⟨w.heap.size + 1, 0, none⟩ = some (.slice C1 n e1) ∧ V.cell? ⟨w.heap.size + 1, 1, none⟩ = some (.slice (some dd) 1 e2) ∧ V.cell? ⟨w.heap.size + 1, 2, none⟩ = some (.slice C3 K e3) ∧ V.cell? dd = some (.int .i64 cv)) (exact hS2 _ (by repeat (first | with_reducible assumption | with_reducible exact Ext.refl _ | with_reducible apply Ext.alloc | with_reducible apply Ext.drew | with_reducible apply Ext.drewN)))
      (first
        | (go_at_call 144; refine (sStatement_any (some ad) D C1 n c n d n e1 rows im cm _ (RdSS.ext ha (Ext.trans E2 (by repeat (first | with_reducible assumption | with_reducible exact Ext.refl _ | with_reducible apply Ext.alloc | with_reducible apply Ext.drew | with_reducible apply Ext.drewN)))) HL.out (SlI.ext hb (Ext.trans E2 (by repeat (first | with_reducible assumption | with_reducible exact Ext.refl _ | with_reducible apply Ext.alloc | with_reducible apply Ext.drew | with_reducible apply Ext.drewN)))) (SlI.ext s1 (Ext.trans E2 (by repeat (first | with_reducible assumption | with_reducible exact Ext.refl _ | with_reducible apply Ext.alloc | with_reducible apply Ext.drew | with_reducible apply Ext.drewN)))) (by omega) (by omega) (by omega) (by omega)).mono ?_; rintro en w5 ⟨A5, c5, rfl, o5, hb5⟩; have hx5 := Ext.trans (w := wc) (by repeat (first | with_reducible assumption | with_reducible exact Ext.refl _ | with_reducible apply Ext.alloc | with_reducible apply Ext.drew | with_reducible apply Ext.drewN)) hb5)
        | (go_at_call 143; refine (hChallenge_any p q g s A5 _ c5 (stmL rows im cm) _ HGB.out (RdI.ext o5 (by repeat (first | with_reducible assumption | with_reducible exact Ext.refl _ | with_reducible apply Ext.alloc | with_reducible apply Ext.drew | with_reducible apply Ext.drewN))) HTL.out.symm (by have := HTL.out; omega) (by omega) HALL.out).mono ?_; rintro en w6 ⟨he, hb6⟩; rw [HEV.out] at he; subst he; have hx6 := Ext.trans (w := wc) (Ext.trans hx5 (by repeat (first | with_reducible assumption | with_reducible exact Ext.refl _ | with_reducible apply Ext.alloc | with_reducible apply Ext.drew | with_reducible apply Ext.drewN))) hb6)
        | fail)
    go_wp2
    go_ret
    exact ⟨ret_bool HVX.out.symm, E2.trans hx6⟩
  have hne : (cv != ev) = false := by simp [hcv]
  have hcv' : (cv == ev) = true := by simp [hcv]
  have HVX : Hid (lvB p q g s rows im cm ch rs = (List.range n).all (lvQ p q rows im cm rs ev)) := by show _ = _; rw [HVV.out, hcv', Bool.true_and]
  clear hcv'
  obtain rfl : ev = cv := hcv.symm
  clear hcv
  go_wp2
  go_region_held3 (fun V => V.cell? ⟨w.heap.size, 0, none⟩ = some (.int .i64 p) ∧ V.cell? ⟨w.heap.size, 1, none⟩ = some (.int .i64 q) ∧ V.cell? ⟨w.heap.size, 2, none⟩ = some (.int .i64 g) ∧ V.cell? ⟨w.heap.size + 1, 0, none⟩ = some (.slice C1 n e1) ∧ V.cell? ⟨w.heap.size + 1, 1, none⟩ = some (.slice (some dd) 1 e2) ∧ V.cell? ⟨w.heap.size + 1, 2, none⟩ = some (.slice C3 K e3) ∧ V.cell? dd = some (.int .i64 ev)) (exact hS2 _ (by repeat (first | with_reducible assumption | with_reducible exact Ext.refl _ | with_reducible apply Ext.alloc | with_reducible apply Ext.drew | with_reducible apply Ext.drewN)))
    (first
      | (go_at_call 144; refine (sStatement_any (some ad) D C1 n c n d n e1 rows im cm _ (RdSS.ext ha (Ext.trans E2 (by repeat (first | with_reducible assumption | with_reducible exact Ext.refl _ | with_reducible apply Ext.alloc | with_reducible apply Ext.drew | with_reducible apply Ext.drewN)))) HL.out (SlI.ext hb (Ext.trans E2 (by repeat (first | with_reducible assumption | with_reducible exact Ext.refl _ | with_reducible apply Ext.alloc | with_reducible apply Ext.drew | with_reducible apply Ext.drewN)))) (SlI.ext s1 (Ext.trans E2 (by repeat (first | with_reducible assumption | with_reducible exact Ext.refl _ | with_reducible apply Ext.alloc | with_reducible apply Ext.drew | with_reducible apply Ext.drewN)))) (by omega) (by omega) (by omega) (by omega)).mono ?_; rintro en w5 ⟨A5, c5, rfl, o5, hb5⟩; have hx5 := Ext.trans (w := wc) (by repeat (first | with_reducible assumption | with_reducible exact Ext.refl _ | with_reducible apply Ext.alloc | with_reducible apply Ext.drew | with_reducible apply Ext.drewN)) hb5)
      | (go_at_call 143; refine (hChallenge_any p q g s A5 _ c5 (stmL rows im cm) _ HGB.out (RdI.ext o5 (by repeat (first | with_reducible assumption | with_reducible exact Ext.refl _ | with_reducible apply Ext.alloc | with_reducible apply Ext.drew | with_reducible apply Ext.drewN))) HTL.out.symm (by have := HTL.out; omega) (by omega) HALL.out).mono ?_; rintro en w6 ⟨he, hb6⟩; rw [HEV.out] at he; subst he; have hx6 := Ext.trans (w := wc) (Ext.trans hx5 (by repeat (first | with_reducible assumption | with_reducible exact Ext.refl _ | with_reducible apply Ext.alloc | with_reducible apply Ext.drew | with_reducible apply Ext.drewN))) hb6)
      | fail)
  obtain ⟨u0, u1, u2, u3, u4, u5, u6⟩ := hS2 _ hx6
  have hx7 := hx6
  have E7 := E2.trans hx7
  clear u0 u1 u2 u3 u4 u5 u6 t0 t1 t2 t3 t4 t5 t6
  have B2 := B2.ext hx7
  have B3 := B3.ext hx7
  go_wp2
  go_loopw [66] (fun i wr => ∃ j : Nat, j ≤ n ∧ i = .int .i64 j ∧ Hid (∀ i, i < j → lvQ p q rows im cm rs ev i = true) ∧ Ext w6 wr) (fun i _ => n - (intOf i).toNat)
  case atStart => exact ⟨0, Nat.zero_le _, rfl, fun i h => absurd h (by omega), Ext.refl _⟩
  case round =>
    obtain ⟨j, hj, rfl, hP, hE⟩ := hrel
    by_cases hlt : j < n
    · have hji : j < im.length := by have := HIM.out; omega
      have hjc : j < cm.length := by have := HS1.out; omega
      have hjr : j < rows.length := by have := HL.out; omega
      have HQ := Lib.hid (lvQ_at (p := p) (q := q) (rs := rs) (e := ev) hjr hji hjc)
      obtain ⟨rd, hA, Z, z, zc, hcr, hrr, hrl, hrc, hrm⟩ := (ha.ext (E7.trans hE)).at_ hjr
      obtain ⟨id, hD, hci⟩ := (hb.rd.ext (E7.trans hE)).at_ hji
      obtain ⟨kd, hC, hck⟩ := (s1.rd.ext (E7.trans hE)).at_ hjc
      obtain rfl : ad = rd := by simpa using hA
      subst hD
      subst hC
      have b1 := BIM.out _ (List.getElem_mem hji)
      have b2 := BCM.out _ (List.getElem_mem hjc)
      have hzK := HRL.out _ (List.getElem_mem hjr)
      have bzz : Hid (∀ x ∈ rows[j], 0 ≤ x ∧ x ≤ 3000000000) := BR.out _ (List.getElem_mem hjr)
      rw [hrl] at hzK HQ
      generalize rows[j] = row at *
      obtain rfl : K = z := hzK.symm
      have HRL2 := Lib.hid hrl
      generalize im[j] = iv at *
      generalize cm[j] = kv at *
      have gx := gpw_rg p q iv ev hbd
      have hj0 : (0 : Int) ≤ (j : Int) := by omega
      have hjn : (j : Int) < (n : Int) := by omega
      have hS3 : ∀ V, Ext wr V → V.cell? ⟨w.heap.size, 0, none⟩ = some (.int .i64 p) ∧ V.cell? ⟨w.heap.size, 1, none⟩ = some (.int .i64 q) ∧ V.cell? ⟨w.heap.size, 2, none⟩ = some (.int .i64 g) ∧ V.cell? ⟨w.heap.size + 1, 0, none⟩ = some (.slice (some kd) n e1) ∧ V.cell? ⟨w.heap.size + 1, 2, none⟩ = some (.slice C3 K e3) ∧ V.cell? (id.add j) = some (.int .i64 iv) ∧ V.cell? (kd.add j) = some (.int .i64 kv) := fun V hV => by
        have a0 := (B2.ext (hE.trans hV)).cells
        have a1 := (B3.ext (hE.trans hV)).cells
        exact ⟨a0 0, a0 1, a0 2, a1 0, a1 2, hV.cell hci, hV.cell hck⟩
      obtain ⟨mv, hmv⟩ : ∃ mv, gmul p [kv, gpw p q iv ev] = mv := ⟨_, rfl⟩
      have HMV := Lib.hid hmv
      rw [hmv] at HQ
      obtain ⟨zv, hzv⟩ : ∃ zv, prodV p q row rs K = zv := ⟨_, rfl⟩
      have HZV := Lib.hid hzv
      rw [hzv] at HQ
      clear hmv hzv hrl hA hzK
      go_wp2
      go_region_held3 (fun V => V.cell? ⟨w.heap.size, 0, none⟩ = some (.int .i64 p) ∧ V.cell? ⟨w.heap.size, 1, none⟩ = some (.int .i64 q) ∧ V.cell? ⟨w.heap.size, 2, none⟩ = some (.int .i64 g) ∧ V.cell? ⟨w.heap.size + 1, 0, none⟩ = some (.slice (some kd) n e1) ∧ V.cell? ⟨w.heap.size + 1, 2, none⟩ = some (.slice C3 K e3) ∧ V.cell? (id.add j) = some (.int .i64 iv) ∧ V.cell? (kd.add j) = some (.int .i64 kv)) (exact hS3 _ (by repeat (first | with_reducible assumption | with_reducible exact Ext.refl _ | with_reducible apply Ext.alloc | with_reducible apply Ext.drew | with_reducible apply Ext.drewN)))
        (first
          | (go_at_call 178; refine (gProd_any p q g Z C3 K zc K e3 row rs _ hbd (RdI.ext hrr (by repeat (first | with_reducible assumption | with_reducible exact Ext.refl _ | with_reducible apply Ext.alloc | with_reducible apply Ext.drew | with_reducible apply Ext.drewN))) HRL2.out (RdI.ext s3.rd (Ext.trans (E7.trans hE) (by repeat (first | with_reducible assumption | with_reducible exact Ext.refl _ | with_reducible apply Ext.alloc | with_reducible apply Ext.drew | with_reducible apply Ext.drewN)))) HS3.out (Nat.le_refl _) (by omega) bzz.out BRS9.out).mono ?_; rintro en w7 ⟨he, hb7⟩; rw [HZV.out] at he; subst he; have hx7 := Ext.trans (w := wr) (by repeat (first | with_reducible assumption | with_reducible exact Ext.refl _ | with_reducible apply Ext.alloc | with_reducible apply Ext.drew | with_reducible apply Ext.drewN)) hb7)
          | (go_at_call 93; refine (gExp_any p q g iv ev _ hbd b1.1 b1.2 (by omega) (by omega)).mono ?_; rintro en w8 ⟨rfl, hb8⟩; have hx8 := Ext.trans (w := wr) (Ext.trans hx7 (by repeat (first | with_reducible assumption | with_reducible exact Ext.refl _ | with_reducible apply Ext.alloc | with_reducible apply Ext.drew | with_reducible apply Ext.drewN))) hb8)
          | (go_at_call 92; refine (gMul_any p q g _ 2 2 [kv, gpw p q iv ev] _ hbd (rd_two (by simp)) rfl (by decide) (two_rg (by omega) (by omega))).mono ?_; rintro en w9 ⟨he, hb9⟩; rw [HMV.out] at he; subst he; have hx9 := Ext.trans (w := wr) (Ext.trans hx8 (by repeat (first | with_reducible assumption | with_reducible exact Ext.refl _ | with_reducible apply Ext.alloc | with_reducible apply Ext.drew | with_reducible apply Ext.drewN))) hb9)
          | fail)
      by_cases hzm : zv = mv
      · have hne2 : (zv != mv) = false := by simp [hzm]
        have hok : (zv == mv) = true := by simp [hzm]
        rw [hok] at HQ
        clear hzm hok
        have HP2 : Hid (∀ i, i < j + 1 → lvQ p q rows im cm rs ev i = true) := fun i hi => by
          by_cases e : i = j
          · subst e; exact HQ.out
          · exact hP.out i (by omega)
        go_wp2
        go_roundw
        case rel => first | exact ⟨j + 1, by omega, by go_num, HP2, hE.trans hx9⟩ | ((repeat apply Exists.intro); exact ⟨⟨j + 1, by omega, by go_num, HP2, hE.trans hx9⟩, rfl⟩)
        case measure => simp [intOf]; omega
      · have hne2 : (zv != mv) = true := by simp [hzm]
        have hno : (zv == mv) = false := by simp [hzm]
        rw [hno] at HQ
        have HV9 : Hid ((List.range n).all (lvQ p q rows im (cm) rs ev) = false) := range_no hlt HQ.out
        clear hzm hno
        go_wp2
        go_ret
        exact ⟨ret_bool (by rw [HVX.out, HV9.out]), E7.trans (hE.trans hx9)⟩
    · obtain rfl : j = n := by omega
      have HV9 : Hid ((List.range j).all (lvQ p q rows im cm rs ev) = true) := range_yes hP.out
      go_wp2
      go_ret
      exact ⟨ret_bool (by rw [HVX.out, HV9.out]), E7.trans hE⟩
end Go.Proofs.Ytpfccboighdcbaa
