/- Contracts for statements of equal logarithms: the program's and the reference's. (Printed by tools/gen_sig5.py.) -/
import Derived.Test.YtpfccboighdcbaaProg
import Derived.Test.YtpfccboighdcbaaSig4
namespace Go.Proofs.Ytpfccboighdcbaa
open Go.RowKit
set_option linter.unusedSimpArgs false
set_option linter.unusedVariables false

def eqE (p q g1 y1 g2 y2 : Int) : Bool := [g1, y1, g2, y2].all (elB p q)
def teV (p q g1 y1 g2 y2 x : Int) : Bool := (gpw p q g1 x == y1) && (gpw p q g2 x == y2)
noncomputable def teK (p q g g1 y1 g2 y2 x : Int) : Bool := grpB p q g && (eqE p q g1 y1 g2 y2 && inR x 0 (q - 1))
noncomputable def peK (p q g : Int) (s : ByteArray) (g1 y1 g2 y2 x c0 : Int) : Bool := teK p q g g1 y1 g2 y2 x && (teV p q g1 y1 g2 y2 x && (decide (s.size ≤ 40) && inR c0 0 (q - 1)))
noncomputable def veK (p q g : Int) (s : ByteArray) (g1 y1 g2 y2 : Int) : Bool := (grpB p q g && decide (s.size ≤ 40)) && eqE p q g1 y1 g2 y2
theorem eqE_iff {p q g1 y1 g2 y2 : Int} : eqE p q g1 y1 g2 y2 = true ↔ elB p q g1 = true ∧ elB p q y1 = true ∧ elB p q g2 = true ∧ elB p q y2 = true := by simp [eqE]
theorem rows2 (p q g1 g2 : Int) : rowsB p q [[g1], [g2]] = (elB p q g1 && elB p q g2) := by
  have h1 : inR ([[g1], [g2]] : List (List Int)).length 1 8 = true := rfl
  have h2 : inR (([[g1], [g2]] : List (List Int)).headD []).length 1 8 = true := rfl
  unfold rowsB
  rw [h1, h2]; simp
theorem vl_eq (p q g : Int) (s : ByteArray) (g1 y1 g2 y2 : Int) : vlK p q g s [[g1], [g2]] [y1, y2] = veK p q g s g1 y1 g2 y2 := by
  unfold vlK veK eqE
  rw [rows2]
  simp only [List.all_cons, List.all_nil, Bool.and_true]
  generalize elB p q g1 = a
  generalize elB p q g2 = b
  generalize elB p q y1 = c
  generalize elB p q y2 = d
  cases grpB p q g <;> cases decide (s.size ≤ 40) <;> cases a <;> cases b <;> cases c <;> cases d <;> rfl
theorem pl_eq {p q g : Int} {s : ByteArray} {g1 y1 g2 y2 x c0 : Int} (hk : teK p q g g1 y1 g2 y2 x = true) (hv : teV p q g1 y1 g2 y2 x = true) : plK p q g s [[g1], [g2]] [x] [c0] = peK p q g s g1 y1 g2 y2 x c0 := by
  unfold peK plK
  rw [hk, hv, rows2]
  unfold teK at hk
  simp only [Bool.and_eq_true] at hk
  obtain ⟨k1, k2, k3⟩ := hk
  obtain ⟨e1, _, e3, _⟩ := eqE_iff.1 k2
  rw [k1, e1, e3]
  simp [allR, k3]
/-- A literal of four ints. -/
theorem rd_four {w : World} {a b c d : Int} {k : Nat} (hk : k = w.heap.size) : RdI (w.alloc (.cells #[.int .i64 a, .int .i64 b, .int .i64 c, .int .i64 d] 3)) (some ⟨k, 0, none⟩) [a, b, c, d] :=
  rd_cells (xs := [.int .i64 a, .int .i64 b, .int .i64 c, .int .i64 d]) hk (Ext.refl _)
set_option maxHeartbeats 2000000 in
theorem hasEqual_any (p q g g1 y1 g2 y2 : Int) (w : World) (h : GrpB p q) :
    Calls Try.prog 78 #[.agg #[.int .i64 p, .int .i64 q, .int .i64 g], .agg #[.int .i64 g1, .int .i64 y1, .int .i64 g2, .int .i64 y2]] w fun en w' => en = .returned (.bool (eqE p q g1 y1 g2 y2)) ∧ Ext w w' := by
  have E := (((Ext.refl w).alloc (.cells #[.int .i64 p, .int .i64 q, .int .i64 g] 38)).alloc (.cells #[.int .i64 g1, .int .i64 y1, .int .i64 g2, .int .i64 y2] 53))
  have B0 := ((Blk.new w 38 #[.int .i64 p, .int .i64 q, .int .i64 g]).alloc (.cells #[.int .i64 g1, .int .i64 y1, .int .i64 g2, .int .i64 y2] 53))
  have B1 := (Blk.new (w.alloc (.cells #[.int .i64 p, .int .i64 q, .int .i64 g] 38)) 53 #[.int .i64 g1, .int .i64 y1, .int .i64 g2, .int .i64 y2])
  simp only [World.size_alloc] at B1
  have hz : ((w.alloc (.cells #[.int .i64 p, .int .i64 q, .int .i64 g] 38)).alloc (.cells #[.int .i64 g1, .int .i64 y1, .int .i64 g2, .int .i64 y2] 53)).heap.size = w.heap.size + 1 + 1 := by simp only [World.size_alloc]
  have CC0 := B0.cells
  have CC1 := B1.cells
  obtain ⟨K, hK⟩ : ∃ K, eqE p q g1 y1 g2 y2 = K := ⟨_, rfl⟩
  rw [hK]
  have HK : Hid ([g1, y1, g2, y2].all (elB p q) = K) := hK
  clear hK
  go_enter Try.func78, Try.ntmps78
  go_wp2_with fail
  have a1 := (Ext.refl ((w.alloc (.cells #[.int .i64 p, .int .i64 q, .int .i64 g] 38)).alloc (.cells #[.int .i64 g1, .int .i64 y1, .int .i64 g2, .int .i64 y2] 53))).alloc (.cells #[.int .i64 g1, .int .i64 y1, .int .i64 g2, .int .i64 y2] 3)
  refine (hasAll_any p q g _ 4 4 [g1, y1, g2, y2] _ h (rd_four hz.symm) rfl (by decide)).mono ?_
  rintro en w2 ⟨he, hb⟩
  rw [HK.out] at he; subst he
  clear CC0 CC1
  go_wp2
  go_ret
  exact ⟨rfl, (E.trans a1).trans hb⟩
set_option maxHeartbeats 2000000 in
theorem sElements_any (p q g g1 y1 g2 y2 : Int) (w : World) (h : GrpB p q) :
    Calls Try.prog 74 #[.agg #[.int .i64 p, .int .i64 q, .int .i64 g], .agg #[.int .i64 g1, .int .i64 y1, .int .i64 g2, .int .i64 y2]] w fun en w' => en = .returned (.bool (eqE p q g1 y1 g2 y2)) ∧ Ext w w' := by
  have E := (((Ext.refl w).alloc (.cells #[.int .i64 p, .int .i64 q, .int .i64 g] 38)).alloc (.cells #[.int .i64 g1, .int .i64 y1, .int .i64 g2, .int .i64 y2] 53))
  have B0 := ((Blk.new w 38 #[.int .i64 p, .int .i64 q, .int .i64 g]).alloc (.cells #[.int .i64 g1, .int .i64 y1, .int .i64 g2, .int .i64 y2] 53))
  have B1 := (Blk.new (w.alloc (.cells #[.int .i64 p, .int .i64 q, .int .i64 g] 38)) 53 #[.int .i64 g1, .int .i64 y1, .int .i64 g2, .int .i64 y2])
  simp only [World.size_alloc] at B1
  have hz : ((w.alloc (.cells #[.int .i64 p, .int .i64 q, .int .i64 g] 38)).alloc (.cells #[.int .i64 g1, .int .i64 y1, .int .i64 g2, .int .i64 y2] 53)).heap.size = w.heap.size + 1 + 1 := by simp only [World.size_alloc]
  have CC0 := B0.cells
  have CC1 := B1.cells
  obtain ⟨K, hK⟩ : ∃ K, eqE p q g1 y1 g2 y2 = K := ⟨_, rfl⟩
  rw [hK]
  have HK : Hid ([g1, y1, g2, y2].all (elB p q) = K) := hK
  clear hK
  go_enter Try.func74, Try.ntmps74
  go_wp2_with fail
  have a1 := (Ext.refl ((w.alloc (.cells #[.int .i64 p, .int .i64 q, .int .i64 g] 38)).alloc (.cells #[.int .i64 g1, .int .i64 y1, .int .i64 g2, .int .i64 y2] 53))).alloc (.cells #[.int .i64 g1, .int .i64 y1, .int .i64 g2, .int .i64 y2] 3)
  refine (gIs_any p q g _ 4 4 [g1, y1, g2, y2] _ h (rd_four hz.symm) rfl (by decide)).mono ?_
  rintro en w2 ⟨he, hb⟩
  rw [HK.out] at he; subst he
  clear CC0 CC1
  go_wp2
  go_ret
  exact ⟨rfl, (E.trans a1).trans hb⟩
set_option maxRecDepth 100000 in
set_option maxHeartbeats 4000000 in
theorem isTrue_any (p q g g1 y1 g2 y2 x : Int) (w : World) (h : GrpB p q) (b1 : 0 ≤ g1 ∧ g1 ≤ 3000000000) (b2 : 0 ≤ g2 ∧ g2 ≤ 3000000000) (hx : -9000000000000000000 ≤ x ∧ x ≤ 9000000000000000000) :
    Calls Try.prog 80 #[.agg #[.int .i64 p, .int .i64 q, .int .i64 g], .agg #[.int .i64 g1, .int .i64 y1, .int .i64 g2, .int .i64 y2], .int .i64 x] w fun en w' => en = .returned (.bool (teV p q g1 y1 g2 y2 x)) ∧ Ext w w' := by
  have E := (((Ext.refl w).alloc (.cells #[.int .i64 p, .int .i64 q, .int .i64 g] 38)).alloc (.cells #[.int .i64 g1, .int .i64 y1, .int .i64 g2, .int .i64 y2] 53))
  have B0 := ((Blk.new w 38 #[.int .i64 p, .int .i64 q, .int .i64 g]).alloc (.cells #[.int .i64 g1, .int .i64 y1, .int .i64 g2, .int .i64 y2] 53))
  have B1 := (Blk.new (w.alloc (.cells #[.int .i64 p, .int .i64 q, .int .i64 g] 38)) 53 #[.int .i64 g1, .int .i64 y1, .int .i64 g2, .int .i64 y2])
  simp only [World.size_alloc] at B1
  obtain ⟨a, ha⟩ : ∃ a, gpw p q g1 x = a := ⟨_, rfl⟩
  obtain ⟨b, hb⟩ : ∃ b, gpw p q g2 x = b := ⟨_, rfl⟩
  have HA := Lib.hid ha
  have HB := Lib.hid hb
  have hv : teV p q g1 y1 g2 y2 x = ((a == y1) && (b == y2)) := by unfold teV; rw [ha, hb]
  rw [hv]
  clear ha hb hv
  by_cases h1 : a = y1
  · have e1 : (a == y1) = true := by simp [h1]
    rw [e1, Bool.true_and]
    clear h1
    go_enter Try.func80, Try.ntmps80
    go_wp2
    generalize (w.alloc (.cells #[.int .i64 p, .int .i64 q, .int .i64 g] 38)).alloc (.cells #[.int .i64 g1, .int .i64 y1, .int .i64 g2, .int .i64 y2] 53) = Wb at *
    have hS : ∀ V, Ext Wb V → V.cell? ⟨w.heap.size, 0, none⟩ = some (.int .i64 p) ∧ V.cell? ⟨w.heap.size, 1, none⟩ = some (.int .i64 q) ∧ V.cell? ⟨w.heap.size, 2, none⟩ = some (.int .i64 g) ∧ V.cell? ⟨w.heap.size + 1, 0, none⟩ = some (.int .i64 g1) ∧ V.cell? ⟨w.heap.size + 1, 1, none⟩ = some (.int .i64 y1) ∧ V.cell? ⟨w.heap.size + 1, 2, none⟩ = some (.int .i64 g2) ∧ V.cell? ⟨w.heap.size + 1, 3, none⟩ = some (.int .i64 y2) := fun V hV => by
      have a0 := (B0.ext hV).cells
      have a1 := (B1.ext hV).cells
      exact ⟨a0 0, a0 1, a0 2, a1 0, a1 1, a1 2, a1 3⟩
    refine wp_region_held_drew (S := fun V => V.cell? ⟨w.heap.size, 0, none⟩ = some (.int .i64 p) ∧ V.cell? ⟨w.heap.size, 1, none⟩ = some (.int .i64 q) ∧ V.cell? ⟨w.heap.size, 2, none⟩ = some (.int .i64 g) ∧ V.cell? ⟨w.heap.size + 1, 0, none⟩ = some (.int .i64 g1) ∧ V.cell? ⟨w.heap.size + 1, 1, none⟩ = some (.int .i64 y1) ∧ V.cell? ⟨w.heap.size + 1, 2, none⟩ = some (.int .i64 g2) ∧ V.cell? ⟨w.heap.size + 1, 3, none⟩ = some (.int .i64 y2)) (by kernel_rfl) ?_ (fun hHeld => ?_)
    · exact hS _ (by repeat (first | with_reducible assumption | with_reducible exact Ext.refl _ | with_reducible apply Ext.alloc | with_reducible apply Ext.drew | with_reducible apply Ext.drewN))
    refine' wpAnyH_take (i := 0) (v := _) ?hi0 (by kernel_rfl) (by kernel_rfl) (by kernel_rfl) ?hQ0 ?hy0 (by assumption) ?_
    case hi0 => (simp only [List.getElem?_toArray, List.getElem?_cons_zero]; rfl)
    case hy0 => refine Or.inl ⟨by rfl, ?_⟩; intro w hSw; (try dsimp only at hSw); go_simp <;> with_reducible rfl
    case hQ0 => exact fun _ _ _ h => h
    try simp only [Act.put, List.setIfInBounds_toArray, List.set_cons_zero, List.set_cons_succ]
    refine' wpAnyH_take (i := 1) (v := _) ?hi1 (by kernel_rfl) (by kernel_rfl) (by kernel_rfl) ?hQ1 ?hy1 (by assumption) ?_
    case hi1 => (simp only [List.getElem?_toArray, List.getElem?_cons_succ, List.getElem?_cons_zero]; rfl)
    case hy1 => refine Or.inl ⟨by rfl, ?_⟩; intro w hSw; (try dsimp only at hSw); go_simp <;> with_reducible rfl
    case hQ1 => exact fun _ _ _ h => h
    try simp only [Act.put, List.setIfInBounds_toArray, List.set_cons_zero, List.set_cons_succ]
    refine' wpAnyH_take (i := 2) (v := _) ?hi2 (by kernel_rfl) (by kernel_rfl) (by kernel_rfl) ?hQ2 ?hy2 (by assumption) ?_
    case hi2 => (simp only [List.getElem?_toArray, List.getElem?_cons_succ, List.getElem?_cons_zero]; rfl)
    case hy2 => refine Or.inl ⟨by rfl, ?_⟩; intro w hSw; (try dsimp only at hSw); go_simp <;> with_reducible rfl
    case hQ2 => exact fun _ _ _ h => h
    try simp only [Act.put, List.setIfInBounds_toArray, List.set_cons_zero, List.set_cons_succ]
    refine' wpAnyH_take (i := 3) (v := _) ?hi3 (by kernel_rfl) (by kernel_rfl) (by kernel_rfl) ?hQ3 ?hy3 (by assumption) ?_
    case hi3 => (simp only [List.getElem?_toArray, List.getElem?_cons_succ, List.getElem?_cons_zero]; rfl)
    case hy3 => refine Or.inl ⟨by rfl, ?_⟩; intro w hSw; (try dsimp only at hSw); go_simp <;> with_reducible rfl
    case hQ3 => exact fun _ _ _ h => h
    try simp only [Act.put, List.setIfInBounds_toArray, List.set_cons_zero, List.set_cons_succ]
    refine' wpAnyH_take (i := 5) (v := _) ?hi5 (by kernel_rfl) (by kernel_rfl) (by kernel_rfl) ?hQ5 ?hy5 (by assumption) ?_
    case hi5 => (simp only [List.getElem?_toArray, List.getElem?_cons_succ, List.getElem?_cons_zero]; rfl)
    case hy5 => refine Or.inl ⟨by rfl, ?_⟩; intro w hSw; (try dsimp only at hSw); go_simp <;> with_reducible rfl
    case hQ5 => exact fun _ _ _ h => h
    try simp only [Act.put, List.setIfInBounds_toArray, List.set_cons_zero, List.set_cons_succ]
    refine' wpAnyH_take (i := 6) (v := _) ?hi6 (by kernel_rfl) (by kernel_rfl) (by kernel_rfl) ?hQ6 ?hy6 (by assumption) ?_
    case hi6 => (simp only [List.getElem?_toArray, List.getElem?_cons_succ, List.getElem?_cons_zero]; rfl)
    case hy6 => refine Or.inl ⟨by rfl, ?_⟩; intro w hSw; (try dsimp only at hSw); go_simp <;> with_reducible rfl
    case hQ6 => exact fun _ _ _ h => h
    try simp only [Act.put, List.setIfInBounds_toArray, List.set_cons_zero, List.set_cons_succ]
    refine wpAnyH_ready (rs := [4]) (by kernel_rfl) (by simp) ?_
    refine AllReadyH.cons rfl (fun KK hKK => ?_) AllReadyH.nil
    go_simp
    go_at_call 103; refine (pow_any p q g g1 x _ h b1.1 b1.2 hx.1 hx.2).mono ?_; rintro en w3 ⟨he, hb3⟩; rw [HA.out] at he; subst he; have hx3 := Ext.trans (w := Wb) (by repeat (first | with_reducible assumption | with_reducible exact Ext.refl _ | with_reducible apply Ext.alloc | with_reducible apply Ext.drew | with_reducible apply Ext.drewN)) hb3
    refine hKK.out _ _ ?_ (fun hHeld => ?_)
    · exact hS _ (by repeat (first | with_reducible assumption | with_reducible exact Ext.refl _ | with_reducible apply Ext.alloc | with_reducible apply Ext.drew | with_reducible apply Ext.drewN))
    clear hKK KK
    try simp only [Act.put, List.setIfInBounds_toArray, List.set_cons_zero, List.set_cons_succ]
    refine' wpAnyH_take (i := 7) (v := _) ?hi7 (by kernel_rfl) (by kernel_rfl) (by kernel_rfl) ?hQ7 ?hy7 (by assumption) ?_
    case hi7 => (simp only [List.getElem?_toArray, List.getElem?_cons_succ, List.getElem?_cons_zero]; rfl)
    case hy7 => refine Or.inl ⟨by rfl, ?_⟩; intro w hSw; (try dsimp only at hSw); go_simp <;> with_reducible rfl
    case hQ7 => exact fun _ _ _ h => h
    try simp only [Act.put, List.setIfInBounds_toArray, List.set_cons_zero, List.set_cons_succ]
    refine' wpAnyH_take (i := 8) (v := _) ?hi8 (by kernel_rfl) (by kernel_rfl) (by kernel_rfl) ?hQ8 ?hy8 (by assumption) ?_
    case hi8 => (simp only [List.getElem?_toArray, List.getElem?_cons_succ, List.getElem?_cons_zero]; rfl)
    case hy8 => refine Or.inl ⟨by rfl, ?_⟩; intro w hSw; (try dsimp only at hSw); go_simp <;> with_reducible rfl
    case hQ8 => exact fun _ _ _ h => h
    try simp only [Act.put, List.setIfInBounds_toArray, List.set_cons_zero, List.set_cons_succ]
    refine' wpAnyH_take (i := 9) (v := _) ?hi9 (by kernel_rfl) (by kernel_rfl) (by kernel_rfl) ?hQ9 ?hy9 (by assumption) ?_
    case hi9 => (simp only [List.getElem?_toArray, List.getElem?_cons_succ, List.getElem?_cons_zero]; rfl)
    case hy9 => refine Or.inl ⟨by rfl, ?_⟩; intro w hSw; (try dsimp only at hSw); go_simp <;> with_reducible rfl
    case hQ9 => exact fun _ _ _ h => h
    try simp only [Act.put, List.setIfInBounds_toArray, List.set_cons_zero, List.set_cons_succ]
    refine' wpAnyH_take (i := 10) (v := _) ?hi10 (by kernel_rfl) (by kernel_rfl) (by kernel_rfl) ?hQ10 ?hy10 (by assumption) ?_
    case hi10 => (simp only [List.getElem?_toArray, List.getElem?_cons_succ, List.getElem?_cons_zero]; rfl)
    case hy10 => refine Or.inl ⟨by rfl, ?_⟩; intro w hSw; (try dsimp only at hSw); go_simp <;> with_reducible rfl
    case hQ10 => exact fun _ _ _ h => h
    try simp only [Act.put, List.setIfInBounds_toArray, List.set_cons_zero, List.set_cons_succ]
    refine' wpAnyH_take (i := 11) (v := _) ?hi11 (by kernel_rfl) (by kernel_rfl) (by kernel_rfl) ?hQ11 ?hy11 (by assumption) ?_
    case hi11 => (simp only [List.getElem?_toArray, List.getElem?_cons_succ, List.getElem?_cons_zero]; rfl)
    case hy11 => refine Or.inl ⟨by rfl, ?_⟩; intro w hSw; (try dsimp only at hSw); go_simp <;> with_reducible rfl
    case hQ11 => exact fun _ _ _ h => h
    try simp only [Act.put, List.setIfInBounds_toArray, List.set_cons_zero, List.set_cons_succ]
    refine' wpAnyH_take (i := 12) (v := _) ?hi12 (by kernel_rfl) (by kernel_rfl) (by kernel_rfl) ?hQ12 ?hy12 (by assumption) ?_
    case hi12 => (simp only [List.getElem?_toArray, List.getElem?_cons_succ, List.getElem?_cons_zero]; rfl)
    case hy12 => refine Or.inl ⟨by rfl, ?_⟩; intro w hSw; (try dsimp only at hSw); go_simp <;> with_reducible rfl
    case hQ12 => exact fun _ _ _ h => h
    try simp only [Act.put, List.setIfInBounds_toArray, List.set_cons_zero, List.set_cons_succ]
    refine' wpAnyH_take (i := 14) (v := _) ?hi14 (by kernel_rfl) (by kernel_rfl) (by kernel_rfl) ?hQ14 ?hy14 (by assumption) ?_
    case hi14 => (simp only [List.getElem?_toArray, List.getElem?_cons_succ, List.getElem?_cons_zero]; rfl)
    case hy14 => refine Or.inl ⟨by rfl, ?_⟩; intro w hSw; (try dsimp only at hSw); go_simp <;> with_reducible rfl
    case hQ14 => exact fun _ _ _ h => h
    try simp only [Act.put, List.setIfInBounds_toArray, List.set_cons_zero, List.set_cons_succ]
    refine' wpAnyH_take (i := 15) (v := _) ?hi15 (by kernel_rfl) (by kernel_rfl) (by kernel_rfl) ?hQ15 ?hy15 (by assumption) ?_
    case hi15 => (simp only [List.getElem?_toArray, List.getElem?_cons_succ, List.getElem?_cons_zero]; rfl)
    case hy15 => refine Or.inl ⟨by rfl, ?_⟩; intro w hSw; (try dsimp only at hSw); go_simp <;> with_reducible rfl
    case hQ15 => exact fun _ _ _ h => h
    try simp only [Act.put, List.setIfInBounds_toArray, List.set_cons_zero, List.set_cons_succ]
    refine wpAnyH_ready (rs := [13]) (by kernel_rfl) (by simp) ?_
    refine AllReadyH.cons rfl (fun KK hKK => ?_) AllReadyH.nil
    go_simp
    go_at_call 103; refine (pow_any p q g g2 x _ h b2.1 b2.2 hx.1 hx.2).mono ?_; rintro en w4 ⟨he, hb4⟩; rw [HB.out] at he; subst he; have hx4 := Ext.trans (w := Wb) (Ext.trans hx3 (by repeat (first | with_reducible assumption | with_reducible exact Ext.refl _ | with_reducible apply Ext.alloc | with_reducible apply Ext.drew | with_reducible apply Ext.drewN))) hb4
    refine hKK.out _ _ ?_ (fun hHeld => ?_)
    · exact hS _ (by repeat (first | with_reducible assumption | with_reducible exact Ext.refl _ | with_reducible apply Ext.alloc | with_reducible apply Ext.drew | with_reducible apply Ext.drewN))
    clear hKK KK
    try simp only [Act.put, List.setIfInBounds_toArray, List.set_cons_zero, List.set_cons_succ]
    refine' wpAnyH_take (i := 16) (v := _) ?hi16 (by kernel_rfl) (by kernel_rfl) (by kernel_rfl) ?hQ16 ?hy16 (by assumption) ?_
    case hi16 => (simp only [List.getElem?_toArray, List.getElem?_cons_succ, List.getElem?_cons_zero]; rfl)
    case hy16 => refine Or.inl ⟨by rfl, ?_⟩; intro w hSw; (try dsimp only at hSw); go_simp <;> with_reducible rfl
    case hQ16 => exact fun _ _ _ h => h
    try simp only [Act.put, List.setIfInBounds_toArray, List.set_cons_zero, List.set_cons_succ]
    refine' wpAnyH_take (i := 17) (v := _) ?hi17 (by kernel_rfl) (by kernel_rfl) (by kernel_rfl) ?hQ17 ?hy17 (by assumption) ?_
    case hi17 => (simp only [List.getElem?_toArray, List.getElem?_cons_succ, List.getElem?_cons_zero]; rfl)
    case hy17 => refine Or.inl ⟨by rfl, ?_⟩; intro w hSw; (try dsimp only at hSw); go_simp <;> with_reducible rfl
    case hQ17 => exact fun _ _ _ h => h
    try simp only [Act.put, List.setIfInBounds_toArray, List.set_cons_zero, List.set_cons_succ]
    refine' wpAnyH_take (i := 18) (v := _) ?hi18 (by kernel_rfl) (by kernel_rfl) (by kernel_rfl) ?hQ18 ?hy18 (by assumption) ?_
    case hi18 => (simp only [List.getElem?_toArray, List.getElem?_cons_succ, List.getElem?_cons_zero]; rfl)
    case hy18 => refine Or.inl ⟨by rfl, ?_⟩; intro w hSw; (try dsimp only at hSw); go_simp <;> with_reducible rfl
    case hQ18 => exact fun _ _ _ h => h
    try simp only [Act.put, List.setIfInBounds_toArray, List.set_cons_zero, List.set_cons_succ]
    refine wpAnyH_done (by kernel_rfl) ?_ _
    go_wp2
    go_ret
    exact ⟨rfl, E.trans hx4⟩
  · have e1 : (a == y1) = false := by simp [h1]
    rw [e1, Bool.false_and]
    clear h1
    go_enter Try.func80, Try.ntmps80
    go_wp2
    generalize (w.alloc (.cells #[.int .i64 p, .int .i64 q, .int .i64 g] 38)).alloc (.cells #[.int .i64 g1, .int .i64 y1, .int .i64 g2, .int .i64 y2] 53) = Wb at *
    have hS : ∀ V, Ext Wb V → V.cell? ⟨w.heap.size, 0, none⟩ = some (.int .i64 p) ∧ V.cell? ⟨w.heap.size, 1, none⟩ = some (.int .i64 q) ∧ V.cell? ⟨w.heap.size, 2, none⟩ = some (.int .i64 g) ∧ V.cell? ⟨w.heap.size + 1, 0, none⟩ = some (.int .i64 g1) ∧ V.cell? ⟨w.heap.size + 1, 1, none⟩ = some (.int .i64 y1) ∧ V.cell? ⟨w.heap.size + 1, 2, none⟩ = some (.int .i64 g2) ∧ V.cell? ⟨w.heap.size + 1, 3, none⟩ = some (.int .i64 y2) := fun V hV => by
      have a0 := (B0.ext hV).cells
      have a1 := (B1.ext hV).cells
      exact ⟨a0 0, a0 1, a0 2, a1 0, a1 1, a1 2, a1 3⟩
    refine wp_region_held_drew (S := fun V => V.cell? ⟨w.heap.size, 0, none⟩ = some (.int .i64 p) ∧ V.cell? ⟨w.heap.size, 1, none⟩ = some (.int .i64 q) ∧ V.cell? ⟨w.heap.size, 2, none⟩ = some (.int .i64 g) ∧ V.cell? ⟨w.heap.size + 1, 0, none⟩ = some (.int .i64 g1) ∧ V.cell? ⟨w.heap.size + 1, 1, none⟩ = some (.int .i64 y1) ∧ V.cell? ⟨w.heap.size + 1, 2, none⟩ = some (.int .i64 g2) ∧ V.cell? ⟨w.heap.size + 1, 3, none⟩ = some (.int .i64 y2)) (by kernel_rfl) ?_ (fun hHeld => ?_)
    · exact hS _ (by repeat (first | with_reducible assumption | with_reducible exact Ext.refl _ | with_reducible apply Ext.alloc | with_reducible apply Ext.drew | with_reducible apply Ext.drewN))
    refine' wpAnyH_take (i := 0) (v := _) ?hi0 (by kernel_rfl) (by kernel_rfl) (by kernel_rfl) ?hQ0 ?hy0 (by assumption) ?_
    case hi0 => (simp only [List.getElem?_toArray, List.getElem?_cons_zero]; rfl)
    case hy0 => refine Or.inl ⟨by rfl, ?_⟩; intro w hSw; (try dsimp only at hSw); go_simp <;> with_reducible rfl
    case hQ0 => exact fun _ _ _ h => h
    try simp only [Act.put, List.setIfInBounds_toArray, List.set_cons_zero, List.set_cons_succ]
    refine' wpAnyH_take (i := 1) (v := _) ?hi1 (by kernel_rfl) (by kernel_rfl) (by kernel_rfl) ?hQ1 ?hy1 (by assumption) ?_
    case hi1 => (simp only [List.getElem?_toArray, List.getElem?_cons_succ, List.getElem?_cons_zero]; rfl)
    case hy1 => refine Or.inl ⟨by rfl, ?_⟩; intro w hSw; (try dsimp only at hSw); go_simp <;> with_reducible rfl
    case hQ1 => exact fun _ _ _ h => h
    try simp only [Act.put, List.setIfInBounds_toArray, List.set_cons_zero, List.set_cons_succ]
    refine' wpAnyH_take (i := 2) (v := _) ?hi2 (by kernel_rfl) (by kernel_rfl) (by kernel_rfl) ?hQ2 ?hy2 (by assumption) ?_
    case hi2 => (simp only [List.getElem?_toArray, List.getElem?_cons_succ, List.getElem?_cons_zero]; rfl)
    case hy2 => refine Or.inl ⟨by rfl, ?_⟩; intro w hSw; (try dsimp only at hSw); go_simp <;> with_reducible rfl
    case hQ2 => exact fun _ _ _ h => h
    try simp only [Act.put, List.setIfInBounds_toArray, List.set_cons_zero, List.set_cons_succ]
    refine' wpAnyH_take (i := 3) (v := _) ?hi3 (by kernel_rfl) (by kernel_rfl) (by kernel_rfl) ?hQ3 ?hy3 (by assumption) ?_
    case hi3 => (simp only [List.getElem?_toArray, List.getElem?_cons_succ, List.getElem?_cons_zero]; rfl)
    case hy3 => refine Or.inl ⟨by rfl, ?_⟩; intro w hSw; (try dsimp only at hSw); go_simp <;> with_reducible rfl
    case hQ3 => exact fun _ _ _ h => h
    try simp only [Act.put, List.setIfInBounds_toArray, List.set_cons_zero, List.set_cons_succ]
    refine' wpAnyH_take (i := 5) (v := _) ?hi5 (by kernel_rfl) (by kernel_rfl) (by kernel_rfl) ?hQ5 ?hy5 (by assumption) ?_
    case hi5 => (simp only [List.getElem?_toArray, List.getElem?_cons_succ, List.getElem?_cons_zero]; rfl)
    case hy5 => refine Or.inl ⟨by rfl, ?_⟩; intro w hSw; (try dsimp only at hSw); go_simp <;> with_reducible rfl
    case hQ5 => exact fun _ _ _ h => h
    try simp only [Act.put, List.setIfInBounds_toArray, List.set_cons_zero, List.set_cons_succ]
    refine' wpAnyH_take (i := 6) (v := _) ?hi6 (by kernel_rfl) (by kernel_rfl) (by kernel_rfl) ?hQ6 ?hy6 (by assumption) ?_
    case hi6 => (simp only [List.getElem?_toArray, List.getElem?_cons_succ, List.getElem?_cons_zero]; rfl)
    case hy6 => refine Or.inl ⟨by rfl, ?_⟩; intro w hSw; (try dsimp only at hSw); go_simp <;> with_reducible rfl
    case hQ6 => exact fun _ _ _ h => h
    try simp only [Act.put, List.setIfInBounds_toArray, List.set_cons_zero, List.set_cons_succ]
    refine wpAnyH_ready (rs := [4]) (by kernel_rfl) (by simp) ?_
    refine AllReadyH.cons rfl (fun KK hKK => ?_) AllReadyH.nil
    go_simp
    go_at_call 103; refine (pow_any p q g g1 x _ h b1.1 b1.2 hx.1 hx.2).mono ?_; rintro en w3 ⟨he, hb3⟩; rw [HA.out] at he; subst he; have hx3 := Ext.trans (w := Wb) (by repeat (first | with_reducible assumption | with_reducible exact Ext.refl _ | with_reducible apply Ext.alloc | with_reducible apply Ext.drew | with_reducible apply Ext.drewN)) hb3
    refine hKK.out _ _ ?_ (fun hHeld => ?_)
    · exact hS _ (by repeat (first | with_reducible assumption | with_reducible exact Ext.refl _ | with_reducible apply Ext.alloc | with_reducible apply Ext.drew | with_reducible apply Ext.drewN))
    clear hKK KK
    try simp only [Act.put, List.setIfInBounds_toArray, List.set_cons_zero, List.set_cons_succ]
    refine' wpAnyH_take (i := 7) (v := _) ?hi7 (by kernel_rfl) (by kernel_rfl) (by kernel_rfl) ?hQ7 ?hy7 (by assumption) ?_
    case hi7 => (simp only [List.getElem?_toArray, List.getElem?_cons_succ, List.getElem?_cons_zero]; rfl)
    case hy7 => refine Or.inl ⟨by rfl, ?_⟩; intro w hSw; (try dsimp only at hSw); go_simp <;> with_reducible rfl
    case hQ7 => exact fun _ _ _ h => h
    try simp only [Act.put, List.setIfInBounds_toArray, List.set_cons_zero, List.set_cons_succ]
    refine' wpAnyH_take (i := 8) (v := _) ?hi8 (by kernel_rfl) (by kernel_rfl) (by kernel_rfl) ?hQ8 ?hy8 (by assumption) ?_
    case hi8 => (simp only [List.getElem?_toArray, List.getElem?_cons_succ, List.getElem?_cons_zero]; rfl)
    case hy8 => refine Or.inl ⟨by rfl, ?_⟩; intro w hSw; (try dsimp only at hSw); go_simp <;> with_reducible rfl
    case hQ8 => exact fun _ _ _ h => h
    try simp only [Act.put, List.setIfInBounds_toArray, List.set_cons_zero, List.set_cons_succ]
    refine' wpAnyH_take (i := 9) (v := undef) ?hi9 (by kernel_rfl) (by kernel_rfl) (by kernel_rfl) ?hQ9 ?hy9 (by assumption) ?_
    case hi9 => (simp only [List.getElem?_toArray, List.getElem?_cons_succ, List.getElem?_cons_zero]; rfl)
    case hQ9 => exact fun _ _ _ h => h
    case hy9 => exact Or.inr ⟨by rfl, rfl⟩
    try simp only [Act.put, List.setIfInBounds_toArray, List.set_cons_zero, List.set_cons_succ]
    refine' wpAnyH_take (i := 10) (v := undef) ?hi10 (by kernel_rfl) (by kernel_rfl) (by kernel_rfl) ?hQ10 ?hy10 (by assumption) ?_
    case hi10 => (simp only [List.getElem?_toArray, List.getElem?_cons_succ, List.getElem?_cons_zero]; rfl)
    case hQ10 => exact fun _ _ _ h => h
    case hy10 => exact Or.inr ⟨by rfl, rfl⟩
    try simp only [Act.put, List.setIfInBounds_toArray, List.set_cons_zero, List.set_cons_succ]
    refine' wpAnyH_take (i := 11) (v := undef) ?hi11 (by kernel_rfl) (by kernel_rfl) (by kernel_rfl) ?hQ11 ?hy11 (by assumption) ?_
    case hi11 => (simp only [List.getElem?_toArray, List.getElem?_cons_succ, List.getElem?_cons_zero]; rfl)
    case hQ11 => exact fun _ _ _ h => h
    case hy11 => exact Or.inr ⟨by rfl, rfl⟩
    try simp only [Act.put, List.setIfInBounds_toArray, List.set_cons_zero, List.set_cons_succ]
    refine' wpAnyH_take (i := 12) (v := undef) ?hi12 (by kernel_rfl) (by kernel_rfl) (by kernel_rfl) ?hQ12 ?hy12 (by assumption) ?_
    case hi12 => (simp only [List.getElem?_toArray, List.getElem?_cons_succ, List.getElem?_cons_zero]; rfl)
    case hQ12 => exact fun _ _ _ h => h
    case hy12 => exact Or.inr ⟨by rfl, rfl⟩
    try simp only [Act.put, List.setIfInBounds_toArray, List.set_cons_zero, List.set_cons_succ]
    refine' wpAnyH_take (i := 13) (v := undef) ?hi13 (by kernel_rfl) (by kernel_rfl) (by kernel_rfl) ?hQ13 ?hy13 (by assumption) ?_
    case hi13 => (simp only [List.getElem?_toArray, List.getElem?_cons_succ, List.getElem?_cons_zero]; rfl)
    case hQ13 => exact fun _ _ _ h => h
    case hy13 => exact Or.inr ⟨by rfl, rfl⟩
    try simp only [Act.put, List.setIfInBounds_toArray, List.set_cons_zero, List.set_cons_succ]
    refine' wpAnyH_take (i := 14) (v := undef) ?hi14 (by kernel_rfl) (by kernel_rfl) (by kernel_rfl) ?hQ14 ?hy14 (by assumption) ?_
    case hi14 => (simp only [List.getElem?_toArray, List.getElem?_cons_succ, List.getElem?_cons_zero]; rfl)
    case hQ14 => exact fun _ _ _ h => h
    case hy14 => exact Or.inr ⟨by rfl, rfl⟩
    try simp only [Act.put, List.setIfInBounds_toArray, List.set_cons_zero, List.set_cons_succ]
    refine' wpAnyH_take (i := 15) (v := undef) ?hi15 (by kernel_rfl) (by kernel_rfl) (by kernel_rfl) ?hQ15 ?hy15 (by assumption) ?_
    case hi15 => (simp only [List.getElem?_toArray, List.getElem?_cons_succ, List.getElem?_cons_zero]; rfl)
    case hQ15 => exact fun _ _ _ h => h
    case hy15 => exact Or.inr ⟨by rfl, rfl⟩
    try simp only [Act.put, List.setIfInBounds_toArray, List.set_cons_zero, List.set_cons_succ]
    refine' wpAnyH_take (i := 16) (v := undef) ?hi16 (by kernel_rfl) (by kernel_rfl) (by kernel_rfl) ?hQ16 ?hy16 (by assumption) ?_
    case hi16 => (simp only [List.getElem?_toArray, List.getElem?_cons_succ, List.getElem?_cons_zero]; rfl)
    case hQ16 => exact fun _ _ _ h => h
    case hy16 => exact Or.inr ⟨by rfl, rfl⟩
    try simp only [Act.put, List.setIfInBounds_toArray, List.set_cons_zero, List.set_cons_succ]
    refine' wpAnyH_take (i := 17) (v := _) ?hi17 (by kernel_rfl) (by kernel_rfl) (by kernel_rfl) ?hQ17 ?hy17 (by assumption) ?_
    case hi17 => (simp only [List.getElem?_toArray, List.getElem?_cons_succ, List.getElem?_cons_zero]; rfl)
    case hy17 => refine Or.inl ⟨by rfl, ?_⟩; intro w hSw; (try dsimp only at hSw); go_simp <;> with_reducible rfl
    case hQ17 => exact fun _ _ _ h => h
    try simp only [Act.put, List.setIfInBounds_toArray, List.set_cons_zero, List.set_cons_succ]
    refine' wpAnyH_take (i := 18) (v := _) ?hi18 (by kernel_rfl) (by kernel_rfl) (by kernel_rfl) ?hQ18 ?hy18 (by assumption) ?_
    case hi18 => (simp only [List.getElem?_toArray, List.getElem?_cons_succ, List.getElem?_cons_zero]; rfl)
    case hy18 => refine Or.inl ⟨by rfl, ?_⟩; intro w hSw; (try dsimp only at hSw); go_simp <;> with_reducible rfl
    case hQ18 => exact fun _ _ _ h => h
    try simp only [Act.put, List.setIfInBounds_toArray, List.set_cons_zero, List.set_cons_succ]
    refine wpAnyH_done (by kernel_rfl) ?_ _
    go_wp2
    go_ret
    exact ⟨rfl, E.trans hx3⟩
set_option maxRecDepth 100000 in
set_option maxHeartbeats 4000000 in
theorem sTrue_any (p q g g1 y1 g2 y2 x : Int) (w : World) (h : GrpB p q) (b1 : 0 ≤ g1 ∧ g1 ≤ 3000000000) (b2 : 0 ≤ g2 ∧ g2 ≤ 3000000000) (hx : -9000000000000000000 ≤ x ∧ x ≤ 9000000000000000000) :
    Calls Try.prog 141 #[.agg #[.int .i64 p, .int .i64 q, .int .i64 g], .agg #[.int .i64 g1, .int .i64 y1, .int .i64 g2, .int .i64 y2], .int .i64 x] w fun en w' => en = .returned (.bool (teV p q g1 y1 g2 y2 x)) ∧ Ext w w' := by
  have E := (((Ext.refl w).alloc (.cells #[.int .i64 p, .int .i64 q, .int .i64 g] 38)).alloc (.cells #[.int .i64 g1, .int .i64 y1, .int .i64 g2, .int .i64 y2] 53))
  have B0 := ((Blk.new w 38 #[.int .i64 p, .int .i64 q, .int .i64 g]).alloc (.cells #[.int .i64 g1, .int .i64 y1, .int .i64 g2, .int .i64 y2] 53))
  have B1 := (Blk.new (w.alloc (.cells #[.int .i64 p, .int .i64 q, .int .i64 g] 38)) 53 #[.int .i64 g1, .int .i64 y1, .int .i64 g2, .int .i64 y2])
  simp only [World.size_alloc] at B1
  obtain ⟨a, ha⟩ : ∃ a, gpw p q g1 x = a := ⟨_, rfl⟩
  obtain ⟨b, hb⟩ : ∃ b, gpw p q g2 x = b := ⟨_, rfl⟩
  have HA := Lib.hid ha
  have HB := Lib.hid hb
  have hv : teV p q g1 y1 g2 y2 x = ((a == y1) && (b == y2)) := by unfold teV; rw [ha, hb]
  rw [hv]
  clear ha hb hv
  by_cases h1 : a = y1
  · have e1 : (a == y1) = true := by simp [h1]
    rw [e1, Bool.true_and]
    clear h1
    go_enter Try.func141, Try.ntmps141
    go_wp2
    generalize (w.alloc (.cells #[.int .i64 p, .int .i64 q, .int .i64 g] 38)).alloc (.cells #[.int .i64 g1, .int .i64 y1, .int .i64 g2, .int .i64 y2] 53) = Wb at *
    have hS : ∀ V, Ext Wb V → V.cell? ⟨w.heap.size, 0, none⟩ = some (.int .i64 p) ∧ V.cell? ⟨w.heap.size, 1, none⟩ = some (.int .i64 q) ∧ V.cell? ⟨w.heap.size, 2, none⟩ = some (.int .i64 g) ∧ V.cell? ⟨w.heap.size + 1, 0, none⟩ = some (.int .i64 g1) ∧ V.cell? ⟨w.heap.size + 1, 1, none⟩ = some (.int .i64 y1) ∧ V.cell? ⟨w.heap.size + 1, 2, none⟩ = some (.int .i64 g2) ∧ V.cell? ⟨w.heap.size + 1, 3, none⟩ = some (.int .i64 y2) := fun V hV => by
      have a0 := (B0.ext hV).cells
      have a1 := (B1.ext hV).cells
      exact ⟨a0 0, a0 1, a0 2, a1 0, a1 1, a1 2, a1 3⟩
    refine wp_region_held_drew (S := fun V => V.cell? ⟨w.heap.size, 0, none⟩ = some (.int .i64 p) ∧ V.cell? ⟨w.heap.size, 1, none⟩ = some (.int .i64 q) ∧ V.cell? ⟨w.heap.size, 2, none⟩ = some (.int .i64 g) ∧ V.cell? ⟨w.heap.size + 1, 0, none⟩ = some (.int .i64 g1) ∧ V.cell? ⟨w.heap.size + 1, 1, none⟩ = some (.int .i64 y1) ∧ V.cell? ⟨w.heap.size + 1, 2, none⟩ = some (.int .i64 g2) ∧ V.cell? ⟨w.heap.size + 1, 3, none⟩ = some (.int .i64 y2)) (by kernel_rfl) ?_ (fun hHeld => ?_)
    · exact hS _ (by repeat (first | with_reducible assumption | with_reducible exact Ext.refl _ | with_reducible apply Ext.alloc | with_reducible apply Ext.drew | with_reducible apply Ext.drewN))
    refine' wpAnyH_take (i := 0) (v := _) ?hi0 (by kernel_rfl) (by kernel_rfl) (by kernel_rfl) ?hQ0 ?hy0 (by assumption) ?_
    case hi0 => (simp only [List.getElem?_toArray, List.getElem?_cons_zero]; rfl)
    case hy0 => refine Or.inl ⟨by rfl, ?_⟩; intro w hSw; (try dsimp only at hSw); go_simp <;> with_reducible rfl
    case hQ0 => exact fun _ _ _ h => h
    try simp only [Act.put, List.setIfInBounds_toArray, List.set_cons_zero, List.set_cons_succ]
    refine' wpAnyH_take (i := 1) (v := _) ?hi1 (by kernel_rfl) (by kernel_rfl) (by kernel_rfl) ?hQ1 ?hy1 (by assumption) ?_
    case hi1 => (simp only [List.getElem?_toArray, List.getElem?_cons_succ, List.getElem?_cons_zero]; rfl)
    case hy1 => refine Or.inl ⟨by rfl, ?_⟩; intro w hSw; (try dsimp only at hSw); go_simp <;> with_reducible rfl
    case hQ1 => exact fun _ _ _ h => h
    try simp only [Act.put, List.setIfInBounds_toArray, List.set_cons_zero, List.set_cons_succ]
    refine' wpAnyH_take (i := 2) (v := _) ?hi2 (by kernel_rfl) (by kernel_rfl) (by kernel_rfl) ?hQ2 ?hy2 (by assumption) ?_
    case hi2 => (simp only [List.getElem?_toArray, List.getElem?_cons_succ, List.getElem?_cons_zero]; rfl)
    case hy2 => refine Or.inl ⟨by rfl, ?_⟩; intro w hSw; (try dsimp only at hSw); go_simp <;> with_reducible rfl
    case hQ2 => exact fun _ _ _ h => h
    try simp only [Act.put, List.setIfInBounds_toArray, List.set_cons_zero, List.set_cons_succ]
    refine' wpAnyH_take (i := 3) (v := _) ?hi3 (by kernel_rfl) (by kernel_rfl) (by kernel_rfl) ?hQ3 ?hy3 (by assumption) ?_
    case hi3 => (simp only [List.getElem?_toArray, List.getElem?_cons_succ, List.getElem?_cons_zero]; rfl)
    case hy3 => refine Or.inl ⟨by rfl, ?_⟩; intro w hSw; (try dsimp only at hSw); go_simp <;> with_reducible rfl
    case hQ3 => exact fun _ _ _ h => h
    try simp only [Act.put, List.setIfInBounds_toArray, List.set_cons_zero, List.set_cons_succ]
    refine' wpAnyH_take (i := 5) (v := _) ?hi5 (by kernel_rfl) (by kernel_rfl) (by kernel_rfl) ?hQ5 ?hy5 (by assumption) ?_
    case hi5 => (simp only [List.getElem?_toArray, List.getElem?_cons_succ, List.getElem?_cons_zero]; rfl)
    case hy5 => refine Or.inl ⟨by rfl, ?_⟩; intro w hSw; (try dsimp only at hSw); go_simp <;> with_reducible rfl
    case hQ5 => exact fun _ _ _ h => h
    try simp only [Act.put, List.setIfInBounds_toArray, List.set_cons_zero, List.set_cons_succ]
    refine' wpAnyH_take (i := 6) (v := _) ?hi6 (by kernel_rfl) (by kernel_rfl) (by kernel_rfl) ?hQ6 ?hy6 (by assumption) ?_
    case hi6 => (simp only [List.getElem?_toArray, List.getElem?_cons_succ, List.getElem?_cons_zero]; rfl)
    case hy6 => refine Or.inl ⟨by rfl, ?_⟩; intro w hSw; (try dsimp only at hSw); go_simp <;> with_reducible rfl
    case hQ6 => exact fun _ _ _ h => h
    try simp only [Act.put, List.setIfInBounds_toArray, List.set_cons_zero, List.set_cons_succ]
    refine wpAnyH_ready (rs := [4]) (by kernel_rfl) (by simp) ?_
    refine AllReadyH.cons rfl (fun KK hKK => ?_) AllReadyH.nil
    go_simp
    go_at_call 93; refine (gExp_any p q g g1 x _ h b1.1 b1.2 hx.1 hx.2).mono ?_; rintro en w3 ⟨he, hb3⟩; rw [HA.out] at he; subst he; have hx3 := Ext.trans (w := Wb) (by repeat (first | with_reducible assumption | with_reducible exact Ext.refl _ | with_reducible apply Ext.alloc | with_reducible apply Ext.drew | with_reducible apply Ext.drewN)) hb3
    refine hKK.out _ _ ?_ (fun hHeld => ?_)
    · exact hS _ (by repeat (first | with_reducible assumption | with_reducible exact Ext.refl _ | with_reducible apply Ext.alloc | with_reducible apply Ext.drew | with_reducible apply Ext.drewN))
    clear hKK KK
    try simp only [Act.put, List.setIfInBounds_toArray, List.set_cons_zero, List.set_cons_succ]
    refine' wpAnyH_take (i := 7) (v := _) ?hi7 (by kernel_rfl) (by kernel_rfl) (by kernel_rfl) ?hQ7 ?hy7 (by assumption) ?_
    case hi7 => (simp only [List.getElem?_toArray, List.getElem?_cons_succ, List.getElem?_cons_zero]; rfl)
    case hy7 => refine Or.inl ⟨by rfl, ?_⟩; intro w hSw; (try dsimp only at hSw); go_simp <;> with_reducible rfl
    case hQ7 => exact fun _ _ _ h => h
    try simp only [Act.put, List.setIfInBounds_toArray, List.set_cons_zero, List.set_cons_succ]
    refine' wpAnyH_take (i := 8) (v := _) ?hi8 (by kernel_rfl) (by kernel_rfl) (by kernel_rfl) ?hQ8 ?hy8 (by assumption) ?_
    case hi8 => (simp only [List.getElem?_toArray, List.getElem?_cons_succ, List.getElem?_cons_zero]; rfl)
    case hy8 => refine Or.inl ⟨by rfl, ?_⟩; intro w hSw; (try dsimp only at hSw); go_simp <;> with_reducible rfl
    case hQ8 => exact fun _ _ _ h => h
    try simp only [Act.put, List.setIfInBounds_toArray, List.set_cons_zero, List.set_cons_succ]
    refine' wpAnyH_take (i := 9) (v := _) ?hi9 (by kernel_rfl) (by kernel_rfl) (by kernel_rfl) ?hQ9 ?hy9 (by assumption) ?_
    case hi9 => (simp only [List.getElem?_toArray, List.getElem?_cons_succ, List.getElem?_cons_zero]; rfl)
    case hy9 => refine Or.inl ⟨by rfl, ?_⟩; intro w hSw; (try dsimp only at hSw); go_simp <;> with_reducible rfl
    case hQ9 => exact fun _ _ _ h => h
    try simp only [Act.put, List.setIfInBounds_toArray, List.set_cons_zero, List.set_cons_succ]
    refine' wpAnyH_take (i := 10) (v := _) ?hi10 (by kernel_rfl) (by kernel_rfl) (by kernel_rfl) ?hQ10 ?hy10 (by assumption) ?_
    case hi10 => (simp only [List.getElem?_toArray, List.getElem?_cons_succ, List.getElem?_cons_zero]; rfl)
    case hy10 => refine Or.inl ⟨by rfl, ?_⟩; intro w hSw; (try dsimp only at hSw); go_simp <;> with_reducible rfl
    case hQ10 => exact fun _ _ _ h => h
    try simp only [Act.put, List.setIfInBounds_toArray, List.set_cons_zero, List.set_cons_succ]
    refine' wpAnyH_take (i := 11) (v := _) ?hi11 (by kernel_rfl) (by kernel_rfl) (by kernel_rfl) ?hQ11 ?hy11 (by assumption) ?_
    case hi11 => (simp only [List.getElem?_toArray, List.getElem?_cons_succ, List.getElem?_cons_zero]; rfl)
    case hy11 => refine Or.inl ⟨by rfl, ?_⟩; intro w hSw; (try dsimp only at hSw); go_simp <;> with_reducible rfl
    case hQ11 => exact fun _ _ _ h => h
    try simp only [Act.put, List.setIfInBounds_toArray, List.set_cons_zero, List.set_cons_succ]
    refine' wpAnyH_take (i := 12) (v := _) ?hi12 (by kernel_rfl) (by kernel_rfl) (by kernel_rfl) ?hQ12 ?hy12 (by assumption) ?_
    case hi12 => (simp only [List.getElem?_toArray, List.getElem?_cons_succ, List.getElem?_cons_zero]; rfl)
    case hy12 => refine Or.inl ⟨by rfl, ?_⟩; intro w hSw; (try dsimp only at hSw); go_simp <;> with_reducible rfl
    case hQ12 => exact fun _ _ _ h => h
    try simp only [Act.put, List.setIfInBounds_toArray, List.set_cons_zero, List.set_cons_succ]
    refine' wpAnyH_take (i := 14) (v := _) ?hi14 (by kernel_rfl) (by kernel_rfl) (by kernel_rfl) ?hQ14 ?hy14 (by assumption) ?_
    case hi14 => (simp only [List.getElem?_toArray, List.getElem?_cons_succ, List.getElem?_cons_zero]; rfl)
    case hy14 => refine Or.inl ⟨by rfl, ?_⟩; intro w hSw; (try dsimp only at hSw); go_simp <;> with_reducible rfl
    case hQ14 => exact fun _ _ _ h => h
    try simp only [Act.put, List.setIfInBounds_toArray, List.set_cons_zero, List.set_cons_succ]
    refine' wpAnyH_take (i := 15) (v := _) ?hi15 (by kernel_rfl) (by kernel_rfl) (by kernel_rfl) ?hQ15 ?hy15 (by assumption) ?_
    case hi15 => (simp only [List.getElem?_toArray, List.getElem?_cons_succ, List.getElem?_cons_zero]; rfl)
    case hy15 => refine Or.inl ⟨by rfl, ?_⟩; intro w hSw; (try dsimp only at hSw); go_simp <;> with_reducible rfl
    case hQ15 => exact fun _ _ _ h => h
    try simp only [Act.put, List.setIfInBounds_toArray, List.set_cons_zero, List.set_cons_succ]
    refine wpAnyH_ready (rs := [13]) (by kernel_rfl) (by simp) ?_
    refine AllReadyH.cons rfl (fun KK hKK => ?_) AllReadyH.nil
    go_simp
    go_at_call 93; refine (gExp_any p q g g2 x _ h b2.1 b2.2 hx.1 hx.2).mono ?_; rintro en w4 ⟨he, hb4⟩; rw [HB.out] at he; subst he; have hx4 := Ext.trans (w := Wb) (Ext.trans hx3 (by repeat (first | with_reducible assumption | with_reducible exact Ext.refl _ | with_reducible apply Ext.alloc | with_reducible apply Ext.drew | with_reducible apply Ext.drewN))) hb4
    refine hKK.out _ _ ?_ (fun hHeld => ?_)
    · exact hS _ (by repeat (first | with_reducible assumption | with_reducible exact Ext.refl _ | with_reducible apply Ext.alloc | with_reducible apply Ext.drew | with_reducible apply Ext.drewN))
    clear hKK KK
    try simp only [Act.put, List.setIfInBounds_toArray, List.set_cons_zero, List.set_cons_succ]
    refine' wpAnyH_take (i := 16) (v := _) ?hi16 (by kernel_rfl) (by kernel_rfl) (by kernel_rfl) ?hQ16 ?hy16 (by assumption) ?_
    case hi16 => (simp only [List.getElem?_toArray, List.getElem?_cons_succ, List.getElem?_cons_zero]; rfl)
    case hy16 => refine Or.inl ⟨by rfl, ?_⟩; intro w hSw; (try dsimp only at hSw); go_simp <;> with_reducible rfl
    case hQ16 => exact fun _ _ _ h => h
    try simp only [Act.put, List.setIfInBounds_toArray, List.set_cons_zero, List.set_cons_succ]
    refine' wpAnyH_take (i := 17) (v := _) ?hi17 (by kernel_rfl) (by kernel_rfl) (by kernel_rfl) ?hQ17 ?hy17 (by assumption) ?_
    case hi17 => (simp only [List.getElem?_toArray, List.getElem?_cons_succ, List.getElem?_cons_zero]; rfl)
    case hy17 => refine Or.inl ⟨by rfl, ?_⟩; intro w hSw; (try dsimp only at hSw); go_simp <;> with_reducible rfl
    case hQ17 => exact fun _ _ _ h => h
    try simp only [Act.put, List.setIfInBounds_toArray, List.set_cons_zero, List.set_cons_succ]
    refine' wpAnyH_take (i := 18) (v := _) ?hi18 (by kernel_rfl) (by kernel_rfl) (by kernel_rfl) ?hQ18 ?hy18 (by assumption) ?_
    case hi18 => (simp only [List.getElem?_toArray, List.getElem?_cons_succ, List.getElem?_cons_zero]; rfl)
    case hy18 => refine Or.inl ⟨by rfl, ?_⟩; intro w hSw; (try dsimp only at hSw); go_simp <;> with_reducible rfl
    case hQ18 => exact fun _ _ _ h => h
    try simp only [Act.put, List.setIfInBounds_toArray, List.set_cons_zero, List.set_cons_succ]
    refine wpAnyH_done (by kernel_rfl) ?_ _
    go_wp2
    go_ret
    exact ⟨rfl, E.trans hx4⟩
  · have e1 : (a == y1) = false := by simp [h1]
    rw [e1, Bool.false_and]
    clear h1
    go_enter Try.func141, Try.ntmps141
    go_wp2
    generalize (w.alloc (.cells #[.int .i64 p, .int .i64 q, .int .i64 g] 38)).alloc (.cells #[.int .i64 g1, .int .i64 y1, .int .i64 g2, .int .i64 y2] 53) = Wb at *
    have hS : ∀ V, Ext Wb V → V.cell? ⟨w.heap.size, 0, none⟩ = some (.int .i64 p) ∧ V.cell? ⟨w.heap.size, 1, none⟩ = some (.int .i64 q) ∧ V.cell? ⟨w.heap.size, 2, none⟩ = some (.int .i64 g) ∧ V.cell? ⟨w.heap.size + 1, 0, none⟩ = some (.int .i64 g1) ∧ V.cell? ⟨w.heap.size + 1, 1, none⟩ = some (.int .i64 y1) ∧ V.cell? ⟨w.heap.size + 1, 2, none⟩ = some (.int .i64 g2) ∧ V.cell? ⟨w.heap.size + 1, 3, none⟩ = some (.int .i64 y2) := fun V hV => by
      have a0 := (B0.ext hV).cells
      have a1 := (B1.ext hV).cells
      exact ⟨a0 0, a0 1, a0 2, a1 0, a1 1, a1 2, a1 3⟩
    refine wp_region_held_drew (S := fun V => V.cell? ⟨w.heap.size, 0, none⟩ = some (.int .i64 p) ∧ V.cell? ⟨w.heap.size, 1, none⟩ = some (.int .i64 q) ∧ V.cell? ⟨w.heap.size, 2, none⟩ = some (.int .i64 g) ∧ V.cell? ⟨w.heap.size + 1, 0, none⟩ = some (.int .i64 g1) ∧ V.cell? ⟨w.heap.size + 1, 1, none⟩ = some (.int .i64 y1) ∧ V.cell? ⟨w.heap.size + 1, 2, none⟩ = some (.int .i64 g2) ∧ V.cell? ⟨w.heap.size + 1, 3, none⟩ = some (.int .i64 y2)) (by kernel_rfl) ?_ (fun hHeld => ?_)
    · exact hS _ (by repeat (first | with_reducible assumption | with_reducible exact Ext.refl _ | with_reducible apply Ext.alloc | with_reducible apply Ext.drew | with_reducible apply Ext.drewN))
    refine' wpAnyH_take (i := 0) (v := _) ?hi0 (by kernel_rfl) (by kernel_rfl) (by kernel_rfl) ?hQ0 ?hy0 (by assumption) ?_
    case hi0 => (simp only [List.getElem?_toArray, List.getElem?_cons_zero]; rfl)
    case hy0 => refine Or.inl ⟨by rfl, ?_⟩; intro w hSw; (try dsimp only at hSw); go_simp <;> with_reducible rfl
    case hQ0 => exact fun _ _ _ h => h
    try simp only [Act.put, List.setIfInBounds_toArray, List.set_cons_zero, List.set_cons_succ]
    refine' wpAnyH_take (i := 1) (v := _) ?hi1 (by kernel_rfl) (by kernel_rfl) (by kernel_rfl) ?hQ1 ?hy1 (by assumption) ?_
    case hi1 => (simp only [List.getElem?_toArray, List.getElem?_cons_succ, List.getElem?_cons_zero]; rfl)
    case hy1 => refine Or.inl ⟨by rfl, ?_⟩; intro w hSw; (try dsimp only at hSw); go_simp <;> with_reducible rfl
    case hQ1 => exact fun _ _ _ h => h
    try simp only [Act.put, List.setIfInBounds_toArray, List.set_cons_zero, List.set_cons_succ]
    refine' wpAnyH_take (i := 2) (v := _) ?hi2 (by kernel_rfl) (by kernel_rfl) (by kernel_rfl) ?hQ2 ?hy2 (by assumption) ?_
    case hi2 => (simp only [List.getElem?_toArray, List.getElem?_cons_succ, List.getElem?_cons_zero]; rfl)
    case hy2 => refine Or.inl ⟨by rfl, ?_⟩; intro w hSw; (try dsimp only at hSw); go_simp <;> with_reducible rfl
    case hQ2 => exact fun _ _ _ h => h
    try simp only [Act.put, List.setIfInBounds_toArray, List.set_cons_zero, List.set_cons_succ]
    refine' wpAnyH_take (i := 3) (v := _) ?hi3 (by kernel_rfl) (by kernel_rfl) (by kernel_rfl) ?hQ3 ?hy3 (by assumption) ?_
    case hi3 => (simp only [List.getElem?_toArray, List.getElem?_cons_succ, List.getElem?_cons_zero]; rfl)
    case hy3 => refine Or.inl ⟨by rfl, ?_⟩; intro w hSw; (try dsimp only at hSw); go_simp <;> with_reducible rfl
    case hQ3 => exact fun _ _ _ h => h
    try simp only [Act.put, List.setIfInBounds_toArray, List.set_cons_zero, List.set_cons_succ]
    refine' wpAnyH_take (i := 5) (v := _) ?hi5 (by kernel_rfl) (by kernel_rfl) (by kernel_rfl) ?hQ5 ?hy5 (by assumption) ?_
    case hi5 => (simp only [List.getElem?_toArray, List.getElem?_cons_succ, List.getElem?_cons_zero]; rfl)
    case hy5 => refine Or.inl ⟨by rfl, ?_⟩; intro w hSw; (try dsimp only at hSw); go_simp <;> with_reducible rfl
    case hQ5 => exact fun _ _ _ h => h
    try simp only [Act.put, List.setIfInBounds_toArray, List.set_cons_zero, List.set_cons_succ]
    refine' wpAnyH_take (i := 6) (v := _) ?hi6 (by kernel_rfl) (by kernel_rfl) (by kernel_rfl) ?hQ6 ?hy6 (by assumption) ?_
    case hi6 => (simp only [List.getElem?_toArray, List.getElem?_cons_succ, List.getElem?_cons_zero]; rfl)
    case hy6 => refine Or.inl ⟨by rfl, ?_⟩; intro w hSw; (try dsimp only at hSw); go_simp <;> with_reducible rfl
    case hQ6 => exact fun _ _ _ h => h
    try simp only [Act.put, List.setIfInBounds_toArray, List.set_cons_zero, List.set_cons_succ]
    refine wpAnyH_ready (rs := [4]) (by kernel_rfl) (by simp) ?_
    refine AllReadyH.cons rfl (fun KK hKK => ?_) AllReadyH.nil
    go_simp
    go_at_call 93; refine (gExp_any p q g g1 x _ h b1.1 b1.2 hx.1 hx.2).mono ?_; rintro en w3 ⟨he, hb3⟩; rw [HA.out] at he; subst he; have hx3 := Ext.trans (w := Wb) (by repeat (first | with_reducible assumption | with_reducible exact Ext.refl _ | with_reducible apply Ext.alloc | with_reducible apply Ext.drew | with_reducible apply Ext.drewN)) hb3
    refine hKK.out _ _ ?_ (fun hHeld => ?_)
    · exact hS _ (by repeat (first | with_reducible assumption | with_reducible exact Ext.refl _ | with_reducible apply Ext.alloc | with_reducible apply Ext.drew | with_reducible apply Ext.drewN))
    clear hKK KK
    try simp only [Act.put, List.setIfInBounds_toArray, List.set_cons_zero, List.set_cons_succ]
    refine' wpAnyH_take (i := 7) (v := _) ?hi7 (by kernel_rfl) (by kernel_rfl) (by kernel_rfl) ?hQ7 ?hy7 (by assumption) ?_
    case hi7 => (simp only [List.getElem?_toArray, List.getElem?_cons_succ, List.getElem?_cons_zero]; rfl)
    case hy7 => refine Or.inl ⟨by rfl, ?_⟩; intro w hSw; (try dsimp only at hSw); go_simp <;> with_reducible rfl
    case hQ7 => exact fun _ _ _ h => h
    try simp only [Act.put, List.setIfInBounds_toArray, List.set_cons_zero, List.set_cons_succ]
    refine' wpAnyH_take (i := 8) (v := _) ?hi8 (by kernel_rfl) (by kernel_rfl) (by kernel_rfl) ?hQ8 ?hy8 (by assumption) ?_
    case hi8 => (simp only [List.getElem?_toArray, List.getElem?_cons_succ, List.getElem?_cons_zero]; rfl)
    case hy8 => refine Or.inl ⟨by rfl, ?_⟩; intro w hSw; (try dsimp only at hSw); go_simp <;> with_reducible rfl
    case hQ8 => exact fun _ _ _ h => h
    try simp only [Act.put, List.setIfInBounds_toArray, List.set_cons_zero, List.set_cons_succ]
    refine' wpAnyH_take (i := 9) (v := undef) ?hi9 (by kernel_rfl) (by kernel_rfl) (by kernel_rfl) ?hQ9 ?hy9 (by assumption) ?_
    case hi9 => (simp only [List.getElem?_toArray, List.getElem?_cons_succ, List.getElem?_cons_zero]; rfl)
    case hQ9 => exact fun _ _ _ h => h
    case hy9 => exact Or.inr ⟨by rfl, rfl⟩
    try simp only [Act.put, List.setIfInBounds_toArray, List.set_cons_zero, List.set_cons_succ]
    refine' wpAnyH_take (i := 10) (v := undef) ?hi10 (by kernel_rfl) (by kernel_rfl) (by kernel_rfl) ?hQ10 ?hy10 (by assumption) ?_
    case hi10 => (simp only [List.getElem?_toArray, List.getElem?_cons_succ, List.getElem?_cons_zero]; rfl)
    case hQ10 => exact fun _ _ _ h => h
    case hy10 => exact Or.inr ⟨by rfl, rfl⟩
    try simp only [Act.put, List.setIfInBounds_toArray, List.set_cons_zero, List.set_cons_succ]
    refine' wpAnyH_take (i := 11) (v := undef) ?hi11 (by kernel_rfl) (by kernel_rfl) (by kernel_rfl) ?hQ11 ?hy11 (by assumption) ?_
    case hi11 => (simp only [List.getElem?_toArray, List.getElem?_cons_succ, List.getElem?_cons_zero]; rfl)
    case hQ11 => exact fun _ _ _ h => h
    case hy11 => exact Or.inr ⟨by rfl, rfl⟩
    try simp only [Act.put, List.setIfInBounds_toArray, List.set_cons_zero, List.set_cons_succ]
    refine' wpAnyH_take (i := 12) (v := undef) ?hi12 (by kernel_rfl) (by kernel_rfl) (by kernel_rfl) ?hQ12 ?hy12 (by assumption) ?_
    case hi12 => (simp only [List.getElem?_toArray, List.getElem?_cons_succ, List.getElem?_cons_zero]; rfl)
    case hQ12 => exact fun _ _ _ h => h
    case hy12 => exact Or.inr ⟨by rfl, rfl⟩
    try simp only [Act.put, List.setIfInBounds_toArray, List.set_cons_zero, List.set_cons_succ]
    refine' wpAnyH_take (i := 13) (v := undef) ?hi13 (by kernel_rfl) (by kernel_rfl) (by kernel_rfl) ?hQ13 ?hy13 (by assumption) ?_
    case hi13 => (simp only [List.getElem?_toArray, List.getElem?_cons_succ, List.getElem?_cons_zero]; rfl)
    case hQ13 => exact fun _ _ _ h => h
    case hy13 => exact Or.inr ⟨by rfl, rfl⟩
    try simp only [Act.put, List.setIfInBounds_toArray, List.set_cons_zero, List.set_cons_succ]
    refine' wpAnyH_take (i := 14) (v := undef) ?hi14 (by kernel_rfl) (by kernel_rfl) (by kernel_rfl) ?hQ14 ?hy14 (by assumption) ?_
    case hi14 => (simp only [List.getElem?_toArray, List.getElem?_cons_succ, List.getElem?_cons_zero]; rfl)
    case hQ14 => exact fun _ _ _ h => h
    case hy14 => exact Or.inr ⟨by rfl, rfl⟩
    try simp only [Act.put, List.setIfInBounds_toArray, List.set_cons_zero, List.set_cons_succ]
    refine' wpAnyH_take (i := 15) (v := undef) ?hi15 (by kernel_rfl) (by kernel_rfl) (by kernel_rfl) ?hQ15 ?hy15 (by assumption) ?_
    case hi15 => (simp only [List.getElem?_toArray, List.getElem?_cons_succ, List.getElem?_cons_zero]; rfl)
    case hQ15 => exact fun _ _ _ h => h
    case hy15 => exact Or.inr ⟨by rfl, rfl⟩
    try simp only [Act.put, List.setIfInBounds_toArray, List.set_cons_zero, List.set_cons_succ]
    refine' wpAnyH_take (i := 16) (v := undef) ?hi16 (by kernel_rfl) (by kernel_rfl) (by kernel_rfl) ?hQ16 ?hy16 (by assumption) ?_
    case hi16 => (simp only [List.getElem?_toArray, List.getElem?_cons_succ, List.getElem?_cons_zero]; rfl)
    case hQ16 => exact fun _ _ _ h => h
    case hy16 => exact Or.inr ⟨by rfl, rfl⟩
    try simp only [Act.put, List.setIfInBounds_toArray, List.set_cons_zero, List.set_cons_succ]
    refine' wpAnyH_take (i := 17) (v := _) ?hi17 (by kernel_rfl) (by kernel_rfl) (by kernel_rfl) ?hQ17 ?hy17 (by assumption) ?_
    case hi17 => (simp only [List.getElem?_toArray, List.getElem?_cons_succ, List.getElem?_cons_zero]; rfl)
    case hy17 => refine Or.inl ⟨by rfl, ?_⟩; intro w hSw; (try dsimp only at hSw); go_simp <;> with_reducible rfl
    case hQ17 => exact fun _ _ _ h => h
    try simp only [Act.put, List.setIfInBounds_toArray, List.set_cons_zero, List.set_cons_succ]
    refine' wpAnyH_take (i := 18) (v := _) ?hi18 (by kernel_rfl) (by kernel_rfl) (by kernel_rfl) ?hQ18 ?hy18 (by assumption) ?_
    case hi18 => (simp only [List.getElem?_toArray, List.getElem?_cons_succ, List.getElem?_cons_zero]; rfl)
    case hy18 => refine Or.inl ⟨by rfl, ?_⟩; intro w hSw; (try dsimp only at hSw); go_simp <;> with_reducible rfl
    case hQ18 => exact fun _ _ _ h => h
    try simp only [Act.put, List.setIfInBounds_toArray, List.set_cons_zero, List.set_cons_succ]
    refine wpAnyH_done (by kernel_rfl) ?_ _
    go_wp2
    go_ret
    exact ⟨rfl, E.trans hx3⟩
set_option maxRecDepth 100000 in
set_option maxHeartbeats 4000000 in
theorem iIsTrueEqual_any (p q g g1 y1 g2 y2 x : Int) (w : World) :
    Calls Try.prog 22 #[.agg #[.int .i64 p, .int .i64 q, .int .i64 g], .agg #[.int .i64 g1, .int .i64 y1, .int .i64 g2, .int .i64 y2], .int .i64 x] w fun en w' => en = .returned (.tuple #[.bool (teK p q g g1 y1 g2 y2 x && teV p q g1 y1 g2 y2 x), .bool (teK p q g g1 y1 g2 y2 x)]) ∧ Ext w w' := by
  have E := (((Ext.refl w).alloc (.cells #[.int .i64 p, .int .i64 q, .int .i64 g] 38)).alloc (.cells #[.int .i64 g1, .int .i64 y1, .int .i64 g2, .int .i64 y2] 53))
  have B0 := ((Blk.new w 38 #[.int .i64 p, .int .i64 q, .int .i64 g]).alloc (.cells #[.int .i64 g1, .int .i64 y1, .int .i64 g2, .int .i64 y2] 53))
  have B1 := (Blk.new (w.alloc (.cells #[.int .i64 p, .int .i64 q, .int .i64 g] 38)) 53 #[.int .i64 g1, .int .i64 y1, .int .i64 g2, .int .i64 y2])
  simp only [World.size_alloc] at B1
  cases h1 : grpB p q g
  · have H1 := Lib.hid h1
    have hv : teK p q g g1 y1 g2 y2 x = false := by unfold teK; simp only [h1, Bool.true_and, Bool.false_and, Bool.and_false]
    have HV := Lib.hid hv
    clear hv
    clear h1
    go_enter Try.func22, Try.ntmps22
    have CC0 := B0.cells
    have CC1 := B1.cells
    go_wp2_with fail
    refine (IsValidGroup_any p q g _).mono ?_
    rintro en w9 ⟨hen, hb9⟩
    rw [H1.out] at hen; subst hen
    replace E := E.trans hb9
    replace B0 := B0.ext hb9
    replace B1 := B1.ext hb9
    clear hb9 CC0 CC1
    go_wp2
    go_ret2
    exact ⟨by rw [HV.out, Bool.false_and]; rfl, E⟩
  have H1 := Lib.hid h1
  have HB : Hid (GrpB p q) := (grpB_in h1).bd
  cases h2 : eqE p q g1 y1 g2 y2
  · have H2 := Lib.hid h2
    have hv : teK p q g g1 y1 g2 y2 x = false := by unfold teK; simp only [h1, h2, Bool.true_and, Bool.false_and, Bool.and_false]
    have HV := Lib.hid hv
    clear hv
    have HB : Hid (GrpB p q) := (grpB_in h1).bd
    clear h1 h2
    go_enter Try.func22, Try.ntmps22
    have CC0 := B0.cells
    have CC1 := B1.cells
    go_wp2_with fail
    refine (IsValidGroup_any p q g _).mono ?_
    rintro en w9 ⟨hen, hb9⟩
    rw [H1.out] at hen; subst hen
    replace E := E.trans hb9
    replace B0 := B0.ext hb9
    replace B1 := B1.ext hb9
    clear hb9 CC0 CC1
    have CC0 := B0.cells
    have CC1 := B1.cells
    go_wp2_with fail
    refine (hasEqual_any p q g g1 y1 g2 y2 _ HB.out).mono ?_
    rintro en w9 ⟨hen, hb9⟩
    rw [H2.out] at hen; subst hen
    replace E := E.trans hb9
    replace B0 := B0.ext hb9
    replace B1 := B1.ext hb9
    clear hb9 CC0 CC1
    go_wp2
    go_ret2
    exact ⟨by rw [HV.out, Bool.false_and]; rfl, E⟩
  have H2 := Lib.hid h2
  cases h3 : inR x 0 (q - 1)
  · have H3 := Lib.hid h3
    have hv : teK p q g g1 y1 g2 y2 x = false := by unfold teK; simp only [h1, h2, h3, Bool.true_and, Bool.false_and, Bool.and_false]
    have HV := Lib.hid hv
    clear hv
    have HB : Hid (GrpB p q) := (grpB_in h1).bd
    clear h1 h2 h3
    go_enter Try.func22, Try.ntmps22
    have CC0 := B0.cells
    have CC1 := B1.cells
    go_wp2_with fail
    refine (IsValidGroup_any p q g _).mono ?_
    rintro en w9 ⟨hen, hb9⟩
    rw [H1.out] at hen; subst hen
    replace E := E.trans hb9
    replace B0 := B0.ext hb9
    replace B1 := B1.ext hb9
    clear hb9 CC0 CC1
    have CC0 := B0.cells
    have CC1 := B1.cells
    go_wp2_with fail
    refine (hasEqual_any p q g g1 y1 g2 y2 _ HB.out).mono ?_
    rintro en w9 ⟨hen, hb9⟩
    rw [H2.out] at hen; subst hen
    replace E := E.trans hb9
    replace B0 := B0.ext hb9
    replace B1 := B1.ext hb9
    clear hb9 CC0 CC1
    have CC0 := B0.cells
    have CC1 := B1.cells
    go_wp2_with fail
    refine (isExp_any p q g x _ HB.out).mono ?_
    rintro en w9 ⟨hen, hb9⟩
    rw [H3.out] at hen; subst hen
    replace E := E.trans hb9
    replace B0 := B0.ext hb9
    replace B1 := B1.ext hb9
    clear hb9 CC0 CC1
    go_wp2
    go_ret2
    exact ⟨by rw [HV.out, Bool.false_and]; rfl, E⟩
  have H3 := Lib.hid h3
  have hv : teK p q g g1 y1 g2 y2 x = true := by unfold teK; simp only [h1, h2, h3, Bool.and_self]
  have HV := Lib.hid hv
  have hGI := grpB_in h1
  have HB : Hid (GrpB p q) := hGI.bd
  have hp9 := hGI.p9
  have hqp := hGI.qp
  obtain ⟨e1, _, e3, _⟩ := eqE_iff.1 h2
  have b1 := (elB_iff.1 e1).1
  have b2 := (elB_iff.1 e3).1
  have bx := inR_iff.1 h3
  obtain ⟨tv, htv⟩ : ∃ tv, teV p q g1 y1 g2 y2 x = tv := ⟨_, rfl⟩
  have HT := Lib.hid htv
  clear hv h1 h2 h3 htv hGI e1 e3
  go_enter Try.func22, Try.ntmps22
  have CC0 := B0.cells
  have CC1 := B1.cells
  go_wp2_with fail
  refine (IsValidGroup_any p q g _).mono ?_
  rintro en w9 ⟨hen, hb9⟩
  rw [H1.out] at hen; subst hen
  replace E := E.trans hb9
  replace B0 := B0.ext hb9
  replace B1 := B1.ext hb9
  clear hb9 CC0 CC1
  have CC0 := B0.cells
  have CC1 := B1.cells
  go_wp2_with fail
  refine (hasEqual_any p q g g1 y1 g2 y2 _ HB.out).mono ?_
  rintro en w9 ⟨hen, hb9⟩
  rw [H2.out] at hen; subst hen
  replace E := E.trans hb9
  replace B0 := B0.ext hb9
  replace B1 := B1.ext hb9
  clear hb9 CC0 CC1
  have CC0 := B0.cells
  have CC1 := B1.cells
  go_wp2_with fail
  refine (isExp_any p q g x _ HB.out).mono ?_
  rintro en w9 ⟨hen, hb9⟩
  rw [H3.out] at hen; subst hen
  replace E := E.trans hb9
  replace B0 := B0.ext hb9
  replace B1 := B1.ext hb9
  clear hb9 CC0 CC1
  have CC0 := B0.cells
  have CC1 := B1.cells
  go_wp2_with fail
  refine (isTrue_any p q g g1 y1 g2 y2 x _ HB.out (by omega) (by omega) (by omega)).mono ?_
  rintro en w2 ⟨he, hb2⟩
  rw [HT.out] at he; subst he
  go_wp2
  go_ret2
  exact ⟨by rw [HV.out, Bool.true_and, HT.out]; rfl, E.trans hb2⟩
set_option maxRecDepth 100000 in
set_option maxHeartbeats 4000000 in
theorem sIsTrueEqual_any (p q g g1 y1 g2 y2 x : Int) (w : World) :
    Calls Try.prog 68 #[.agg #[.int .i64 p, .int .i64 q, .int .i64 g], .agg #[.int .i64 g1, .int .i64 y1, .int .i64 g2, .int .i64 y2], .int .i64 x] w fun en w' => en = .returned (.tuple #[.bool (teK p q g g1 y1 g2 y2 x && teV p q g1 y1 g2 y2 x), .bool (teK p q g g1 y1 g2 y2 x)]) ∧ Ext w w' := by
  have E := (((Ext.refl w).alloc (.cells #[.int .i64 p, .int .i64 q, .int .i64 g] 38)).alloc (.cells #[.int .i64 g1, .int .i64 y1, .int .i64 g2, .int .i64 y2] 53))
  have B0 := ((Blk.new w 38 #[.int .i64 p, .int .i64 q, .int .i64 g]).alloc (.cells #[.int .i64 g1, .int .i64 y1, .int .i64 g2, .int .i64 y2] 53))
  have B1 := (Blk.new (w.alloc (.cells #[.int .i64 p, .int .i64 q, .int .i64 g] 38)) 53 #[.int .i64 g1, .int .i64 y1, .int .i64 g2, .int .i64 y2])
  simp only [World.size_alloc] at B1
  cases h1 : grpB p q g
  · have H1 := Lib.hid h1
    have hv : teK p q g g1 y1 g2 y2 x = false := by unfold teK; simp only [h1, Bool.true_and, Bool.false_and, Bool.and_false]
    have HV := Lib.hid hv
    clear hv
    clear h1
    go_enter Try.func68, Try.ntmps68
    have CC0 := B0.cells
    have CC1 := B1.cells
    go_wp2_with fail
    refine (l2Good_any p q g _).mono ?_
    rintro en w9 ⟨hen, hb9⟩
    rw [H1.out] at hen; subst hen
    replace E := E.trans hb9
    replace B0 := B0.ext hb9
    replace B1 := B1.ext hb9
    clear hb9 CC0 CC1
    go_wp2
    go_ret2
    exact ⟨by rw [HV.out, Bool.false_and]; rfl, E⟩
  have H1 := Lib.hid h1
  have HB : Hid (GrpB p q) := (grpB_in h1).bd
  cases h2 : eqE p q g1 y1 g2 y2
  · have H2 := Lib.hid h2
    have hv : teK p q g g1 y1 g2 y2 x = false := by unfold teK; simp only [h1, h2, Bool.true_and, Bool.false_and, Bool.and_false]
    have HV := Lib.hid hv
    clear hv
    have HB : Hid (GrpB p q) := (grpB_in h1).bd
    clear h1 h2
    go_enter Try.func68, Try.ntmps68
    have CC0 := B0.cells
    have CC1 := B1.cells
    go_wp2_with fail
    refine (l2Good_any p q g _).mono ?_
    rintro en w9 ⟨hen, hb9⟩
    rw [H1.out] at hen; subst hen
    replace E := E.trans hb9
    replace B0 := B0.ext hb9
    replace B1 := B1.ext hb9
    clear hb9 CC0 CC1
    have CC0 := B0.cells
    have CC1 := B1.cells
    go_wp2_with fail
    refine (sElements_any p q g g1 y1 g2 y2 _ HB.out).mono ?_
    rintro en w9 ⟨hen, hb9⟩
    rw [H2.out] at hen; subst hen
    replace E := E.trans hb9
    replace B0 := B0.ext hb9
    replace B1 := B1.ext hb9
    clear hb9 CC0 CC1
    go_wp2
    go_ret2
    exact ⟨by rw [HV.out, Bool.false_and]; rfl, E⟩
  have H2 := Lib.hid h2
  cases h3 : inR x 0 (q - 1)
  · have H3 := Lib.hid h3
    have hv : teK p q g g1 y1 g2 y2 x = false := by unfold teK; simp only [h1, h2, h3, Bool.true_and, Bool.false_and, Bool.and_false]
    have HV := Lib.hid hv
    clear hv
    have HB : Hid (GrpB p q) := (grpB_in h1).bd
    clear h1 h2 h3
    go_enter Try.func68, Try.ntmps68
    have CC0 := B0.cells
    have CC1 := B1.cells
    go_wp2_with fail
    refine (l2Good_any p q g _).mono ?_
    rintro en w9 ⟨hen, hb9⟩
    rw [H1.out] at hen; subst hen
    replace E := E.trans hb9
    replace B0 := B0.ext hb9
    replace B1 := B1.ext hb9
    clear hb9 CC0 CC1
    have CC0 := B0.cells
    have CC1 := B1.cells
    go_wp2_with fail
    refine (sElements_any p q g g1 y1 g2 y2 _ HB.out).mono ?_
    rintro en w9 ⟨hen, hb9⟩
    rw [H2.out] at hen; subst hen
    replace E := E.trans hb9
    replace B0 := B0.ext hb9
    replace B1 := B1.ext hb9
    clear hb9 CC0 CC1
    have CC0 := B0.cells
    have CC1 := B1.cells
    go_wp2_with fail
    replace E := E.alloc (.cells #[.int .i64 x] 3)
    replace B0 := B0.alloc (.cells #[.int .i64 x] 3)
    replace B1 := B1.alloc (.cells #[.int .i64 x] 3)
    refine (gExps_any p q g _ 1 1 [x] _ HB.out (rd_one rfl) rfl (by decide)).mono ?_
    rintro en w9 ⟨hen, hb9⟩
    simp only [allR, List.all_cons, List.all_nil, Bool.and_true] at hen
    rw [H3.out] at hen; subst hen
    replace E := E.trans hb9
    replace B0 := B0.ext hb9
    replace B1 := B1.ext hb9
    clear hb9 CC0 CC1
    go_wp2
    go_ret2
    exact ⟨by rw [HV.out, Bool.false_and]; rfl, E⟩
  have H3 := Lib.hid h3
  have hv : teK p q g g1 y1 g2 y2 x = true := by unfold teK; simp only [h1, h2, h3, Bool.and_self]
  have HV := Lib.hid hv
  have hGI := grpB_in h1
  have HB : Hid (GrpB p q) := hGI.bd
  have hp9 := hGI.p9
  have hqp := hGI.qp
  obtain ⟨e1, _, e3, _⟩ := eqE_iff.1 h2
  have b1 := (elB_iff.1 e1).1
  have b2 := (elB_iff.1 e3).1
  have bx := inR_iff.1 h3
  obtain ⟨tv, htv⟩ : ∃ tv, teV p q g1 y1 g2 y2 x = tv := ⟨_, rfl⟩
  have HT := Lib.hid htv
  clear hv h1 h2 h3 htv hGI e1 e3
  go_enter Try.func68, Try.ntmps68
  have CC0 := B0.cells
  have CC1 := B1.cells
  go_wp2_with fail
  refine (l2Good_any p q g _).mono ?_
  rintro en w9 ⟨hen, hb9⟩
  rw [H1.out] at hen; subst hen
  replace E := E.trans hb9
  replace B0 := B0.ext hb9
  replace B1 := B1.ext hb9
  clear hb9 CC0 CC1
  have CC0 := B0.cells
  have CC1 := B1.cells
  go_wp2_with fail
  refine (sElements_any p q g g1 y1 g2 y2 _ HB.out).mono ?_
  rintro en w9 ⟨hen, hb9⟩
  rw [H2.out] at hen; subst hen
  replace E := E.trans hb9
  replace B0 := B0.ext hb9
  replace B1 := B1.ext hb9
  clear hb9 CC0 CC1
  have CC0 := B0.cells
  have CC1 := B1.cells
  go_wp2_with fail
  replace E := E.alloc (.cells #[.int .i64 x] 3)
  replace B0 := B0.alloc (.cells #[.int .i64 x] 3)
  replace B1 := B1.alloc (.cells #[.int .i64 x] 3)
  refine (gExps_any p q g _ 1 1 [x] _ HB.out (rd_one rfl) rfl (by decide)).mono ?_
  rintro en w9 ⟨hen, hb9⟩
  simp only [allR, List.all_cons, List.all_nil, Bool.and_true] at hen
  rw [H3.out] at hen; subst hen
  replace E := E.trans hb9
  replace B0 := B0.ext hb9
  replace B1 := B1.ext hb9
  clear hb9 CC0 CC1
  have CC0 := B0.cells
  have CC1 := B1.cells
  go_wp2_with fail
  refine (sTrue_any p q g g1 y1 g2 y2 x _ HB.out (by omega) (by omega) (by omega)).mono ?_
  rintro en w2 ⟨he, hb2⟩
  rw [HT.out] at he; subst he
  go_wp2
  go_ret2
  exact ⟨by rw [HV.out, Bool.true_and, HT.out]; rfl, E.trans hb2⟩
set_option maxHeartbeats 1000000 in
theorem equalRows_any (g1 y1 g2 y2 : Int) (w : World) :
    Calls Try.prog 67 #[.agg #[.int .i64 g1, .int .i64 y1, .int .i64 g2, .int .i64 y2]] w fun en w' => ∃ k, en = .returned (.slice (some ⟨k, 0, none⟩) 2 2) ∧ RdSS w' (some ⟨k, 0, none⟩) [[g1], [g2]] ∧ Ext w w' := by
  have E := ((Ext.refl w).alloc (.cells #[.int .i64 g1, .int .i64 y1, .int .i64 g2, .int .i64 y2] 53))
  have B0 := (Blk.new w 53 #[.int .i64 g1, .int .i64 y1, .int .i64 g2, .int .i64 y2])
  have hz : (w.alloc (.cells #[.int .i64 g1, .int .i64 y1, .int .i64 g2, .int .i64 y2] 53)).heap.size = w.heap.size + 1 := by simp only [World.size_alloc]
  have CC0 := B0.cells
  go_enter Try.func67, Try.ntmps67
  go_wp2
  have B1 := B0.alloc (.cells #[.int .i64 g1] 3)
  go_ret
  generalize w.alloc (.cells #[.int .i64 g1, .int .i64 y1, .int .i64 g2, .int .i64 y2] 53) = Wb at *
  have a1 := (Ext.refl Wb).alloc (.cells #[.int .i64 g1] 3)
  have a2 := (Ext.refl (Wb.alloc (.cells #[.int .i64 g1] 3))).alloc (.cells #[.int .i64 g2] 3)
  have a3 := (Ext.refl ((Wb.alloc (.cells #[.int .i64 g1] 3)).alloc (.cells #[.int .i64 g2] 3))).alloc (.cells #[.slice (some ⟨w.heap.size + 1, 0, none⟩) 1 1, .slice (some ⟨w.heap.size + 1 + 1, 0, none⟩) 1 1] 28)
  have r1 := (sl_new (w := Wb) (y := g1) (k := w.heap.size + 1) (by omega) (Ext.refl _)).ext (a2.trans a3)
  have r2 := (sl_new (w := Wb.alloc (.cells #[.int .i64 g1] 3)) (y := g2) (k := w.heap.size + 1 + 1) (by simp; omega) (Ext.refl _)).ext a3
  have r3 := rdSS_lit2 (w := (Wb.alloc (.cells #[.int .i64 g1] 3)).alloc (.cells #[.int .i64 g2] 3)) (t := 28) (k := w.heap.size + 1 + 1 + 1) (by simp; omega) (Ext.refl _) r1 r2
  exact ⟨_, rfl, r3, ((E.trans a1).trans a2).trans a3⟩
set_option maxRecDepth 100000 in
set_option maxHeartbeats 8000000 in
theorem iProveEqual_any (p q g : Int) (s : ByteArray) (g1 y1 g2 y2 x c0 : Int) (w : World) (hs : s.size ≤ 1000) :
    Calls Try.prog 16 #[.agg #[.int .i64 p, .int .i64 q, .int .i64 g], .string s, .agg #[.int .i64 g1, .int .i64 y1, .int .i64 g2, .int .i64 y2], .int .i64 x, .int .i64 c0] w fun en w' => PrP (peK p q g s g1 y1 g2 y2 x c0) (imgL p q [[g1], [g2]] [c0]) [lpE p q g s [[g1], [g2]] [x] [c0]] (rspL q (lpE p q g s [[g1], [g2]] [x] [c0]) [c0] [x]) w en w' := by
  have E := ((((Ext.refl w).alloc (.cells #[.int .i64 p, .int .i64 q, .int .i64 g] 38)).alloc (.cells #[.int .i64 g1, .int .i64 y1, .int .i64 g2, .int .i64 y2] 53)).alloc (.cells #[.slice none 0 0, .slice none 0 0, .slice none 0 0] 44))
  have B0 := (((Blk.new w 38 #[.int .i64 p, .int .i64 q, .int .i64 g]).alloc (.cells #[.int .i64 g1, .int .i64 y1, .int .i64 g2, .int .i64 y2] 53)).alloc (.cells #[.slice none 0 0, .slice none 0 0, .slice none 0 0] 44))
  have B1 := ((Blk.new (w.alloc (.cells #[.int .i64 p, .int .i64 q, .int .i64 g] 38)) 53 #[.int .i64 g1, .int .i64 y1, .int .i64 g2, .int .i64 y2]).alloc (.cells #[.slice none 0 0, .slice none 0 0, .slice none 0 0] 44))
  have B2 := (Blk.new ((w.alloc (.cells #[.int .i64 p, .int .i64 q, .int .i64 g] 38)).alloc (.cells #[.int .i64 g1, .int .i64 y1, .int .i64 g2, .int .i64 y2] 53)) 44 #[.slice none 0 0, .slice none 0 0, .slice none 0 0])
  simp only [World.size_alloc] at B1 B2
  cases hk : teK p q g g1 y1 g2 y2 x
  · have hp : peK p q g s g1 y1 g2 y2 x c0 = false := by unfold peK; rw [hk, Bool.false_and]
    rw [hp]
    have HK := Lib.hid hk
    clear hk hp
    go_enter Try.func16, Try.ntmps16
    have CC0 := B0.cells
    have CC1 := B1.cells
    go_wp2_with fail
    refine (iIsTrueEqual_any p q g g1 y1 g2 y2 x _).mono ?_
    rintro en w9 ⟨he, hb9⟩
    rw [HK.out, Bool.false_and] at he; subst he
    replace E := E.trans hb9
    replace B0 := B0.ext hb9
    replace B1 := B1.ext hb9
    replace B2 := B2.ext hb9
    clear hb9 CC0 CC1
    have FZ := B2.frozen
    have C2 := B2.cells
    have CZ := (((B2.set_ 0 (.slice none 0 0)).set_ 1 (.slice none 0 0)).set_ 2 (.slice none 0 0)).cells
    go_wp2
    refine bodyPost_ret (v := .tuple #[.agg #[.slice none 0 0, .slice none 0 0, .slice none 0 0], .bool false]) (by simp [results, Try.results16, CZ, go_sem]) rfl (PrP.no (E.only (only_3 _ _ _ _ _) (fun b hb => by simp at hb; omega)))
  have HK := Lib.hid hk
  cases hv : teV p q g1 y1 g2 y2 x
  · have hp : peK p q g s g1 y1 g2 y2 x c0 = false := by unfold peK; rw [hv, Bool.false_and, Bool.and_false]
    rw [hp]
    have HV := Lib.hid hv
    clear hk hp hv
    go_enter Try.func16, Try.ntmps16
    have CC0 := B0.cells
    have CC1 := B1.cells
    go_wp2_with fail
    refine (iIsTrueEqual_any p q g g1 y1 g2 y2 x _).mono ?_
    rintro en w9 ⟨he, hb9⟩
    rw [HK.out, HV.out, Bool.and_false] at he; subst he
    replace E := E.trans hb9
    replace B0 := B0.ext hb9
    replace B1 := B1.ext hb9
    replace B2 := B2.ext hb9
    clear hb9 CC0 CC1
    have FZ := B2.frozen
    have C2 := B2.cells
    have CZ := (((B2.set_ 0 (.slice none 0 0)).set_ 1 (.slice none 0 0)).set_ 2 (.slice none 0 0)).cells
    go_wp2
    refine bodyPost_ret (v := .tuple #[.agg #[.slice none 0 0, .slice none 0 0, .slice none 0 0], .bool false]) (by simp [results, Try.results16, CZ, go_sem]) rfl (PrP.no (E.only (only_3 _ _ _ _ _) (fun b hb => by simp at hb; omega)))
  have hpl := pl_eq (s := s) (c0 := c0) hk hv
  obtain ⟨K, hK⟩ : ∃ K, peK p q g s g1 y1 g2 y2 x c0 = K := ⟨_, rfl⟩
  rw [hK] at hpl ⊢
  have HV := Lib.hid hv
  have HPL := Lib.hid hpl
  clear hk hv hpl hK
  go_enter Try.func16, Try.ntmps16
  have CC0 := B0.cells
  have CC1 := B1.cells
  go_wp2_with fail
  refine (iIsTrueEqual_any p q g g1 y1 g2 y2 x _).mono ?_
  rintro en w9 ⟨he, hb9⟩
  rw [HK.out, HV.out, Bool.and_self] at he; subst he
  replace E := E.trans hb9
  replace B0 := B0.ext hb9
  replace B1 := B1.ext hb9
  replace B2 := B2.ext hb9
  clear hb9 CC0 CC1
  go_wp2
  have hS : ∀ V, Ext w9 V → V.cell? ⟨w.heap.size, 0, none⟩ = some (.int .i64 p) ∧ V.cell? ⟨w.heap.size, 1, none⟩ = some (.int .i64 q) ∧ V.cell? ⟨w.heap.size, 2, none⟩ = some (.int .i64 g) ∧ V.cell? ⟨w.heap.size + 1, 0, none⟩ = some (.int .i64 g1) ∧ V.cell? ⟨w.heap.size + 1, 1, none⟩ = some (.int .i64 y1) ∧ V.cell? ⟨w.heap.size + 1, 2, none⟩ = some (.int .i64 g2) ∧ V.cell? ⟨w.heap.size + 1, 3, none⟩ = some (.int .i64 y2) := fun V hV => by
    have a0 := (B0.ext hV).cells
    have a1 := (B1.ext hV).cells
    exact ⟨a0 0, a0 1, a0 2, a1 0, a1 1, a1 2, a1 3⟩
  go_cut [11] from 28 to 38 (fun b wx => b = .bool K ∧ ∃ A1 n1 c1 A2 n2 c2 A3 n3 c3, Blk wx (w.heap.size + 1 + 1) 44 #[.slice A1 n1 c1, .slice A2 n2 c2, .slice A3 n3 c3] ∧ SlI wx A1 n1 c1 (if K then (imgL p q [[g1], [g2]] [c0]) else []) ∧ SlI wx A2 n2 c2 (if K then [lpE p q g s [[g1], [g2]] [x] [c0]] else []) ∧ SlI wx A3 n3 c3 (if K then (rspL q (lpE p q g s [[g1], [g2]] [x] [c0]) [c0] [x]) else []) ∧ Ext w wx)
  case first =>
    generalize w9 = Wb at *
    go_region_held3 (fun V => V.cell? ⟨w.heap.size, 0, none⟩ = some (.int .i64 p) ∧ V.cell? ⟨w.heap.size, 1, none⟩ = some (.int .i64 q) ∧ V.cell? ⟨w.heap.size, 2, none⟩ = some (.int .i64 g) ∧ V.cell? ⟨w.heap.size + 1, 0, none⟩ = some (.int .i64 g1) ∧ V.cell? ⟨w.heap.size + 1, 1, none⟩ = some (.int .i64 y1) ∧ V.cell? ⟨w.heap.size + 1, 2, none⟩ = some (.int .i64 g2) ∧ V.cell? ⟨w.heap.size + 1, 3, none⟩ = some (.int .i64 y2)) (first | exact ⟨CK0 _ _ _ 0, CK0 _ _ _ 1, CK0 _ _ _ 2, CK1 _ _ _ 0, CK1 _ _ _ 1, CK1 _ _ _ 2, CK1 _ _ _ 3⟩ | exact hS _ (by (repeat (first | with_reducible assumption | with_reducible exact Ext.refl _ | with_reducible apply Ext.alloc | with_reducible apply Ext.drew | with_reducible apply Ext.drewN)); done))
      (first
        | (go_at_call 67; refine (equalRows_any g1 y1 g2 y2 _).mono ?_; rintro en w3 ⟨k3, rfl, r3, hb3⟩; have hx3 := Ext.trans (w := Wb) (by repeat (first | with_reducible assumption | with_reducible exact Ext.refl _ | with_reducible apply Ext.alloc | with_reducible apply Ext.drew | with_reducible apply Ext.drewN)) hb3)
        | (go_at_call 66; refine (ProveLinear_any p q g s _ _ _ 2 2 1 1 1 [[g1], [g2]] [x] [c0] _ hs (RdSS.ext r3 (by repeat (first | with_reducible assumption | with_reducible exact Ext.refl _ | with_reducible apply Ext.alloc | with_reducible apply Ext.drew | with_reducible apply Ext.drewN))) rfl (by omega) (by first | exact sl_new (w := Wb) (y := x) rfl (Ext.trans (Ext.trans (by (repeat (first | with_reducible assumption | with_reducible exact Ext.refl _ | with_reducible apply Ext.alloc | with_reducible apply Ext.drew | with_reducible apply Ext.drewN)); done) hb3) (by (repeat (first | with_reducible assumption | with_reducible exact Ext.refl _ | with_reducible apply Ext.alloc | with_reducible apply Ext.drew | with_reducible apply Ext.drewN)); done)) | exact sl_new (w := Wb) (y := x) rfl (by (repeat (first | with_reducible assumption | with_reducible exact Ext.refl _ | with_reducible apply Ext.alloc | with_reducible apply Ext.drew | with_reducible apply Ext.drewN)); done) | exact sl_new (w := Wb.alloc (.cells #[.int .i64 c0] 3)) (y := x) (World.size_alloc _ _).symm (Ext.trans (Ext.trans (by (repeat (first | with_reducible assumption | with_reducible exact Ext.refl _ | with_reducible apply Ext.alloc | with_reducible apply Ext.drew | with_reducible apply Ext.drewN)); done) hb3) (by (repeat (first | with_reducible assumption | with_reducible exact Ext.refl _ | with_reducible apply Ext.alloc | with_reducible apply Ext.drew | with_reducible apply Ext.drewN)); done)) | exact sl_new (w := Wb.alloc (.cells #[.int .i64 c0] 3)) (y := x) (World.size_alloc _ _).symm (by (repeat (first | with_reducible assumption | with_reducible exact Ext.refl _ | with_reducible apply Ext.alloc | with_reducible apply Ext.drew | with_reducible apply Ext.drewN)); done) | exact sl_new (w := Wb.drew) (y := x) rfl (Ext.trans (Ext.trans (by (repeat (first | with_reducible assumption | with_reducible exact Ext.refl _ | with_reducible apply Ext.alloc | with_reducible apply Ext.drew | with_reducible apply Ext.drewN)); done) hb3) (by (repeat (first | with_reducible assumption | with_reducible exact Ext.refl _ | with_reducible apply Ext.alloc | with_reducible apply Ext.drew | with_reducible apply Ext.drewN)); done)) | exact sl_new (w := Wb.drew) (y := x) rfl (by (repeat (first | with_reducible assumption | with_reducible exact Ext.refl _ | with_reducible apply Ext.alloc | with_reducible apply Ext.drew | with_reducible apply Ext.drewN)); done) | exact sl_new (w := Wb.drew.alloc (.cells #[.int .i64 c0] 3)) (y := x) (World.size_alloc _ _).symm (Ext.trans (Ext.trans (by (repeat (first | with_reducible assumption | with_reducible exact Ext.refl _ | with_reducible apply Ext.alloc | with_reducible apply Ext.drew | with_reducible apply Ext.drewN)); done) hb3) (by (repeat (first | with_reducible assumption | with_reducible exact Ext.refl _ | with_reducible apply Ext.alloc | with_reducible apply Ext.drew | with_reducible apply Ext.drewN)); done)) | exact sl_new (w := Wb.drew.alloc (.cells #[.int .i64 c0] 3)) (y := x) (World.size_alloc _ _).symm (by (repeat (first | with_reducible assumption | with_reducible exact Ext.refl _ | with_reducible apply Ext.alloc | with_reducible apply Ext.drew | with_reducible apply Ext.drewN)); done) | exact sl_new (w := w3) (y := x) rfl (by (repeat (first | with_reducible assumption | with_reducible exact Ext.refl _ | with_reducible apply Ext.alloc | with_reducible apply Ext.drew | with_reducible apply Ext.drewN)); done) | exact sl_new (w := w3.alloc (.cells #[.int .i64 c0] 3)) (y := x) (World.size_alloc _ _).symm (by (repeat (first | with_reducible assumption | with_reducible exact Ext.refl _ | with_reducible apply Ext.alloc | with_reducible apply Ext.drew | with_reducible apply Ext.drewN)); done)) (by first | exact sl_new (w := Wb) (y := c0) rfl (Ext.trans (Ext.trans (by (repeat (first | with_reducible assumption | with_reducible exact Ext.refl _ | with_reducible apply Ext.alloc | with_reducible apply Ext.drew | with_reducible apply Ext.drewN)); done) hb3) (by (repeat (first | with_reducible assumption | with_reducible exact Ext.refl _ | with_reducible apply Ext.alloc | with_reducible apply Ext.drew | with_reducible apply Ext.drewN)); done)) | exact sl_new (w := Wb) (y := c0) rfl (by (repeat (first | with_reducible assumption | with_reducible exact Ext.refl _ | with_reducible apply Ext.alloc | with_reducible apply Ext.drew | with_reducible apply Ext.drewN)); done) | exact sl_new (w := Wb.alloc (.cells #[.int .i64 x] 3)) (y := c0) (World.size_alloc _ _).symm (Ext.trans (Ext.trans (by (repeat (first | with_reducible assumption | with_reducible exact Ext.refl _ | with_reducible apply Ext.alloc | with_reducible apply Ext.drew | with_reducible apply Ext.drewN)); done) hb3) (by (repeat (first | with_reducible assumption | with_reducible exact Ext.refl _ | with_reducible apply Ext.alloc | with_reducible apply Ext.drew | with_reducible apply Ext.drewN)); done)) | exact sl_new (w := Wb.alloc (.cells #[.int .i64 x] 3)) (y := c0) (World.size_alloc _ _).symm (by (repeat (first | with_reducible assumption | with_reducible exact Ext.refl _ | with_reducible apply Ext.alloc | with_reducible apply Ext.drew | with_reducible apply Ext.drewN)); done) | exact sl_new (w := Wb.drew) (y := c0) rfl (Ext.trans (Ext.trans (by (repeat (first | with_reducible assumption | with_reducible exact Ext.refl _ | with_reducible apply Ext.alloc | with_reducible apply Ext.drew | with_reducible apply Ext.drewN)); done) hb3) (by (repeat (first | with_reducible assumption | with_reducible exact Ext.refl _ | with_reducible apply Ext.alloc | with_reducible apply Ext.drew | with_reducible apply Ext.drewN)); done)) | exact sl_new (w := Wb.drew) (y := c0) rfl (by (repeat (first | with_reducible assumption | with_reducible exact Ext.refl _ | with_reducible apply Ext.alloc | with_reducible apply Ext.drew | with_reducible apply Ext.drewN)); done) | exact sl_new (w := Wb.drew.alloc (.cells #[.int .i64 x] 3)) (y := c0) (World.size_alloc _ _).symm (Ext.trans (Ext.trans (by (repeat (first | with_reducible assumption | with_reducible exact Ext.refl _ | with_reducible apply Ext.alloc | with_reducible apply Ext.drew | with_reducible apply Ext.drewN)); done) hb3) (by (repeat (first | with_reducible assumption | with_reducible exact Ext.refl _ | with_reducible apply Ext.alloc | with_reducible apply Ext.drew | with_reducible apply Ext.drewN)); done)) | exact sl_new (w := Wb.drew.alloc (.cells #[.int .i64 x] 3)) (y := c0) (World.size_alloc _ _).symm (by (repeat (first | with_reducible assumption | with_reducible exact Ext.refl _ | with_reducible apply Ext.alloc | with_reducible apply Ext.drew | with_reducible apply Ext.drewN)); done) | exact sl_new (w := w3) (y := c0) rfl (by (repeat (first | with_reducible assumption | with_reducible exact Ext.refl _ | with_reducible apply Ext.alloc | with_reducible apply Ext.drew | with_reducible apply Ext.drewN)); done) | exact sl_new (w := w3.alloc (.cells #[.int .i64 x] 3)) (y := c0) (World.size_alloc _ _).symm (by (repeat (first | with_reducible assumption | with_reducible exact Ext.refl _ | with_reducible apply Ext.alloc | with_reducible apply Ext.drew | with_reducible apply Ext.drewN)); done)) rfl (by omega)).mono ?_; rintro en w6 ⟨A1, n1, c1, A2, n2, c2, A3, n3, c3, he, t1, t2, t3, hb6⟩; rw [HPL.out] at he t1 t2 t3; subst he; have hx6 := Ext.trans (w := Wb) (Ext.trans hx3 (by repeat (first | with_reducible assumption | with_reducible exact Ext.refl _ | with_reducible apply Ext.alloc | with_reducible apply Ext.drew | with_reducible apply Ext.drewN))) hb6; have B06 := B0.ext hx6; have B16 := B1.ext hx6; have B26 := B2.ext hx6; have F26 := B26.frozen; have C26 := B26.cells;
            have CK0 := fun (u v z : Value) => (((B06.far (p := ⟨w.heap.size + 1 + 1, 0, none⟩) (by first | (simp; done) | (simp; omega)) u).far (p := ⟨w.heap.size + 1 + 1, 1, none⟩) (by first | (simp; done) | (simp; omega)) v).far (p := ⟨w.heap.size + 1 + 1, 2, none⟩) (by first | (simp; done) | (simp; omega)) z).cells; have CK1 := fun (u v z : Value) => (((B16.far (p := ⟨w.heap.size + 1 + 1, 0, none⟩) (by first | (simp; done) | (simp; omega)) u).far (p := ⟨w.heap.size + 1 + 1, 1, none⟩) (by first | (simp; done) | (simp; omega)) v).far (p := ⟨w.heap.size + 1 + 1, 2, none⟩) (by first | (simp; done) | (simp; omega)) z).cells)
        | fail)
    all_goals
      have hon := only_3 w6 (w.heap.size + 1 + 1) (.slice A1 n1 c1) (.slice A2 n2 c2) (.slice A3 n3 c3)
      go_wp2
      go_meet
      exact ⟨rfl, A1, n1, c1, A2, n2, c2, A3, n3, c3, ((B26.set_ 0 (.slice A1 n1 c1)).set_ 1 (.slice A2 n2 c2)).set_ 2 (.slice A3 n3 c3), t1.far B26 z3_no hon, t2.far B26 z3_no hon, t3.far B26 z3_no hon, (E.trans hx6).only hon (fun b hb => by simp at hb; omega)⟩
  case' rest =>
    obtain ⟨rfl, A1, n1, c1, A2, n2, c2, A3, n3, c3, BR, t1, t2, t3, hb⟩ := hcut
    have CZ := BR.cells
    go_wp2
    refine bodyPost_ret (v := .tuple #[.agg #[.slice A1 n1 c1, .slice A2 n2 c2, .slice A3 n3 c3], .bool K]) (by simp [results, Try.results16, CZ, go_sem]) rfl ⟨A1, n1, c1, A2, n2, c2, A3, n3, c3, rfl, t1, t2, t3, hb⟩
end Go.Proofs.Ytpfccboighdcbaa
