/- Contracts for ciphertexts: encryption, products, decryption. (Printed by tools/gen_encc.py.) -/
import Derived.Test.YtnhdohjlbchniaaGreatProg
import Derived.Test.YtnhdohjlbchniaaGreatGrpO
import Derived.Test.YtnhdohjlbchniaaGreatEncP
import Derived.Test.YtnhdohjlbchniaaGreatFunC
namespace Go.Proofs.YtnhdohjlbchniaaGreat
open Go.RowKit

theorem gpw_rg (p q x e : Int) (h : GrpB p q) : 0 ≤ gpw p q x e ∧ gpw p q x e ≤ 2000000000 := by
  obtain ⟨p1, p2, q1, q2⟩ := h
  unfold gpw powM
  have := Nat.mod_lt (x.toNat ^ (e % q).toNat) (show 0 < p.toNat by omega)
  omega
theorem gmul_rg {p q : Int} (h : GrpB p q) {l : List Int} (hr : ∀ x ∈ l, 0 ≤ x) : 0 ≤ gmul p l ∧ gmul p l ≤ 2000000000 := by
  obtain ⟨p1, p2, q1, q2⟩ := h
  unfold gmul
  suffices H : ∀ (l : List Int) (o : Int), (∀ x ∈ l, 0 ≤ x) → 0 ≤ o ∧ o ≤ 2000000000 → 0 ≤ l.foldl (fun o x => o * x % p) o ∧ l.foldl (fun o x => o * x % p) o ≤ 2000000000 from H l 1 hr (by omega)
  intro l
  induction l with
  | nil => intro o _ h; exact h
  | cons x l ih =>
    intro o hx _
    have hb := emod_bd (x := o * x) p1
    exact ih _ (fun y hy => hx y (by simp [hy])) ⟨hb.1, by have := hb.2; show o * x % p ≤ 2000000000; omega⟩
theorem gmul2_rg {p q x y : Int} (h : GrpB p q) (hx : 0 ≤ x) (hy : 0 ≤ y) : 0 ≤ gmul p [x, y] ∧ gmul p [x, y] ≤ 2000000000 := gmul_rg h (by
  intro z hz
  simp only [List.mem_cons, List.not_mem_nil, or_false] at hz
  rcases hz with rfl | rfl <;> assumption)
theorem two_rg {x y : Int} (hx : 0 ≤ x ∧ x ≤ 3000000000) (hy : 0 ≤ y ∧ y ≤ 3000000000) : ∀ z ∈ [x, y], 0 ≤ z ∧ z ≤ 3000000000 := by
  intro z hz
  simp only [List.mem_cons, List.not_mem_nil, or_false] at hz
  rcases hz with rfl | rfl <;> omega
/-- A slice of two ints that has just been laid. -/
theorem rd_two {w : World} {x y : Int} {k : Nat} (hk : k = w.heap.size) : RdI (w.alloc (.cells #[.int .i64 x, .int .i64 y] 3)) (some ⟨k, 0, none⟩) [x, y] :=
  (ownI_lit (w := w) (base := w.heap.size) [x, y] rfl hk (Nat.le_refl _) (by unfold maxLen; simp)).rd
theorem rd_one {w : World} {x : Int} {k : Nat} (hk : k = w.heap.size) : RdI (w.alloc (.cells #[.int .i64 x] 3)) (some ⟨k, 0, none⟩) [x] :=
  (ownI_lit (w := w) (base := w.heap.size) [x] rfl hk (Nat.le_refl _) (by unfold maxLen; simp)).rd
/-- At the return: a pair of ints that lies in a cell. -/
theorem ret_ci {fn : Func} {w : World} {g : Nat} {t : Tmp} {a b : Int} {tm : Array Value} {Q : Ending → World → Prop}
    (B : Blk w g 54 #[.int .i64 a, .int .i64 b])
    (h : fn.results = #[.cell t 54]) (ht : tm.getD t undef = .pointer (some ⟨g, 0, none⟩)) (hQ : Q (.returned (.agg #[.int .i64 a, .int .i64 b])) w) :
    bodyPost Tryz.prog fn Q .ret { tmps := tm, defers := [] } w := by
  have C := B.cells
  refine bodyPost_ret (v := .agg #[.int .i64 a, .int .i64 b]) ?_ rfl hQ
  have ht' : (tm[t]?).getD undef = .pointer (some ⟨g, 0, none⟩) := by simpa using ht
  simp [results, h, ht', go_sem, C]
theorem ret_ciB {fn : Func} {w : World} {g : Nat} {t u : Tmp} {a b : Int} {k : Bool} {tm : Array Value} {Q : Ending → World → Prop}
    (B : Blk w g 54 #[.int .i64 a, .int .i64 b])
    (h : fn.results = #[.cell t 54, .tmp u]) (ht : tm.getD t undef = .pointer (some ⟨g, 0, none⟩)) (hu : tm.getD u undef = .bool k) (hQ : Q (.returned (.tuple #[.agg #[.int .i64 a, .int .i64 b], .bool k])) w) :
    bodyPost Tryz.prog fn Q .ret { tmps := tm, defers := [] } w := by
  have C := B.cells
  refine bodyPost_ret (v := .tuple #[.agg #[.int .i64 a, .int .i64 b], .bool k]) ?_ rfl hQ
  have ht' : (tm[t]?).getD undef = .pointer (some ⟨g, 0, none⟩) := by simpa using ht
  have hu' : (tm[u]?).getD undef = .bool k := by simpa using hu
  simp [results, h, ht', hu', go_sem, C]
theorem below_two {g : Nat} (u : World) (a b : Value) : Below g u ((u.setCell ⟨g, 0, none⟩ a).setCell ⟨g, 1, none⟩ b) :=
  ((Below.refl g u).setCell (p := ⟨g, 0, none⟩) (Nat.le_refl _) a).setCell (p := ⟨g, 1, none⟩) (Nat.le_refl _) b

set_option maxRecDepth 100000 in
set_option maxHeartbeats 4000000 in
theorem encrypt_any (p q g key m r : Int) (w : World) (h : GrpB p q) (hg : 0 ≤ g ∧ g ≤ 3000000000) (hk : 0 ≤ key ∧ key ≤ 3000000000) (hm : 0 ≤ m ∧ m ≤ 3000000000) (hr : -9000000000000000000 ≤ r ∧ r ≤ 9000000000000000000) :
    Calls Tryz.prog 112 #[.agg #[.int .i64 p, .int .i64 q, .int .i64 g], .int .i64 key, .int .i64 m, .int .i64 r] w fun e w' => e = .returned (.agg #[.int .i64 (gencA p q g r), .int .i64 (gencB p q key m r)]) ∧ Ext w w' := by
  have x1 := gpw_rg p q g r h
  have x2 := gpw_rg p q key r h
  unfold gencA gencB
  have B0 := Blk.new w 33 #[.int .i64 p, .int .i64 q, .int .i64 g]
  have E := ((Ext.refl w).alloc (.cells #[.int .i64 p, .int .i64 q, .int .i64 g] 33))
  have hsz : (w.alloc (.cells #[.int .i64 p, .int .i64 q, .int .i64 g] 33)).heap.size = w.heap.size + 1 := by simp only [World.size_alloc]
  have BR := Blk.new (w.alloc (.cells #[.int .i64 p, .int .i64 q, .int .i64 g] 33)) 54 #[.int .i64 0, .int .i64 0]
  rw [hsz] at BR
  go_enter Tryz.func112, Tryz.ntmps112
  go_wp2
  generalize (w.alloc (.cells #[.int .i64 p, .int .i64 q, .int .i64 g] 33)) = Wb at *
  have hS : ∀ V, Ext Wb V → V.cell? ⟨w.heap.size, 0, none⟩ = some (.int .i64 p) ∧ V.cell? ⟨w.heap.size, 1, none⟩ = some (.int .i64 q) ∧ V.cell? ⟨w.heap.size, 2, none⟩ = some (.int .i64 g) := fun V hV => by
    have a0 := (B0.ext hV).cells
    exact ⟨a0 0, a0 1, a0 2⟩
  have hW : Ext Wb (Wb.alloc (.cells #[.int .i64 0, .int .i64 0] 54)) := (Ext.refl Wb).alloc _
  go_region_held3 (fun V => V.cell? ⟨w.heap.size, 0, none⟩ = some (.int .i64 p) ∧ V.cell? ⟨w.heap.size, 1, none⟩ = some (.int .i64 q) ∧ V.cell? ⟨w.heap.size, 2, none⟩ = some (.int .i64 g)) (exact hS _ (by repeat (first | assumption | exact Ext.refl _ | apply Ext.alloc | apply Ext.drew | apply Ext.drewN | refine Ext.setCell ?_ (by first | omega | (simp; omega)) _)))
    (first
      | (go_at_call 69; refine (mul_any p q g _ 2 2 [m, gpw p q key r] _ h (rd_two (by simp)) rfl (by decide) (two_rg hm (by omega))).mono ?_; rintro ek wk3 ⟨rfl, hb3⟩; have hx3 := Ext.trans (w := Wb) (by repeat (first | assumption | exact Ext.refl _ | apply Ext.alloc | apply Ext.drew | apply Ext.drewN | refine Ext.setCell ?_ (by first | omega | (simp; omega)) _)) hb3; have hr3 := Ext.trans (w := (Wb.alloc (.cells #[.int .i64 0, .int .i64 0] 54))) (by repeat (first | assumption | exact Ext.refl _ | apply Ext.alloc | apply Ext.drew | apply Ext.drewN | refine Ext.setCell ?_ (by first | omega | (simp; omega)) _)) hb3; have BX := BR.ext hr3; have F := BX.frozen; have CX := BX.cells; have EX := hx3)
      | (go_at_call 68; refine (pow_any p q g _ r _ h (by omega) (by omega) hr.1 hr.2).mono ?_; rintro ek wk1 ⟨rfl, hb1⟩; have hx1 := Ext.trans (w := Wb) (by repeat (first | assumption | exact Ext.refl _ | apply Ext.alloc | apply Ext.drew | apply Ext.drewN | refine Ext.setCell ?_ (by first | omega | (simp; omega)) _)) hb1; have hr1 := Ext.trans (w := (Wb.alloc (.cells #[.int .i64 0, .int .i64 0] 54))) (by repeat (first | assumption | exact Ext.refl _ | apply Ext.alloc | apply Ext.drew | apply Ext.drewN | refine Ext.setCell ?_ (by first | omega | (simp; omega)) _)) hb1))
  go_wp2
  refine ret_ci (a := gpw p q g r) (b := gmul p [m, gpw p q key r]) ((BX.set_ 0 (.int .i64 (gpw p q g r))).set_ 1 (.int .i64 (gmul p [m, gpw p q key r]))) rfl rfl ?_
  exact ⟨rfl, E.trans (EX.then (below_two (g := w.heap.size + 1) _ _ _) (by omega))⟩

set_option maxRecDepth 100000 in
set_option maxHeartbeats 4000000 in
theorem eEnc_any (p q g key m r : Int) (w : World) (h : GrpB p q) (hg : 0 ≤ g ∧ g ≤ 3000000000) (hk : 0 ≤ key ∧ key ≤ 3000000000) (hm : 0 ≤ m ∧ m ≤ 3000000000) (hr : -9000000000000000000 ≤ r ∧ r ≤ 9000000000000000000) :
    Calls Tryz.prog 103 #[.agg #[.int .i64 p, .int .i64 q, .int .i64 g], .int .i64 key, .int .i64 m, .int .i64 r] w fun e w' => e = .returned (.agg #[.int .i64 (gencA p q g r), .int .i64 (gencB p q key m r)]) ∧ Ext w w' := by
  have x1 := gpw_rg p q g r h
  have x2 := gpw_rg p q key r h
  unfold gencA gencB
  have B0 := Blk.new w 33 #[.int .i64 p, .int .i64 q, .int .i64 g]
  have E := ((Ext.refl w).alloc (.cells #[.int .i64 p, .int .i64 q, .int .i64 g] 33))
  have hsz : (w.alloc (.cells #[.int .i64 p, .int .i64 q, .int .i64 g] 33)).heap.size = w.heap.size + 1 := by simp only [World.size_alloc]
  have BR := Blk.new (w.alloc (.cells #[.int .i64 p, .int .i64 q, .int .i64 g] 33)) 54 #[.int .i64 0, .int .i64 0]
  rw [hsz] at BR
  go_enter Tryz.func103, Tryz.ntmps103
  go_wp2
  generalize (w.alloc (.cells #[.int .i64 p, .int .i64 q, .int .i64 g] 33)) = Wb at *
  have hS : ∀ V, Ext Wb V → V.cell? ⟨w.heap.size, 0, none⟩ = some (.int .i64 p) ∧ V.cell? ⟨w.heap.size, 1, none⟩ = some (.int .i64 q) ∧ V.cell? ⟨w.heap.size, 2, none⟩ = some (.int .i64 g) := fun V hV => by
    have a0 := (B0.ext hV).cells
    exact ⟨a0 0, a0 1, a0 2⟩
  have hW : Ext Wb (Wb.alloc (.cells #[.int .i64 0, .int .i64 0] 54)) := (Ext.refl Wb).alloc _
  go_region_held3 (fun V => V.cell? ⟨w.heap.size, 0, none⟩ = some (.int .i64 p) ∧ V.cell? ⟨w.heap.size, 1, none⟩ = some (.int .i64 q) ∧ V.cell? ⟨w.heap.size, 2, none⟩ = some (.int .i64 g)) (exact hS _ (by repeat (first | assumption | exact Ext.refl _ | apply Ext.alloc | apply Ext.drew | apply Ext.drewN | refine Ext.setCell ?_ (by first | omega | (simp; omega)) _)))
    (first
      | (go_at_call 46; refine (gMul_any p q g _ 2 2 [m, gpw p q key r] _ h (rd_two (by simp)) rfl (by decide) (two_rg hm (by omega))).mono ?_; rintro ek wk3 ⟨rfl, hb3⟩; have hx3 := Ext.trans (w := Wb) (by repeat (first | assumption | exact Ext.refl _ | apply Ext.alloc | apply Ext.drew | apply Ext.drewN | refine Ext.setCell ?_ (by first | omega | (simp; omega)) _)) hb3; have hr3 := Ext.trans (w := (Wb.alloc (.cells #[.int .i64 0, .int .i64 0] 54))) (by repeat (first | assumption | exact Ext.refl _ | apply Ext.alloc | apply Ext.drew | apply Ext.drewN | refine Ext.setCell ?_ (by first | omega | (simp; omega)) _)) hb3; have BX := BR.ext hr3; have F := BX.frozen; have CX := BX.cells; have EX := hx3)
      | (go_at_call 45; refine (gExp_any p q g _ r _ h (by omega) (by omega) hr.1 hr.2).mono ?_; rintro ek wk1 ⟨rfl, hb1⟩; have hx1 := Ext.trans (w := Wb) (by repeat (first | assumption | exact Ext.refl _ | apply Ext.alloc | apply Ext.drew | apply Ext.drewN | refine Ext.setCell ?_ (by first | omega | (simp; omega)) _)) hb1; have hr1 := Ext.trans (w := (Wb.alloc (.cells #[.int .i64 0, .int .i64 0] 54))) (by repeat (first | assumption | exact Ext.refl _ | apply Ext.alloc | apply Ext.drew | apply Ext.drewN | refine Ext.setCell ?_ (by first | omega | (simp; omega)) _)) hb1))
  go_wp2
  refine ret_ci (a := gpw p q g r) (b := gmul p [m, gpw p q key r]) ((BX.set_ 0 (.int .i64 (gpw p q g r))).set_ 1 (.int .i64 (gmul p [m, gpw p q key r]))) rfl rfl ?_
  exact ⟨rfl, E.trans (EX.then (below_two (g := w.heap.size + 1) _ _ _) (by omega))⟩



set_option maxRecDepth 100000 in
set_option maxHeartbeats 4000000 in
theorem mulTwo_any (p q g a b c d : Int) (w : World) (h : GrpB p q) (ha : 0 ≤ a ∧ a ≤ 3000000000) (hb : 0 ≤ b ∧ b ≤ 3000000000) (hc : 0 ≤ c ∧ c ≤ 3000000000) (hd : 0 ≤ d ∧ d ≤ 3000000000) :
    Calls Tryz.prog 111 #[.agg #[.int .i64 p, .int .i64 q, .int .i64 g], .agg #[.int .i64 a, .int .i64 b], .agg #[.int .i64 c, .int .i64 d]] w fun e w' => e = .returned (.agg #[.int .i64 (gmul p [a, c]), .int .i64 (gmul p [b, d])]) ∧ Ext w w' := by
  have B0 := ((Blk.new w 33 #[.int .i64 p, .int .i64 q, .int .i64 g]).alloc (.cells #[.int .i64 a, .int .i64 b] 54)).alloc (.cells #[.int .i64 c, .int .i64 d] 54)
  have B1 := (Blk.new (w.alloc (.cells #[.int .i64 p, .int .i64 q, .int .i64 g] 33)) 54 #[.int .i64 a, .int .i64 b]).alloc (.cells #[.int .i64 c, .int .i64 d] 54)
  have B2 := Blk.new ((w.alloc (.cells #[.int .i64 p, .int .i64 q, .int .i64 g] 33)).alloc (.cells #[.int .i64 a, .int .i64 b] 54)) 54 #[.int .i64 c, .int .i64 d]
  have E := ((((Ext.refl w).alloc (.cells #[.int .i64 p, .int .i64 q, .int .i64 g] 33)).alloc (.cells #[.int .i64 a, .int .i64 b] 54)).alloc (.cells #[.int .i64 c, .int .i64 d] 54))
  simp only [World.size_alloc] at B1 B2
  have hsz : (((w.alloc (.cells #[.int .i64 p, .int .i64 q, .int .i64 g] 33)).alloc (.cells #[.int .i64 a, .int .i64 b] 54)).alloc (.cells #[.int .i64 c, .int .i64 d] 54)).heap.size = w.heap.size + 3 := by simp only [World.size_alloc]
  have BR := Blk.new (((w.alloc (.cells #[.int .i64 p, .int .i64 q, .int .i64 g] 33)).alloc (.cells #[.int .i64 a, .int .i64 b] 54)).alloc (.cells #[.int .i64 c, .int .i64 d] 54)) 54 #[.int .i64 0, .int .i64 0]
  rw [hsz] at BR
  go_enter Tryz.func111, Tryz.ntmps111
  go_wp2
  generalize (((w.alloc (.cells #[.int .i64 p, .int .i64 q, .int .i64 g] 33)).alloc (.cells #[.int .i64 a, .int .i64 b] 54)).alloc (.cells #[.int .i64 c, .int .i64 d] 54)) = Wb at *
  have hS : ∀ V, Ext Wb V → V.cell? ⟨w.heap.size, 0, none⟩ = some (.int .i64 p) ∧ V.cell? ⟨w.heap.size, 1, none⟩ = some (.int .i64 q) ∧ V.cell? ⟨w.heap.size, 2, none⟩ = some (.int .i64 g) ∧ V.cell? ⟨w.heap.size + 1, 0, none⟩ = some (.int .i64 a) ∧ V.cell? ⟨w.heap.size + 1, 1, none⟩ = some (.int .i64 b) ∧ V.cell? ⟨w.heap.size + 2, 0, none⟩ = some (.int .i64 c) ∧ V.cell? ⟨w.heap.size + 2, 1, none⟩ = some (.int .i64 d) := fun V hV => by
    have a0 := (B0.ext hV).cells
    have a1 := (B1.ext hV).cells
    have a2 := (B2.ext hV).cells
    exact ⟨a0 0, a0 1, a0 2, a1 0, a1 1, a2 0, a2 1⟩
  have hW : Ext Wb (Wb.alloc (.cells #[.int .i64 0, .int .i64 0] 54)) := (Ext.refl Wb).alloc _
  go_region_held3 (fun V => V.cell? ⟨w.heap.size, 0, none⟩ = some (.int .i64 p) ∧ V.cell? ⟨w.heap.size, 1, none⟩ = some (.int .i64 q) ∧ V.cell? ⟨w.heap.size, 2, none⟩ = some (.int .i64 g) ∧ V.cell? ⟨w.heap.size + 1, 0, none⟩ = some (.int .i64 a) ∧ V.cell? ⟨w.heap.size + 1, 1, none⟩ = some (.int .i64 b) ∧ V.cell? ⟨w.heap.size + 2, 0, none⟩ = some (.int .i64 c) ∧ V.cell? ⟨w.heap.size + 2, 1, none⟩ = some (.int .i64 d)) (exact hS _ (by repeat (first | assumption | exact Ext.refl _ | apply Ext.alloc | apply Ext.drew | apply Ext.drewN | refine Ext.setCell ?_ (by first | omega | (simp; omega)) _)))
    (first
      | (go_at_call 69; first | (have hb0 := hb1; refine (mul_any p q g _ 2 2 [b, d] _ h (by first | exact rd_two (w := wk1) (by first | (simp; done) | (simp; omega)) | exact RdI.ext (RdI.ext (rd_two (w := (Wb.alloc (.cells #[.int .i64 0, .int .i64 0] 54)).alloc (.cells #[.int .i64 a, .int .i64 c] 3)) (by first | (simp; done) | (simp; omega))) (by repeat (first | apply Ext.drew | exact Ext.refl _ | apply Ext.alloc))) hb1 | exact RdI.ext (RdI.ext (rd_two (w := (Wb.alloc (.cells #[.int .i64 0, .int .i64 0] 54))) (by first | (simp; done) | (simp; omega))) (by repeat (first | apply Ext.drew | exact Ext.refl _ | apply Ext.alloc))) hb1 | fail) rfl (by decide) (two_rg hb hd)).mono ?_; rintro ek wk2 ⟨rfl, hb2⟩; have hx2 := Ext.trans (w := Wb) (by repeat (first | assumption | exact Ext.refl _ | apply Ext.alloc | apply Ext.drew | apply Ext.drewN | refine Ext.setCell ?_ (by first | omega | (simp; omega)) _)) hb2; have hr2 := Ext.trans (w := (Wb.alloc (.cells #[.int .i64 0, .int .i64 0] 54))) (by repeat (first | assumption | exact Ext.refl _ | apply Ext.alloc | apply Ext.drew | apply Ext.drewN | refine Ext.setCell ?_ (by first | omega | (simp; omega)) _)) hb2; have BX := BR.ext hr2; have F := BX.frozen; have CX := BX.cells; have EX := hx2) | (refine (mul_any p q g _ 2 2 [a, c] _ h (by first | exact RdI.ext (rd_two (w := (Wb.alloc (.cells #[.int .i64 0, .int .i64 0] 54))) (by first | (simp; done) | (simp; omega))) (by repeat (first | apply Ext.drew | exact Ext.refl _ | apply Ext.alloc)) | exact RdI.ext (rd_two (w := (Wb.alloc (.cells #[.int .i64 0, .int .i64 0] 54)).alloc (.cells #[.int .i64 b, .int .i64 d] 3)) (by first | (simp; done) | (simp; omega))) (by repeat (first | apply Ext.drew | exact Ext.refl _ | apply Ext.alloc)) | fail) rfl (by decide) (two_rg ha hc)).mono ?_; rintro ek wk1 ⟨rfl, hb1⟩; have hx1 := Ext.trans (w := Wb) (by repeat (first | assumption | exact Ext.refl _ | apply Ext.alloc | apply Ext.drew | apply Ext.drewN | refine Ext.setCell ?_ (by first | omega | (simp; omega)) _)) hb1; have hr1 := Ext.trans (w := (Wb.alloc (.cells #[.int .i64 0, .int .i64 0] 54))) (by repeat (first | assumption | exact Ext.refl _ | apply Ext.alloc | apply Ext.drew | apply Ext.drewN | refine Ext.setCell ?_ (by first | omega | (simp; omega)) _)) hb1) | fail))
  · go_wp2
    refine ret_ci (a := gmul p [a, c]) (b := gmul p [b, d]) ((BX.set_ 0 (.int .i64 (gmul p [a, c]))).set_ 1 (.int .i64 (gmul p [b, d]))) rfl rfl ?_
    exact ⟨rfl, E.trans (EX.then (below_two (g := w.heap.size + 3) _ _ _) (by omega))⟩
  · go_wp2
    refine ret_ci (a := gmul p [a, c]) (b := gmul p [b, d]) ((BX.set_ 0 (.int .i64 (gmul p [a, c]))).set_ 1 (.int .i64 (gmul p [b, d]))) rfl rfl ?_
    exact ⟨rfl, E.trans (EX.then (below_two (g := w.heap.size + 3) _ _ _) (by omega))⟩
  · go_wp2
    refine ret_ci (a := gmul p [a, c]) (b := gmul p [b, d]) ((BX.set_ 0 (.int .i64 (gmul p [a, c]))).set_ 1 (.int .i64 (gmul p [b, d]))) rfl rfl ?_
    exact ⟨rfl, E.trans (EX.then (below_two (g := w.heap.size + 3) _ _ _) (by omega))⟩

set_option maxRecDepth 100000 in
set_option maxHeartbeats 4000000 in
theorem reencrypt_any (p q g key a b r : Int) (w : World) (h : GrpB p q) (hg : 0 ≤ g ∧ g ≤ 3000000000) (hk : 0 ≤ key ∧ key ≤ 3000000000) (ha : 0 ≤ a ∧ a ≤ 3000000000) (hb : 0 ≤ b ∧ b ≤ 3000000000) (hr : -9000000000000000000 ≤ r ∧ r ≤ 9000000000000000000) :
    Calls Tryz.prog 95 #[.agg #[.int .i64 p, .int .i64 q, .int .i64 g], .int .i64 key, .agg #[.int .i64 a, .int .i64 b], .int .i64 r] w fun e w' => e = .returned (.agg #[.int .i64 (gmul p [a, gencA p q g r]), .int .i64 (gmul p [b, gencB p q key 1 r])]) ∧ Ext w w' := by
  have x1 : 0 ≤ gencA p q g r ∧ gencA p q g r ≤ 2000000000 := gpw_rg p q g r h
  have x2 : 0 ≤ gencB p q key 1 r ∧ gencB p q key 1 r ≤ 2000000000 := gmul2_rg h (by omega) (gpw_rg p q key r h).1
  have B0 := (Blk.new w 33 #[.int .i64 p, .int .i64 q, .int .i64 g]).alloc (.cells #[.int .i64 a, .int .i64 b] 54)
  have B1 := Blk.new (w.alloc (.cells #[.int .i64 p, .int .i64 q, .int .i64 g] 33)) 54 #[.int .i64 a, .int .i64 b]
  have E := (((Ext.refl w).alloc (.cells #[.int .i64 p, .int .i64 q, .int .i64 g] 33)).alloc (.cells #[.int .i64 a, .int .i64 b] 54))
  simp only [World.size_alloc] at B1
  have hsz : ((w.alloc (.cells #[.int .i64 p, .int .i64 q, .int .i64 g] 33)).alloc (.cells #[.int .i64 a, .int .i64 b] 54)).heap.size = w.heap.size + 2 := by simp only [World.size_alloc]
  have BR := Blk.new ((w.alloc (.cells #[.int .i64 p, .int .i64 q, .int .i64 g] 33)).alloc (.cells #[.int .i64 a, .int .i64 b] 54)) 54 #[.int .i64 0, .int .i64 0]
  rw [hsz] at BR
  go_enter Tryz.func95, Tryz.ntmps95
  go_wp2
  generalize ((w.alloc (.cells #[.int .i64 p, .int .i64 q, .int .i64 g] 33)).alloc (.cells #[.int .i64 a, .int .i64 b] 54)) = Wb at *
  have hS : ∀ V, Ext Wb V → V.cell? ⟨w.heap.size, 0, none⟩ = some (.int .i64 p) ∧ V.cell? ⟨w.heap.size, 1, none⟩ = some (.int .i64 q) ∧ V.cell? ⟨w.heap.size, 2, none⟩ = some (.int .i64 g) ∧ V.cell? ⟨w.heap.size + 1, 0, none⟩ = some (.int .i64 a) ∧ V.cell? ⟨w.heap.size + 1, 1, none⟩ = some (.int .i64 b) := fun V hV => by
    have a0 := (B0.ext hV).cells
    have a1 := (B1.ext hV).cells
    exact ⟨a0 0, a0 1, a0 2, a1 0, a1 1⟩
  have hW : Ext Wb (Wb.alloc (.cells #[.int .i64 0, .int .i64 0] 54)) := (Ext.refl Wb).alloc _
  go_region_held3 (fun V => V.cell? ⟨w.heap.size, 0, none⟩ = some (.int .i64 p) ∧ V.cell? ⟨w.heap.size, 1, none⟩ = some (.int .i64 q) ∧ V.cell? ⟨w.heap.size, 2, none⟩ = some (.int .i64 g) ∧ V.cell? ⟨w.heap.size + 1, 0, none⟩ = some (.int .i64 a) ∧ V.cell? ⟨w.heap.size + 1, 1, none⟩ = some (.int .i64 b)) (exact hS _ (by repeat (first | assumption | exact Ext.refl _ | apply Ext.alloc | apply Ext.drew | apply Ext.drewN | refine Ext.setCell ?_ (by first | omega | (simp; omega)) _)))
    (first
      | (go_at_call 111; refine (mulTwo_any p q g a b (gencA p q g r) (gencB p q key 1 r) _ h ha hb (by omega) (by omega)).mono ?_; rintro ek wk2 ⟨rfl, hb2⟩; have hx2 := Ext.trans (w := Wb) (by repeat (first | assumption | exact Ext.refl _ | apply Ext.alloc | apply Ext.drew | apply Ext.drewN | refine Ext.setCell ?_ (by first | omega | (simp; omega)) _)) hb2; have hr2 := Ext.trans (w := (Wb.alloc (.cells #[.int .i64 0, .int .i64 0] 54))) (by repeat (first | assumption | exact Ext.refl _ | apply Ext.alloc | apply Ext.drew | apply Ext.drewN | refine Ext.setCell ?_ (by first | omega | (simp; omega)) _)) hb2; have BX := BR.ext hr2; have F := BX.frozen; have CX := BX.cells; have EX := hx2)
      | (go_at_call 112; refine (encrypt_any p q g key 1 r _ h hg hk (by omega) hr).mono ?_; rintro ek wk1 ⟨rfl, hb1⟩; have hx1 := Ext.trans (w := Wb) (by repeat (first | assumption | exact Ext.refl _ | apply Ext.alloc | apply Ext.drew | apply Ext.drewN | refine Ext.setCell ?_ (by first | omega | (simp; omega)) _)) hb1; have hr1 := Ext.trans (w := (Wb.alloc (.cells #[.int .i64 0, .int .i64 0] 54))) (by repeat (first | assumption | exact Ext.refl _ | apply Ext.alloc | apply Ext.drew | apply Ext.drewN | refine Ext.setCell ?_ (by first | omega | (simp; omega)) _)) hb1))
  go_wp2
  refine ret_ci (a := gmul p [a, gencA p q g r]) (b := gmul p [b, gencB p q key 1 r]) ((BX.set_ 0 (.int .i64 (gmul p [a, gencA p q g r]))).set_ 1 (.int .i64 (gmul p [b, gencB p q key 1 r]))) rfl rfl ?_
  exact ⟨rfl, E.trans (EX.then (below_two (g := w.heap.size + 2) _ _ _) (by omega))⟩

set_option maxRecDepth 100000 in
set_option maxHeartbeats 4000000 in
theorem hasCipher_any (p q g a b : Int) (w : World) (hG : GrpB p q) :
    Calls Tryz.prog 108 #[.agg #[.int .i64 p, .int .i64 q, .int .i64 g], .agg #[.int .i64 a, .int .i64 b]] w fun e w' => e = .returned (.bool (elB p q a && elB p q b)) ∧ Ext w w' := by
  obtain ⟨kk, hkk⟩ : ∃ kq : Bool, (elB p q a && elB p q b) = kq := ⟨_, rfl⟩
  rw [hkk]
  have B0 := (Blk.new w 33 #[.int .i64 p, .int .i64 q, .int .i64 g]).alloc (.cells #[.int .i64 a, .int .i64 b] 54)
  have B1 := Blk.new (w.alloc (.cells #[.int .i64 p, .int .i64 q, .int .i64 g] 33)) 54 #[.int .i64 a, .int .i64 b]
  have E := (((Ext.refl w).alloc (.cells #[.int .i64 p, .int .i64 q, .int .i64 g] 33)).alloc (.cells #[.int .i64 a, .int .i64 b] 54))
  simp only [World.size_alloc] at B1
  cases h1 : (elB p q a)
  · have hk : kk = false := by rw [← hkk]; simp [h1]; try (intros; simp_all)
    rw [hk]
    have H1 := Lib.hid h1
    clear hk hkk h1
    go_enter Tryz.func108, Tryz.ntmps108
    have C_B0 := B0.cells
    have C_B1 := B1.cells
    go_wp2_with fail
    refine (has_any p q g a _ hG).mono ?_
    rintro e w1 ⟨he, hb⟩
    rw [H1.out] at he; subst he
    clear C_B0 C_B1
    replace E := E.trans hb
    replace B0 := B0.ext hb
    replace B1 := B1.ext hb
    clear hb
    have C_B0 := B0.cells
    have C_B1 := B1.cells
    go_wp2
    go_ret
    exact ⟨rfl, E⟩
  cases h2 : (elB p q b)
  · have hk : kk = false := by rw [← hkk]; simp [h1, h2]; try (intros; simp_all)
    rw [hk]
    have H1 := Lib.hid h1
    have H2 := Lib.hid h2
    clear hk hkk h1 h2
    go_enter Tryz.func108, Tryz.ntmps108
    have C_B0 := B0.cells
    have C_B1 := B1.cells
    go_wp2_with fail
    refine (has_any p q g a _ hG).mono ?_
    rintro e w1 ⟨he, hb⟩
    rw [H1.out] at he; subst he
    clear C_B0 C_B1
    replace E := E.trans hb
    replace B0 := B0.ext hb
    replace B1 := B1.ext hb
    clear hb
    have C_B0 := B0.cells
    have C_B1 := B1.cells
    go_wp2_with fail
    refine (has_any p q g b _ hG).mono ?_
    rintro e w2 ⟨he, hb⟩
    rw [H2.out] at he; subst he
    clear C_B0 C_B1
    replace E := E.trans hb
    replace B0 := B0.ext hb
    replace B1 := B1.ext hb
    clear hb
    have C_B0 := B0.cells
    have C_B1 := B1.cells
    go_wp2
    go_ret
    exact ⟨rfl, E⟩
  have hk : kk = true := by rw [← hkk]; simp_all
  rw [hk]
  have H1 := Lib.hid h1
  have H2 := Lib.hid h2
  clear hk hkk h1 h2
  go_enter Tryz.func108, Tryz.ntmps108
  have C_B0 := B0.cells
  have C_B1 := B1.cells
  go_wp2_with fail
  refine (has_any p q g a _ hG).mono ?_
  rintro e w1 ⟨he, hb⟩
  rw [H1.out] at he; subst he
  clear C_B0 C_B1
  replace E := E.trans hb
  replace B0 := B0.ext hb
  replace B1 := B1.ext hb
  clear hb
  have C_B0 := B0.cells
  have C_B1 := B1.cells
  go_wp2_with fail
  refine (has_any p q g b _ hG).mono ?_
  rintro e w2 ⟨he, hb⟩
  rw [H2.out] at he; subst he
  clear C_B0 C_B1
  replace E := E.trans hb
  replace B0 := B0.ext hb
  replace B1 := B1.ext hb
  clear hb
  have C_B0 := B0.cells
  have C_B1 := B1.cells
  go_wp2
  go_ret
  exact ⟨rfl, E⟩

theorem keyB_and (a b : Bool) : (a && b) = (a && b) := rfl

set_option maxRecDepth 100000 in
set_option maxHeartbeats 4000000 in
theorem eKey_any (p q g k : Int) (w : World) :
    Calls Tryz.prog 32 #[.agg #[.int .i64 p, .int .i64 q, .int .i64 g], .int .i64 k] w fun e w' => e = .returned (.bool (grpB p q g && elB p q k)) ∧ Ext w w' := by
  obtain ⟨kk, hkk⟩ : ∃ kq : Bool, (grpB p q g && elB p q k) = kq := ⟨_, rfl⟩
  rw [hkk]
  have B0 := Blk.new w 33 #[.int .i64 p, .int .i64 q, .int .i64 g]
  have E := ((Ext.refl w).alloc (.cells #[.int .i64 p, .int .i64 q, .int .i64 g] 33))
  cases h1 : (grpB p q g)
  · have hk : kk = false := by rw [← hkk]; simp [h1]; try (intros; simp_all)
    rw [hk]
    have H1 := Lib.hid h1
    clear hk hkk h1
    go_enter Tryz.func32, Tryz.ntmps32
    have C_B0 := B0.cells
    go_wp2_with fail
    refine (l2Good_any p q g _).mono ?_
    rintro e w1 ⟨he, hb⟩
    rw [H1.out] at he; subst he
    clear C_B0
    replace E := E.trans hb
    replace B0 := B0.ext hb
    clear hb
    have C_B0 := B0.cells
    go_wp2
    go_ret
    exact ⟨rfl, E⟩
  have hG := (grpB_in h1).bd
  have hGI := grpB_in h1
  have hp9 := hGI.p9
  cases h2 : (elB p q k)
  · have hk : kk = false := by rw [← hkk]; simp [h1, h2]; try (intros; simp_all)
    rw [hk]
    have H1 := Lib.hid h1
    have H2 := Lib.hid h2
    clear hk hkk h1 h2
    go_enter Tryz.func32, Tryz.ntmps32
    have C_B0 := B0.cells
    go_wp2_with fail
    refine (l2Good_any p q g _).mono ?_
    rintro e w1 ⟨he, hb⟩
    rw [H1.out] at he; subst he
    clear C_B0
    replace E := E.trans hb
    replace B0 := B0.ext hb
    clear hb
    have C_B0 := B0.cells
    go_wp2_with fail
    replace E := E.alloc (.cells #[.int .i64 k] 3)
    replace B0 := B0.alloc (.cells #[.int .i64 k] 3)
    refine (gIs_any p q g _ 1 1 [k] _ hG (rd_one (by simp)) rfl (by decide)).mono ?_
    rintro e w2 ⟨he, hb⟩
    simp only [List.all_cons, List.all_nil, Bool.and_true] at he
    rw [H2.out] at he; subst he
    clear C_B0
    replace E := E.trans hb
    replace B0 := B0.ext hb
    clear hb
    have C_B0 := B0.cells
    go_wp2
    go_ret
    exact ⟨rfl, E⟩
  have hk : kk = true := by rw [← hkk]; simp_all
  rw [hk]
  have H1 := Lib.hid h1
  have H2 := Lib.hid h2
  clear hk hkk h1 h2
  go_enter Tryz.func32, Tryz.ntmps32
  have C_B0 := B0.cells
  go_wp2_with fail
  refine (l2Good_any p q g _).mono ?_
  rintro e w1 ⟨he, hb⟩
  rw [H1.out] at he; subst he
  clear C_B0
  replace E := E.trans hb
  replace B0 := B0.ext hb
  clear hb
  have C_B0 := B0.cells
  go_wp2_with fail
  replace E := E.alloc (.cells #[.int .i64 k] 3)
  replace B0 := B0.alloc (.cells #[.int .i64 k] 3)
  refine (gIs_any p q g _ 1 1 [k] _ hG (rd_one (by simp)) rfl (by decide)).mono ?_
  rintro e w2 ⟨he, hb⟩
  simp only [List.all_cons, List.all_nil, Bool.and_true] at he
  rw [H2.out] at he; subst he
  clear C_B0
  replace E := E.trans hb
  replace B0 := B0.ext hb
  clear hb
  have C_B0 := B0.cells
  go_wp2
  go_ret
  exact ⟨rfl, E⟩





end Go.Proofs.YtnhdohjlbchniaaGreat
