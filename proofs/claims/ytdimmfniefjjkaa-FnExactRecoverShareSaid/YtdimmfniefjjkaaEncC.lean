/- Contracts for ciphertexts: encryption, products, decryption. (Printed by tools/gen_encc.py.) -/
import Derived.Test.YtdimmfniefjjkaaProg
import Derived.Test.YtdimmfniefjjkaaGrpO
import Derived.Test.YtdimmfniefjjkaaEncP
import Derived.Test.YtdimmfniefjjkaaFunC
namespace Go.Proofs.Ytdimmfniefjjkaa
open Go.RowKit

theorem gpw_rg (p q x e : Int) (h : GrpB p q) : 0 ≤ gpw p q x e ∧ gpw p q x e ≤ 2000000000 := by
  obtain ⟨p1, p2, q1, q2⟩ := h
  unfold gpw powM
  have := Nat.mod_lt (x.toNat ^ (e % q).toNat) (show 0 < p.toNat by omega)
  omega
theorem gmul_rg {p q : Int} (h : GrpB p q) {l : List Int} (hr : ∀ x ∈ l, 0 ≤ x) : 0 ≤ gmul p l ∧ gmul p l ≤ 2000000000 := by
  obtain ⟨p1, p2, q1, q2⟩ := h
  unfold gmul
  suffices H : ∀ (l : List Int) (o : Int), (∀ x ∈ l, 0 ≤ x) → 0 ≤ o ∧ o ≤ 2000000000 → 0 ≤ l.foldl (fun o x => o * x % p) o ∧ l.foldl (fun o x => o * x % p) o ≤ 2000000000 from H l 1 hr (by omega)
  intro l
  induction l with
  | nil => intro o _ h; exact h
  | cons x l ih =>
    intro o hx _
    have hb := emod_bd (x := o * x) p1
    exact ih _ (fun y hy => hx y (by simp [hy])) ⟨hb.1, by have := hb.2; show o * x % p ≤ 2000000000; omega⟩
theorem gmul2_rg {p q x y : Int} (h : GrpB p q) (hx : 0 ≤ x) (hy : 0 ≤ y) : 0 ≤ gmul p [x, y] ∧ gmul p [x, y] ≤ 2000000000 := gmul_rg h (by
  intro z hz
  simp only [List.mem_cons, List.not_mem_nil, or_false] at hz
  rcases hz with rfl | rfl <;> assumption)
theorem two_rg {x y : Int} (hx : 0 ≤ x ∧ x ≤ 3000000000) (hy : 0 ≤ y ∧ y ≤ 3000000000) : ∀ z ∈ [x, y], 0 ≤ z ∧ z ≤ 3000000000 := by
  intro z hz
  simp only [List.mem_cons, List.not_mem_nil, or_false] at hz
  rcases hz with rfl | rfl <;> omega
/-- A slice of two ints that has just been laid. -/
theorem rd_two {w : World} {x y : Int} {k : Nat} (hk : k = w.heap.size) : RdI (w.alloc (.cells #[.int .i64 x, .int .i64 y] 3)) (some ⟨k, 0, none⟩) [x, y] :=
  (ownI_lit (w := w) (base := w.heap.size) [x, y] rfl hk (Nat.le_refl _) (by unfold maxLen; simp)).rd
theorem rd_one {w : World} {x : Int} {k : Nat} (hk : k = w.heap.size) : RdI (w.alloc (.cells #[.int .i64 x] 3)) (some ⟨k, 0, none⟩) [x] :=
  (ownI_lit (w := w) (base := w.heap.size) [x] rfl hk (Nat.le_refl _) (by unfold maxLen; simp)).rd
/-- At the return: a pair of ints that lies in a cell. -/
theorem ret_ci {fn : Func} {w : World} {g : Nat} {t : Tmp} {a b : Int} {tm : Array Value} {Q : Ending → World → Prop}
    (B : Blk w g 39 #[.int .i64 a, .int .i64 b])
    (h : fn.results = #[.cell t 39]) (ht : tm.getD t undef = .pointer (some ⟨g, 0, none⟩)) (hQ : Q (.returned (.agg #[.int .i64 a, .int .i64 b])) w) :
    bodyPost Try.prog fn Q .ret { tmps := tm, defers := [] } w := by
  have C := B.cells
  refine bodyPost_ret (v := .agg #[.int .i64 a, .int .i64 b]) ?_ rfl hQ
  have ht' : (tm[t]?).getD undef = .pointer (some ⟨g, 0, none⟩) := by simpa using ht
  simp [results, h, ht', go_sem, C]
theorem ret_ciB {fn : Func} {w : World} {g : Nat} {t u : Tmp} {a b : Int} {k : Bool} {tm : Array Value} {Q : Ending → World → Prop}
    (B : Blk w g 39 #[.int .i64 a, .int .i64 b])
    (h : fn.results = #[.cell t 39, .tmp u]) (ht : tm.getD t undef = .pointer (some ⟨g, 0, none⟩)) (hu : tm.getD u undef = .bool k) (hQ : Q (.returned (.tuple #[.agg #[.int .i64 a, .int .i64 b], .bool k])) w) :
    bodyPost Try.prog fn Q .ret { tmps := tm, defers := [] } w := by
  have C := B.cells
  refine bodyPost_ret (v := .tuple #[.agg #[.int .i64 a, .int .i64 b], .bool k]) ?_ rfl hQ
  have ht' : (tm[t]?).getD undef = .pointer (some ⟨g, 0, none⟩) := by simpa using ht
  have hu' : (tm[u]?).getD undef = .bool k := by simpa using hu
  simp [results, h, ht', hu', go_sem, C]
theorem below_two {g : Nat} (u : World) (a b : Value) : Below g u ((u.setCell ⟨g, 0, none⟩ a).setCell ⟨g, 1, none⟩ b) :=
  ((Below.refl g u).setCell (p := ⟨g, 0, none⟩) (Nat.le_refl _) a).setCell (p := ⟨g, 1, none⟩) (Nat.le_refl _) b

set_option maxRecDepth 100000 in
set_option maxHeartbeats 4000000 in
theorem encrypt_any (p q g key m r : Int) (w : World) (h : GrpB p q) (hg : 0 ≤ g ∧ g ≤ 3000000000) (hk : 0 ≤ key ∧ key ≤ 3000000000) (hm : 0 ≤ m ∧ m ≤ 3000000000) (hr : -9000000000000000000 ≤ r ∧ r ≤ 9000000000000000000) :
    Calls Try.prog 123 #[.agg #[.int .i64 p, .int .i64 q, .int .i64 g], .int .i64 key, .int .i64 m, .int .i64 r] w fun e w' => e = .returned (.agg #[.int .i64 (gencA p q g r), .int .i64 (gencB p q key m r)]) ∧ Ext w w' := by
  have x1 := gpw_rg p q g r h
  have x2 := gpw_rg p q key r h
  unfold gencA gencB
  have B0 := Blk.new w 37 #[.int .i64 p, .int .i64 q, .int .i64 g]
  have E := ((Ext.refl w).alloc (.cells #[.int .i64 p, .int .i64 q, .int .i64 g] 37))
  have hsz : (w.alloc (.cells #[.int .i64 p, .int .i64 q, .int .i64 g] 37)).heap.size = w.heap.size + 1 := by simp only [World.size_alloc]
  have BR := Blk.new (w.alloc (.cells #[.int .i64 p, .int .i64 q, .int .i64 g] 37)) 39 #[.int .i64 0, .int .i64 0]
  rw [hsz] at BR
  go_enter Try.func123, Try.ntmps123
  go_wp2
  generalize (w.alloc (.cells #[.int .i64 p, .int .i64 q, .int .i64 g] 37)) = Wb at *
  have hS : ∀ V, Ext Wb V → V.cell? ⟨w.heap.size, 0, none⟩ = some (.int .i64 p) ∧ V.cell? ⟨w.heap.size, 1, none⟩ = some (.int .i64 q) ∧ V.cell? ⟨w.heap.size, 2, none⟩ = some (.int .i64 g) := fun V hV => by
    have a0 := (B0.ext hV).cells
    exact ⟨a0 0, a0 1, a0 2⟩
  have hW : Ext Wb (Wb.alloc (.cells #[.int .i64 0, .int .i64 0] 39)) := (Ext.refl Wb).alloc _
  go_region_held3 (fun V => V.cell? ⟨w.heap.size, 0, none⟩ = some (.int .i64 p) ∧ V.cell? ⟨w.heap.size, 1, none⟩ = some (.int .i64 q) ∧ V.cell? ⟨w.heap.size, 2, none⟩ = some (.int .i64 g)) (exact hS _ (by repeat (first | assumption | exact Ext.refl _ | apply Ext.alloc | apply Ext.drew | apply Ext.drewN | refine Ext.setCell ?_ (by first | omega | (simp; omega)) _)))
    (first
      | (go_at_call 203; refine (mul_any p q g _ 2 2 [m, gpw p q key r] _ h (rd_two (by simp)) rfl (by decide) (two_rg hm (by omega))).mono ?_; rintro ek wk3 ⟨rfl, hb3⟩; have hx3 := Ext.trans (w := Wb) (by repeat (first | assumption | exact Ext.refl _ | apply Ext.alloc | apply Ext.drew | apply Ext.drewN | refine Ext.setCell ?_ (by first | omega | (simp; omega)) _)) hb3; have hr3 := Ext.trans (w := (Wb.alloc (.cells #[.int .i64 0, .int .i64 0] 39))) (by repeat (first | assumption | exact Ext.refl _ | apply Ext.alloc | apply Ext.drew | apply Ext.drewN | refine Ext.setCell ?_ (by first | omega | (simp; omega)) _)) hb3; have BX := BR.ext hr3; have F := BX.frozen; have CX := BX.cells; have EX := hx3)
      | (go_at_call 144; refine (pow_any p q g _ r _ h (by omega) (by omega) hr.1 hr.2).mono ?_; rintro ek wk1 ⟨rfl, hb1⟩; have hx1 := Ext.trans (w := Wb) (by repeat (first | assumption | exact Ext.refl _ | apply Ext.alloc | apply Ext.drew | apply Ext.drewN | refine Ext.setCell ?_ (by first | omega | (simp; omega)) _)) hb1; have hr1 := Ext.trans (w := (Wb.alloc (.cells #[.int .i64 0, .int .i64 0] 39))) (by repeat (first | assumption | exact Ext.refl _ | apply Ext.alloc | apply Ext.drew | apply Ext.drewN | refine Ext.setCell ?_ (by first | omega | (simp; omega)) _)) hb1))
  go_wp2
  refine ret_ci (a := gpw p q g r) (b := gmul p [m, gpw p q key r]) ((BX.set_ 0 (.int .i64 (gpw p q g r))).set_ 1 (.int .i64 (gmul p [m, gpw p q key r]))) rfl rfl ?_
  exact ⟨rfl, E.trans (EX.then (below_two (g := w.heap.size + 1) _ _ _) (by omega))⟩

set_option maxRecDepth 100000 in
set_option maxHeartbeats 4000000 in
theorem eEnc_any (p q g key m r : Int) (w : World) (h : GrpB p q) (hg : 0 ≤ g ∧ g ≤ 3000000000) (hk : 0 ≤ key ∧ key ≤ 3000000000) (hm : 0 ≤ m ∧ m ≤ 3000000000) (hr : -9000000000000000000 ≤ r ∧ r ≤ 9000000000000000000) :
    Calls Try.prog 126 #[.agg #[.int .i64 p, .int .i64 q, .int .i64 g], .int .i64 key, .int .i64 m, .int .i64 r] w fun e w' => e = .returned (.agg #[.int .i64 (gencA p q g r), .int .i64 (gencB p q key m r)]) ∧ Ext w w' := by
  have x1 := gpw_rg p q g r h
  have x2 := gpw_rg p q key r h
  unfold gencA gencB
  have B0 := Blk.new w 37 #[.int .i64 p, .int .i64 q, .int .i64 g]
  have E := ((Ext.refl w).alloc (.cells #[.int .i64 p, .int .i64 q, .int .i64 g] 37))
  have hsz : (w.alloc (.cells #[.int .i64 p, .int .i64 q, .int .i64 g] 37)).heap.size = w.heap.size + 1 := by simp only [World.size_alloc]
  have BR := Blk.new (w.alloc (.cells #[.int .i64 p, .int .i64 q, .int .i64 g] 37)) 39 #[.int .i64 0, .int .i64 0]
  rw [hsz] at BR
  go_enter Try.func126, Try.ntmps126
  go_wp2
  generalize (w.alloc (.cells #[.int .i64 p, .int .i64 q, .int .i64 g] 37)) = Wb at *
  have hS : ∀ V, Ext Wb V → V.cell? ⟨w.heap.size, 0, none⟩ = some (.int .i64 p) ∧ V.cell? ⟨w.heap.size, 1, none⟩ = some (.int .i64 q) ∧ V.cell? ⟨w.heap.size, 2, none⟩ = some (.int .i64 g) := fun V hV => by
    have a0 := (B0.ext hV).cells
    exact ⟨a0 0, a0 1, a0 2⟩
  have hW : Ext Wb (Wb.alloc (.cells #[.int .i64 0, .int .i64 0] 39)) := (Ext.refl Wb).alloc _
  go_region_held3 (fun V => V.cell? ⟨w.heap.size, 0, none⟩ = some (.int .i64 p) ∧ V.cell? ⟨w.heap.size, 1, none⟩ = some (.int .i64 q) ∧ V.cell? ⟨w.heap.size, 2, none⟩ = some (.int .i64 g)) (exact hS _ (by repeat (first | assumption | exact Ext.refl _ | apply Ext.alloc | apply Ext.drew | apply Ext.drewN | refine Ext.setCell ?_ (by first | omega | (simp; omega)) _)))
    (first
      | (go_at_call 205; refine (gMul_any p q g _ 2 2 [m, gpw p q key r] _ h (rd_two (by simp)) rfl (by decide) (two_rg hm (by omega))).mono ?_; rintro ek wk3 ⟨rfl, hb3⟩; have hx3 := Ext.trans (w := Wb) (by repeat (first | assumption | exact Ext.refl _ | apply Ext.alloc | apply Ext.drew | apply Ext.drewN | refine Ext.setCell ?_ (by first | omega | (simp; omega)) _)) hb3; have hr3 := Ext.trans (w := (Wb.alloc (.cells #[.int .i64 0, .int .i64 0] 39))) (by repeat (first | assumption | exact Ext.refl _ | apply Ext.alloc | apply Ext.drew | apply Ext.drewN | refine Ext.setCell ?_ (by first | omega | (simp; omega)) _)) hb3; have BX := BR.ext hr3; have F := BX.frozen; have CX := BX.cells; have EX := hx3)
      | (go_at_call 135; refine (gExp_any p q g _ r _ h (by omega) (by omega) hr.1 hr.2).mono ?_; rintro ek wk1 ⟨rfl, hb1⟩; have hx1 := Ext.trans (w := Wb) (by repeat (first | assumption | exact Ext.refl _ | apply Ext.alloc | apply Ext.drew | apply Ext.drewN | refine Ext.setCell ?_ (by first | omega | (simp; omega)) _)) hb1; have hr1 := Ext.trans (w := (Wb.alloc (.cells #[.int .i64 0, .int .i64 0] 39))) (by repeat (first | assumption | exact Ext.refl _ | apply Ext.alloc | apply Ext.drew | apply Ext.drewN | refine Ext.setCell ?_ (by first | omega | (simp; omega)) _)) hb1))
  go_wp2
  refine ret_ci (a := gpw p q g r) (b := gmul p [m, gpw p q key r]) ((BX.set_ 0 (.int .i64 (gpw p q g r))).set_ 1 (.int .i64 (gmul p [m, gpw p q key r]))) rfl rfl ?_
  exact ⟨rfl, E.trans (EX.then (below_two (g := w.heap.size + 1) _ _ _) (by omega))⟩

set_option maxRecDepth 100000 in
set_option maxHeartbeats 4000000 in
theorem decrypt_any (p q g x a b : Int) (w : World) (h : GrpB p q) (ha : 0 ≤ a ∧ a ≤ 3000000000) (hb : 0 ≤ b ∧ b ≤ 3000000000) (hx : -9000000000000000000 ≤ x ∧ x ≤ 9000000000000000000) :
    Calls Try.prog 116 #[.agg #[.int .i64 p, .int .i64 q, .int .i64 g], .int .i64 x, .agg #[.int .i64 a, .int .i64 b]] w fun e w' => e = .returned (.int .i64 (gdec p q x a b)) ∧ Ext w w' := by
  have x1 := gpw_rg p q a x h
  have x2 := gpw_rg p q (gpw p q a x) (-1) h
  unfold gdec
  have B0 := (Blk.new w 37 #[.int .i64 p, .int .i64 q, .int .i64 g]).alloc (.cells #[.int .i64 a, .int .i64 b] 39)
  have B1 := Blk.new (w.alloc (.cells #[.int .i64 p, .int .i64 q, .int .i64 g] 37)) 39 #[.int .i64 a, .int .i64 b]
  have E := (((Ext.refl w).alloc (.cells #[.int .i64 p, .int .i64 q, .int .i64 g] 37)).alloc (.cells #[.int .i64 a, .int .i64 b] 39))
  simp only [World.size_alloc] at B1
  have hsz : ((w.alloc (.cells #[.int .i64 p, .int .i64 q, .int .i64 g] 37)).alloc (.cells #[.int .i64 a, .int .i64 b] 39)).heap.size = w.heap.size + 2 := by simp only [World.size_alloc]
  go_enter Try.func116, Try.ntmps116
  go_wp2
  generalize ((w.alloc (.cells #[.int .i64 p, .int .i64 q, .int .i64 g] 37)).alloc (.cells #[.int .i64 a, .int .i64 b] 39)) = Wb at *
  have hS : ∀ V, Ext Wb V → V.cell? ⟨w.heap.size, 0, none⟩ = some (.int .i64 p) ∧ V.cell? ⟨w.heap.size, 1, none⟩ = some (.int .i64 q) ∧ V.cell? ⟨w.heap.size, 2, none⟩ = some (.int .i64 g) ∧ V.cell? ⟨w.heap.size + 1, 0, none⟩ = some (.int .i64 a) ∧ V.cell? ⟨w.heap.size + 1, 1, none⟩ = some (.int .i64 b) := fun V hV => by
    have a0 := (B0.ext hV).cells
    have a1 := (B1.ext hV).cells
    exact ⟨a0 0, a0 1, a0 2, a1 0, a1 1⟩
  go_region_held3 (fun V => V.cell? ⟨w.heap.size, 0, none⟩ = some (.int .i64 p) ∧ V.cell? ⟨w.heap.size, 1, none⟩ = some (.int .i64 q) ∧ V.cell? ⟨w.heap.size, 2, none⟩ = some (.int .i64 g) ∧ V.cell? ⟨w.heap.size + 1, 0, none⟩ = some (.int .i64 a) ∧ V.cell? ⟨w.heap.size + 1, 1, none⟩ = some (.int .i64 b)) (exact hS _ (by repeat (first | assumption | exact Ext.refl _ | apply Ext.alloc | apply Ext.drew | apply Ext.drewN | refine Ext.setCell ?_ (by first | omega | (simp; omega)) _)))
    (first
      | (go_at_call 203; refine (mul_any p q g _ 2 2 [b, gpw p q (gpw p q a x) (-1)] _ h (rd_two (by simp)) rfl (by decide) (two_rg hb (by omega))).mono ?_; rintro ek wk3 ⟨rfl, hb3⟩; have hx3 := Ext.trans (w := Wb) (by repeat (first | assumption | exact Ext.refl _ | apply Ext.alloc | apply Ext.drew | apply Ext.drewN | refine Ext.setCell ?_ (by first | omega | (simp; omega)) _)) hb3; have EX := hx3)
      | (go_at_call 204; refine (inv_any p q g (gpw p q a x) _ h (by omega) (by omega)).mono ?_; rintro ek wk2 ⟨rfl, hb2⟩; have hx2 := Ext.trans (w := Wb) (by repeat (first | assumption | exact Ext.refl _ | apply Ext.alloc | apply Ext.drew | apply Ext.drewN | refine Ext.setCell ?_ (by first | omega | (simp; omega)) _)) hb2)
      | (go_at_call 144; refine (pow_any p q g a x _ h (by omega) (by omega) hx.1 hx.2).mono ?_; rintro ek wk1 ⟨rfl, hb1⟩; have hx1 := Ext.trans (w := Wb) (by repeat (first | assumption | exact Ext.refl _ | apply Ext.alloc | apply Ext.drew | apply Ext.drewN | refine Ext.setCell ?_ (by first | omega | (simp; omega)) _)) hb1))
  go_wp2
  go_ret
  exact ⟨rfl, E.trans EX⟩

set_option maxRecDepth 100000 in
set_option maxHeartbeats 4000000 in
theorem eDec_any (p q g x a b : Int) (w : World) (h : GrpB p q) (ha : 0 ≤ a ∧ a ≤ 3000000000) (hb : 0 ≤ b ∧ b ≤ 3000000000) (hx : -9000000000000000000 ≤ x ∧ x ≤ 9000000000000000000) :
    Calls Try.prog 120 #[.agg #[.int .i64 p, .int .i64 q, .int .i64 g], .int .i64 x, .agg #[.int .i64 a, .int .i64 b]] w fun e w' => e = .returned (.int .i64 (gdec p q x a b)) ∧ Ext w w' := by
  have x1 := gpw_rg p q a x h
  have x2 := gpw_rg p q (gpw p q a x) (-1) h
  unfold gdec
  have B0 := (Blk.new w 37 #[.int .i64 p, .int .i64 q, .int .i64 g]).alloc (.cells #[.int .i64 a, .int .i64 b] 39)
  have B1 := Blk.new (w.alloc (.cells #[.int .i64 p, .int .i64 q, .int .i64 g] 37)) 39 #[.int .i64 a, .int .i64 b]
  have E := (((Ext.refl w).alloc (.cells #[.int .i64 p, .int .i64 q, .int .i64 g] 37)).alloc (.cells #[.int .i64 a, .int .i64 b] 39))
  simp only [World.size_alloc] at B1
  have hsz : ((w.alloc (.cells #[.int .i64 p, .int .i64 q, .int .i64 g] 37)).alloc (.cells #[.int .i64 a, .int .i64 b] 39)).heap.size = w.heap.size + 2 := by simp only [World.size_alloc]
  go_enter Try.func120, Try.ntmps120
  go_wp2
  generalize ((w.alloc (.cells #[.int .i64 p, .int .i64 q, .int .i64 g] 37)).alloc (.cells #[.int .i64 a, .int .i64 b] 39)) = Wb at *
  have hS : ∀ V, Ext Wb V → V.cell? ⟨w.heap.size, 0, none⟩ = some (.int .i64 p) ∧ V.cell? ⟨w.heap.size, 1, none⟩ = some (.int .i64 q) ∧ V.cell? ⟨w.heap.size, 2, none⟩ = some (.int .i64 g) ∧ V.cell? ⟨w.heap.size + 1, 0, none⟩ = some (.int .i64 a) ∧ V.cell? ⟨w.heap.size + 1, 1, none⟩ = some (.int .i64 b) := fun V hV => by
    have a0 := (B0.ext hV).cells
    have a1 := (B1.ext hV).cells
    exact ⟨a0 0, a0 1, a0 2, a1 0, a1 1⟩
  go_region_held3 (fun V => V.cell? ⟨w.heap.size, 0, none⟩ = some (.int .i64 p) ∧ V.cell? ⟨w.heap.size, 1, none⟩ = some (.int .i64 q) ∧ V.cell? ⟨w.heap.size, 2, none⟩ = some (.int .i64 g) ∧ V.cell? ⟨w.heap.size + 1, 0, none⟩ = some (.int .i64 a) ∧ V.cell? ⟨w.heap.size + 1, 1, none⟩ = some (.int .i64 b)) (exact hS _ (by repeat (first | assumption | exact Ext.refl _ | apply Ext.alloc | apply Ext.drew | apply Ext.drewN | refine Ext.setCell ?_ (by first | omega | (simp; omega)) _)))
    (first
      | (go_at_call 205; refine (gMul_any p q g _ 2 2 [b, gpw p q (gpw p q a x) (-1)] _ h (rd_two (by simp)) rfl (by decide) (two_rg hb (by omega))).mono ?_; rintro ek wk3 ⟨rfl, hb3⟩; have hx3 := Ext.trans (w := Wb) (by repeat (first | assumption | exact Ext.refl _ | apply Ext.alloc | apply Ext.drew | apply Ext.drewN | refine Ext.setCell ?_ (by first | omega | (simp; omega)) _)) hb3; have EX := hx3)
      | (go_at_call 206; refine (gInv_any p q g (gpw p q a x) _ h (by omega) (by omega)).mono ?_; rintro ek wk2 ⟨rfl, hb2⟩; have hx2 := Ext.trans (w := Wb) (by repeat (first | assumption | exact Ext.refl _ | apply Ext.alloc | apply Ext.drew | apply Ext.drewN | refine Ext.setCell ?_ (by first | omega | (simp; omega)) _)) hb2)
      | (go_at_call 135; refine (gExp_any p q g a x _ h (by omega) (by omega) hx.1 hx.2).mono ?_; rintro ek wk1 ⟨rfl, hb1⟩; have hx1 := Ext.trans (w := Wb) (by repeat (first | assumption | exact Ext.refl _ | apply Ext.alloc | apply Ext.drew | apply Ext.drewN | refine Ext.setCell ?_ (by first | omega | (simp; omega)) _)) hb1))
  go_wp2
  go_ret
  exact ⟨rfl, E.trans EX⟩

set_option maxRecDepth 100000 in
set_option maxHeartbeats 4000000 in
theorem mulTwo_any (p q g a b c d : Int) (w : World) (h : GrpB p q) (ha : 0 ≤ a ∧ a ≤ 3000000000) (hb : 0 ≤ b ∧ b ≤ 3000000000) (hc : 0 ≤ c ∧ c ≤ 3000000000) (hd : 0 ≤ d ∧ d ≤ 3000000000) :
    Calls Try.prog 209 #[.agg #[.int .i64 p, .int .i64 q, .int .i64 g], .agg #[.int .i64 a, .int .i64 b], .agg #[.int .i64 c, .int .i64 d]] w fun e w' => e = .returned (.agg #[.int .i64 (gmul p [a, c]), .int .i64 (gmul p [b, d])]) ∧ Ext w w' := by
  have B0 := ((Blk.new w 37 #[.int .i64 p, .int .i64 q, .int .i64 g]).alloc (.cells #[.int .i64 a, .int .i64 b] 39)).alloc (.cells #[.int .i64 c, .int .i64 d] 39)
  have B1 := (Blk.new (w.alloc (.cells #[.int .i64 p, .int .i64 q, .int .i64 g] 37)) 39 #[.int .i64 a, .int .i64 b]).alloc (.cells #[.int .i64 c, .int .i64 d] 39)
  have B2 := Blk.new ((w.alloc (.cells #[.int .i64 p, .int .i64 q, .int .i64 g] 37)).alloc (.cells #[.int .i64 a, .int .i64 b] 39)) 39 #[.int .i64 c, .int .i64 d]
  have E := ((((Ext.refl w).alloc (.cells #[.int .i64 p, .int .i64 q, .int .i64 g] 37)).alloc (.cells #[.int .i64 a, .int .i64 b] 39)).alloc (.cells #[.int .i64 c, .int .i64 d] 39))
  simp only [World.size_alloc] at B1 B2
  have hsz : (((w.alloc (.cells #[.int .i64 p, .int .i64 q, .int .i64 g] 37)).alloc (.cells #[.int .i64 a, .int .i64 b] 39)).alloc (.cells #[.int .i64 c, .int .i64 d] 39)).heap.size = w.heap.size + 3 := by simp only [World.size_alloc]
  have BR := Blk.new (((w.alloc (.cells #[.int .i64 p, .int .i64 q, .int .i64 g] 37)).alloc (.cells #[.int .i64 a, .int .i64 b] 39)).alloc (.cells #[.int .i64 c, .int .i64 d] 39)) 39 #[.int .i64 0, .int .i64 0]
  rw [hsz] at BR
  go_enter Try.func209, Try.ntmps209
  go_wp2
  generalize (((w.alloc (.cells #[.int .i64 p, .int .i64 q, .int .i64 g] 37)).alloc (.cells #[.int .i64 a, .int .i64 b] 39)).alloc (.cells #[.int .i64 c, .int .i64 d] 39)) = Wb at *
  have hS : ∀ V, Ext Wb V → V.cell? ⟨w.heap.size, 0, none⟩ = some (.int .i64 p) ∧ V.cell? ⟨w.heap.size, 1, none⟩ = some (.int .i64 q) ∧ V.cell? ⟨w.heap.size, 2, none⟩ = some (.int .i64 g) ∧ V.cell? ⟨w.heap.size + 1, 0, none⟩ = some (.int .i64 a) ∧ V.cell? ⟨w.heap.size + 1, 1, none⟩ = some (.int .i64 b) ∧ V.cell? ⟨w.heap.size + 2, 0, none⟩ = some (.int .i64 c) ∧ V.cell? ⟨w.heap.size + 2, 1, none⟩ = some (.int .i64 d) := fun V hV => by
    have a0 := (B0.ext hV).cells
    have a1 := (B1.ext hV).cells
    have a2 := (B2.ext hV).cells
    exact ⟨a0 0, a0 1, a0 2, a1 0, a1 1, a2 0, a2 1⟩
  have hW : Ext Wb (Wb.alloc (.cells #[.int .i64 0, .int .i64 0] 39)) := (Ext.refl Wb).alloc _
  go_region_held3 (fun V => V.cell? ⟨w.heap.size, 0, none⟩ = some (.int .i64 p) ∧ V.cell? ⟨w.heap.size, 1, none⟩ = some (.int .i64 q) ∧ V.cell? ⟨w.heap.size, 2, none⟩ = some (.int .i64 g) ∧ V.cell? ⟨w.heap.size + 1, 0, none⟩ = some (.int .i64 a) ∧ V.cell? ⟨w.heap.size + 1, 1, none⟩ = some (.int .i64 b) ∧ V.cell? ⟨w.heap.size + 2, 0, none⟩ = some (.int .i64 c) ∧ V.cell? ⟨w.heap.size + 2, 1, none⟩ = some (.int .i64 d)) (exact hS _ (by repeat (first | assumption | exact Ext.refl _ | apply Ext.alloc | apply Ext.drew | apply Ext.drewN | refine Ext.setCell ?_ (by first | omega | (simp; omega)) _)))
    (first
      | (go_at_call 203; first | (have hb0 := hb1; refine (mul_any p q g _ 2 2 [b, d] _ h (by first | exact rd_two (w := wk1) (by first | (simp; done) | (simp; omega)) | exact RdI.ext (RdI.ext (rd_two (w := (Wb.alloc (.cells #[.int .i64 0, .int .i64 0] 39)).alloc (.cells #[.int .i64 a, .int .i64 c] 3)) (by first | (simp; done) | (simp; omega))) (by repeat (first | apply Ext.drew | exact Ext.refl _ | apply Ext.alloc))) hb1 | exact RdI.ext (RdI.ext (rd_two (w := (Wb.alloc (.cells #[.int .i64 0, .int .i64 0] 39))) (by first | (simp; done) | (simp; omega))) (by repeat (first | apply Ext.drew | exact Ext.refl _ | apply Ext.alloc))) hb1 | fail) rfl (by decide) (two_rg hb hd)).mono ?_; rintro ek wk2 ⟨rfl, hb2⟩; have hx2 := Ext.trans (w := Wb) (by repeat (first | assumption | exact Ext.refl _ | apply Ext.alloc | apply Ext.drew | apply Ext.drewN | refine Ext.setCell ?_ (by first | omega | (simp; omega)) _)) hb2; have hr2 := Ext.trans (w := (Wb.alloc (.cells #[.int .i64 0, .int .i64 0] 39))) (by repeat (first | assumption | exact Ext.refl _ | apply Ext.alloc | apply Ext.drew | apply Ext.drewN | refine Ext.setCell ?_ (by first | omega | (simp; omega)) _)) hb2; have BX := BR.ext hr2; have F := BX.frozen; have CX := BX.cells; have EX := hx2) | (refine (mul_any p q g _ 2 2 [a, c] _ h (by first | exact RdI.ext (rd_two (w := (Wb.alloc (.cells #[.int .i64 0, .int .i64 0] 39))) (by first | (simp; done) | (simp; omega))) (by repeat (first | apply Ext.drew | exact Ext.refl _ | apply Ext.alloc)) | exact RdI.ext (rd_two (w := (Wb.alloc (.cells #[.int .i64 0, .int .i64 0] 39)).alloc (.cells #[.int .i64 b, .int .i64 d] 3)) (by first | (simp; done) | (simp; omega))) (by repeat (first | apply Ext.drew | exact Ext.refl _ | apply Ext.alloc)) | fail) rfl (by decide) (two_rg ha hc)).mono ?_; rintro ek wk1 ⟨rfl, hb1⟩; have hx1 := Ext.trans (w := Wb) (by repeat (first | assumption | exact Ext.refl _ | apply Ext.alloc | apply Ext.drew | apply Ext.drewN | refine Ext.setCell ?_ (by first | omega | (simp; omega)) _)) hb1; have hr1 := Ext.trans (w := (Wb.alloc (.cells #[.int .i64 0, .int .i64 0] 39))) (by repeat (first | assumption | exact Ext.refl _ | apply Ext.alloc | apply Ext.drew | apply Ext.drewN | refine Ext.setCell ?_ (by first | omega | (simp; omega)) _)) hb1) | fail))
  · go_wp2
    refine ret_ci (a := gmul p [a, c]) (b := gmul p [b, d]) ((BX.set_ 0 (.int .i64 (gmul p [a, c]))).set_ 1 (.int .i64 (gmul p [b, d]))) rfl rfl ?_
    exact ⟨rfl, E.trans (EX.then (below_two (g := w.heap.size + 3) _ _ _) (by omega))⟩
  · go_wp2
    refine ret_ci (a := gmul p [a, c]) (b := gmul p [b, d]) ((BX.set_ 0 (.int .i64 (gmul p [a, c]))).set_ 1 (.int .i64 (gmul p [b, d]))) rfl rfl ?_
    exact ⟨rfl, E.trans (EX.then (below_two (g := w.heap.size + 3) _ _ _) (by omega))⟩
  · go_wp2
    refine ret_ci (a := gmul p [a, c]) (b := gmul p [b, d]) ((BX.set_ 0 (.int .i64 (gmul p [a, c]))).set_ 1 (.int .i64 (gmul p [b, d]))) rfl rfl ?_
    exact ⟨rfl, E.trans (EX.then (below_two (g := w.heap.size + 3) _ _ _) (by omega))⟩

set_option maxRecDepth 100000 in
set_option maxHeartbeats 4000000 in
theorem reencrypt_any (p q g key a b r : Int) (w : World) (h : GrpB p q) (hg : 0 ≤ g ∧ g ≤ 3000000000) (hk : 0 ≤ key ∧ key ≤ 3000000000) (ha : 0 ≤ a ∧ a ≤ 3000000000) (hb : 0 ≤ b ∧ b ≤ 3000000000) (hr : -9000000000000000000 ≤ r ∧ r ≤ 9000000000000000000) :
    Calls Try.prog 128 #[.agg #[.int .i64 p, .int .i64 q, .int .i64 g], .int .i64 key, .agg #[.int .i64 a, .int .i64 b], .int .i64 r] w fun e w' => e = .returned (.agg #[.int .i64 (gmul p [a, gencA p q g r]), .int .i64 (gmul p [b, gencB p q key 1 r])]) ∧ Ext w w' := by
  have x1 : 0 ≤ gencA p q g r ∧ gencA p q g r ≤ 2000000000 := gpw_rg p q g r h
  have x2 : 0 ≤ gencB p q key 1 r ∧ gencB p q key 1 r ≤ 2000000000 := gmul2_rg h (by omega) (gpw_rg p q key r h).1
  have B0 := (Blk.new w 37 #[.int .i64 p, .int .i64 q, .int .i64 g]).alloc (.cells #[.int .i64 a, .int .i64 b] 39)
  have B1 := Blk.new (w.alloc (.cells #[.int .i64 p, .int .i64 q, .int .i64 g] 37)) 39 #[.int .i64 a, .int .i64 b]
  have E := (((Ext.refl w).alloc (.cells #[.int .i64 p, .int .i64 q, .int .i64 g] 37)).alloc (.cells #[.int .i64 a, .int .i64 b] 39))
  simp only [World.size_alloc] at B1
  have hsz : ((w.alloc (.cells #[.int .i64 p, .int .i64 q, .int .i64 g] 37)).alloc (.cells #[.int .i64 a, .int .i64 b] 39)).heap.size = w.heap.size + 2 := by simp only [World.size_alloc]
  have BR := Blk.new ((w.alloc (.cells #[.int .i64 p, .int .i64 q, .int .i64 g] 37)).alloc (.cells #[.int .i64 a, .int .i64 b] 39)) 39 #[.int .i64 0, .int .i64 0]
  rw [hsz] at BR
  go_enter Try.func128, Try.ntmps128
  go_wp2
  generalize ((w.alloc (.cells #[.int .i64 p, .int .i64 q, .int .i64 g] 37)).alloc (.cells #[.int .i64 a, .int .i64 b] 39)) = Wb at *
  have hS : ∀ V, Ext Wb V → V.cell? ⟨w.heap.size, 0, none⟩ = some (.int .i64 p) ∧ V.cell? ⟨w.heap.size, 1, none⟩ = some (.int .i64 q) ∧ V.cell? ⟨w.heap.size, 2, none⟩ = some (.int .i64 g) ∧ V.cell? ⟨w.heap.size + 1, 0, none⟩ = some (.int .i64 a) ∧ V.cell? ⟨w.heap.size + 1, 1, none⟩ = some (.int .i64 b) := fun V hV => by
    have a0 := (B0.ext hV).cells
    have a1 := (B1.ext hV).cells
    exact ⟨a0 0, a0 1, a0 2, a1 0, a1 1⟩
  have hW : Ext Wb (Wb.alloc (.cells #[.int .i64 0, .int .i64 0] 39)) := (Ext.refl Wb).alloc _
  go_region_held3 (fun V => V.cell? ⟨w.heap.size, 0, none⟩ = some (.int .i64 p) ∧ V.cell? ⟨w.heap.size, 1, none⟩ = some (.int .i64 q) ∧ V.cell? ⟨w.heap.size, 2, none⟩ = some (.int .i64 g) ∧ V.cell? ⟨w.heap.size + 1, 0, none⟩ = some (.int .i64 a) ∧ V.cell? ⟨w.heap.size + 1, 1, none⟩ = some (.int .i64 b)) (exact hS _ (by repeat (first | assumption | exact Ext.refl _ | apply Ext.alloc | apply Ext.drew | apply Ext.drewN | refine Ext.setCell ?_ (by first | omega | (simp; omega)) _)))
    (first
      | (go_at_call 209; refine (mulTwo_any p q g a b (gencA p q g r) (gencB p q key 1 r) _ h ha hb (by omega) (by omega)).mono ?_; rintro ek wk2 ⟨rfl, hb2⟩; have hx2 := Ext.trans (w := Wb) (by repeat (first | assumption | exact Ext.refl _ | apply Ext.alloc | apply Ext.drew | apply Ext.drewN | refine Ext.setCell ?_ (by first | omega | (simp; omega)) _)) hb2; have hr2 := Ext.trans (w := (Wb.alloc (.cells #[.int .i64 0, .int .i64 0] 39))) (by repeat (first | assumption | exact Ext.refl _ | apply Ext.alloc | apply Ext.drew | apply Ext.drewN | refine Ext.setCell ?_ (by first | omega | (simp; omega)) _)) hb2; have BX := BR.ext hr2; have F := BX.frozen; have CX := BX.cells; have EX := hx2)
      | (go_at_call 123; refine (encrypt_any p q g key 1 r _ h hg hk (by omega) hr).mono ?_; rintro ek wk1 ⟨rfl, hb1⟩; have hx1 := Ext.trans (w := Wb) (by repeat (first | assumption | exact Ext.refl _ | apply Ext.alloc | apply Ext.drew | apply Ext.drewN | refine Ext.setCell ?_ (by first | omega | (simp; omega)) _)) hb1; have hr1 := Ext.trans (w := (Wb.alloc (.cells #[.int .i64 0, .int .i64 0] 39))) (by repeat (first | assumption | exact Ext.refl _ | apply Ext.alloc | apply Ext.drew | apply Ext.drewN | refine Ext.setCell ?_ (by first | omega | (simp; omega)) _)) hb1))
  go_wp2
  refine ret_ci (a := gmul p [a, gencA p q g r]) (b := gmul p [b, gencB p q key 1 r]) ((BX.set_ 0 (.int .i64 (gmul p [a, gencA p q g r]))).set_ 1 (.int .i64 (gmul p [b, gencB p q key 1 r]))) rfl rfl ?_
  exact ⟨rfl, E.trans (EX.then (below_two (g := w.heap.size + 2) _ _ _) (by omega))⟩

set_option maxRecDepth 100000 in
set_option maxHeartbeats 4000000 in
theorem hasCipher_any (p q g a b : Int) (w : World) (hG : GrpB p q) :
    Calls Try.prog 115 #[.agg #[.int .i64 p, .int .i64 q, .int .i64 g], .agg #[.int .i64 a, .int .i64 b]] w fun e w' => e = .returned (.bool (elB p q a && elB p q b)) ∧ Ext w w' := by
  obtain ⟨kk, hkk⟩ : ∃ kq : Bool, (elB p q a && elB p q b) = kq := ⟨_, rfl⟩
  rw [hkk]
  have B0 := (Blk.new w 37 #[.int .i64 p, .int .i64 q, .int .i64 g]).alloc (.cells #[.int .i64 a, .int .i64 b] 39)
  have B1 := Blk.new (w.alloc (.cells #[.int .i64 p, .int .i64 q, .int .i64 g] 37)) 39 #[.int .i64 a, .int .i64 b]
  have E := (((Ext.refl w).alloc (.cells #[.int .i64 p, .int .i64 q, .int .i64 g] 37)).alloc (.cells #[.int .i64 a, .int .i64 b] 39))
  simp only [World.size_alloc] at B1
  cases h1 : (elB p q a)
  · have hk : kk = false := by rw [← hkk]; simp [h1]; try (intros; simp_all)
    rw [hk]
    have H1 := Lib.hid h1
    clear hk hkk h1
    go_enter Try.func115, Try.ntmps115
    have C_B0 := B0.cells
    have C_B1 := B1.cells
    go_wp2_with fail
    refine (has_any p q g a _ hG).mono ?_
    rintro e w1 ⟨he, hb⟩
    rw [H1.out] at he; subst he
    clear C_B0 C_B1
    replace E := E.trans hb
    replace B0 := B0.ext hb
    replace B1 := B1.ext hb
    clear hb
    have C_B0 := B0.cells
    have C_B1 := B1.cells
    go_wp2
    go_ret
    exact ⟨rfl, E⟩
  cases h2 : (elB p q b)
  · have hk : kk = false := by rw [← hkk]; simp [h1, h2]; try (intros; simp_all)
    rw [hk]
    have H1 := Lib.hid h1
    have H2 := Lib.hid h2
    clear hk hkk h1 h2
    go_enter Try.func115, Try.ntmps115
    have C_B0 := B0.cells
    have C_B1 := B1.cells
    go_wp2_with fail
    refine (has_any p q g a _ hG).mono ?_
    rintro e w1 ⟨he, hb⟩
    rw [H1.out] at he; subst he
    clear C_B0 C_B1
    replace E := E.trans hb
    replace B0 := B0.ext hb
    replace B1 := B1.ext hb
    clear hb
    have C_B0 := B0.cells
    have C_B1 := B1.cells
    go_wp2_with fail
    refine (has_any p q g b _ hG).mono ?_
    rintro e w2 ⟨he, hb⟩
    rw [H2.out] at he; subst he
    clear C_B0 C_B1
    replace E := E.trans hb
    replace B0 := B0.ext hb
    replace B1 := B1.ext hb
    clear hb
    have C_B0 := B0.cells
    have C_B1 := B1.cells
    go_wp2
    go_ret
    exact ⟨rfl, E⟩
  have hk : kk = true := by rw [← hkk]; simp_all
  rw [hk]
  have H1 := Lib.hid h1
  have H2 := Lib.hid h2
  clear hk hkk h1 h2
  go_enter Try.func115, Try.ntmps115
  have C_B0 := B0.cells
  have C_B1 := B1.cells
  go_wp2_with fail
  refine (has_any p q g a _ hG).mono ?_
  rintro e w1 ⟨he, hb⟩
  rw [H1.out] at he; subst he
  clear C_B0 C_B1
  replace E := E.trans hb
  replace B0 := B0.ext hb
  replace B1 := B1.ext hb
  clear hb
  have C_B0 := B0.cells
  have C_B1 := B1.cells
  go_wp2_with fail
  refine (has_any p q g b _ hG).mono ?_
  rintro e w2 ⟨he, hb⟩
  rw [H2.out] at he; subst he
  clear C_B0 C_B1
  replace E := E.trans hb
  replace B0 := B0.ext hb
  replace B1 := B1.ext hb
  clear hb
  have C_B0 := B0.cells
  have C_B1 := B1.cells
  go_wp2
  go_ret
  exact ⟨rfl, E⟩

theorem keyB_and (a b : Bool) : (a && b) = (a && b) := rfl

set_option maxRecDepth 100000 in
set_option maxHeartbeats 4000000 in
theorem eKey_any (p q g k : Int) (w : World) :
    Calls Try.prog 124 #[.agg #[.int .i64 p, .int .i64 q, .int .i64 g], .int .i64 k] w fun e w' => e = .returned (.bool (grpB p q g && elB p q k)) ∧ Ext w w' := by
  obtain ⟨kk, hkk⟩ : ∃ kq : Bool, (grpB p q g && elB p q k) = kq := ⟨_, rfl⟩
  rw [hkk]
  have B0 := Blk.new w 37 #[.int .i64 p, .int .i64 q, .int .i64 g]
  have E := ((Ext.refl w).alloc (.cells #[.int .i64 p, .int .i64 q, .int .i64 g] 37))
  cases h1 : (grpB p q g)
  · have hk : kk = false := by rw [← hkk]; simp [h1]; try (intros; simp_all)
    rw [hk]
    have H1 := Lib.hid h1
    clear hk hkk h1
    go_enter Try.func124, Try.ntmps124
    have C_B0 := B0.cells
    go_wp2_with fail
    refine (l2Good_any p q g _).mono ?_
    rintro e w1 ⟨he, hb⟩
    rw [H1.out] at he; subst he
    clear C_B0
    replace E := E.trans hb
    replace B0 := B0.ext hb
    clear hb
    have C_B0 := B0.cells
    go_wp2
    go_ret
    exact ⟨rfl, E⟩
  have hG := (grpB_in h1).bd
  have hGI := grpB_in h1
  have hp9 := hGI.p9
  cases h2 : (elB p q k)
  · have hk : kk = false := by rw [← hkk]; simp [h1, h2]; try (intros; simp_all)
    rw [hk]
    have H1 := Lib.hid h1
    have H2 := Lib.hid h2
    clear hk hkk h1 h2
    go_enter Try.func124, Try.ntmps124
    have C_B0 := B0.cells
    go_wp2_with fail
    refine (l2Good_any p q g _).mono ?_
    rintro e w1 ⟨he, hb⟩
    rw [H1.out] at he; subst he
    clear C_B0
    replace E := E.trans hb
    replace B0 := B0.ext hb
    clear hb
    have C_B0 := B0.cells
    go_wp2_with fail
    replace E := E.alloc (.cells #[.int .i64 k] 3)
    replace B0 := B0.alloc (.cells #[.int .i64 k] 3)
    refine (gIs_any p q g _ 1 1 [k] _ hG (rd_one (by simp)) rfl (by decide)).mono ?_
    rintro e w2 ⟨he, hb⟩
    simp only [List.all_cons, List.all_nil, Bool.and_true] at he
    rw [H2.out] at he; subst he
    clear C_B0
    replace E := E.trans hb
    replace B0 := B0.ext hb
    clear hb
    have C_B0 := B0.cells
    go_wp2
    go_ret
    exact ⟨rfl, E⟩
  have hk : kk = true := by rw [← hkk]; simp_all
  rw [hk]
  have H1 := Lib.hid h1
  have H2 := Lib.hid h2
  clear hk hkk h1 h2
  go_enter Try.func124, Try.ntmps124
  have C_B0 := B0.cells
  go_wp2_with fail
  refine (l2Good_any p q g _).mono ?_
  rintro e w1 ⟨he, hb⟩
  rw [H1.out] at he; subst he
  clear C_B0
  replace E := E.trans hb
  replace B0 := B0.ext hb
  clear hb
  have C_B0 := B0.cells
  go_wp2_with fail
  replace E := E.alloc (.cells #[.int .i64 k] 3)
  replace B0 := B0.alloc (.cells #[.int .i64 k] 3)
  refine (gIs_any p q g _ 1 1 [k] _ hG (rd_one (by simp)) rfl (by decide)).mono ?_
  rintro e w2 ⟨he, hb⟩
  simp only [List.all_cons, List.all_nil, Bool.and_true] at he
  rw [H2.out] at he; subst he
  clear C_B0
  replace E := E.trans hb
  replace B0 := B0.ext hb
  clear hb
  have C_B0 := B0.cells
  go_wp2
  go_ret
  exact ⟨rfl, E⟩

set_option maxRecDepth 100000 in
set_option maxHeartbeats 4000000 in
theorem iEncryptElement_any (p q g k m r : Int) (w : World) :
    Calls Try.prog 28 #[.agg #[.int .i64 p, .int .i64 q, .int .i64 g], .int .i64 k, .int .i64 m, .int .i64 r] w fun e w' => e = .returned (.tuple #[.agg #[.int .i64 (if (grpB p q g && (elB p q k && (elB p q m && inR r 0 (q - 1)))) = true then (gencA p q g r) else 0), .int .i64 (if (grpB p q g && (elB p q k && (elB p q m && inR r 0 (q - 1)))) = true then (gencB p q k m r) else 0)], .bool (grpB p q g && (elB p q k && (elB p q m && inR r 0 (q - 1))))]) ∧ Ext w w' := by
  obtain ⟨vv0, hv0⟩ : ∃ vq : Int, (if (grpB p q g && (elB p q k && (elB p q m && inR r 0 (q - 1)))) = true then (gencA p q g r) else 0) = vq := ⟨_, rfl⟩
  rw [hv0]
  obtain ⟨vv1, hv1⟩ : ∃ vq : Int, (if (grpB p q g && (elB p q k && (elB p q m && inR r 0 (q - 1)))) = true then (gencB p q k m r) else 0) = vq := ⟨_, rfl⟩
  rw [hv1]
  obtain ⟨kk, hkk⟩ : ∃ kq : Bool, (grpB p q g && (elB p q k && (elB p q m && inR r 0 (q - 1)))) = kq := ⟨_, rfl⟩
  rw [hkk]
  have B0 := (Blk.new w 37 #[.int .i64 p, .int .i64 q, .int .i64 g]).alloc (.cells #[.int .i64 0, .int .i64 0] 39)
  have B1 := Blk.new (w.alloc (.cells #[.int .i64 p, .int .i64 q, .int .i64 g] 37)) 39 #[.int .i64 0, .int .i64 0]
  have E := (((Ext.refl w).alloc (.cells #[.int .i64 p, .int .i64 q, .int .i64 g] 37)).alloc (.cells #[.int .i64 0, .int .i64 0] 39))
  simp only [World.size_alloc] at B1
  cases h1 : (grpB p q g)
  · have hk : kk = false := by rw [← hkk]; simp [h1]; try (intros; simp_all)
    have hz0 : vv0 = 0 := by rw [← hv0]; simp [h1]; try (intros; simp_all)
    have hz1 : vv1 = 0 := by rw [← hv1]; simp [h1]; try (intros; simp_all)
    rw [hz0, hz1, hk]
    have H1 := Lib.hid h1
    clear hk hkk hz0 hv0 hz1 hv1 h1
    go_enter Try.func28, Try.ntmps28
    have C_B0 := B0.cells
    have C_B1 := B1.cells
    go_wp2_with fail
    refine (IsValidGroup_any p q g _).mono ?_
    rintro e w1 ⟨he, hb⟩
    rw [H1.out] at he; subst he
    clear C_B0 C_B1
    replace E := E.trans hb
    replace B0 := B0.ext hb
    replace B1 := B1.ext hb
    clear hb
    have C_B0 := B0.cells
    have C_B1 := B1.cells
    have F := B1.frozen
    go_wp2
    refine ret_ciB (a := 0) (b := 0) (k := false) ((B1.set_ 0 (.int .i64 (0))).set_ 1 (.int .i64 (0))) rfl rfl rfl ?_
    exact ⟨rfl, E.then (below_two (g := w.heap.size + 1) _ _ _) (by omega)⟩
  have hG := (grpB_in h1).bd
  have hGI := grpB_in h1
  have hp9 := hGI.p9
  cases h2 : (elB p q k && (elB p q m))
  · have hk : kk = false := by rw [← hkk]; simp [h1, h2]; try (intros; simp_all)
    have hz0 : vv0 = 0 := by rw [← hv0]; simp [h1, h2]; try (intros; simp_all)
    have hz1 : vv1 = 0 := by rw [← hv1]; simp [h1, h2]; try (intros; simp_all)
    rw [hz0, hz1, hk]
    have H1 := Lib.hid h1
    have H2 := Lib.hid h2
    clear hk hkk hz0 hv0 hz1 hv1 h1 h2
    go_enter Try.func28, Try.ntmps28
    have C_B0 := B0.cells
    have C_B1 := B1.cells
    go_wp2_with fail
    refine (IsValidGroup_any p q g _).mono ?_
    rintro e w1 ⟨he, hb⟩
    rw [H1.out] at he; subst he
    clear C_B0 C_B1
    replace E := E.trans hb
    replace B0 := B0.ext hb
    replace B1 := B1.ext hb
    clear hb
    have C_B0 := B0.cells
    have C_B1 := B1.cells
    go_wp2_with fail
    replace E := E.alloc (.cells #[.int .i64 k, .int .i64 m] 3)
    replace B0 := B0.alloc (.cells #[.int .i64 k, .int .i64 m] 3)
    replace B1 := B1.alloc (.cells #[.int .i64 k, .int .i64 m] 3)
    refine (hasAll_any p q g _ 2 2 [k, m] _ hG (rd_two (by simp)) rfl (by decide)).mono ?_
    rintro e w2 ⟨he, hb⟩
    simp only [List.all_cons, List.all_nil, Bool.and_true] at he
    rw [H2.out] at he; subst he
    clear C_B0 C_B1
    replace E := E.trans hb
    replace B0 := B0.ext hb
    replace B1 := B1.ext hb
    clear hb
    have C_B0 := B0.cells
    have C_B1 := B1.cells
    have F := B1.frozen
    go_wp2
    refine ret_ciB (a := 0) (b := 0) (k := false) ((B1.set_ 0 (.int .i64 (0))).set_ 1 (.int .i64 (0))) rfl rfl rfl ?_
    exact ⟨rfl, E.then (below_two (g := w.heap.size + 1) _ _ _) (by omega)⟩
  cases h3 : (inR r 0 (q - 1))
  · have hk : kk = false := by rw [← hkk]; simp [h1, h2, h3]; try (intros; simp_all)
    have hz0 : vv0 = 0 := by rw [← hv0]; simp [h1, h2, h3]; try (intros; simp_all)
    have hz1 : vv1 = 0 := by rw [← hv1]; simp [h1, h2, h3]; try (intros; simp_all)
    rw [hz0, hz1, hk]
    have H1 := Lib.hid h1
    have H2 := Lib.hid h2
    have H3 := Lib.hid h3
    clear hk hkk hz0 hv0 hz1 hv1 h1 h2 h3
    go_enter Try.func28, Try.ntmps28
    have C_B0 := B0.cells
    have C_B1 := B1.cells
    go_wp2_with fail
    refine (IsValidGroup_any p q g _).mono ?_
    rintro e w1 ⟨he, hb⟩
    rw [H1.out] at he; subst he
    clear C_B0 C_B1
    replace E := E.trans hb
    replace B0 := B0.ext hb
    replace B1 := B1.ext hb
    clear hb
    have C_B0 := B0.cells
    have C_B1 := B1.cells
    go_wp2_with fail
    replace E := E.alloc (.cells #[.int .i64 k, .int .i64 m] 3)
    replace B0 := B0.alloc (.cells #[.int .i64 k, .int .i64 m] 3)
    replace B1 := B1.alloc (.cells #[.int .i64 k, .int .i64 m] 3)
    refine (hasAll_any p q g _ 2 2 [k, m] _ hG (rd_two (by simp)) rfl (by decide)).mono ?_
    rintro e w2 ⟨he, hb⟩
    simp only [List.all_cons, List.all_nil, Bool.and_true] at he
    rw [H2.out] at he; subst he
    clear C_B0 C_B1
    replace E := E.trans hb
    replace B0 := B0.ext hb
    replace B1 := B1.ext hb
    clear hb
    have C_B0 := B0.cells
    have C_B1 := B1.cells
    go_wp2_with fail
    refine (isExp_any p q g r _ hG).mono ?_
    rintro e w3 ⟨he, hb⟩
    rw [H3.out] at he; subst he
    clear C_B0 C_B1
    replace E := E.trans hb
    replace B0 := B0.ext hb
    replace B1 := B1.ext hb
    clear hb
    have C_B0 := B0.cells
    have C_B1 := B1.cells
    have F := B1.frozen
    go_wp2
    refine ret_ciB (a := 0) (b := 0) (k := false) ((B1.set_ 0 (.int .i64 (0))).set_ 1 (.int .i64 (0))) rfl rfl rfl ?_
    exact ⟨rfl, E.then (below_two (g := w.heap.size + 1) _ _ _) (by omega)⟩
  have hk : kk = true := by rw [← hkk]; simp_all
  have hz0 : vv0 = (gencA p q g r) := by rw [← hv0]; rw [hkk, hk, if_pos rfl]
  have hz1 : vv1 = (gencB p q k m r) := by rw [← hv1]; rw [hkk, hk, if_pos rfl]
  rw [hz0, hz1, hk]
  have H1 := Lib.hid h1
  have H2 := Lib.hid h2
  have H3 := Lib.hid h3
  have hq2 := hGI.q2
  have hg2 := hGI.g2
  have hgp := hGI.gp
  have hqp := hGI.qp
  have rk := el_rng (Bool.and_eq_true _ _ |>.mp h2).1
  have rm := el_rng (Bool.and_eq_true _ _ |>.mp h2).2
  have rr := inR_iff.1 h3
  clear hk hkk hz0 hv0 hz1 hv1 h1 h2 h3
  go_enter Try.func28, Try.ntmps28
  have C_B0 := B0.cells
  have C_B1 := B1.cells
  go_wp2_with fail
  refine (IsValidGroup_any p q g _).mono ?_
  rintro e w1 ⟨he, hb⟩
  rw [H1.out] at he; subst he
  clear C_B0 C_B1
  replace E := E.trans hb
  replace B0 := B0.ext hb
  replace B1 := B1.ext hb
  clear hb
  have C_B0 := B0.cells
  have C_B1 := B1.cells
  go_wp2_with fail
  replace E := E.alloc (.cells #[.int .i64 k, .int .i64 m] 3)
  replace B0 := B0.alloc (.cells #[.int .i64 k, .int .i64 m] 3)
  replace B1 := B1.alloc (.cells #[.int .i64 k, .int .i64 m] 3)
  refine (hasAll_any p q g _ 2 2 [k, m] _ hG (rd_two (by simp)) rfl (by decide)).mono ?_
  rintro e w2 ⟨he, hb⟩
  simp only [List.all_cons, List.all_nil, Bool.and_true] at he
  rw [H2.out] at he; subst he
  clear C_B0 C_B1
  replace E := E.trans hb
  replace B0 := B0.ext hb
  replace B1 := B1.ext hb
  clear hb
  have C_B0 := B0.cells
  have C_B1 := B1.cells
  go_wp2_with fail
  refine (isExp_any p q g r _ hG).mono ?_
  rintro e w3 ⟨he, hb⟩
  rw [H3.out] at he; subst he
  clear C_B0 C_B1
  replace E := E.trans hb
  replace B0 := B0.ext hb
  replace B1 := B1.ext hb
  clear hb
  have C_B0 := B0.cells
  have C_B1 := B1.cells
  go_wp2_with fail
  refine (encrypt_any p q g k m r _ hG (by omega) (by omega) (by omega) (by omega)).mono ?_
  rintro e wf ⟨rfl, hb⟩
  clear C_B0 C_B1
  replace E := E.trans hb
  replace B0 := B0.ext hb
  replace B1 := B1.ext hb
  clear hb
  have C_B0 := B0.cells
  have C_B1 := B1.cells
  have F := B1.frozen
  go_wp2
  refine ret_ciB (a := (gencA p q g r)) (b := (gencB p q k m r)) (k := true) ((B1.set_ 0 (.int .i64 ((gencA p q g r)))).set_ 1 (.int .i64 ((gencB p q k m r)))) rfl rfl rfl ?_
  exact ⟨rfl, E.then (below_two (g := w.heap.size + 1) _ _ _) (by omega)⟩

set_option maxRecDepth 100000 in
set_option maxHeartbeats 4000000 in
theorem sEncryptElement_any (p q g k m r : Int) (w : World) :
    Calls Try.prog 29 #[.agg #[.int .i64 p, .int .i64 q, .int .i64 g], .int .i64 k, .int .i64 m, .int .i64 r] w fun e w' => e = .returned (.tuple #[.agg #[.int .i64 (if (grpB p q g && (elB p q k && (elB p q m && inR r 0 (q - 1)))) = true then (gencA p q g r) else 0), .int .i64 (if (grpB p q g && (elB p q k && (elB p q m && inR r 0 (q - 1)))) = true then (gencB p q k m r) else 0)], .bool (grpB p q g && (elB p q k && (elB p q m && inR r 0 (q - 1))))]) ∧ Ext w w' := by
  obtain ⟨vv0, hv0⟩ : ∃ vq : Int, (if (grpB p q g && (elB p q k && (elB p q m && inR r 0 (q - 1)))) = true then (gencA p q g r) else 0) = vq := ⟨_, rfl⟩
  rw [hv0]
  obtain ⟨vv1, hv1⟩ : ∃ vq : Int, (if (grpB p q g && (elB p q k && (elB p q m && inR r 0 (q - 1)))) = true then (gencB p q k m r) else 0) = vq := ⟨_, rfl⟩
  rw [hv1]
  obtain ⟨kk, hkk⟩ : ∃ kq : Bool, (grpB p q g && (elB p q k && (elB p q m && inR r 0 (q - 1)))) = kq := ⟨_, rfl⟩
  rw [hkk]
  have B0 := (Blk.new w 37 #[.int .i64 p, .int .i64 q, .int .i64 g]).alloc (.cells #[.int .i64 0, .int .i64 0] 39)
  have B1 := Blk.new (w.alloc (.cells #[.int .i64 p, .int .i64 q, .int .i64 g] 37)) 39 #[.int .i64 0, .int .i64 0]
  have E := (((Ext.refl w).alloc (.cells #[.int .i64 p, .int .i64 q, .int .i64 g] 37)).alloc (.cells #[.int .i64 0, .int .i64 0] 39))
  simp only [World.size_alloc] at B1
  cases h1 : (grpB p q g && elB p q k)
  · have hk : kk = false := by rw [← hkk]; simp [h1]; try (intros; simp_all)
    have hz0 : vv0 = 0 := by rw [← hv0]; simp [h1]; try (intros; simp_all)
    have hz1 : vv1 = 0 := by rw [← hv1]; simp [h1]; try (intros; simp_all)
    rw [hz0, hz1, hk]
    have H1 := Lib.hid h1
    clear hk hkk hz0 hv0 hz1 hv1 h1
    go_enter Try.func29, Try.ntmps29
    have C_B0 := B0.cells
    have C_B1 := B1.cells
    go_wp2_with fail
    refine (eKey_any p q g k _).mono ?_
    rintro e w1 ⟨he, hb⟩
    rw [H1.out] at he; subst he
    clear C_B0 C_B1
    replace E := E.trans hb
    replace B0 := B0.ext hb
    replace B1 := B1.ext hb
    clear hb
    have C_B0 := B0.cells
    have C_B1 := B1.cells
    have F := B1.frozen
    go_wp2
    refine ret_ciB (a := 0) (b := 0) (k := false) ((B1.set_ 0 (.int .i64 (0))).set_ 1 (.int .i64 (0))) rfl rfl rfl ?_
    exact ⟨rfl, E.then (below_two (g := w.heap.size + 1) _ _ _) (by omega)⟩
  have hGI := grpB_in (Bool.and_eq_true _ _ |>.mp h1).1
  have hG := hGI.bd
  have hp9 := hGI.p9
  cases h2 : (elB p q m)
  · have hk : kk = false := by rw [← hkk]; simp [h1, h2]; try (intros; simp_all)
    have hz0 : vv0 = 0 := by rw [← hv0]; simp [h1, h2]; try (intros; simp_all)
    have hz1 : vv1 = 0 := by rw [← hv1]; simp [h1, h2]; try (intros; simp_all)
    rw [hz0, hz1, hk]
    have H1 := Lib.hid h1
    have H2 := Lib.hid h2
    clear hk hkk hz0 hv0 hz1 hv1 h1 h2
    go_enter Try.func29, Try.ntmps29
    have C_B0 := B0.cells
    have C_B1 := B1.cells
    go_wp2_with fail
    refine (eKey_any p q g k _).mono ?_
    rintro e w1 ⟨he, hb⟩
    rw [H1.out] at he; subst he
    clear C_B0 C_B1
    replace E := E.trans hb
    replace B0 := B0.ext hb
    replace B1 := B1.ext hb
    clear hb
    have C_B0 := B0.cells
    have C_B1 := B1.cells
    go_wp2_with fail
    replace E := E.alloc (.cells #[.int .i64 m] 3)
    replace B0 := B0.alloc (.cells #[.int .i64 m] 3)
    replace B1 := B1.alloc (.cells #[.int .i64 m] 3)
    refine (gIs_any p q g _ 1 1 [m] _ hG (rd_one (by simp)) rfl (by decide)).mono ?_
    rintro e w2 ⟨he, hb⟩
    simp only [List.all_cons, List.all_nil, Bool.and_true] at he
    rw [H2.out] at he; subst he
    clear C_B0 C_B1
    replace E := E.trans hb
    replace B0 := B0.ext hb
    replace B1 := B1.ext hb
    clear hb
    have C_B0 := B0.cells
    have C_B1 := B1.cells
    have F := B1.frozen
    go_wp2
    refine ret_ciB (a := 0) (b := 0) (k := false) ((B1.set_ 0 (.int .i64 (0))).set_ 1 (.int .i64 (0))) rfl rfl rfl ?_
    exact ⟨rfl, E.then (below_two (g := w.heap.size + 1) _ _ _) (by omega)⟩
  cases h3 : (inR r 0 (q - 1))
  · have hk : kk = false := by rw [← hkk]; simp [h1, h2, h3]; try (intros; simp_all)
    have hz0 : vv0 = 0 := by rw [← hv0]; simp [h1, h2, h3]; try (intros; simp_all)
    have hz1 : vv1 = 0 := by rw [← hv1]; simp [h1, h2, h3]; try (intros; simp_all)
    rw [hz0, hz1, hk]
    have H1 := Lib.hid h1
    have H2 := Lib.hid h2
    have H3 := Lib.hid h3
    clear hk hkk hz0 hv0 hz1 hv1 h1 h2 h3
    go_enter Try.func29, Try.ntmps29
    have C_B0 := B0.cells
    have C_B1 := B1.cells
    go_wp2_with fail
    refine (eKey_any p q g k _).mono ?_
    rintro e w1 ⟨he, hb⟩
    rw [H1.out] at he; subst he
    clear C_B0 C_B1
    replace E := E.trans hb
    replace B0 := B0.ext hb
    replace B1 := B1.ext hb
    clear hb
    have C_B0 := B0.cells
    have C_B1 := B1.cells
    go_wp2_with fail
    replace E := E.alloc (.cells #[.int .i64 m] 3)
    replace B0 := B0.alloc (.cells #[.int .i64 m] 3)
    replace B1 := B1.alloc (.cells #[.int .i64 m] 3)
    refine (gIs_any p q g _ 1 1 [m] _ hG (rd_one (by simp)) rfl (by decide)).mono ?_
    rintro e w2 ⟨he, hb⟩
    simp only [List.all_cons, List.all_nil, Bool.and_true] at he
    rw [H2.out] at he; subst he
    clear C_B0 C_B1
    replace E := E.trans hb
    replace B0 := B0.ext hb
    replace B1 := B1.ext hb
    clear hb
    have C_B0 := B0.cells
    have C_B1 := B1.cells
    go_wp2_with fail
    replace E := E.alloc (.cells #[.int .i64 r] 3)
    replace B0 := B0.alloc (.cells #[.int .i64 r] 3)
    replace B1 := B1.alloc (.cells #[.int .i64 r] 3)
    refine (gExps_any p q g _ 1 1 [r] _ hG (rd_one (by simp)) rfl (by decide)).mono ?_
    rintro e w3 ⟨he, hb⟩
    simp only [allR, List.all_cons, List.all_nil, Bool.and_true] at he
    rw [H3.out] at he; subst he
    clear C_B0 C_B1
    replace E := E.trans hb
    replace B0 := B0.ext hb
    replace B1 := B1.ext hb
    clear hb
    have C_B0 := B0.cells
    have C_B1 := B1.cells
    have F := B1.frozen
    go_wp2
    refine ret_ciB (a := 0) (b := 0) (k := false) ((B1.set_ 0 (.int .i64 (0))).set_ 1 (.int .i64 (0))) rfl rfl rfl ?_
    exact ⟨rfl, E.then (below_two (g := w.heap.size + 1) _ _ _) (by omega)⟩
  have hk : kk = true := by rw [← hkk]; simp_all
  have hz0 : vv0 = (gencA p q g r) := by rw [← hv0]; rw [hkk, hk, if_pos rfl]
  have hz1 : vv1 = (gencB p q k m r) := by rw [← hv1]; rw [hkk, hk, if_pos rfl]
  rw [hz0, hz1, hk]
  have H1 := Lib.hid h1
  have H2 := Lib.hid h2
  have H3 := Lib.hid h3
  have hq2 := hGI.q2
  have hg2 := hGI.g2
  have hgp := hGI.gp
  have hqp := hGI.qp
  have rk := el_rng (Bool.and_eq_true _ _ |>.mp h1).2
  have rm := el_rng h2
  have rr := inR_iff.1 h3
  clear hk hkk hz0 hv0 hz1 hv1 h1 h2 h3
  go_enter Try.func29, Try.ntmps29
  have C_B0 := B0.cells
  have C_B1 := B1.cells
  go_wp2_with fail
  refine (eKey_any p q g k _).mono ?_
  rintro e w1 ⟨he, hb⟩
  rw [H1.out] at he; subst he
  clear C_B0 C_B1
  replace E := E.trans hb
  replace B0 := B0.ext hb
  replace B1 := B1.ext hb
  clear hb
  have C_B0 := B0.cells
  have C_B1 := B1.cells
  go_wp2_with fail
  replace E := E.alloc (.cells #[.int .i64 m] 3)
  replace B0 := B0.alloc (.cells #[.int .i64 m] 3)
  replace B1 := B1.alloc (.cells #[.int .i64 m] 3)
  refine (gIs_any p q g _ 1 1 [m] _ hG (rd_one (by simp)) rfl (by decide)).mono ?_
  rintro e w2 ⟨he, hb⟩
  simp only [List.all_cons, List.all_nil, Bool.and_true] at he
  rw [H2.out] at he; subst he
  clear C_B0 C_B1
  replace E := E.trans hb
  replace B0 := B0.ext hb
  replace B1 := B1.ext hb
  clear hb
  have C_B0 := B0.cells
  have C_B1 := B1.cells
  go_wp2_with fail
  replace E := E.alloc (.cells #[.int .i64 r] 3)
  replace B0 := B0.alloc (.cells #[.int .i64 r] 3)
  replace B1 := B1.alloc (.cells #[.int .i64 r] 3)
  refine (gExps_any p q g _ 1 1 [r] _ hG (rd_one (by simp)) rfl (by decide)).mono ?_
  rintro e w3 ⟨he, hb⟩
  simp only [allR, List.all_cons, List.all_nil, Bool.and_true] at he
  rw [H3.out] at he; subst he
  clear C_B0 C_B1
  replace E := E.trans hb
  replace B0 := B0.ext hb
  replace B1 := B1.ext hb
  clear hb
  have C_B0 := B0.cells
  have C_B1 := B1.cells
  go_wp2_with fail
  refine (eEnc_any p q g k m r _ hG (by omega) (by omega) (by omega) (by omega)).mono ?_
  rintro e wf ⟨rfl, hb⟩
  clear C_B0 C_B1
  replace E := E.trans hb
  replace B0 := B0.ext hb
  replace B1 := B1.ext hb
  clear hb
  have C_B0 := B0.cells
  have C_B1 := B1.cells
  have F := B1.frozen
  go_wp2
  refine ret_ciB (a := (gencA p q g r)) (b := (gencB p q k m r)) (k := true) ((B1.set_ 0 (.int .i64 ((gencA p q g r)))).set_ 1 (.int .i64 ((gencB p q k m r)))) rfl rfl rfl ?_
  exact ⟨rfl, E.then (below_two (g := w.heap.size + 1) _ _ _) (by omega)⟩

set_option maxRecDepth 100000 in
set_option maxHeartbeats 4000000 in
theorem iDecryptElement_any (p q g x a b : Int) (w : World) :
    Calls Try.prog 25 #[.agg #[.int .i64 p, .int .i64 q, .int .i64 g], .int .i64 x, .agg #[.int .i64 a, .int .i64 b]] w fun e w' => e = .returned (.tuple #[.int .i64 (if (grpB p q g && (inR x 0 (q - 1) && (elB p q a && elB p q b))) = true then (gdec p q x a b) else 0), .bool (grpB p q g && (inR x 0 (q - 1) && (elB p q a && elB p q b)))]) ∧ Ext w w' := by
  obtain ⟨vv0, hv0⟩ : ∃ vq : Int, (if (grpB p q g && (inR x 0 (q - 1) && (elB p q a && elB p q b))) = true then (gdec p q x a b) else 0) = vq := ⟨_, rfl⟩
  rw [hv0]
  obtain ⟨kk, hkk⟩ : ∃ kq : Bool, (grpB p q g && (inR x 0 (q - 1) && (elB p q a && elB p q b))) = kq := ⟨_, rfl⟩
  rw [hkk]
  have B0 := (Blk.new w 37 #[.int .i64 p, .int .i64 q, .int .i64 g]).alloc (.cells #[.int .i64 a, .int .i64 b] 39)
  have B1 := Blk.new (w.alloc (.cells #[.int .i64 p, .int .i64 q, .int .i64 g] 37)) 39 #[.int .i64 a, .int .i64 b]
  have E := (((Ext.refl w).alloc (.cells #[.int .i64 p, .int .i64 q, .int .i64 g] 37)).alloc (.cells #[.int .i64 a, .int .i64 b] 39))
  simp only [World.size_alloc] at B1
  cases h1 : (grpB p q g)
  · have hk : kk = false := by rw [← hkk]; simp [h1]; try (intros; simp_all)
    have hz0 : vv0 = 0 := by rw [← hv0]; simp [h1]; try (intros; simp_all)
    rw [hz0, hk]
    have H1 := Lib.hid h1
    clear hk hkk hz0 hv0 h1
    go_enter Try.func25, Try.ntmps25
    have C_B0 := B0.cells
    have C_B1 := B1.cells
    go_wp2_with fail
    refine (IsValidGroup_any p q g _).mono ?_
    rintro e w1 ⟨he, hb⟩
    rw [H1.out] at he; subst he
    clear C_B0 C_B1
    replace E := E.trans hb
    replace B0 := B0.ext hb
    replace B1 := B1.ext hb
    clear hb
    have C_B0 := B0.cells
    have C_B1 := B1.cells
    go_wp2
    go_ret2
    exact ⟨rfl, E⟩
  have hG := (grpB_in h1).bd
  have hGI := grpB_in h1
  have hp9 := hGI.p9
  cases h2 : (inR x 0 (q - 1))
  · have hk : kk = false := by rw [← hkk]; simp [h1, h2]; try (intros; simp_all)
    have hz0 : vv0 = 0 := by rw [← hv0]; simp [h1, h2]; try (intros; simp_all)
    rw [hz0, hk]
    have H1 := Lib.hid h1
    have H2 := Lib.hid h2
    clear hk hkk hz0 hv0 h1 h2
    go_enter Try.func25, Try.ntmps25
    have C_B0 := B0.cells
    have C_B1 := B1.cells
    go_wp2_with fail
    refine (IsValidGroup_any p q g _).mono ?_
    rintro e w1 ⟨he, hb⟩
    rw [H1.out] at he; subst he
    clear C_B0 C_B1
    replace E := E.trans hb
    replace B0 := B0.ext hb
    replace B1 := B1.ext hb
    clear hb
    have C_B0 := B0.cells
    have C_B1 := B1.cells
    go_wp2_with fail
    refine (isExp_any p q g x _ hG).mono ?_
    rintro e w2 ⟨he, hb⟩
    rw [H2.out] at he; subst he
    clear C_B0 C_B1
    replace E := E.trans hb
    replace B0 := B0.ext hb
    replace B1 := B1.ext hb
    clear hb
    have C_B0 := B0.cells
    have C_B1 := B1.cells
    go_wp2
    go_ret2
    exact ⟨rfl, E⟩
  cases h3 : (elB p q a && elB p q b)
  · have hk : kk = false := by rw [← hkk]; simp [h1, h2, h3]; try (intros; simp_all)
    have hz0 : vv0 = 0 := by rw [← hv0]; simp [h1, h2, h3]; try (intros; simp_all)
    rw [hz0, hk]
    have H1 := Lib.hid h1
    have H2 := Lib.hid h2
    have H3 := Lib.hid h3
    clear hk hkk hz0 hv0 h1 h2 h3
    go_enter Try.func25, Try.ntmps25
    have C_B0 := B0.cells
    have C_B1 := B1.cells
    go_wp2_with fail
    refine (IsValidGroup_any p q g _).mono ?_
    rintro e w1 ⟨he, hb⟩
    rw [H1.out] at he; subst he
    clear C_B0 C_B1
    replace E := E.trans hb
    replace B0 := B0.ext hb
    replace B1 := B1.ext hb
    clear hb
    have C_B0 := B0.cells
    have C_B1 := B1.cells
    go_wp2_with fail
    refine (isExp_any p q g x _ hG).mono ?_
    rintro e w2 ⟨he, hb⟩
    rw [H2.out] at he; subst he
    clear C_B0 C_B1
    replace E := E.trans hb
    replace B0 := B0.ext hb
    replace B1 := B1.ext hb
    clear hb
    have C_B0 := B0.cells
    have C_B1 := B1.cells
    go_wp2_with fail
    refine (hasCipher_any p q g a b _ hG).mono ?_
    rintro e w3 ⟨he, hb⟩
    rw [H3.out] at he; subst he
    clear C_B0 C_B1
    replace E := E.trans hb
    replace B0 := B0.ext hb
    replace B1 := B1.ext hb
    clear hb
    have C_B0 := B0.cells
    have C_B1 := B1.cells
    go_wp2
    go_ret2
    exact ⟨rfl, E⟩
  have hk : kk = true := by rw [← hkk]; simp_all
  have hz0 : vv0 = (gdec p q x a b) := by rw [← hv0]; rw [hkk, hk, if_pos rfl]
  rw [hz0, hk]
  have H1 := Lib.hid h1
  have H2 := Lib.hid h2
  have H3 := Lib.hid h3
  have hq2 := hGI.q2
  have hg2 := hGI.g2
  have hgp := hGI.gp
  have hqp := hGI.qp
  have rx := inR_iff.1 h2
  have ra := el_rng (Bool.and_eq_true _ _ |>.mp h3).1
  have rb := el_rng (Bool.and_eq_true _ _ |>.mp h3).2
  clear hk hkk hz0 hv0 h1 h2 h3
  go_enter Try.func25, Try.ntmps25
  have C_B0 := B0.cells
  have C_B1 := B1.cells
  go_wp2_with fail
  refine (IsValidGroup_any p q g _).mono ?_
  rintro e w1 ⟨he, hb⟩
  rw [H1.out] at he; subst he
  clear C_B0 C_B1
  replace E := E.trans hb
  replace B0 := B0.ext hb
  replace B1 := B1.ext hb
  clear hb
  have C_B0 := B0.cells
  have C_B1 := B1.cells
  go_wp2_with fail
  refine (isExp_any p q g x _ hG).mono ?_
  rintro e w2 ⟨he, hb⟩
  rw [H2.out] at he; subst he
  clear C_B0 C_B1
  replace E := E.trans hb
  replace B0 := B0.ext hb
  replace B1 := B1.ext hb
  clear hb
  have C_B0 := B0.cells
  have C_B1 := B1.cells
  go_wp2_with fail
  refine (hasCipher_any p q g a b _ hG).mono ?_
  rintro e w3 ⟨he, hb⟩
  rw [H3.out] at he; subst he
  clear C_B0 C_B1
  replace E := E.trans hb
  replace B0 := B0.ext hb
  replace B1 := B1.ext hb
  clear hb
  have C_B0 := B0.cells
  have C_B1 := B1.cells
  go_wp2_with fail
  refine (decrypt_any p q g x a b _ hG (by omega) (by omega) (by omega)).mono ?_
  rintro e wf ⟨rfl, hb⟩
  clear C_B0 C_B1
  replace E := E.trans hb
  replace B0 := B0.ext hb
  replace B1 := B1.ext hb
  clear hb
  have C_B0 := B0.cells
  have C_B1 := B1.cells
  go_wp2
  go_ret2
  exact ⟨rfl, E⟩

set_option maxRecDepth 100000 in
set_option maxHeartbeats 4000000 in
theorem IsValidCipher_any (p q g a b : Int) (w : World) :
    Calls Try.prog 30 #[.agg #[.int .i64 p, .int .i64 q, .int .i64 g], .agg #[.int .i64 a, .int .i64 b]] w fun e w' => e = .returned (.bool (grpB p q g && (elB p q a && elB p q b))) ∧ Ext w w' := by
  obtain ⟨kk, hkk⟩ : ∃ kq : Bool, (grpB p q g && (elB p q a && elB p q b)) = kq := ⟨_, rfl⟩
  rw [hkk]
  have B0 := (Blk.new w 37 #[.int .i64 p, .int .i64 q, .int .i64 g]).alloc (.cells #[.int .i64 a, .int .i64 b] 39)
  have B1 := Blk.new (w.alloc (.cells #[.int .i64 p, .int .i64 q, .int .i64 g] 37)) 39 #[.int .i64 a, .int .i64 b]
  have E := (((Ext.refl w).alloc (.cells #[.int .i64 p, .int .i64 q, .int .i64 g] 37)).alloc (.cells #[.int .i64 a, .int .i64 b] 39))
  simp only [World.size_alloc] at B1
  cases h1 : (grpB p q g)
  · have hk : kk = false := by rw [← hkk]; simp [h1]; try (intros; simp_all)
    rw [hk]
    have H1 := Lib.hid h1
    clear hk hkk h1
    go_enter Try.func30, Try.ntmps30
    have C_B0 := B0.cells
    have C_B1 := B1.cells
    go_wp2_with fail
    refine (IsValidGroup_any p q g _).mono ?_
    rintro e w1 ⟨he, hb⟩
    rw [H1.out] at he; subst he
    clear C_B0 C_B1
    replace E := E.trans hb
    replace B0 := B0.ext hb
    replace B1 := B1.ext hb
    clear hb
    have C_B0 := B0.cells
    have C_B1 := B1.cells
    go_wp2
    go_ret
    exact ⟨rfl, E⟩
  have hG := (grpB_in h1).bd
  have hGI := grpB_in h1
  have hp9 := hGI.p9
  cases h2 : (elB p q a && elB p q b)
  · have hk : kk = false := by rw [← hkk]; simp [h1, h2]; try (intros; simp_all)
    rw [hk]
    have H1 := Lib.hid h1
    have H2 := Lib.hid h2
    clear hk hkk h1 h2
    go_enter Try.func30, Try.ntmps30
    have C_B0 := B0.cells
    have C_B1 := B1.cells
    go_wp2_with fail
    refine (IsValidGroup_any p q g _).mono ?_
    rintro e w1 ⟨he, hb⟩
    rw [H1.out] at he; subst he
    clear C_B0 C_B1
    replace E := E.trans hb
    replace B0 := B0.ext hb
    replace B1 := B1.ext hb
    clear hb
    have C_B0 := B0.cells
    have C_B1 := B1.cells
    go_wp2_with fail
    refine (hasCipher_any p q g a b _ hG).mono ?_
    rintro e w2 ⟨he, hb⟩
    rw [H2.out] at he; subst he
    clear C_B0 C_B1
    replace E := E.trans hb
    replace B0 := B0.ext hb
    replace B1 := B1.ext hb
    clear hb
    have C_B0 := B0.cells
    have C_B1 := B1.cells
    go_wp2
    go_ret
    exact ⟨rfl, E⟩
  have hk : kk = true := by rw [← hkk]; simp_all
  rw [hk]
  have H1 := Lib.hid h1
  have H2 := Lib.hid h2
  clear hk hkk h1 h2
  go_enter Try.func30, Try.ntmps30
  have C_B0 := B0.cells
  have C_B1 := B1.cells
  go_wp2_with fail
  refine (IsValidGroup_any p q g _).mono ?_
  rintro e w1 ⟨he, hb⟩
  rw [H1.out] at he; subst he
  clear C_B0 C_B1
  replace E := E.trans hb
  replace B0 := B0.ext hb
  replace B1 := B1.ext hb
  clear hb
  have C_B0 := B0.cells
  have C_B1 := B1.cells
  go_wp2_with fail
  refine (hasCipher_any p q g a b _ hG).mono ?_
  rintro e w2 ⟨he, hb⟩
  rw [H2.out] at he; subst he
  clear C_B0 C_B1
  replace E := E.trans hb
  replace B0 := B0.ext hb
  replace B1 := B1.ext hb
  clear hb
  have C_B0 := B0.cells
  have C_B1 := B1.cells
  go_wp2
  go_ret
  exact ⟨rfl, E⟩

set_option maxRecDepth 100000 in
set_option maxHeartbeats 4000000 in
theorem iReencrypt_any (p q g k a b r : Int) (w : World) :
    Calls Try.prog 32 #[.agg #[.int .i64 p, .int .i64 q, .int .i64 g], .int .i64 k, .agg #[.int .i64 a, .int .i64 b], .int .i64 r] w fun e w' => e = .returned (.tuple #[.agg #[.int .i64 (if (grpB p q g && (elB p q k && ((elB p q a && elB p q b) && inR r 0 (q - 1)))) = true then (gmul p [a, gencA p q g r]) else 0), .int .i64 (if (grpB p q g && (elB p q k && ((elB p q a && elB p q b) && inR r 0 (q - 1)))) = true then (gmul p [b, gencB p q k 1 r]) else 0)], .bool (grpB p q g && (elB p q k && ((elB p q a && elB p q b) && inR r 0 (q - 1))))]) ∧ Ext w w' := by
  obtain ⟨vv0, hv0⟩ : ∃ vq : Int, (if (grpB p q g && (elB p q k && ((elB p q a && elB p q b) && inR r 0 (q - 1)))) = true then (gmul p [a, gencA p q g r]) else 0) = vq := ⟨_, rfl⟩
  rw [hv0]
  obtain ⟨vv1, hv1⟩ : ∃ vq : Int, (if (grpB p q g && (elB p q k && ((elB p q a && elB p q b) && inR r 0 (q - 1)))) = true then (gmul p [b, gencB p q k 1 r]) else 0) = vq := ⟨_, rfl⟩
  rw [hv1]
  obtain ⟨kk, hkk⟩ : ∃ kq : Bool, (grpB p q g && (elB p q k && ((elB p q a && elB p q b) && inR r 0 (q - 1)))) = kq := ⟨_, rfl⟩
  rw [hkk]
  have B0 := ((Blk.new w 37 #[.int .i64 p, .int .i64 q, .int .i64 g]).alloc (.cells #[.int .i64 a, .int .i64 b] 39)).alloc (.cells #[.int .i64 0, .int .i64 0] 39)
  have B1 := (Blk.new (w.alloc (.cells #[.int .i64 p, .int .i64 q, .int .i64 g] 37)) 39 #[.int .i64 a, .int .i64 b]).alloc (.cells #[.int .i64 0, .int .i64 0] 39)
  have B2 := Blk.new ((w.alloc (.cells #[.int .i64 p, .int .i64 q, .int .i64 g] 37)).alloc (.cells #[.int .i64 a, .int .i64 b] 39)) 39 #[.int .i64 0, .int .i64 0]
  have E := ((((Ext.refl w).alloc (.cells #[.int .i64 p, .int .i64 q, .int .i64 g] 37)).alloc (.cells #[.int .i64 a, .int .i64 b] 39)).alloc (.cells #[.int .i64 0, .int .i64 0] 39))
  simp only [World.size_alloc] at B1 B2
  cases h1 : (grpB p q g)
  · have hk : kk = false := by rw [← hkk]; simp [h1]; try (intros; simp_all)
    have hz0 : vv0 = 0 := by rw [← hv0]; simp [h1]; try (intros; simp_all)
    have hz1 : vv1 = 0 := by rw [← hv1]; simp [h1]; try (intros; simp_all)
    rw [hz0, hz1, hk]
    have H1 := Lib.hid h1
    clear hk hkk hz0 hv0 hz1 hv1 h1
    go_enter Try.func32, Try.ntmps32
    have C_B0 := B0.cells
    have C_B1 := B1.cells
    have C_B2 := B2.cells
    go_wp2_with fail
    refine (IsValidGroup_any p q g _).mono ?_
    rintro e w1 ⟨he, hb⟩
    rw [H1.out] at he; subst he
    clear C_B0 C_B1 C_B2
    replace E := E.trans hb
    replace B0 := B0.ext hb
    replace B1 := B1.ext hb
    replace B2 := B2.ext hb
    clear hb
    have C_B0 := B0.cells
    have C_B1 := B1.cells
    have C_B2 := B2.cells
    have F := B2.frozen
    go_wp2
    refine ret_ciB (a := 0) (b := 0) (k := false) ((B2.set_ 0 (.int .i64 (0))).set_ 1 (.int .i64 (0))) rfl rfl rfl ?_
    exact ⟨rfl, E.then (below_two (g := w.heap.size + 2) _ _ _) (by omega)⟩
  have hG := (grpB_in h1).bd
  have hGI := grpB_in h1
  have hp9 := hGI.p9
  cases h2 : (elB p q k)
  · have hk : kk = false := by rw [← hkk]; simp [h1, h2]; try (intros; simp_all)
    have hz0 : vv0 = 0 := by rw [← hv0]; simp [h1, h2]; try (intros; simp_all)
    have hz1 : vv1 = 0 := by rw [← hv1]; simp [h1, h2]; try (intros; simp_all)
    rw [hz0, hz1, hk]
    have H1 := Lib.hid h1
    have H2 := Lib.hid h2
    clear hk hkk hz0 hv0 hz1 hv1 h1 h2
    go_enter Try.func32, Try.ntmps32
    have C_B0 := B0.cells
    have C_B1 := B1.cells
    have C_B2 := B2.cells
    go_wp2_with fail
    refine (IsValidGroup_any p q g _).mono ?_
    rintro e w1 ⟨he, hb⟩
    rw [H1.out] at he; subst he
    clear C_B0 C_B1 C_B2
    replace E := E.trans hb
    replace B0 := B0.ext hb
    replace B1 := B1.ext hb
    replace B2 := B2.ext hb
    clear hb
    have C_B0 := B0.cells
    have C_B1 := B1.cells
    have C_B2 := B2.cells
    go_wp2_with fail
    refine (has_any p q g k _ hG).mono ?_
    rintro e w2 ⟨he, hb⟩
    rw [H2.out] at he; subst he
    clear C_B0 C_B1 C_B2
    replace E := E.trans hb
    replace B0 := B0.ext hb
    replace B1 := B1.ext hb
    replace B2 := B2.ext hb
    clear hb
    have C_B0 := B0.cells
    have C_B1 := B1.cells
    have C_B2 := B2.cells
    have F := B2.frozen
    go_wp2
    refine ret_ciB (a := 0) (b := 0) (k := false) ((B2.set_ 0 (.int .i64 (0))).set_ 1 (.int .i64 (0))) rfl rfl rfl ?_
    exact ⟨rfl, E.then (below_two (g := w.heap.size + 2) _ _ _) (by omega)⟩
  cases h3 : (elB p q a && elB p q b)
  · have hk : kk = false := by rw [← hkk]; simp [h1, h2, h3]; try (intros; simp_all)
    have hz0 : vv0 = 0 := by rw [← hv0]; simp [h1, h2, h3]; try (intros; simp_all)
    have hz1 : vv1 = 0 := by rw [← hv1]; simp [h1, h2, h3]; try (intros; simp_all)
    rw [hz0, hz1, hk]
    have H1 := Lib.hid h1
    have H2 := Lib.hid h2
    have H3 := Lib.hid h3
    clear hk hkk hz0 hv0 hz1 hv1 h1 h2 h3
    go_enter Try.func32, Try.ntmps32
    have C_B0 := B0.cells
    have C_B1 := B1.cells
    have C_B2 := B2.cells
    go_wp2_with fail
    refine (IsValidGroup_any p q g _).mono ?_
    rintro e w1 ⟨he, hb⟩
    rw [H1.out] at he; subst he
    clear C_B0 C_B1 C_B2
    replace E := E.trans hb
    replace B0 := B0.ext hb
    replace B1 := B1.ext hb
    replace B2 := B2.ext hb
    clear hb
    have C_B0 := B0.cells
    have C_B1 := B1.cells
    have C_B2 := B2.cells
    go_wp2_with fail
    refine (has_any p q g k _ hG).mono ?_
    rintro e w2 ⟨he, hb⟩
    rw [H2.out] at he; subst he
    clear C_B0 C_B1 C_B2
    replace E := E.trans hb
    replace B0 := B0.ext hb
    replace B1 := B1.ext hb
    replace B2 := B2.ext hb
    clear hb
    have C_B0 := B0.cells
    have C_B1 := B1.cells
    have C_B2 := B2.cells
    go_wp2_with fail
    refine (hasCipher_any p q g a b _ hG).mono ?_
    rintro e w3 ⟨he, hb⟩
    rw [H3.out] at he; subst he
    clear C_B0 C_B1 C_B2
    replace E := E.trans hb
    replace B0 := B0.ext hb
    replace B1 := B1.ext hb
    replace B2 := B2.ext hb
    clear hb
    have C_B0 := B0.cells
    have C_B1 := B1.cells
    have C_B2 := B2.cells
    have F := B2.frozen
    go_wp2
    refine ret_ciB (a := 0) (b := 0) (k := false) ((B2.set_ 0 (.int .i64 (0))).set_ 1 (.int .i64 (0))) rfl rfl rfl ?_
    exact ⟨rfl, E.then (below_two (g := w.heap.size + 2) _ _ _) (by omega)⟩
  cases h4 : (inR r 0 (q - 1))
  · have hk : kk = false := by rw [← hkk]; simp [h1, h2, h3, h4]; try (intros; simp_all)
    have hz0 : vv0 = 0 := by rw [← hv0]; simp [h1, h2, h3, h4]; try (intros; simp_all)
    have hz1 : vv1 = 0 := by rw [← hv1]; simp [h1, h2, h3, h4]; try (intros; simp_all)
    rw [hz0, hz1, hk]
    have H1 := Lib.hid h1
    have H2 := Lib.hid h2
    have H3 := Lib.hid h3
    have H4 := Lib.hid h4
    clear hk hkk hz0 hv0 hz1 hv1 h1 h2 h3 h4
    go_enter Try.func32, Try.ntmps32
    have C_B0 := B0.cells
    have C_B1 := B1.cells
    have C_B2 := B2.cells
    go_wp2_with fail
    refine (IsValidGroup_any p q g _).mono ?_
    rintro e w1 ⟨he, hb⟩
    rw [H1.out] at he; subst he
    clear C_B0 C_B1 C_B2
    replace E := E.trans hb
    replace B0 := B0.ext hb
    replace B1 := B1.ext hb
    replace B2 := B2.ext hb
    clear hb
    have C_B0 := B0.cells
    have C_B1 := B1.cells
    have C_B2 := B2.cells
    go_wp2_with fail
    refine (has_any p q g k _ hG).mono ?_
    rintro e w2 ⟨he, hb⟩
    rw [H2.out] at he; subst he
    clear C_B0 C_B1 C_B2
    replace E := E.trans hb
    replace B0 := B0.ext hb
    replace B1 := B1.ext hb
    replace B2 := B2.ext hb
    clear hb
    have C_B0 := B0.cells
    have C_B1 := B1.cells
    have C_B2 := B2.cells
    go_wp2_with fail
    refine (hasCipher_any p q g a b _ hG).mono ?_
    rintro e w3 ⟨he, hb⟩
    rw [H3.out] at he; subst he
    clear C_B0 C_B1 C_B2
    replace E := E.trans hb
    replace B0 := B0.ext hb
    replace B1 := B1.ext hb
    replace B2 := B2.ext hb
    clear hb
    have C_B0 := B0.cells
    have C_B1 := B1.cells
    have C_B2 := B2.cells
    go_wp2_with fail
    refine (isExp_any p q g r _ hG).mono ?_
    rintro e w4 ⟨he, hb⟩
    rw [H4.out] at he; subst he
    clear C_B0 C_B1 C_B2
    replace E := E.trans hb
    replace B0 := B0.ext hb
    replace B1 := B1.ext hb
    replace B2 := B2.ext hb
    clear hb
    have C_B0 := B0.cells
    have C_B1 := B1.cells
    have C_B2 := B2.cells
    have F := B2.frozen
    go_wp2
    refine ret_ciB (a := 0) (b := 0) (k := false) ((B2.set_ 0 (.int .i64 (0))).set_ 1 (.int .i64 (0))) rfl rfl rfl ?_
    exact ⟨rfl, E.then (below_two (g := w.heap.size + 2) _ _ _) (by omega)⟩
  have hk : kk = true := by rw [← hkk]; simp_all
  have hz0 : vv0 = (gmul p [a, gencA p q g r]) := by rw [← hv0]; rw [hkk, hk, if_pos rfl]
  have hz1 : vv1 = (gmul p [b, gencB p q k 1 r]) := by rw [← hv1]; rw [hkk, hk, if_pos rfl]
  rw [hz0, hz1, hk]
  have H1 := Lib.hid h1
  have H2 := Lib.hid h2
  have H3 := Lib.hid h3
  have H4 := Lib.hid h4
  have hq2 := hGI.q2
  have hg2 := hGI.g2
  have hgp := hGI.gp
  have hqp := hGI.qp
  have rk := el_rng h2
  have ra := el_rng (Bool.and_eq_true _ _ |>.mp h3).1
  have rb := el_rng (Bool.and_eq_true _ _ |>.mp h3).2
  have rr := inR_iff.1 h4
  clear hk hkk hz0 hv0 hz1 hv1 h1 h2 h3 h4
  go_enter Try.func32, Try.ntmps32
  have C_B0 := B0.cells
  have C_B1 := B1.cells
  have C_B2 := B2.cells
  go_wp2_with fail
  refine (IsValidGroup_any p q g _).mono ?_
  rintro e w1 ⟨he, hb⟩
  rw [H1.out] at he; subst he
  clear C_B0 C_B1 C_B2
  replace E := E.trans hb
  replace B0 := B0.ext hb
  replace B1 := B1.ext hb
  replace B2 := B2.ext hb
  clear hb
  have C_B0 := B0.cells
  have C_B1 := B1.cells
  have C_B2 := B2.cells
  go_wp2_with fail
  refine (has_any p q g k _ hG).mono ?_
  rintro e w2 ⟨he, hb⟩
  rw [H2.out] at he; subst he
  clear C_B0 C_B1 C_B2
  replace E := E.trans hb
  replace B0 := B0.ext hb
  replace B1 := B1.ext hb
  replace B2 := B2.ext hb
  clear hb
  have C_B0 := B0.cells
  have C_B1 := B1.cells
  have C_B2 := B2.cells
  go_wp2_with fail
  refine (hasCipher_any p q g a b _ hG).mono ?_
  rintro e w3 ⟨he, hb⟩
  rw [H3.out] at he; subst he
  clear C_B0 C_B1 C_B2
  replace E := E.trans hb
  replace B0 := B0.ext hb
  replace B1 := B1.ext hb
  replace B2 := B2.ext hb
  clear hb
  have C_B0 := B0.cells
  have C_B1 := B1.cells
  have C_B2 := B2.cells
  go_wp2_with fail
  refine (isExp_any p q g r _ hG).mono ?_
  rintro e w4 ⟨he, hb⟩
  rw [H4.out] at he; subst he
  clear C_B0 C_B1 C_B2
  replace E := E.trans hb
  replace B0 := B0.ext hb
  replace B1 := B1.ext hb
  replace B2 := B2.ext hb
  clear hb
  have C_B0 := B0.cells
  have C_B1 := B1.cells
  have C_B2 := B2.cells
  go_wp2_with fail
  refine (reencrypt_any p q g k a b r _ hG (by omega) (by omega) (by omega) (by omega) (by omega)).mono ?_
  rintro e wf ⟨rfl, hb⟩
  clear C_B0 C_B1 C_B2
  replace E := E.trans hb
  replace B0 := B0.ext hb
  replace B1 := B1.ext hb
  replace B2 := B2.ext hb
  clear hb
  have C_B0 := B0.cells
  have C_B1 := B1.cells
  have C_B2 := B2.cells
  have F := B2.frozen
  go_wp2
  refine ret_ciB (a := (gmul p [a, gencA p q g r])) (b := (gmul p [b, gencB p q k 1 r])) (k := true) ((B2.set_ 0 (.int .i64 ((gmul p [a, gencA p q g r])))).set_ 1 (.int .i64 ((gmul p [b, gencB p q k 1 r])))) rfl rfl rfl ?_
  exact ⟨rfl, E.then (below_two (g := w.heap.size + 2) _ _ _) (by omega)⟩
end Go.Proofs.Ytdimmfniefjjkaa
