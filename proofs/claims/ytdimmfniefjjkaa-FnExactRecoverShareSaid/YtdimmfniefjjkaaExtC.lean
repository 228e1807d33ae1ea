/- Contracts for transcripts: acceptance, simulation, extraction. (Printed by tools/gen_extc.py.) -/
import Derived.Test.YtdimmfniefjjkaaProg
import Derived.Test.YtdimmfniefjjkaaEncC
import Derived.Test.YtdimmfniefjjkaaExtP
import Derived.Test.YtdimmfniefjjkaaEuc
namespace Go.Proofs.Ytdimmfniefjjkaa
open Go.RowKit

theorem ret_tr {fn : Func} {w : World} {g : Nat} {t : Tmp} {a b c : Int} {tm : Array Value} {Q : Ending → World → Prop}
    (B : Blk w g 61 #[.int .i64 a, .int .i64 b, .int .i64 c])
    (h : fn.results = #[.cell t 61]) (ht : tm.getD t undef = .pointer (some ⟨g, 0, none⟩)) (hQ : Q (.returned (.agg #[.int .i64 a, .int .i64 b, .int .i64 c])) w) :
    bodyPost Try.prog fn Q .ret { tmps := tm, defers := [] } w := by
  have C := B.cells
  refine bodyPost_ret (v := .agg #[.int .i64 a, .int .i64 b, .int .i64 c]) ?_ rfl hQ
  have ht' : (tm[t]?).getD undef = .pointer (some ⟨g, 0, none⟩) := by simpa using ht
  simp [results, h, ht', go_sem, C]
theorem ret_trB {fn : Func} {w : World} {g : Nat} {t u : Tmp} {a b c : Int} {k : Bool} {tm : Array Value} {Q : Ending → World → Prop}
    (B : Blk w g 61 #[.int .i64 a, .int .i64 b, .int .i64 c])
    (h : fn.results = #[.cell t 61, .tmp u]) (ht : tm.getD t undef = .pointer (some ⟨g, 0, none⟩)) (hu : tm.getD u undef = .bool k) (hQ : Q (.returned (.tuple #[.agg #[.int .i64 a, .int .i64 b, .int .i64 c], .bool k])) w) :
    bodyPost Try.prog fn Q .ret { tmps := tm, defers := [] } w := by
  have C := B.cells
  refine bodyPost_ret (v := .tuple #[.agg #[.int .i64 a, .int .i64 b, .int .i64 c], .bool k]) ?_ rfl hQ
  have ht' : (tm[t]?).getD undef = .pointer (some ⟨g, 0, none⟩) := by simpa using ht
  have hu' : (tm[u]?).getD undef = .bool k := by simpa using hu
  simp [results, h, ht', hu', go_sem, C]
theorem below_3 {g : Nat} (u : World) (a b c : Value) : Below g u (((u.setCell ⟨g, 0, none⟩ a).setCell ⟨g, 1, none⟩ b).setCell ⟨g, 2, none⟩ c) :=
  (((Below.refl g u).setCell (p := ⟨g, 0, none⟩) (Nat.le_refl _) a).setCell (p := ⟨g, 1, none⟩) (Nat.le_refl _) b).setCell (p := ⟨g, 2, none⟩) (Nat.le_refl _) c
theorem quietE {P : Program} {f : FuncId} {args : Array Value} {w : World} {n : Nat} {u v : Int} (h : Calls P f args (w.drewN n) fun e w' => e = .returned (.int .i64 u) ∧ w.drewN n = w') (huv : u = v) :
    Calls P f args (w.drewN n) fun e w'' => e = .returned (.int .i64 v) ∧ ∃ m, w'' = w.drewN m := h.mono fun _ _ ⟨he, hm⟩ => ⟨by rw [he, huv], n, hm.symm⟩
/-- A valid transcript. -/
def trB (p q t c z : Int) : Bool := elB p q t && (inR c 0 (q - 1) && inR z 0 (q - 1))
theorem trB_out {p q t c z : Int} (h : trB p q t c z = true) : elB p q t = true ∧ inR c 0 (q - 1) = true ∧ inR z 0 (q - 1) = true := by
  unfold trB at h
  simpa [Bool.and_eq_true] using h
theorem inv_ne {p q g c1 c2 : Int} (h : grpB p q g = true) (i1 : inR c1 0 (q - 1) = true) (i2 : inR c2 0 (q - 1) = true) (hc : c1 ≠ c2) : invV ((c1 - c2) % q) q ≠ 0 := by
  have hG := grpB_in h
  have i1 := inR_iff.1 i1
  have i2 := inR_iff.1 i2
  obtain ⟨Q, rfl⟩ := Int.eq_ofNat_of_zero_le (show 0 ≤ q by have := hG.q2; omega)
  have hQ : 2 ≤ Q := by have := hG.q2; omega
  have hQp : PrimeN Q := by have := primeB_iff.1 hG.hq; rwa [Int.toNat_natCast] at this
  have h0 : (c1 - c2) % (Q : Int) ≠ 0 := fun h0 => by
    obtain ⟨d, hd⟩ := Int.dvd_of_emod_eq_zero h0
    rcases Int.lt_trichotomy d 0 with h1 | h1 | h1
    · have := Int.mul_le_mul_of_nonneg_left (show d ≤ -1 by omega) (show (0 : Int) ≤ Q by omega)
      omega
    · subst h1; omega
    · have := Int.mul_le_mul_of_nonneg_left (show 1 ≤ d by omega) (show (0 : Int) ≤ Q by omega)
      omega
  have h1 := Int.emod_nonneg (c1 - c2) (show (Q : Int) ≠ 0 by omega)
  have h2 := Int.emod_lt_of_pos (c1 - c2) (show (0 : Int) < Q by omega)
  generalize (c1 - c2) % (Q : Int) = D at *
  obtain ⟨D, rfl⟩ := Int.eq_ofNat_of_zero_le h1
  obtain ⟨v, v1, v2, v3⟩ := inv_prime hQp (show D ≠ 0 by omega) (by omega)
  rw [v2]
  intro h3
  have : v = 0 := by omega
  subst this
  simp at v3
theorem inverse_int (a m : Int) (w : World) (h0 : 0 ≤ a) (ha : a < m) (hm : 2 ≤ m) (hm2 : m ≤ 2000000000) :
    Calls Try.prog 212 #[.int .i64 a, .int .i64 m] w fun e w' => e = .returned (.int .i64 (invV a m)) ∧ w = w' := by
  obtain ⟨A, rfl⟩ := Int.eq_ofNat_of_zero_le h0
  obtain ⟨M, rfl⟩ := Int.eq_ofNat_of_zero_le (show 0 ≤ m by omega)
  exact inverse_any A M w (by omega) (by omega) (by omega)
theorem nInverse_int (b m : Int) (w : World) (hb1 : -9000000000 ≤ b) (hb2 : b ≤ 9000000000) (hm : 2 ≤ m) (hm2 : m ≤ 2000000000) (hn : invV (b % m) m ≠ 0) :
    Calls Try.prog 213 #[.int .i64 b, .int .i64 m] w fun e w' => e = .returned (.tuple #[.int .i64 (invV (b % m) m), .bool true]) ∧ w = w' := by
  obtain ⟨M, rfl⟩ := Int.eq_ofNat_of_zero_le (show 0 ≤ m by omega)
  refine (nInverse_any b M w hb1 hb2 (by omega) (by omega)).mono ?_
  rintro e w1 ⟨v, ok, rfl, h, hw⟩
  rcases h with ⟨rfl, rfl, _⟩ | ⟨_, h⟩
  · exact ⟨rfl, hw⟩
  · exact absurd h hn

set_option maxRecDepth 100000 in
set_option maxHeartbeats 4000000 in
theorem accepts_any (p q g b y t c z : Int) (w : World) (h : GrpB p q) (hb : 0 ≤ b ∧ b ≤ 3000000000) (hy : 0 ≤ y ∧ y ≤ 3000000000) (ht : 0 ≤ t ∧ t ≤ 3000000000) (hc : -9000000000000000000 ≤ c ∧ c ≤ 9000000000000000000) (hz : -9000000000000000000 ≤ z ∧ z ≤ 9000000000000000000) :
    Calls Try.prog 137 #[.agg #[.int .i64 p, .int .i64 q, .int .i64 g], .int .i64 b, .int .i64 y, .agg #[.int .i64 t, .int .i64 c, .int .i64 z]] w fun e w' => e = .returned (.bool (accB p q b y t c z)) ∧ Ext w w' := by
  have x1 := gpw_rg p q b z h
  have x2 := gpw_rg p q y c h
  unfold accB
  have B0 := (Blk.new w 37 #[.int .i64 p, .int .i64 q, .int .i64 g]).alloc (.cells #[.int .i64 t, .int .i64 c, .int .i64 z] 61)
  have B1 := Blk.new (w.alloc (.cells #[.int .i64 p, .int .i64 q, .int .i64 g] 37)) 61 #[.int .i64 t, .int .i64 c, .int .i64 z]
  have E := (((Ext.refl w).alloc (.cells #[.int .i64 p, .int .i64 q, .int .i64 g] 37)).alloc (.cells #[.int .i64 t, .int .i64 c, .int .i64 z] 61))
  simp only [World.size_alloc] at B1
  have hsz : ((w.alloc (.cells #[.int .i64 p, .int .i64 q, .int .i64 g] 37)).alloc (.cells #[.int .i64 t, .int .i64 c, .int .i64 z] 61)).heap.size = w.heap.size + 2 := by simp only [World.size_alloc]
  go_enter Try.func137, Try.ntmps137
  go_wp2
  generalize ((w.alloc (.cells #[.int .i64 p, .int .i64 q, .int .i64 g] 37)).alloc (.cells #[.int .i64 t, .int .i64 c, .int .i64 z] 61)) = Wb at *
  have hS : ∀ V, Ext Wb V → V.cell? ⟨w.heap.size, 0, none⟩ = some (.int .i64 p) ∧ V.cell? ⟨w.heap.size, 1, none⟩ = some (.int .i64 q) ∧ V.cell? ⟨w.heap.size, 2, none⟩ = some (.int .i64 g) ∧ V.cell? ⟨w.heap.size + 1, 0, none⟩ = some (.int .i64 t) ∧ V.cell? ⟨w.heap.size + 1, 1, none⟩ = some (.int .i64 c) ∧ V.cell? ⟨w.heap.size + 1, 2, none⟩ = some (.int .i64 z) := fun V hV => by
    have a0 := (B0.ext hV).cells
    have a1 := (B1.ext hV).cells
    exact ⟨a0 0, a0 1, a0 2, a1 0, a1 1, a1 2⟩
  go_region_held3 (fun V => V.cell? ⟨w.heap.size, 0, none⟩ = some (.int .i64 p) ∧ V.cell? ⟨w.heap.size, 1, none⟩ = some (.int .i64 q) ∧ V.cell? ⟨w.heap.size, 2, none⟩ = some (.int .i64 g) ∧ V.cell? ⟨w.heap.size + 1, 0, none⟩ = some (.int .i64 t) ∧ V.cell? ⟨w.heap.size + 1, 1, none⟩ = some (.int .i64 c) ∧ V.cell? ⟨w.heap.size + 1, 2, none⟩ = some (.int .i64 z)) (exact hS _ (by repeat (first | assumption | exact Ext.refl _ | apply Ext.alloc | apply Ext.drew | apply Ext.drewN | refine Ext.setCell ?_ (by first | omega | (simp; omega)) _)))
    (first
      | (go_at_call 203; refine (mul_any p q g _ 2 2 [t, gpw p q y c] _ h (rd_two (by simp)) rfl (by decide) (two_rg ht (by omega))).mono ?_; rintro ek wk3 ⟨rfl, hb3⟩; have hx3 := Ext.trans (w := Wb) (by repeat (first | assumption | exact Ext.refl _ | apply Ext.alloc | apply Ext.drew | apply Ext.drewN | refine Ext.setCell ?_ (by first | omega | (simp; omega)) _)) hb3; have EX := hx3)
      | (go_at_call 144; first | (have hz0 := hb1; refine (pow_any p q g _ _ _ h (by omega) (by omega) (by omega) (by omega)).mono ?_; rintro ek wk2 ⟨rfl, hb2⟩; have hx2 := Ext.trans (w := Wb) (by repeat (first | assumption | exact Ext.refl _ | apply Ext.alloc | apply Ext.drew | apply Ext.drewN | refine Ext.setCell ?_ (by first | omega | (simp; omega)) _)) hb2) | (refine (pow_any p q g _ _ _ h (by omega) (by omega) (by omega) (by omega)).mono ?_; rintro ek wk1 ⟨rfl, hb1⟩; have hx1 := Ext.trans (w := Wb) (by repeat (first | assumption | exact Ext.refl _ | apply Ext.alloc | apply Ext.drew | apply Ext.drewN | refine Ext.setCell ?_ (by first | omega | (simp; omega)) _)) hb1) | fail))
  go_wp2
  go_ret
  exact ⟨rfl, E.trans EX⟩

set_option maxRecDepth 100000 in
set_option maxHeartbeats 4000000 in
theorem xAccepts_any (p q g b y t c z : Int) (w : World) (h : GrpB p q) (hb : 0 ≤ b ∧ b ≤ 3000000000) (hy : 0 ≤ y ∧ y ≤ 3000000000) (ht : 0 ≤ t ∧ t ≤ 3000000000) (hc : -9000000000000000000 ≤ c ∧ c ≤ 9000000000000000000) (hz : -9000000000000000000 ≤ z ∧ z ≤ 9000000000000000000) :
    Calls Try.prog 140 #[.agg #[.int .i64 p, .int .i64 q, .int .i64 g], .int .i64 b, .int .i64 y, .agg #[.int .i64 t, .int .i64 c, .int .i64 z]] w fun e w' => e = .returned (.bool (accB p q b y t c z)) ∧ Ext w w' := by
  have x1 := gpw_rg p q b z h
  have x2 := gpw_rg p q y c h
  unfold accB
  have B0 := (Blk.new w 37 #[.int .i64 p, .int .i64 q, .int .i64 g]).alloc (.cells #[.int .i64 t, .int .i64 c, .int .i64 z] 61)
  have B1 := Blk.new (w.alloc (.cells #[.int .i64 p, .int .i64 q, .int .i64 g] 37)) 61 #[.int .i64 t, .int .i64 c, .int .i64 z]
  have E := (((Ext.refl w).alloc (.cells #[.int .i64 p, .int .i64 q, .int .i64 g] 37)).alloc (.cells #[.int .i64 t, .int .i64 c, .int .i64 z] 61))
  simp only [World.size_alloc] at B1
  have hsz : ((w.alloc (.cells #[.int .i64 p, .int .i64 q, .int .i64 g] 37)).alloc (.cells #[.int .i64 t, .int .i64 c, .int .i64 z] 61)).heap.size = w.heap.size + 2 := by simp only [World.size_alloc]
  go_enter Try.func140, Try.ntmps140
  go_wp2
  generalize ((w.alloc (.cells #[.int .i64 p, .int .i64 q, .int .i64 g] 37)).alloc (.cells #[.int .i64 t, .int .i64 c, .int .i64 z] 61)) = Wb at *
  have hS : ∀ V, Ext Wb V → V.cell? ⟨w.heap.size, 0, none⟩ = some (.int .i64 p) ∧ V.cell? ⟨w.heap.size, 1, none⟩ = some (.int .i64 q) ∧ V.cell? ⟨w.heap.size, 2, none⟩ = some (.int .i64 g) ∧ V.cell? ⟨w.heap.size + 1, 0, none⟩ = some (.int .i64 t) ∧ V.cell? ⟨w.heap.size + 1, 1, none⟩ = some (.int .i64 c) ∧ V.cell? ⟨w.heap.size + 1, 2, none⟩ = some (.int .i64 z) := fun V hV => by
    have a0 := (B0.ext hV).cells
    have a1 := (B1.ext hV).cells
    exact ⟨a0 0, a0 1, a0 2, a1 0, a1 1, a1 2⟩
  go_region_held3 (fun V => V.cell? ⟨w.heap.size, 0, none⟩ = some (.int .i64 p) ∧ V.cell? ⟨w.heap.size, 1, none⟩ = some (.int .i64 q) ∧ V.cell? ⟨w.heap.size, 2, none⟩ = some (.int .i64 g) ∧ V.cell? ⟨w.heap.size + 1, 0, none⟩ = some (.int .i64 t) ∧ V.cell? ⟨w.heap.size + 1, 1, none⟩ = some (.int .i64 c) ∧ V.cell? ⟨w.heap.size + 1, 2, none⟩ = some (.int .i64 z)) (exact hS _ (by repeat (first | assumption | exact Ext.refl _ | apply Ext.alloc | apply Ext.drew | apply Ext.drewN | refine Ext.setCell ?_ (by first | omega | (simp; omega)) _)))
    (first
      | (go_at_call 205; refine (gMul_any p q g _ 2 2 [t, gpw p q y c] _ h (rd_two (by simp)) rfl (by decide) (two_rg ht (by omega))).mono ?_; rintro ek wk3 ⟨rfl, hb3⟩; have hx3 := Ext.trans (w := Wb) (by repeat (first | assumption | exact Ext.refl _ | apply Ext.alloc | apply Ext.drew | apply Ext.drewN | refine Ext.setCell ?_ (by first | omega | (simp; omega)) _)) hb3; have EX := hx3)
      | (go_at_call 135; first | (have hz0 := hb1; refine (gExp_any p q g _ _ _ h (by omega) (by omega) (by omega) (by omega)).mono ?_; rintro ek wk2 ⟨rfl, hb2⟩; have hx2 := Ext.trans (w := Wb) (by repeat (first | assumption | exact Ext.refl _ | apply Ext.alloc | apply Ext.drew | apply Ext.drewN | refine Ext.setCell ?_ (by first | omega | (simp; omega)) _)) hb2) | (refine (gExp_any p q g _ _ _ h (by omega) (by omega) (by omega) (by omega)).mono ?_; rintro ek wk1 ⟨rfl, hb1⟩; have hx1 := Ext.trans (w := Wb) (by repeat (first | assumption | exact Ext.refl _ | apply Ext.alloc | apply Ext.drew | apply Ext.drewN | refine Ext.setCell ?_ (by first | omega | (simp; omega)) _)) hb1) | fail))
  go_wp2
  go_ret
  exact ⟨rfl, E.trans EX⟩

set_option maxRecDepth 100000 in
set_option maxHeartbeats 4000000 in
theorem simulate_any (p q g b y c z : Int) (w : World) (h : GrpB p q) (hb : 0 ≤ b ∧ b ≤ 3000000000) (hy : 0 ≤ y ∧ y ≤ 3000000000) (hc : -9000000000000000000 ≤ c ∧ c ≤ 9000000000000000000) (hz : -9000000000000000000 ≤ z ∧ z ≤ 9000000000000000000) :
    Calls Try.prog 142 #[.agg #[.int .i64 p, .int .i64 q, .int .i64 g], .int .i64 b, .int .i64 y, .int .i64 c, .int .i64 z] w fun e w' => e = .returned (.agg #[.int .i64 (gmul p [gpw p q b z, gpw p q y (-c)]), .int .i64 c, .int .i64 z]) ∧ Ext w w' := by
  have x1 := gpw_rg p q b z h
  have x2 := gpw_rg p q y (-c) h
  have hneg : IntKind.i64.wrap (-c) = -c := by rw [IntKind.wrap_i64]; omega
  have B0 := Blk.new w 37 #[.int .i64 p, .int .i64 q, .int .i64 g]
  have E := ((Ext.refl w).alloc (.cells #[.int .i64 p, .int .i64 q, .int .i64 g] 37))
  have hsz : (w.alloc (.cells #[.int .i64 p, .int .i64 q, .int .i64 g] 37)).heap.size = w.heap.size + 1 := by simp only [World.size_alloc]
  have BR := Blk.new (w.alloc (.cells #[.int .i64 p, .int .i64 q, .int .i64 g] 37)) 61 #[.int .i64 0, .int .i64 0, .int .i64 0]
  rw [hsz] at BR
  go_enter Try.func142, Try.ntmps142
  go_wp2
  generalize (w.alloc (.cells #[.int .i64 p, .int .i64 q, .int .i64 g] 37)) = Wb at *
  have hS : ∀ V, Ext Wb V → V.cell? ⟨w.heap.size, 0, none⟩ = some (.int .i64 p) ∧ V.cell? ⟨w.heap.size, 1, none⟩ = some (.int .i64 q) ∧ V.cell? ⟨w.heap.size, 2, none⟩ = some (.int .i64 g) := fun V hV => by
    have a0 := (B0.ext hV).cells
    exact ⟨a0 0, a0 1, a0 2⟩
  have hW : Ext Wb (Wb.alloc (.cells #[.int .i64 0, .int .i64 0, .int .i64 0] 61)) := (Ext.refl Wb).alloc _
  go_region_held3 (fun V => V.cell? ⟨w.heap.size, 0, none⟩ = some (.int .i64 p) ∧ V.cell? ⟨w.heap.size, 1, none⟩ = some (.int .i64 q) ∧ V.cell? ⟨w.heap.size, 2, none⟩ = some (.int .i64 g)) (exact hS _ (by repeat (first | assumption | exact Ext.refl _ | apply Ext.alloc | apply Ext.drew | apply Ext.drewN | refine Ext.setCell ?_ (by first | omega | (simp; omega)) _)))
    (first
      | (go_at_call 203; refine (mul_any p q g _ 2 2 [gpw p q b z, gpw p q y (-c)] _ h (rd_two (by simp)) rfl (by decide) (two_rg (by omega) (by omega))).mono ?_; rintro ek wk3 ⟨rfl, hb3⟩; have hx3 := Ext.trans (w := Wb) (by repeat (first | assumption | exact Ext.refl _ | apply Ext.alloc | apply Ext.drew | apply Ext.drewN | refine Ext.setCell ?_ (by first | omega | (simp; omega)) _)) hb3; have hr3 := Ext.trans (w := (Wb.alloc (.cells #[.int .i64 0, .int .i64 0, .int .i64 0] 61))) (by repeat (first | assumption | exact Ext.refl _ | apply Ext.alloc | apply Ext.drew | apply Ext.drewN | refine Ext.setCell ?_ (by first | omega | (simp; omega)) _)) hb3; have BX := BR.ext hr3; have F := BX.frozen; have CX := BX.cells; have EX := hx3)
      | (go_at_call 144; first | (have hz0 := hb1; refine (pow_any p q g _ _ _ h (by omega) (by omega) (by omega) (by omega)).mono ?_; rintro ek wk2 ⟨rfl, hb2⟩; have hx2 := Ext.trans (w := Wb) (by repeat (first | assumption | exact Ext.refl _ | apply Ext.alloc | apply Ext.drew | apply Ext.drewN | refine Ext.setCell ?_ (by first | omega | (simp; omega)) _)) hb2; have hr2 := Ext.trans (w := (Wb.alloc (.cells #[.int .i64 0, .int .i64 0, .int .i64 0] 61))) (by repeat (first | assumption | exact Ext.refl _ | apply Ext.alloc | apply Ext.drew | apply Ext.drewN | refine Ext.setCell ?_ (by first | omega | (simp; omega)) _)) hb2) | (refine (pow_any p q g _ _ _ h (by omega) (by omega) (by omega) (by omega)).mono ?_; rintro ek wk1 ⟨rfl, hb1⟩; have hx1 := Ext.trans (w := Wb) (by repeat (first | assumption | exact Ext.refl _ | apply Ext.alloc | apply Ext.drew | apply Ext.drewN | refine Ext.setCell ?_ (by first | omega | (simp; omega)) _)) hb1; have hr1 := Ext.trans (w := (Wb.alloc (.cells #[.int .i64 0, .int .i64 0, .int .i64 0] 61))) (by repeat (first | assumption | exact Ext.refl _ | apply Ext.alloc | apply Ext.drew | apply Ext.drewN | refine Ext.setCell ?_ (by first | omega | (simp; omega)) _)) hb1) | fail))
  go_wp2
  refine ret_tr (a := gmul p [gpw p q b z, gpw p q y (-c)]) (b := c) (c := z) (((BX.set_ 0 (.int .i64 (gmul p [gpw p q b z, gpw p q y (-c)]))).set_ 1 (.int .i64 (c))).set_ 2 (.int .i64 (z))) rfl rfl ?_
  exact ⟨rfl, E.trans (EX.then (below_3 (g := w.heap.size + 1) _ _ _ _) (by omega))⟩

set_option maxRecDepth 100000 in
set_option maxHeartbeats 4000000 in
theorem xSimulate_any (p q g b y c z : Int) (w : World) (h : GrpB p q) (hb : 0 ≤ b ∧ b ≤ 3000000000) (hy : 0 ≤ y ∧ y ≤ 3000000000) (hc : -9000000000000000000 ≤ c ∧ c ≤ 9000000000000000000) (hz : -9000000000000000000 ≤ z ∧ z ≤ 9000000000000000000) :
    Calls Try.prog 143 #[.agg #[.int .i64 p, .int .i64 q, .int .i64 g], .int .i64 b, .int .i64 y, .int .i64 c, .int .i64 z] w fun e w' => e = .returned (.agg #[.int .i64 (gmul p [gpw p q b z, gpw p q y (-c)]), .int .i64 c, .int .i64 z]) ∧ Ext w w' := by
  have x1 := gpw_rg p q b z h
  have x2 := gpw_rg p q y (-c) h
  have hneg : IntKind.i64.wrap (-c) = -c := by rw [IntKind.wrap_i64]; omega
  have B0 := Blk.new w 37 #[.int .i64 p, .int .i64 q, .int .i64 g]
  have E := ((Ext.refl w).alloc (.cells #[.int .i64 p, .int .i64 q, .int .i64 g] 37))
  have hsz : (w.alloc (.cells #[.int .i64 p, .int .i64 q, .int .i64 g] 37)).heap.size = w.heap.size + 1 := by simp only [World.size_alloc]
  have BR := Blk.new (w.alloc (.cells #[.int .i64 p, .int .i64 q, .int .i64 g] 37)) 61 #[.int .i64 0, .int .i64 0, .int .i64 0]
  rw [hsz] at BR
  go_enter Try.func143, Try.ntmps143
  go_wp2
  generalize (w.alloc (.cells #[.int .i64 p, .int .i64 q, .int .i64 g] 37)) = Wb at *
  have hS : ∀ V, Ext Wb V → V.cell? ⟨w.heap.size, 0, none⟩ = some (.int .i64 p) ∧ V.cell? ⟨w.heap.size, 1, none⟩ = some (.int .i64 q) ∧ V.cell? ⟨w.heap.size, 2, none⟩ = some (.int .i64 g) := fun V hV => by
    have a0 := (B0.ext hV).cells
    exact ⟨a0 0, a0 1, a0 2⟩
  have hW : Ext Wb (Wb.alloc (.cells #[.int .i64 0, .int .i64 0, .int .i64 0] 61)) := (Ext.refl Wb).alloc _
  go_region_held3 (fun V => V.cell? ⟨w.heap.size, 0, none⟩ = some (.int .i64 p) ∧ V.cell? ⟨w.heap.size, 1, none⟩ = some (.int .i64 q) ∧ V.cell? ⟨w.heap.size, 2, none⟩ = some (.int .i64 g)) (exact hS _ (by repeat (first | assumption | exact Ext.refl _ | apply Ext.alloc | apply Ext.drew | apply Ext.drewN | refine Ext.setCell ?_ (by first | omega | (simp; omega)) _)))
    (first
      | (go_at_call 205; refine (gMul_any p q g _ 2 2 [gpw p q b z, gpw p q y (-c)] _ h (rd_two (by simp)) rfl (by decide) (two_rg (by omega) (by omega))).mono ?_; rintro ek wk3 ⟨rfl, hb3⟩; have hx3 := Ext.trans (w := Wb) (by repeat (first | assumption | exact Ext.refl _ | apply Ext.alloc | apply Ext.drew | apply Ext.drewN | refine Ext.setCell ?_ (by first | omega | (simp; omega)) _)) hb3; have hr3 := Ext.trans (w := (Wb.alloc (.cells #[.int .i64 0, .int .i64 0, .int .i64 0] 61))) (by repeat (first | assumption | exact Ext.refl _ | apply Ext.alloc | apply Ext.drew | apply Ext.drewN | refine Ext.setCell ?_ (by first | omega | (simp; omega)) _)) hb3; have BX := BR.ext hr3; have F := BX.frozen; have CX := BX.cells; have EX := hx3)
      | (go_at_call 135; first | (have hz0 := hb1; refine (gExp_any p q g _ _ _ h (by omega) (by omega) (by omega) (by omega)).mono ?_; rintro ek wk2 ⟨rfl, hb2⟩; have hx2 := Ext.trans (w := Wb) (by repeat (first | assumption | exact Ext.refl _ | apply Ext.alloc | apply Ext.drew | apply Ext.drewN | refine Ext.setCell ?_ (by first | omega | (simp; omega)) _)) hb2; have hr2 := Ext.trans (w := (Wb.alloc (.cells #[.int .i64 0, .int .i64 0, .int .i64 0] 61))) (by repeat (first | assumption | exact Ext.refl _ | apply Ext.alloc | apply Ext.drew | apply Ext.drewN | refine Ext.setCell ?_ (by first | omega | (simp; omega)) _)) hb2) | (refine (gExp_any p q g _ _ _ h (by omega) (by omega) (by omega) (by omega)).mono ?_; rintro ek wk1 ⟨rfl, hb1⟩; have hx1 := Ext.trans (w := Wb) (by repeat (first | assumption | exact Ext.refl _ | apply Ext.alloc | apply Ext.drew | apply Ext.drewN | refine Ext.setCell ?_ (by first | omega | (simp; omega)) _)) hb1; have hr1 := Ext.trans (w := (Wb.alloc (.cells #[.int .i64 0, .int .i64 0, .int .i64 0] 61))) (by repeat (first | assumption | exact Ext.refl _ | apply Ext.alloc | apply Ext.drew | apply Ext.drewN | refine Ext.setCell ?_ (by first | omega | (simp; omega)) _)) hb1) | fail))
  go_wp2
  refine ret_tr (a := gmul p [gpw p q b z, gpw p q y (-c)]) (b := c) (c := z) (((BX.set_ 0 (.int .i64 (gmul p [gpw p q b z, gpw p q y (-c)]))).set_ 1 (.int .i64 (c))).set_ 2 (.int .i64 (z))) rfl rfl ?_
  exact ⟨rfl, E.trans (EX.then (below_3 (g := w.heap.size + 1) _ _ _ _) (by omega))⟩

set_option maxRecDepth 100000 in
set_option maxHeartbeats 4000000 in
theorem extracted_any (p q g c1 z1 c2 z2 : Int) (w : World) (h : GrpB p q) (hq2 : 2 ≤ q) (hq9 : q ≤ 2000000000) (h1 : 0 ≤ c1 ∧ c1 ≤ 2000000000) (h2 : 0 ≤ z1 ∧ z1 ≤ 2000000000) (h3 : 0 ≤ c2 ∧ c2 ≤ 2000000000) (h4 : 0 ≤ z2 ∧ z2 ≤ 2000000000) :
    Calls Try.prog 138 #[.agg #[.int .i64 p, .int .i64 q, .int .i64 g], .int .i64 c1, .int .i64 z1, .int .i64 c2, .int .i64 z2] w fun e w' => e = .returned (.int .i64 (gext q c1 z1 c2 z2)) ∧ Ext w w' := by
  have m1 := emod_bd (x := z1 - z2) (q := q) (by omega)
  have m2 := emod_bd (x := c1 - c2) (q := q) (by omega)
  have m3 := invV_bd (a := (c1 - c2) % q) (m := q) (by omega)
  obtain ⟨Z, hZ⟩ : ∃ Z, (z1 - z2) % q = Z := ⟨_, rfl⟩
  obtain ⟨D, hD⟩ : ∃ D, (c1 - c2) % q = D := ⟨_, rfl⟩
  obtain ⟨I, hI⟩ : ∃ I, invV D q = I := ⟨_, rfl⟩
  unfold gext
  rw [hZ, hD, hI]
  rw [hZ] at m1
  rw [hD] at m2 m3
  rw [hI] at m3
  have HZ := Lib.hid hZ
  have HD := Lib.hid hD
  have HI := Lib.hid hI
  have hp0 : 0 ≤ Z * I := Int.mul_nonneg m1.1 m3.1
  have hp1 : Z * I ≤ 2000000000 * 2000000000 := Int.mul_le_mul (by omega) (by omega) m3.1 (by omega)
  have s1 : IntKind.i64.wrap (z1 - z2) = z1 - z2 := by rw [IntKind.wrap_i64]; omega
  have s2 : IntKind.i64.wrap (c1 - c2) = c1 - c2 := by rw [IntKind.wrap_i64]; omega
  have s3 : IntKind.i64.wrap (Z * I) = Z * I := by rw [IntKind.wrap_i64]; omega
  have s4 : (Z * I).tmod q = Z * I % q := Int.tmod_eq_emod_of_nonneg hp0
  have hq0 : (q == 0) = false := by simp; omega
  have B0 := Blk.new w 37 #[.int .i64 p, .int .i64 q, .int .i64 g]
  have E := ((Ext.refl w).alloc (.cells #[.int .i64 p, .int .i64 q, .int .i64 g] 37))
  have hsz : (w.alloc (.cells #[.int .i64 p, .int .i64 q, .int .i64 g] 37)).heap.size = w.heap.size + 1 := by simp only [World.size_alloc]
  go_enter Try.func138, Try.ntmps138
  go_wp2
  generalize (w.alloc (.cells #[.int .i64 p, .int .i64 q, .int .i64 g] 37)) = Wb at *
  have hS : ∀ V, Ext Wb V → V.cell? ⟨w.heap.size, 0, none⟩ = some (.int .i64 p) ∧ V.cell? ⟨w.heap.size, 1, none⟩ = some (.int .i64 q) ∧ V.cell? ⟨w.heap.size, 2, none⟩ = some (.int .i64 g) := fun V hV => by
    have a0 := (B0.ext hV).cells
    exact ⟨a0 0, a0 1, a0 2⟩
  go_region_held3 (fun V => V.cell? ⟨w.heap.size, 0, none⟩ = some (.int .i64 p) ∧ V.cell? ⟨w.heap.size, 1, none⟩ = some (.int .i64 q) ∧ V.cell? ⟨w.heap.size, 2, none⟩ = some (.int .i64 g)) (exact hS _ (by repeat (first | assumption | exact Ext.refl _ | apply Ext.alloc | apply Ext.drew | apply Ext.drewN | refine Ext.setCell ?_ (by first | omega | (simp; omega)) _)))
    (first
      | (go_at_call 211; first | (have hz0 := hi3; refine (exp_any p q g (Z * I) _ h (by omega) (by omega)).mono ?_; rintro ek wk4 ⟨he, hb4⟩; subst he; have hx4 := Ext.trans (w := Wb) (by repeat (first | assumption | exact Ext.refl _ | apply Ext.alloc | apply Ext.drew | apply Ext.drewN | refine Ext.setCell ?_ (by first | omega | (simp; omega)) _)) hb4; have EX := hx4) | (have hz0 := hb1; refine (exp_any p q g (c1 - c2) _ h (by omega) (by omega)).mono ?_; rintro ek wk2 ⟨he, hb2⟩; rw [HD.out] at he; subst he; have hx2 := Ext.trans (w := Wb) (by repeat (first | assumption | exact Ext.refl _ | apply Ext.alloc | apply Ext.drew | apply Ext.drewN | refine Ext.setCell ?_ (by first | omega | (simp; omega)) _)) hb2) | (refine (exp_any p q g (z1 - z2) _ h (by omega) (by omega)).mono ?_; rintro ek wk1 ⟨he, hb1⟩; rw [HZ.out] at he; subst he; have hx1 := Ext.trans (w := Wb) (by repeat (first | assumption | exact Ext.refl _ | apply Ext.alloc | apply Ext.drew | apply Ext.drewN | refine Ext.setCell ?_ (by first | omega | (simp; omega)) _)) hb1) | fail)
      | (go_at_call 212; refine (inverse_int D q _ (by omega) (by omega) (by omega) (by omega)).mono ?_; rintro ek wk3 ⟨he, rfl⟩; rw [HI.out] at he; subst he; have hi3 := trivial))
  go_wp2
  go_ret
  exact ⟨rfl, E.trans EX⟩

set_option maxHeartbeats 4000000 in
theorem xSlope_any (p q g c1 z1 c2 z2 : Int) (w : World) (h : GrpB p q) (hq2 : 2 ≤ q) (hq9 : q ≤ 2000000000) (h1 : 0 ≤ c1 ∧ c1 ≤ 2000000000) (h2 : 0 ≤ z1 ∧ z1 ≤ 2000000000) (h3 : 0 ≤ c2 ∧ c2 ≤ 2000000000) (h4 : 0 ≤ z2 ∧ z2 ≤ 2000000000) (hn : invV ((c1 - c2) % q) q ≠ 0) :
    Calls Try.prog 141 #[.agg #[.int .i64 p, .int .i64 q, .int .i64 g], .int .i64 z1, .int .i64 z2, .int .i64 c1, .int .i64 c2] w fun e w' => e = .returned (.int .i64 (gext q c1 z1 c2 z2)) ∧ Ext w w' := by
  have HN := Lib.hid hn
  clear hn
  have E := (Ext.refl w).alloc (.cells #[.int .i64 p, .int .i64 q, .int .i64 g] 37)
  have C := (Blk.new w 37 #[.int .i64 p, .int .i64 q, .int .i64 g]).cells
  have m1 := emod_bd (x := z1 - z2) (q := q) (by omega)
  have m2 := emod_bd (x := c1 - c2) (q := q) (by omega)
  have m3 := invV_bd (a := (c1 - c2) % q) (m := q) (by omega)
  obtain ⟨Z, hZ⟩ : ∃ Z, (z1 - z2) % q = Z := ⟨_, rfl⟩
  obtain ⟨D, hD⟩ : ∃ D, (c1 - c2) % q = D := ⟨_, rfl⟩
  obtain ⟨I, hI⟩ : ∃ I, invV D q = I := ⟨_, rfl⟩
  unfold gext
  rw [hZ, hD, hI]
  rw [hZ] at m1
  rw [hD] at m2 m3
  rw [hI] at m3
  have HZ := Lib.hid hZ
  have HD := Lib.hid hD
  have HI := Lib.hid hI
  have hp0 : 0 ≤ Z * I := Int.mul_nonneg m1.1 m3.1
  have hp1 : Z * I ≤ 2000000000 * 2000000000 := Int.mul_le_mul (by omega) (by omega) m3.1 (by omega)
  have s1 : IntKind.i64.wrap (z1 - z2) = z1 - z2 := by rw [IntKind.wrap_i64]; omega
  have s2 : IntKind.i64.wrap (c1 - c2) = c1 - c2 := by rw [IntKind.wrap_i64]; omega
  have s3 : IntKind.i64.wrap (Z * I) = Z * I := by rw [IntKind.wrap_i64]; omega
  have s4 : (Z * I).tmod q = Z * I % q := Int.tmod_eq_emod_of_nonneg hp0
  have hq0 : (q == 0) = false := by simp; omega
  go_enter Try.func141, Try.ntmps141
  go_wp2_with fail
  refine (nInverse_int (c1 - c2) q _ (by omega) (by omega) (by omega) (by omega) HN.out).mono ?_
  rintro e w1 ⟨he, rfl⟩
  rw [HD.out, HI.out] at he; subst he
  go_wp2
  go_quiet ((go_at_call 210; exact quietE (nMod_any (z1 - z2) q _ (by omega) (by omega) (by omega) (by omega)) HZ.out))
  go_wp2
  go_ret
  exact ⟨rfl, E.drewN _⟩

set_option maxRecDepth 100000 in
set_option maxHeartbeats 4000000 in
theorem hasTranscript0_any (p q g t c z : Int) (w : World) (hG : GrpB p q) :
    Calls Try.prog 136 #[.agg #[.int .i64 p, .int .i64 q, .int .i64 g], .agg #[.int .i64 t, .int .i64 c, .int .i64 z]] w fun e w' => e = .returned (.bool (elB p q t && (inR c 0 (q - 1) && inR z 0 (q - 1)))) ∧ Ext w w' := by
  obtain ⟨kk, hkk⟩ : ∃ kq : Bool, (elB p q t && (inR c 0 (q - 1) && inR z 0 (q - 1))) = kq := ⟨_, rfl⟩
  rw [hkk]
  have B0 := (Blk.new w 37 #[.int .i64 p, .int .i64 q, .int .i64 g]).alloc (.cells #[.int .i64 t, .int .i64 c, .int .i64 z] 61)
  have B1 := Blk.new (w.alloc (.cells #[.int .i64 p, .int .i64 q, .int .i64 g] 37)) 61 #[.int .i64 t, .int .i64 c, .int .i64 z]
  have E := (((Ext.refl w).alloc (.cells #[.int .i64 p, .int .i64 q, .int .i64 g] 37)).alloc (.cells #[.int .i64 t, .int .i64 c, .int .i64 z] 61))
  simp only [World.size_alloc] at B1
  cases h1 : (elB p q t)
  · have hk : kk = false := by rw [← hkk]; simp [h1]; try (intros; simp_all)
    rw [hk]
    have H1 := Lib.hid h1
    clear hk hkk h1
    go_enter Try.func136, Try.ntmps136
    have C_B0 := B0.cells
    have C_B1 := B1.cells
    go_wp2_with fail
    refine (has_any p q g t _ hG).mono ?_
    rintro e w1 ⟨he, hb⟩
    rw [H1.out] at he; subst he
    clear C_B0 C_B1
    replace E := E.trans hb
    replace B0 := B0.ext hb
    replace B1 := B1.ext hb
    clear hb
    have C_B0 := B0.cells
    have C_B1 := B1.cells
    go_wp2
    go_ret
    exact ⟨rfl, E⟩
  cases h2 : (inR c 0 (q - 1) && (inR z 0 (q - 1)))
  · have hk : kk = false := by rw [← hkk]; simp [h1, h2]; try (intros; simp_all)
    rw [hk]
    have H1 := Lib.hid h1
    have H2 := Lib.hid h2
    clear hk hkk h1 h2
    go_enter Try.func136, Try.ntmps136
    have C_B0 := B0.cells
    have C_B1 := B1.cells
    go_wp2_with fail
    refine (has_any p q g t _ hG).mono ?_
    rintro e w1 ⟨he, hb⟩
    rw [H1.out] at he; subst he
    clear C_B0 C_B1
    replace E := E.trans hb
    replace B0 := B0.ext hb
    replace B1 := B1.ext hb
    clear hb
    have C_B0 := B0.cells
    have C_B1 := B1.cells
    go_wp2_with fail
    replace E := E.alloc (.cells #[.int .i64 c, .int .i64 z] 3)
    replace B0 := B0.alloc (.cells #[.int .i64 c, .int .i64 z] 3)
    replace B1 := B1.alloc (.cells #[.int .i64 c, .int .i64 z] 3)
    refine (areExps_any p q g _ 2 2 [c, z] _ hG (rd_two (by simp)) rfl (by decide)).mono ?_
    rintro e w2 ⟨he, hb⟩
    simp only [allR, List.all_cons, List.all_nil, Bool.and_true] at he
    rw [H2.out] at he; subst he
    clear C_B0 C_B1
    replace E := E.trans hb
    replace B0 := B0.ext hb
    replace B1 := B1.ext hb
    clear hb
    have C_B0 := B0.cells
    have C_B1 := B1.cells
    go_wp2
    go_ret
    exact ⟨rfl, E⟩
  have hk : kk = true := by rw [← hkk]; simp_all
  rw [hk]
  have H1 := Lib.hid h1
  have H2 := Lib.hid h2
  clear hk hkk h1 h2
  go_enter Try.func136, Try.ntmps136
  have C_B0 := B0.cells
  have C_B1 := B1.cells
  go_wp2_with fail
  refine (has_any p q g t _ hG).mono ?_
  rintro e w1 ⟨he, hb⟩
  rw [H1.out] at he; subst he
  clear C_B0 C_B1
  replace E := E.trans hb
  replace B0 := B0.ext hb
  replace B1 := B1.ext hb
  clear hb
  have C_B0 := B0.cells
  have C_B1 := B1.cells
  go_wp2_with fail
  replace E := E.alloc (.cells #[.int .i64 c, .int .i64 z] 3)
  replace B0 := B0.alloc (.cells #[.int .i64 c, .int .i64 z] 3)
  replace B1 := B1.alloc (.cells #[.int .i64 c, .int .i64 z] 3)
  refine (areExps_any p q g _ 2 2 [c, z] _ hG (rd_two (by simp)) rfl (by decide)).mono ?_
  rintro e w2 ⟨he, hb⟩
  simp only [allR, List.all_cons, List.all_nil, Bool.and_true] at he
  rw [H2.out] at he; subst he
  clear C_B0 C_B1
  replace E := E.trans hb
  replace B0 := B0.ext hb
  replace B1 := B1.ext hb
  clear hb
  have C_B0 := B0.cells
  have C_B1 := B1.cells
  go_wp2
  go_ret
  exact ⟨rfl, E⟩

set_option maxRecDepth 100000 in
set_option maxHeartbeats 4000000 in
theorem xTranscript0_any (p q g t c z : Int) (w : World) (hG : GrpB p q) :
    Calls Try.prog 139 #[.agg #[.int .i64 p, .int .i64 q, .int .i64 g], .agg #[.int .i64 t, .int .i64 c, .int .i64 z]] w fun e w' => e = .returned (.bool (elB p q t && (inR c 0 (q - 1) && inR z 0 (q - 1)))) ∧ Ext w w' := by
  obtain ⟨kk, hkk⟩ : ∃ kq : Bool, (elB p q t && (inR c 0 (q - 1) && inR z 0 (q - 1))) = kq := ⟨_, rfl⟩
  rw [hkk]
  have B0 := (Blk.new w 37 #[.int .i64 p, .int .i64 q, .int .i64 g]).alloc (.cells #[.int .i64 t, .int .i64 c, .int .i64 z] 61)
  have B1 := Blk.new (w.alloc (.cells #[.int .i64 p, .int .i64 q, .int .i64 g] 37)) 61 #[.int .i64 t, .int .i64 c, .int .i64 z]
  have E := (((Ext.refl w).alloc (.cells #[.int .i64 p, .int .i64 q, .int .i64 g] 37)).alloc (.cells #[.int .i64 t, .int .i64 c, .int .i64 z] 61))
  simp only [World.size_alloc] at B1
  cases h1 : (elB p q t)
  · have hk : kk = false := by rw [← hkk]; simp [h1]; try (intros; simp_all)
    rw [hk]
    have H1 := Lib.hid h1
    clear hk hkk h1
    go_enter Try.func139, Try.ntmps139
    have C_B0 := B0.cells
    have C_B1 := B1.cells
    go_wp2_with fail
    replace E := E.alloc (.cells #[.int .i64 t] 3)
    replace B0 := B0.alloc (.cells #[.int .i64 t] 3)
    replace B1 := B1.alloc (.cells #[.int .i64 t] 3)
    refine (gIs_any p q g _ 1 1 [t] _ hG (rd_one (by simp)) rfl (by decide)).mono ?_
    rintro e w1 ⟨he, hb⟩
    simp only [List.all_cons, List.all_nil, Bool.and_true] at he
    rw [H1.out] at he; subst he
    clear C_B0 C_B1
    replace E := E.trans hb
    replace B0 := B0.ext hb
    replace B1 := B1.ext hb
    clear hb
    have C_B0 := B0.cells
    have C_B1 := B1.cells
    go_wp2
    go_ret
    exact ⟨rfl, E⟩
  cases h2 : (inR c 0 (q - 1) && (inR z 0 (q - 1)))
  · have hk : kk = false := by rw [← hkk]; simp [h1, h2]; try (intros; simp_all)
    rw [hk]
    have H1 := Lib.hid h1
    have H2 := Lib.hid h2
    clear hk hkk h1 h2
    go_enter Try.func139, Try.ntmps139
    have C_B0 := B0.cells
    have C_B1 := B1.cells
    go_wp2_with fail
    replace E := E.alloc (.cells #[.int .i64 t] 3)
    replace B0 := B0.alloc (.cells #[.int .i64 t] 3)
    replace B1 := B1.alloc (.cells #[.int .i64 t] 3)
    refine (gIs_any p q g _ 1 1 [t] _ hG (rd_one (by simp)) rfl (by decide)).mono ?_
    rintro e w1 ⟨he, hb⟩
    simp only [List.all_cons, List.all_nil, Bool.and_true] at he
    rw [H1.out] at he; subst he
    clear C_B0 C_B1
    replace E := E.trans hb
    replace B0 := B0.ext hb
    replace B1 := B1.ext hb
    clear hb
    have C_B0 := B0.cells
    have C_B1 := B1.cells
    go_wp2_with fail
    replace E := E.alloc (.cells #[.int .i64 c, .int .i64 z] 3)
    replace B0 := B0.alloc (.cells #[.int .i64 c, .int .i64 z] 3)
    replace B1 := B1.alloc (.cells #[.int .i64 c, .int .i64 z] 3)
    refine (gExps_any p q g _ 2 2 [c, z] _ hG (rd_two (by simp)) rfl (by decide)).mono ?_
    rintro e w2 ⟨he, hb⟩
    simp only [allR, List.all_cons, List.all_nil, Bool.and_true] at he
    rw [H2.out] at he; subst he
    clear C_B0 C_B1
    replace E := E.trans hb
    replace B0 := B0.ext hb
    replace B1 := B1.ext hb
    clear hb
    have C_B0 := B0.cells
    have C_B1 := B1.cells
    go_wp2
    go_ret
    exact ⟨rfl, E⟩
  have hk : kk = true := by rw [← hkk]; simp_all
  rw [hk]
  have H1 := Lib.hid h1
  have H2 := Lib.hid h2
  clear hk hkk h1 h2
  go_enter Try.func139, Try.ntmps139
  have C_B0 := B0.cells
  have C_B1 := B1.cells
  go_wp2_with fail
  replace E := E.alloc (.cells #[.int .i64 t] 3)
  replace B0 := B0.alloc (.cells #[.int .i64 t] 3)
  replace B1 := B1.alloc (.cells #[.int .i64 t] 3)
  refine (gIs_any p q g _ 1 1 [t] _ hG (rd_one (by simp)) rfl (by decide)).mono ?_
  rintro e w1 ⟨he, hb⟩
  simp only [List.all_cons, List.all_nil, Bool.and_true] at he
  rw [H1.out] at he; subst he
  clear C_B0 C_B1
  replace E := E.trans hb
  replace B0 := B0.ext hb
  replace B1 := B1.ext hb
  clear hb
  have C_B0 := B0.cells
  have C_B1 := B1.cells
  go_wp2_with fail
  replace E := E.alloc (.cells #[.int .i64 c, .int .i64 z] 3)
  replace B0 := B0.alloc (.cells #[.int .i64 c, .int .i64 z] 3)
  replace B1 := B1.alloc (.cells #[.int .i64 c, .int .i64 z] 3)
  refine (gExps_any p q g _ 2 2 [c, z] _ hG (rd_two (by simp)) rfl (by decide)).mono ?_
  rintro e w2 ⟨he, hb⟩
  simp only [allR, List.all_cons, List.all_nil, Bool.and_true] at he
  rw [H2.out] at he; subst he
  clear C_B0 C_B1
  replace E := E.trans hb
  replace B0 := B0.ext hb
  replace B1 := B1.ext hb
  clear hb
  have C_B0 := B0.cells
  have C_B1 := B1.cells
  go_wp2
  go_ret
  exact ⟨rfl, E⟩

set_option maxRecDepth 100000 in
set_option maxHeartbeats 4000000 in
theorem iSimulateKnowledge_any (p q g b y c z : Int) (w : World) :
    Calls Try.prog 45 #[.agg #[.int .i64 p, .int .i64 q, .int .i64 g], .int .i64 b, .int .i64 y, .int .i64 c, .int .i64 z] w fun e w' => e = .returned (.tuple #[.agg #[.int .i64 (if (grpB p q g && ((elB p q b && elB p q y) && (inR c 0 (q - 1) && inR z 0 (q - 1)))) = true then (gmul p [gpw p q b z, gpw p q y (-c)]) else 0), .int .i64 (if (grpB p q g && ((elB p q b && elB p q y) && (inR c 0 (q - 1) && inR z 0 (q - 1)))) = true then c else 0), .int .i64 (if (grpB p q g && ((elB p q b && elB p q y) && (inR c 0 (q - 1) && inR z 0 (q - 1)))) = true then z else 0)], .bool (grpB p q g && ((elB p q b && elB p q y) && (inR c 0 (q - 1) && inR z 0 (q - 1))))]) ∧ Ext w w' := by
  obtain ⟨vv0, hv0⟩ : ∃ vq : Int, (if (grpB p q g && ((elB p q b && elB p q y) && (inR c 0 (q - 1) && inR z 0 (q - 1)))) = true then (gmul p [gpw p q b z, gpw p q y (-c)]) else 0) = vq := ⟨_, rfl⟩
  rw [hv0]
  obtain ⟨vv1, hv1⟩ : ∃ vq : Int, (if (grpB p q g && ((elB p q b && elB p q y) && (inR c 0 (q - 1) && inR z 0 (q - 1)))) = true then c else 0) = vq := ⟨_, rfl⟩
  rw [hv1]
  obtain ⟨vv2, hv2⟩ : ∃ vq : Int, (if (grpB p q g && ((elB p q b && elB p q y) && (inR c 0 (q - 1) && inR z 0 (q - 1)))) = true then z else 0) = vq := ⟨_, rfl⟩
  rw [hv2]
  obtain ⟨kk, hkk⟩ : ∃ kq : Bool, (grpB p q g && ((elB p q b && elB p q y) && (inR c 0 (q - 1) && inR z 0 (q - 1)))) = kq := ⟨_, rfl⟩
  rw [hkk]
  have B0 := (Blk.new w 37 #[.int .i64 p, .int .i64 q, .int .i64 g]).alloc (.cells #[.int .i64 0, .int .i64 0, .int .i64 0] 61)
  have B1 := Blk.new (w.alloc (.cells #[.int .i64 p, .int .i64 q, .int .i64 g] 37)) 61 #[.int .i64 0, .int .i64 0, .int .i64 0]
  have E := (((Ext.refl w).alloc (.cells #[.int .i64 p, .int .i64 q, .int .i64 g] 37)).alloc (.cells #[.int .i64 0, .int .i64 0, .int .i64 0] 61))
  simp only [World.size_alloc] at B1
  cases h1 : (grpB p q g)
  · have hk : kk = false := by rw [← hkk]; simp [h1]; try (intros; simp_all)
    have hz0 : vv0 = 0 := by rw [← hv0]; simp [h1]; try (intros; simp_all)
    have hz1 : vv1 = 0 := by rw [← hv1]; simp [h1]; try (intros; simp_all)
    have hz2 : vv2 = 0 := by rw [← hv2]; simp [h1]; try (intros; simp_all)
    rw [hz0, hz1, hz2, hk]
    have H1 := Lib.hid h1
    clear hk hkk hz0 hv0 hz1 hv1 hz2 hv2 h1
    go_enter Try.func45, Try.ntmps45
    have C_B0 := B0.cells
    have C_B1 := B1.cells
    go_wp2_with fail
    refine (IsValidGroup_any p q g _).mono ?_
    rintro e w1 ⟨he, hb⟩
    rw [H1.out] at he; subst he
    clear C_B0 C_B1
    replace E := E.trans hb
    replace B0 := B0.ext hb
    replace B1 := B1.ext hb
    clear hb
    have C_B0 := B0.cells
    have C_B1 := B1.cells
    have F := B1.frozen
    go_wp2
    refine ret_trB (a := 0) (b := 0) (c := 0) (k := false) (((B1.set_ 0 (.int .i64 (0))).set_ 1 (.int .i64 (0))).set_ 2 (.int .i64 (0))) rfl rfl rfl ?_
    exact ⟨rfl, E.then (below_3 (g := w.heap.size + 1) _ _ _ _) (by omega)⟩
  have hG := (grpB_in h1).bd
  have hGI := grpB_in h1
  have hp9 := hGI.p9
  cases h2 : (elB p q b && (elB p q y))
  · have hk : kk = false := by rw [← hkk]; simp [h1, h2]; try (intros; simp_all)
    have hz0 : vv0 = 0 := by rw [← hv0]; simp [h1, h2]; try (intros; simp_all)
    have hz1 : vv1 = 0 := by rw [← hv1]; simp [h1, h2]; try (intros; simp_all)
    have hz2 : vv2 = 0 := by rw [← hv2]; simp [h1, h2]; try (intros; simp_all)
    rw [hz0, hz1, hz2, hk]
    have H1 := Lib.hid h1
    have H2 := Lib.hid h2
    clear hk hkk hz0 hv0 hz1 hv1 hz2 hv2 h1 h2
    go_enter Try.func45, Try.ntmps45
    have C_B0 := B0.cells
    have C_B1 := B1.cells
    go_wp2_with fail
    refine (IsValidGroup_any p q g _).mono ?_
    rintro e w1 ⟨he, hb⟩
    rw [H1.out] at he; subst he
    clear C_B0 C_B1
    replace E := E.trans hb
    replace B0 := B0.ext hb
    replace B1 := B1.ext hb
    clear hb
    have C_B0 := B0.cells
    have C_B1 := B1.cells
    go_wp2_with fail
    replace E := E.alloc (.cells #[.int .i64 b, .int .i64 y] 3)
    replace B0 := B0.alloc (.cells #[.int .i64 b, .int .i64 y] 3)
    replace B1 := B1.alloc (.cells #[.int .i64 b, .int .i64 y] 3)
    refine (hasAll_any p q g _ 2 2 [b, y] _ hG (rd_two (by simp)) rfl (by decide)).mono ?_
    rintro e w2 ⟨he, hb⟩
    simp only [List.all_cons, List.all_nil, Bool.and_true] at he
    rw [H2.out] at he; subst he
    clear C_B0 C_B1
    replace E := E.trans hb
    replace B0 := B0.ext hb
    replace B1 := B1.ext hb
    clear hb
    have C_B0 := B0.cells
    have C_B1 := B1.cells
    have F := B1.frozen
    go_wp2
    refine ret_trB (a := 0) (b := 0) (c := 0) (k := false) (((B1.set_ 0 (.int .i64 (0))).set_ 1 (.int .i64 (0))).set_ 2 (.int .i64 (0))) rfl rfl rfl ?_
    exact ⟨rfl, E.then (below_3 (g := w.heap.size + 1) _ _ _ _) (by omega)⟩
  cases h3 : (inR c 0 (q - 1) && (inR z 0 (q - 1)))
  · have hk : kk = false := by rw [← hkk]; simp [h1, h2, h3]; try (intros; simp_all)
    have hz0 : vv0 = 0 := by rw [← hv0]; simp [h1, h2, h3]; try (intros; simp_all)
    have hz1 : vv1 = 0 := by rw [← hv1]; simp [h1, h2, h3]; try (intros; simp_all)
    have hz2 : vv2 = 0 := by rw [← hv2]; simp [h1, h2, h3]; try (intros; simp_all)
    rw [hz0, hz1, hz2, hk]
    have H1 := Lib.hid h1
    have H2 := Lib.hid h2
    have H3 := Lib.hid h3
    clear hk hkk hz0 hv0 hz1 hv1 hz2 hv2 h1 h2 h3
    go_enter Try.func45, Try.ntmps45
    have C_B0 := B0.cells
    have C_B1 := B1.cells
    go_wp2_with fail
    refine (IsValidGroup_any p q g _).mono ?_
    rintro e w1 ⟨he, hb⟩
    rw [H1.out] at he; subst he
    clear C_B0 C_B1
    replace E := E.trans hb
    replace B0 := B0.ext hb
    replace B1 := B1.ext hb
    clear hb
    have C_B0 := B0.cells
    have C_B1 := B1.cells
    go_wp2_with fail
    replace E := E.alloc (.cells #[.int .i64 b, .int .i64 y] 3)
    replace B0 := B0.alloc (.cells #[.int .i64 b, .int .i64 y] 3)
    replace B1 := B1.alloc (.cells #[.int .i64 b, .int .i64 y] 3)
    refine (hasAll_any p q g _ 2 2 [b, y] _ hG (rd_two (by simp)) rfl (by decide)).mono ?_
    rintro e w2 ⟨he, hb⟩
    simp only [List.all_cons, List.all_nil, Bool.and_true] at he
    rw [H2.out] at he; subst he
    clear C_B0 C_B1
    replace E := E.trans hb
    replace B0 := B0.ext hb
    replace B1 := B1.ext hb
    clear hb
    have C_B0 := B0.cells
    have C_B1 := B1.cells
    go_wp2_with fail
    replace E := E.alloc (.cells #[.int .i64 c, .int .i64 z] 3)
    replace B0 := B0.alloc (.cells #[.int .i64 c, .int .i64 z] 3)
    replace B1 := B1.alloc (.cells #[.int .i64 c, .int .i64 z] 3)
    refine (areExps_any p q g _ 2 2 [c, z] _ hG (rd_two (by simp)) rfl (by decide)).mono ?_
    rintro e w3 ⟨he, hb⟩
    simp only [allR, List.all_cons, List.all_nil, Bool.and_true] at he
    rw [H3.out] at he; subst he
    clear C_B0 C_B1
    replace E := E.trans hb
    replace B0 := B0.ext hb
    replace B1 := B1.ext hb
    clear hb
    have C_B0 := B0.cells
    have C_B1 := B1.cells
    have F := B1.frozen
    go_wp2
    refine ret_trB (a := 0) (b := 0) (c := 0) (k := false) (((B1.set_ 0 (.int .i64 (0))).set_ 1 (.int .i64 (0))).set_ 2 (.int .i64 (0))) rfl rfl rfl ?_
    exact ⟨rfl, E.then (below_3 (g := w.heap.size + 1) _ _ _ _) (by omega)⟩
  have hk : kk = true := by rw [← hkk]; simp_all
  have hz0 : vv0 = (gmul p [gpw p q b z, gpw p q y (-c)]) := by rw [← hv0]; rw [hkk, hk, if_pos rfl]
  have hz1 : vv1 = c := by rw [← hv1]; rw [hkk, hk, if_pos rfl]
  have hz2 : vv2 = z := by rw [← hv2]; rw [hkk, hk, if_pos rfl]
  rw [hz0, hz1, hz2, hk]
  have H1 := Lib.hid h1
  have H2 := Lib.hid h2
  have H3 := Lib.hid h3
  have hq2 := hGI.q2
  have hg2 := hGI.g2
  have hgp := hGI.gp
  have hqp := hGI.qp
  have rb := el_rng (Bool.and_eq_true _ _ |>.mp h2).1
  have ry := el_rng (Bool.and_eq_true _ _ |>.mp h2).2
  have rc := inR_iff.1 (Bool.and_eq_true _ _ |>.mp h3).1
  have rz := inR_iff.1 (Bool.and_eq_true _ _ |>.mp h3).2
  clear hk hkk hz0 hv0 hz1 hv1 hz2 hv2 h1 h2 h3
  go_enter Try.func45, Try.ntmps45
  have C_B0 := B0.cells
  have C_B1 := B1.cells
  go_wp2_with fail
  refine (IsValidGroup_any p q g _).mono ?_
  rintro e w1 ⟨he, hb⟩
  rw [H1.out] at he; subst he
  clear C_B0 C_B1
  replace E := E.trans hb
  replace B0 := B0.ext hb
  replace B1 := B1.ext hb
  clear hb
  have C_B0 := B0.cells
  have C_B1 := B1.cells
  go_wp2_with fail
  replace E := E.alloc (.cells #[.int .i64 b, .int .i64 y] 3)
  replace B0 := B0.alloc (.cells #[.int .i64 b, .int .i64 y] 3)
  replace B1 := B1.alloc (.cells #[.int .i64 b, .int .i64 y] 3)
  refine (hasAll_any p q g _ 2 2 [b, y] _ hG (rd_two (by simp)) rfl (by decide)).mono ?_
  rintro e w2 ⟨he, hb⟩
  simp only [List.all_cons, List.all_nil, Bool.and_true] at he
  rw [H2.out] at he; subst he
  clear C_B0 C_B1
  replace E := E.trans hb
  replace B0 := B0.ext hb
  replace B1 := B1.ext hb
  clear hb
  have C_B0 := B0.cells
  have C_B1 := B1.cells
  go_wp2_with fail
  replace E := E.alloc (.cells #[.int .i64 c, .int .i64 z] 3)
  replace B0 := B0.alloc (.cells #[.int .i64 c, .int .i64 z] 3)
  replace B1 := B1.alloc (.cells #[.int .i64 c, .int .i64 z] 3)
  refine (areExps_any p q g _ 2 2 [c, z] _ hG (rd_two (by simp)) rfl (by decide)).mono ?_
  rintro e w3 ⟨he, hb⟩
  simp only [allR, List.all_cons, List.all_nil, Bool.and_true] at he
  rw [H3.out] at he; subst he
  clear C_B0 C_B1
  replace E := E.trans hb
  replace B0 := B0.ext hb
  replace B1 := B1.ext hb
  clear hb
  have C_B0 := B0.cells
  have C_B1 := B1.cells
  go_wp2_with fail
  refine (simulate_any p q g b y c z _ hG (by omega) (by omega) (by omega) (by omega)).mono ?_
  rintro e wf ⟨rfl, hb⟩
  clear C_B0 C_B1
  replace E := E.trans hb
  replace B0 := B0.ext hb
  replace B1 := B1.ext hb
  clear hb
  have C_B0 := B0.cells
  have C_B1 := B1.cells
  have F := B1.frozen
  go_wp2
  refine ret_trB (a := (gmul p [gpw p q b z, gpw p q y (-c)])) (b := c) (c := z) (k := true) (((B1.set_ 0 (.int .i64 ((gmul p [gpw p q b z, gpw p q y (-c)])))).set_ 1 (.int .i64 (c))).set_ 2 (.int .i64 (z))) rfl rfl rfl ?_
  exact ⟨rfl, E.then (below_3 (g := w.heap.size + 1) _ _ _ _) (by omega)⟩

set_option maxRecDepth 100000 in
set_option maxHeartbeats 4000000 in
theorem sSimulateKnowledge_any (p q g b y c z : Int) (w : World) :
    Calls Try.prog 46 #[.agg #[.int .i64 p, .int .i64 q, .int .i64 g], .int .i64 b, .int .i64 y, .int .i64 c, .int .i64 z] w fun e w' => e = .returned (.tuple #[.agg #[.int .i64 (if (grpB p q g && ((elB p q b && elB p q y) && (inR c 0 (q - 1) && inR z 0 (q - 1)))) = true then (gmul p [gpw p q b z, gpw p q y (-c)]) else 0), .int .i64 (if (grpB p q g && ((elB p q b && elB p q y) && (inR c 0 (q - 1) && inR z 0 (q - 1)))) = true then c else 0), .int .i64 (if (grpB p q g && ((elB p q b && elB p q y) && (inR c 0 (q - 1) && inR z 0 (q - 1)))) = true then z else 0)], .bool (grpB p q g && ((elB p q b && elB p q y) && (inR c 0 (q - 1) && inR z 0 (q - 1))))]) ∧ Ext w w' := by
  obtain ⟨vv0, hv0⟩ : ∃ vq : Int, (if (grpB p q g && ((elB p q b && elB p q y) && (inR c 0 (q - 1) && inR z 0 (q - 1)))) = true then (gmul p [gpw p q b z, gpw p q y (-c)]) else 0) = vq := ⟨_, rfl⟩
  rw [hv0]
  obtain ⟨vv1, hv1⟩ : ∃ vq : Int, (if (grpB p q g && ((elB p q b && elB p q y) && (inR c 0 (q - 1) && inR z 0 (q - 1)))) = true then c else 0) = vq := ⟨_, rfl⟩
  rw [hv1]
  obtain ⟨vv2, hv2⟩ : ∃ vq : Int, (if (grpB p q g && ((elB p q b && elB p q y) && (inR c 0 (q - 1) && inR z 0 (q - 1)))) = true then z else 0) = vq := ⟨_, rfl⟩
  rw [hv2]
  obtain ⟨kk, hkk⟩ : ∃ kq : Bool, (grpB p q g && ((elB p q b && elB p q y) && (inR c 0 (q - 1) && inR z 0 (q - 1)))) = kq := ⟨_, rfl⟩
  rw [hkk]
  have B0 := (Blk.new w 37 #[.int .i64 p, .int .i64 q, .int .i64 g]).alloc (.cells #[.int .i64 0, .int .i64 0, .int .i64 0] 61)
  have B1 := Blk.new (w.alloc (.cells #[.int .i64 p, .int .i64 q, .int .i64 g] 37)) 61 #[.int .i64 0, .int .i64 0, .int .i64 0]
  have E := (((Ext.refl w).alloc (.cells #[.int .i64 p, .int .i64 q, .int .i64 g] 37)).alloc (.cells #[.int .i64 0, .int .i64 0, .int .i64 0] 61))
  simp only [World.size_alloc] at B1
  cases h1 : (grpB p q g)
  · have hk : kk = false := by rw [← hkk]; simp [h1]; try (intros; simp_all)
    have hz0 : vv0 = 0 := by rw [← hv0]; simp [h1]; try (intros; simp_all)
    have hz1 : vv1 = 0 := by rw [← hv1]; simp [h1]; try (intros; simp_all)
    have hz2 : vv2 = 0 := by rw [← hv2]; simp [h1]; try (intros; simp_all)
    rw [hz0, hz1, hz2, hk]
    have H1 := Lib.hid h1
    clear hk hkk hz0 hv0 hz1 hv1 hz2 hv2 h1
    go_enter Try.func46, Try.ntmps46
    have C_B0 := B0.cells
    have C_B1 := B1.cells
    go_wp2_with fail
    refine (l2Good_any p q g _).mono ?_
    rintro e w1 ⟨he, hb⟩
    rw [H1.out] at he; subst he
    clear C_B0 C_B1
    replace E := E.trans hb
    replace B0 := B0.ext hb
    replace B1 := B1.ext hb
    clear hb
    have C_B0 := B0.cells
    have C_B1 := B1.cells
    have F := B1.frozen
    go_wp2
    refine ret_trB (a := 0) (b := 0) (c := 0) (k := false) (((B1.set_ 0 (.int .i64 (0))).set_ 1 (.int .i64 (0))).set_ 2 (.int .i64 (0))) rfl rfl rfl ?_
    exact ⟨rfl, E.then (below_3 (g := w.heap.size + 1) _ _ _ _) (by omega)⟩
  have hG := (grpB_in h1).bd
  have hGI := grpB_in h1
  have hp9 := hGI.p9
  cases h2 : (elB p q b && (elB p q y))
  · have hk : kk = false := by rw [← hkk]; simp [h1, h2]; try (intros; simp_all)
    have hz0 : vv0 = 0 := by rw [← hv0]; simp [h1, h2]; try (intros; simp_all)
    have hz1 : vv1 = 0 := by rw [← hv1]; simp [h1, h2]; try (intros; simp_all)
    have hz2 : vv2 = 0 := by rw [← hv2]; simp [h1, h2]; try (intros; simp_all)
    rw [hz0, hz1, hz2, hk]
    have H1 := Lib.hid h1
    have H2 := Lib.hid h2
    clear hk hkk hz0 hv0 hz1 hv1 hz2 hv2 h1 h2
    go_enter Try.func46, Try.ntmps46
    have C_B0 := B0.cells
    have C_B1 := B1.cells
    go_wp2_with fail
    refine (l2Good_any p q g _).mono ?_
    rintro e w1 ⟨he, hb⟩
    rw [H1.out] at he; subst he
    clear C_B0 C_B1
    replace E := E.trans hb
    replace B0 := B0.ext hb
    replace B1 := B1.ext hb
    clear hb
    have C_B0 := B0.cells
    have C_B1 := B1.cells
    go_wp2_with fail
    replace E := E.alloc (.cells #[.int .i64 b, .int .i64 y] 3)
    replace B0 := B0.alloc (.cells #[.int .i64 b, .int .i64 y] 3)
    replace B1 := B1.alloc (.cells #[.int .i64 b, .int .i64 y] 3)
    refine (gIs_any p q g _ 2 2 [b, y] _ hG (rd_two (by simp)) rfl (by decide)).mono ?_
    rintro e w2 ⟨he, hb⟩
    simp only [List.all_cons, List.all_nil, Bool.and_true] at he
    rw [H2.out] at he; subst he
    clear C_B0 C_B1
    replace E := E.trans hb
    replace B0 := B0.ext hb
    replace B1 := B1.ext hb
    clear hb
    have C_B0 := B0.cells
    have C_B1 := B1.cells
    have F := B1.frozen
    go_wp2
    refine ret_trB (a := 0) (b := 0) (c := 0) (k := false) (((B1.set_ 0 (.int .i64 (0))).set_ 1 (.int .i64 (0))).set_ 2 (.int .i64 (0))) rfl rfl rfl ?_
    exact ⟨rfl, E.then (below_3 (g := w.heap.size + 1) _ _ _ _) (by omega)⟩
  cases h3 : (inR c 0 (q - 1) && (inR z 0 (q - 1)))
  · have hk : kk = false := by rw [← hkk]; simp [h1, h2, h3]; try (intros; simp_all)
    have hz0 : vv0 = 0 := by rw [← hv0]; simp [h1, h2, h3]; try (intros; simp_all)
    have hz1 : vv1 = 0 := by rw [← hv1]; simp [h1, h2, h3]; try (intros; simp_all)
    have hz2 : vv2 = 0 := by rw [← hv2]; simp [h1, h2, h3]; try (intros; simp_all)
    rw [hz0, hz1, hz2, hk]
    have H1 := Lib.hid h1
    have H2 := Lib.hid h2
    have H3 := Lib.hid h3
    clear hk hkk hz0 hv0 hz1 hv1 hz2 hv2 h1 h2 h3
    go_enter Try.func46, Try.ntmps46
    have C_B0 := B0.cells
    have C_B1 := B1.cells
    go_wp2_with fail
    refine (l2Good_any p q g _).mono ?_
    rintro e w1 ⟨he, hb⟩
    rw [H1.out] at he; subst he
    clear C_B0 C_B1
    replace E := E.trans hb
    replace B0 := B0.ext hb
    replace B1 := B1.ext hb
    clear hb
    have C_B0 := B0.cells
    have C_B1 := B1.cells
    go_wp2_with fail
    replace E := E.alloc (.cells #[.int .i64 b, .int .i64 y] 3)
    replace B0 := B0.alloc (.cells #[.int .i64 b, .int .i64 y] 3)
    replace B1 := B1.alloc (.cells #[.int .i64 b, .int .i64 y] 3)
    refine (gIs_any p q g _ 2 2 [b, y] _ hG (rd_two (by simp)) rfl (by decide)).mono ?_
    rintro e w2 ⟨he, hb⟩
    simp only [List.all_cons, List.all_nil, Bool.and_true] at he
    rw [H2.out] at he; subst he
    clear C_B0 C_B1
    replace E := E.trans hb
    replace B0 := B0.ext hb
    replace B1 := B1.ext hb
    clear hb
    have C_B0 := B0.cells
    have C_B1 := B1.cells
    go_wp2_with fail
    replace E := E.alloc (.cells #[.int .i64 c, .int .i64 z] 3)
    replace B0 := B0.alloc (.cells #[.int .i64 c, .int .i64 z] 3)
    replace B1 := B1.alloc (.cells #[.int .i64 c, .int .i64 z] 3)
    refine (gExps_any p q g _ 2 2 [c, z] _ hG (rd_two (by simp)) rfl (by decide)).mono ?_
    rintro e w3 ⟨he, hb⟩
    simp only [allR, List.all_cons, List.all_nil, Bool.and_true] at he
    rw [H3.out] at he; subst he
    clear C_B0 C_B1
    replace E := E.trans hb
    replace B0 := B0.ext hb
    replace B1 := B1.ext hb
    clear hb
    have C_B0 := B0.cells
    have C_B1 := B1.cells
    have F := B1.frozen
    go_wp2
    refine ret_trB (a := 0) (b := 0) (c := 0) (k := false) (((B1.set_ 0 (.int .i64 (0))).set_ 1 (.int .i64 (0))).set_ 2 (.int .i64 (0))) rfl rfl rfl ?_
    exact ⟨rfl, E.then (below_3 (g := w.heap.size + 1) _ _ _ _) (by omega)⟩
  have hk : kk = true := by rw [← hkk]; simp_all
  have hz0 : vv0 = (gmul p [gpw p q b z, gpw p q y (-c)]) := by rw [← hv0]; rw [hkk, hk, if_pos rfl]
  have hz1 : vv1 = c := by rw [← hv1]; rw [hkk, hk, if_pos rfl]
  have hz2 : vv2 = z := by rw [← hv2]; rw [hkk, hk, if_pos rfl]
  rw [hz0, hz1, hz2, hk]
  have H1 := Lib.hid h1
  have H2 := Lib.hid h2
  have H3 := Lib.hid h3
  have hq2 := hGI.q2
  have hg2 := hGI.g2
  have hgp := hGI.gp
  have hqp := hGI.qp
  have rb := el_rng (Bool.and_eq_true _ _ |>.mp h2).1
  have ry := el_rng (Bool.and_eq_true _ _ |>.mp h2).2
  have rc := inR_iff.1 (Bool.and_eq_true _ _ |>.mp h3).1
  have rz := inR_iff.1 (Bool.and_eq_true _ _ |>.mp h3).2
  clear hk hkk hz0 hv0 hz1 hv1 hz2 hv2 h1 h2 h3
  go_enter Try.func46, Try.ntmps46
  have C_B0 := B0.cells
  have C_B1 := B1.cells
  go_wp2_with fail
  refine (l2Good_any p q g _).mono ?_
  rintro e w1 ⟨he, hb⟩
  rw [H1.out] at he; subst he
  clear C_B0 C_B1
  replace E := E.trans hb
  replace B0 := B0.ext hb
  replace B1 := B1.ext hb
  clear hb
  have C_B0 := B0.cells
  have C_B1 := B1.cells
  go_wp2_with fail
  replace E := E.alloc (.cells #[.int .i64 b, .int .i64 y] 3)
  replace B0 := B0.alloc (.cells #[.int .i64 b, .int .i64 y] 3)
  replace B1 := B1.alloc (.cells #[.int .i64 b, .int .i64 y] 3)
  refine (gIs_any p q g _ 2 2 [b, y] _ hG (rd_two (by simp)) rfl (by decide)).mono ?_
  rintro e w2 ⟨he, hb⟩
  simp only [List.all_cons, List.all_nil, Bool.and_true] at he
  rw [H2.out] at he; subst he
  clear C_B0 C_B1
  replace E := E.trans hb
  replace B0 := B0.ext hb
  replace B1 := B1.ext hb
  clear hb
  have C_B0 := B0.cells
  have C_B1 := B1.cells
  go_wp2_with fail
  replace E := E.alloc (.cells #[.int .i64 c, .int .i64 z] 3)
  replace B0 := B0.alloc (.cells #[.int .i64 c, .int .i64 z] 3)
  replace B1 := B1.alloc (.cells #[.int .i64 c, .int .i64 z] 3)
  refine (gExps_any p q g _ 2 2 [c, z] _ hG (rd_two (by simp)) rfl (by decide)).mono ?_
  rintro e w3 ⟨he, hb⟩
  simp only [allR, List.all_cons, List.all_nil, Bool.and_true] at he
  rw [H3.out] at he; subst he
  clear C_B0 C_B1
  replace E := E.trans hb
  replace B0 := B0.ext hb
  replace B1 := B1.ext hb
  clear hb
  have C_B0 := B0.cells
  have C_B1 := B1.cells
  go_wp2_with fail
  refine (xSimulate_any p q g b y c z _ hG (by omega) (by omega) (by omega) (by omega)).mono ?_
  rintro e wf ⟨rfl, hb⟩
  clear C_B0 C_B1
  replace E := E.trans hb
  replace B0 := B0.ext hb
  replace B1 := B1.ext hb
  clear hb
  have C_B0 := B0.cells
  have C_B1 := B1.cells
  have F := B1.frozen
  go_wp2
  refine ret_trB (a := (gmul p [gpw p q b z, gpw p q y (-c)])) (b := c) (c := z) (k := true) (((B1.set_ 0 (.int .i64 ((gmul p [gpw p q b z, gpw p q y (-c)])))).set_ 1 (.int .i64 (c))).set_ 2 (.int .i64 (z))) rfl rfl rfl ?_
  exact ⟨rfl, E.then (below_3 (g := w.heap.size + 1) _ _ _ _) (by omega)⟩

set_option maxRecDepth 100000 in
set_option maxHeartbeats 4000000 in
theorem iExtractKnowledge_any (p q g b y t1 c1 z1 t2 c2 z2 : Int) (w : World) :
    Calls Try.prog 42 #[.agg #[.int .i64 p, .int .i64 q, .int .i64 g], .int .i64 b, .int .i64 y, .agg #[.int .i64 t1, .int .i64 c1, .int .i64 z1], .agg #[.int .i64 t2, .int .i64 c2, .int .i64 z2]] w fun e w' => e = .returned (.tuple #[.int .i64 (if (grpB p q g && ((elB p q b && elB p q y) && ((elB p q t1 && (inR c1 0 (q - 1) && inR z1 0 (q - 1))) && ((elB p q t2 && (inR c2 0 (q - 1) && inR z2 0 (q - 1))) && (accB p q b y t1 c1 z1 && (accB p q b y t2 c2 z2 && ((t1 == t2) && !(c1 == c2)))))))) = true then (gext q c1 z1 c2 z2) else 0), .bool (grpB p q g && ((elB p q b && elB p q y) && ((elB p q t1 && (inR c1 0 (q - 1) && inR z1 0 (q - 1))) && ((elB p q t2 && (inR c2 0 (q - 1) && inR z2 0 (q - 1))) && (accB p q b y t1 c1 z1 && (accB p q b y t2 c2 z2 && ((t1 == t2) && !(c1 == c2))))))))]) ∧ Ext w w' := by
  obtain ⟨vv0, hv0⟩ : ∃ vq : Int, (if (grpB p q g && ((elB p q b && elB p q y) && ((elB p q t1 && (inR c1 0 (q - 1) && inR z1 0 (q - 1))) && ((elB p q t2 && (inR c2 0 (q - 1) && inR z2 0 (q - 1))) && (accB p q b y t1 c1 z1 && (accB p q b y t2 c2 z2 && ((t1 == t2) && !(c1 == c2)))))))) = true then (gext q c1 z1 c2 z2) else 0) = vq := ⟨_, rfl⟩
  rw [hv0]
  obtain ⟨kk, hkk⟩ : ∃ kq : Bool, (grpB p q g && ((elB p q b && elB p q y) && ((elB p q t1 && (inR c1 0 (q - 1) && inR z1 0 (q - 1))) && ((elB p q t2 && (inR c2 0 (q - 1) && inR z2 0 (q - 1))) && (accB p q b y t1 c1 z1 && (accB p q b y t2 c2 z2 && ((t1 == t2) && !(c1 == c2)))))))) = kq := ⟨_, rfl⟩
  rw [hkk]
  have B0 := ((Blk.new w 37 #[.int .i64 p, .int .i64 q, .int .i64 g]).alloc (.cells #[.int .i64 t1, .int .i64 c1, .int .i64 z1] 61)).alloc (.cells #[.int .i64 t2, .int .i64 c2, .int .i64 z2] 61)
  have B1 := (Blk.new (w.alloc (.cells #[.int .i64 p, .int .i64 q, .int .i64 g] 37)) 61 #[.int .i64 t1, .int .i64 c1, .int .i64 z1]).alloc (.cells #[.int .i64 t2, .int .i64 c2, .int .i64 z2] 61)
  have B2 := Blk.new ((w.alloc (.cells #[.int .i64 p, .int .i64 q, .int .i64 g] 37)).alloc (.cells #[.int .i64 t1, .int .i64 c1, .int .i64 z1] 61)) 61 #[.int .i64 t2, .int .i64 c2, .int .i64 z2]
  have E := ((((Ext.refl w).alloc (.cells #[.int .i64 p, .int .i64 q, .int .i64 g] 37)).alloc (.cells #[.int .i64 t1, .int .i64 c1, .int .i64 z1] 61)).alloc (.cells #[.int .i64 t2, .int .i64 c2, .int .i64 z2] 61))
  simp only [World.size_alloc] at B1 B2
  cases h1 : (grpB p q g)
  · have hk : kk = false := by rw [← hkk]; simp [h1]; try (intros; simp_all)
    have hz0 : vv0 = 0 := by rw [← hv0]; simp [h1]; try (intros; simp_all)
    rw [hz0, hk]
    have H1 := Lib.hid h1
    clear hk hkk hz0 hv0 h1
    go_enter Try.func42, Try.ntmps42
    have C_B0 := B0.cells
    have C_B1 := B1.cells
    have C_B2 := B2.cells
    go_wp2_with fail
    refine (IsValidGroup_any p q g _).mono ?_
    rintro e w1 ⟨he, hb⟩
    rw [H1.out] at he; subst he
    clear C_B0 C_B1 C_B2
    replace E := E.trans hb
    replace B0 := B0.ext hb
    replace B1 := B1.ext hb
    replace B2 := B2.ext hb
    clear hb
    have C_B0 := B0.cells
    have C_B1 := B1.cells
    have C_B2 := B2.cells
    go_wp2
    go_ret2
    exact ⟨rfl, E⟩
  have hG := (grpB_in h1).bd
  have hGI := grpB_in h1
  have hp9 := hGI.p9
  cases h2 : (elB p q b && (elB p q y))
  · have hk : kk = false := by rw [← hkk]; simp [h1, h2]; try (intros; simp_all)
    have hz0 : vv0 = 0 := by rw [← hv0]; simp [h1, h2]; try (intros; simp_all)
    rw [hz0, hk]
    have H1 := Lib.hid h1
    have H2 := Lib.hid h2
    clear hk hkk hz0 hv0 h1 h2
    go_enter Try.func42, Try.ntmps42
    have C_B0 := B0.cells
    have C_B1 := B1.cells
    have C_B2 := B2.cells
    go_wp2_with fail
    refine (IsValidGroup_any p q g _).mono ?_
    rintro e w1 ⟨he, hb⟩
    rw [H1.out] at he; subst he
    clear C_B0 C_B1 C_B2
    replace E := E.trans hb
    replace B0 := B0.ext hb
    replace B1 := B1.ext hb
    replace B2 := B2.ext hb
    clear hb
    have C_B0 := B0.cells
    have C_B1 := B1.cells
    have C_B2 := B2.cells
    go_wp2_with fail
    replace E := E.alloc (.cells #[.int .i64 b, .int .i64 y] 3)
    replace B0 := B0.alloc (.cells #[.int .i64 b, .int .i64 y] 3)
    replace B1 := B1.alloc (.cells #[.int .i64 b, .int .i64 y] 3)
    replace B2 := B2.alloc (.cells #[.int .i64 b, .int .i64 y] 3)
    refine (hasAll_any p q g _ 2 2 [b, y] _ hG (rd_two (by simp)) rfl (by decide)).mono ?_
    rintro e w2 ⟨he, hb⟩
    simp only [List.all_cons, List.all_nil, Bool.and_true] at he
    rw [H2.out] at he; subst he
    clear C_B0 C_B1 C_B2
    replace E := E.trans hb
    replace B0 := B0.ext hb
    replace B1 := B1.ext hb
    replace B2 := B2.ext hb
    clear hb
    have C_B0 := B0.cells
    have C_B1 := B1.cells
    have C_B2 := B2.cells
    go_wp2
    go_ret2
    exact ⟨rfl, E⟩
  have hq2 := hGI.q2
  have hg2 := hGI.g2
  have hgp := hGI.gp
  have hqp := hGI.qp
  have rb := el_rng (Bool.and_eq_true _ _ |>.mp h2).1
  have ry := el_rng (Bool.and_eq_true _ _ |>.mp h2).2
  cases h3 : (elB p q t1 && (inR c1 0 (q - 1) && inR z1 0 (q - 1)))
  · have hk : kk = false := by rw [← hkk]; simp [h1, h2, h3]; try (intros; simp_all)
    have hz0 : vv0 = 0 := by rw [← hv0]; simp [h1, h2, h3]; try (intros; simp_all)
    rw [hz0, hk]
    have H1 := Lib.hid h1
    have H2 := Lib.hid h2
    have H3 := Lib.hid h3
    clear hk hkk hz0 hv0 h1 h2 h3
    go_enter Try.func42, Try.ntmps42
    have C_B0 := B0.cells
    have C_B1 := B1.cells
    have C_B2 := B2.cells
    go_wp2_with fail
    refine (IsValidGroup_any p q g _).mono ?_
    rintro e w1 ⟨he, hb⟩
    rw [H1.out] at he; subst he
    clear C_B0 C_B1 C_B2
    replace E := E.trans hb
    replace B0 := B0.ext hb
    replace B1 := B1.ext hb
    replace B2 := B2.ext hb
    clear hb
    have C_B0 := B0.cells
    have C_B1 := B1.cells
    have C_B2 := B2.cells
    go_wp2_with fail
    replace E := E.alloc (.cells #[.int .i64 b, .int .i64 y] 3)
    replace B0 := B0.alloc (.cells #[.int .i64 b, .int .i64 y] 3)
    replace B1 := B1.alloc (.cells #[.int .i64 b, .int .i64 y] 3)
    replace B2 := B2.alloc (.cells #[.int .i64 b, .int .i64 y] 3)
    refine (hasAll_any p q g _ 2 2 [b, y] _ hG (rd_two (by simp)) rfl (by decide)).mono ?_
    rintro e w2 ⟨he, hb⟩
    simp only [List.all_cons, List.all_nil, Bool.and_true] at he
    rw [H2.out] at he; subst he
    clear C_B0 C_B1 C_B2
    replace E := E.trans hb
    replace B0 := B0.ext hb
    replace B1 := B1.ext hb
    replace B2 := B2.ext hb
    clear hb
    have C_B0 := B0.cells
    have C_B1 := B1.cells
    have C_B2 := B2.cells
    go_wp2_with fail
    refine (hasTranscript0_any p q g t1 c1 z1 _ hG).mono ?_
    rintro e w3 ⟨he, hb⟩
    rw [H3.out] at he; subst he
    clear C_B0 C_B1 C_B2
    replace E := E.trans hb
    replace B0 := B0.ext hb
    replace B1 := B1.ext hb
    replace B2 := B2.ext hb
    clear hb
    have C_B0 := B0.cells
    have C_B1 := B1.cells
    have C_B2 := B2.cells
    go_wp2
    go_ret2
    exact ⟨rfl, E⟩
  have rt1 := el_rng (Bool.and_eq_true _ _ |>.mp h3).1
  have rc1 := inR_iff.1 (Bool.and_eq_true _ _ |>.mp (Bool.and_eq_true _ _ |>.mp h3).2).1
  have rz1 := inR_iff.1 (Bool.and_eq_true _ _ |>.mp (Bool.and_eq_true _ _ |>.mp h3).2).2
  cases h4 : (elB p q t2 && (inR c2 0 (q - 1) && inR z2 0 (q - 1)))
  · have hk : kk = false := by rw [← hkk]; simp [h1, h2, h3, h4]; try (intros; simp_all)
    have hz0 : vv0 = 0 := by rw [← hv0]; simp [h1, h2, h3, h4]; try (intros; simp_all)
    rw [hz0, hk]
    have H1 := Lib.hid h1
    have H2 := Lib.hid h2
    have H3 := Lib.hid h3
    have H4 := Lib.hid h4
    clear hk hkk hz0 hv0 h1 h2 h3 h4
    go_enter Try.func42, Try.ntmps42
    have C_B0 := B0.cells
    have C_B1 := B1.cells
    have C_B2 := B2.cells
    go_wp2_with fail
    refine (IsValidGroup_any p q g _).mono ?_
    rintro e w1 ⟨he, hb⟩
    rw [H1.out] at he; subst he
    clear C_B0 C_B1 C_B2
    replace E := E.trans hb
    replace B0 := B0.ext hb
    replace B1 := B1.ext hb
    replace B2 := B2.ext hb
    clear hb
    have C_B0 := B0.cells
    have C_B1 := B1.cells
    have C_B2 := B2.cells
    go_wp2_with fail
    replace E := E.alloc (.cells #[.int .i64 b, .int .i64 y] 3)
    replace B0 := B0.alloc (.cells #[.int .i64 b, .int .i64 y] 3)
    replace B1 := B1.alloc (.cells #[.int .i64 b, .int .i64 y] 3)
    replace B2 := B2.alloc (.cells #[.int .i64 b, .int .i64 y] 3)
    refine (hasAll_any p q g _ 2 2 [b, y] _ hG (rd_two (by simp)) rfl (by decide)).mono ?_
    rintro e w2 ⟨he, hb⟩
    simp only [List.all_cons, List.all_nil, Bool.and_true] at he
    rw [H2.out] at he; subst he
    clear C_B0 C_B1 C_B2
    replace E := E.trans hb
    replace B0 := B0.ext hb
    replace B1 := B1.ext hb
    replace B2 := B2.ext hb
    clear hb
    have C_B0 := B0.cells
    have C_B1 := B1.cells
    have C_B2 := B2.cells
    go_wp2_with fail
    refine (hasTranscript0_any p q g t1 c1 z1 _ hG).mono ?_
    rintro e w3 ⟨he, hb⟩
    rw [H3.out] at he; subst he
    clear C_B0 C_B1 C_B2
    replace E := E.trans hb
    replace B0 := B0.ext hb
    replace B1 := B1.ext hb
    replace B2 := B2.ext hb
    clear hb
    have C_B0 := B0.cells
    have C_B1 := B1.cells
    have C_B2 := B2.cells
    go_wp2_with fail
    refine (hasTranscript0_any p q g t2 c2 z2 _ hG).mono ?_
    rintro e w4 ⟨he, hb⟩
    rw [H4.out] at he; subst he
    clear C_B0 C_B1 C_B2
    replace E := E.trans hb
    replace B0 := B0.ext hb
    replace B1 := B1.ext hb
    replace B2 := B2.ext hb
    clear hb
    have C_B0 := B0.cells
    have C_B1 := B1.cells
    have C_B2 := B2.cells
    go_wp2
    go_ret2
    exact ⟨rfl, E⟩
  have rt2 := el_rng (Bool.and_eq_true _ _ |>.mp h4).1
  have rc2 := inR_iff.1 (Bool.and_eq_true _ _ |>.mp (Bool.and_eq_true _ _ |>.mp h4).2).1
  have rz2 := inR_iff.1 (Bool.and_eq_true _ _ |>.mp (Bool.and_eq_true _ _ |>.mp h4).2).2
  cases h5 : (accB p q b y t1 c1 z1)
  · have hk : kk = false := by rw [← hkk]; simp [h1, h2, h3, h4, h5]; try (intros; simp_all)
    have hz0 : vv0 = 0 := by rw [← hv0]; simp [h1, h2, h3, h4, h5]; try (intros; simp_all)
    rw [hz0, hk]
    have H1 := Lib.hid h1
    have H2 := Lib.hid h2
    have H3 := Lib.hid h3
    have H4 := Lib.hid h4
    have H5 := Lib.hid h5
    clear hk hkk hz0 hv0 h1 h2 h3 h4 h5
    go_enter Try.func42, Try.ntmps42
    have C_B0 := B0.cells
    have C_B1 := B1.cells
    have C_B2 := B2.cells
    go_wp2_with fail
    refine (IsValidGroup_any p q g _).mono ?_
    rintro e w1 ⟨he, hb⟩
    rw [H1.out] at he; subst he
    clear C_B0 C_B1 C_B2
    replace E := E.trans hb
    replace B0 := B0.ext hb
    replace B1 := B1.ext hb
    replace B2 := B2.ext hb
    clear hb
    have C_B0 := B0.cells
    have C_B1 := B1.cells
    have C_B2 := B2.cells
    go_wp2_with fail
    replace E := E.alloc (.cells #[.int .i64 b, .int .i64 y] 3)
    replace B0 := B0.alloc (.cells #[.int .i64 b, .int .i64 y] 3)
    replace B1 := B1.alloc (.cells #[.int .i64 b, .int .i64 y] 3)
    replace B2 := B2.alloc (.cells #[.int .i64 b, .int .i64 y] 3)
    refine (hasAll_any p q g _ 2 2 [b, y] _ hG (rd_two (by simp)) rfl (by decide)).mono ?_
    rintro e w2 ⟨he, hb⟩
    simp only [List.all_cons, List.all_nil, Bool.and_true] at he
    rw [H2.out] at he; subst he
    clear C_B0 C_B1 C_B2
    replace E := E.trans hb
    replace B0 := B0.ext hb
    replace B1 := B1.ext hb
    replace B2 := B2.ext hb
    clear hb
    have C_B0 := B0.cells
    have C_B1 := B1.cells
    have C_B2 := B2.cells
    go_wp2_with fail
    refine (hasTranscript0_any p q g t1 c1 z1 _ hG).mono ?_
    rintro e w3 ⟨he, hb⟩
    rw [H3.out] at he; subst he
    clear C_B0 C_B1 C_B2
    replace E := E.trans hb
    replace B0 := B0.ext hb
    replace B1 := B1.ext hb
    replace B2 := B2.ext hb
    clear hb
    have C_B0 := B0.cells
    have C_B1 := B1.cells
    have C_B2 := B2.cells
    go_wp2_with fail
    refine (hasTranscript0_any p q g t2 c2 z2 _ hG).mono ?_
    rintro e w4 ⟨he, hb⟩
    rw [H4.out] at he; subst he
    clear C_B0 C_B1 C_B2
    replace E := E.trans hb
    replace B0 := B0.ext hb
    replace B1 := B1.ext hb
    replace B2 := B2.ext hb
    clear hb
    have C_B0 := B0.cells
    have C_B1 := B1.cells
    have C_B2 := B2.cells
    go_wp2_with fail
    refine (accepts_any p q g b y t1 c1 z1 _ hG (by omega) (by omega) (by omega) (by omega) (by omega)).mono ?_
    rintro e w5 ⟨he, hb⟩
    rw [H5.out] at he; subst he
    clear C_B0 C_B1 C_B2
    replace E := E.trans hb
    replace B0 := B0.ext hb
    replace B1 := B1.ext hb
    replace B2 := B2.ext hb
    clear hb
    have C_B0 := B0.cells
    have C_B1 := B1.cells
    have C_B2 := B2.cells
    go_wp2
    go_ret2
    exact ⟨rfl, E⟩
  cases h6 : (accB p q b y t2 c2 z2)
  · have hk : kk = false := by rw [← hkk]; simp [h1, h2, h3, h4, h5, h6]; try (intros; simp_all)
    have hz0 : vv0 = 0 := by rw [← hv0]; simp [h1, h2, h3, h4, h5, h6]; try (intros; simp_all)
    rw [hz0, hk]
    have H1 := Lib.hid h1
    have H2 := Lib.hid h2
    have H3 := Lib.hid h3
    have H4 := Lib.hid h4
    have H5 := Lib.hid h5
    have H6 := Lib.hid h6
    clear hk hkk hz0 hv0 h1 h2 h3 h4 h5 h6
    go_enter Try.func42, Try.ntmps42
    have C_B0 := B0.cells
    have C_B1 := B1.cells
    have C_B2 := B2.cells
    go_wp2_with fail
    refine (IsValidGroup_any p q g _).mono ?_
    rintro e w1 ⟨he, hb⟩
    rw [H1.out] at he; subst he
    clear C_B0 C_B1 C_B2
    replace E := E.trans hb
    replace B0 := B0.ext hb
    replace B1 := B1.ext hb
    replace B2 := B2.ext hb
    clear hb
    have C_B0 := B0.cells
    have C_B1 := B1.cells
    have C_B2 := B2.cells
    go_wp2_with fail
    replace E := E.alloc (.cells #[.int .i64 b, .int .i64 y] 3)
    replace B0 := B0.alloc (.cells #[.int .i64 b, .int .i64 y] 3)
    replace B1 := B1.alloc (.cells #[.int .i64 b, .int .i64 y] 3)
    replace B2 := B2.alloc (.cells #[.int .i64 b, .int .i64 y] 3)
    refine (hasAll_any p q g _ 2 2 [b, y] _ hG (rd_two (by simp)) rfl (by decide)).mono ?_
    rintro e w2 ⟨he, hb⟩
    simp only [List.all_cons, List.all_nil, Bool.and_true] at he
    rw [H2.out] at he; subst he
    clear C_B0 C_B1 C_B2
    replace E := E.trans hb
    replace B0 := B0.ext hb
    replace B1 := B1.ext hb
    replace B2 := B2.ext hb
    clear hb
    have C_B0 := B0.cells
    have C_B1 := B1.cells
    have C_B2 := B2.cells
    go_wp2_with fail
    refine (hasTranscript0_any p q g t1 c1 z1 _ hG).mono ?_
    rintro e w3 ⟨he, hb⟩
    rw [H3.out] at he; subst he
    clear C_B0 C_B1 C_B2
    replace E := E.trans hb
    replace B0 := B0.ext hb
    replace B1 := B1.ext hb
    replace B2 := B2.ext hb
    clear hb
    have C_B0 := B0.cells
    have C_B1 := B1.cells
    have C_B2 := B2.cells
    go_wp2_with fail
    refine (hasTranscript0_any p q g t2 c2 z2 _ hG).mono ?_
    rintro e w4 ⟨he, hb⟩
    rw [H4.out] at he; subst he
    clear C_B0 C_B1 C_B2
    replace E := E.trans hb
    replace B0 := B0.ext hb
    replace B1 := B1.ext hb
    replace B2 := B2.ext hb
    clear hb
    have C_B0 := B0.cells
    have C_B1 := B1.cells
    have C_B2 := B2.cells
    go_wp2_with fail
    refine (accepts_any p q g b y t1 c1 z1 _ hG (by omega) (by omega) (by omega) (by omega) (by omega)).mono ?_
    rintro e w5 ⟨he, hb⟩
    rw [H5.out] at he; subst he
    clear C_B0 C_B1 C_B2
    replace E := E.trans hb
    replace B0 := B0.ext hb
    replace B1 := B1.ext hb
    replace B2 := B2.ext hb
    clear hb
    have C_B0 := B0.cells
    have C_B1 := B1.cells
    have C_B2 := B2.cells
    go_wp2_with fail
    refine (accepts_any p q g b y t2 c2 z2 _ hG (by omega) (by omega) (by omega) (by omega) (by omega)).mono ?_
    rintro e w6 ⟨he, hb⟩
    rw [H6.out] at he; subst he
    clear C_B0 C_B1 C_B2
    replace E := E.trans hb
    replace B0 := B0.ext hb
    replace B1 := B1.ext hb
    replace B2 := B2.ext hb
    clear hb
    have C_B0 := B0.cells
    have C_B1 := B1.cells
    have C_B2 := B2.cells
    go_wp2
    go_ret2
    exact ⟨rfl, E⟩
  cases h7 : (t1 == t2)
  · have hk : kk = false := by rw [← hkk]; simp [h1, h2, h3, h4, h5, h6, h7]; try (intros; simp_all)
    have hz0 : vv0 = 0 := by rw [← hv0]; simp [h1, h2, h3, h4, h5, h6, h7]; try (intros; simp_all)
    rw [hz0, hk]
    have H1 := Lib.hid h1
    have H2 := Lib.hid h2
    have H3 := Lib.hid h3
    have H4 := Lib.hid h4
    have H5 := Lib.hid h5
    have H6 := Lib.hid h6
    have H7 := Lib.hid h7
    clear hk hkk hz0 hv0 h1 h2 h3 h4 h5 h6 h7
    go_enter Try.func42, Try.ntmps42
    have C_B0 := B0.cells
    have C_B1 := B1.cells
    have C_B2 := B2.cells
    go_wp2_with fail
    refine (IsValidGroup_any p q g _).mono ?_
    rintro e w1 ⟨he, hb⟩
    rw [H1.out] at he; subst he
    clear C_B0 C_B1 C_B2
    replace E := E.trans hb
    replace B0 := B0.ext hb
    replace B1 := B1.ext hb
    replace B2 := B2.ext hb
    clear hb
    have C_B0 := B0.cells
    have C_B1 := B1.cells
    have C_B2 := B2.cells
    go_wp2_with fail
    replace E := E.alloc (.cells #[.int .i64 b, .int .i64 y] 3)
    replace B0 := B0.alloc (.cells #[.int .i64 b, .int .i64 y] 3)
    replace B1 := B1.alloc (.cells #[.int .i64 b, .int .i64 y] 3)
    replace B2 := B2.alloc (.cells #[.int .i64 b, .int .i64 y] 3)
    refine (hasAll_any p q g _ 2 2 [b, y] _ hG (rd_two (by simp)) rfl (by decide)).mono ?_
    rintro e w2 ⟨he, hb⟩
    simp only [List.all_cons, List.all_nil, Bool.and_true] at he
    rw [H2.out] at he; subst he
    clear C_B0 C_B1 C_B2
    replace E := E.trans hb
    replace B0 := B0.ext hb
    replace B1 := B1.ext hb
    replace B2 := B2.ext hb
    clear hb
    have C_B0 := B0.cells
    have C_B1 := B1.cells
    have C_B2 := B2.cells
    go_wp2_with fail
    refine (hasTranscript0_any p q g t1 c1 z1 _ hG).mono ?_
    rintro e w3 ⟨he, hb⟩
    rw [H3.out] at he; subst he
    clear C_B0 C_B1 C_B2
    replace E := E.trans hb
    replace B0 := B0.ext hb
    replace B1 := B1.ext hb
    replace B2 := B2.ext hb
    clear hb
    have C_B0 := B0.cells
    have C_B1 := B1.cells
    have C_B2 := B2.cells
    go_wp2_with fail
    refine (hasTranscript0_any p q g t2 c2 z2 _ hG).mono ?_
    rintro e w4 ⟨he, hb⟩
    rw [H4.out] at he; subst he
    clear C_B0 C_B1 C_B2
    replace E := E.trans hb
    replace B0 := B0.ext hb
    replace B1 := B1.ext hb
    replace B2 := B2.ext hb
    clear hb
    have C_B0 := B0.cells
    have C_B1 := B1.cells
    have C_B2 := B2.cells
    go_wp2_with fail
    refine (accepts_any p q g b y t1 c1 z1 _ hG (by omega) (by omega) (by omega) (by omega) (by omega)).mono ?_
    rintro e w5 ⟨he, hb⟩
    rw [H5.out] at he; subst he
    clear C_B0 C_B1 C_B2
    replace E := E.trans hb
    replace B0 := B0.ext hb
    replace B1 := B1.ext hb
    replace B2 := B2.ext hb
    clear hb
    have C_B0 := B0.cells
    have C_B1 := B1.cells
    have C_B2 := B2.cells
    go_wp2_with fail
    refine (accepts_any p q g b y t2 c2 z2 _ hG (by omega) (by omega) (by omega) (by omega) (by omega)).mono ?_
    rintro e w6 ⟨he, hb⟩
    rw [H6.out] at he; subst he
    clear C_B0 C_B1 C_B2
    replace E := E.trans hb
    replace B0 := B0.ext hb
    replace B1 := B1.ext hb
    replace B2 := B2.ext hb
    clear hb
    have hcm7 : (t1 != t2) = true := by simpa using H7.out
    have C_B0 := B0.cells
    have C_B1 := B1.cells
    have C_B2 := B2.cells
    go_wp2
    go_ret2
    exact ⟨rfl, E⟩
  cases h8 : (!(c1 == c2))
  · have hk : kk = false := by rw [← hkk]; simp [h1, h2, h3, h4, h5, h6, h7, h8]; try (intros; simp_all)
    have hz0 : vv0 = 0 := by rw [← hv0]; simp [h1, h2, h3, h4, h5, h6, h7, h8]; try (intros; simp_all)
    rw [hz0, hk]
    have H1 := Lib.hid h1
    have H2 := Lib.hid h2
    have H3 := Lib.hid h3
    have H4 := Lib.hid h4
    have H5 := Lib.hid h5
    have H6 := Lib.hid h6
    have H7 := Lib.hid h7
    have H8 := Lib.hid h8
    clear hk hkk hz0 hv0 h1 h2 h3 h4 h5 h6 h7 h8
    go_enter Try.func42, Try.ntmps42
    have C_B0 := B0.cells
    have C_B1 := B1.cells
    have C_B2 := B2.cells
    go_wp2_with fail
    refine (IsValidGroup_any p q g _).mono ?_
    rintro e w1 ⟨he, hb⟩
    rw [H1.out] at he; subst he
    clear C_B0 C_B1 C_B2
    replace E := E.trans hb
    replace B0 := B0.ext hb
    replace B1 := B1.ext hb
    replace B2 := B2.ext hb
    clear hb
    have C_B0 := B0.cells
    have C_B1 := B1.cells
    have C_B2 := B2.cells
    go_wp2_with fail
    replace E := E.alloc (.cells #[.int .i64 b, .int .i64 y] 3)
    replace B0 := B0.alloc (.cells #[.int .i64 b, .int .i64 y] 3)
    replace B1 := B1.alloc (.cells #[.int .i64 b, .int .i64 y] 3)
    replace B2 := B2.alloc (.cells #[.int .i64 b, .int .i64 y] 3)
    refine (hasAll_any p q g _ 2 2 [b, y] _ hG (rd_two (by simp)) rfl (by decide)).mono ?_
    rintro e w2 ⟨he, hb⟩
    simp only [List.all_cons, List.all_nil, Bool.and_true] at he
    rw [H2.out] at he; subst he
    clear C_B0 C_B1 C_B2
    replace E := E.trans hb
    replace B0 := B0.ext hb
    replace B1 := B1.ext hb
    replace B2 := B2.ext hb
    clear hb
    have C_B0 := B0.cells
    have C_B1 := B1.cells
    have C_B2 := B2.cells
    go_wp2_with fail
    refine (hasTranscript0_any p q g t1 c1 z1 _ hG).mono ?_
    rintro e w3 ⟨he, hb⟩
    rw [H3.out] at he; subst he
    clear C_B0 C_B1 C_B2
    replace E := E.trans hb
    replace B0 := B0.ext hb
    replace B1 := B1.ext hb
    replace B2 := B2.ext hb
    clear hb
    have C_B0 := B0.cells
    have C_B1 := B1.cells
    have C_B2 := B2.cells
    go_wp2_with fail
    refine (hasTranscript0_any p q g t2 c2 z2 _ hG).mono ?_
    rintro e w4 ⟨he, hb⟩
    rw [H4.out] at he; subst he
    clear C_B0 C_B1 C_B2
    replace E := E.trans hb
    replace B0 := B0.ext hb
    replace B1 := B1.ext hb
    replace B2 := B2.ext hb
    clear hb
    have C_B0 := B0.cells
    have C_B1 := B1.cells
    have C_B2 := B2.cells
    go_wp2_with fail
    refine (accepts_any p q g b y t1 c1 z1 _ hG (by omega) (by omega) (by omega) (by omega) (by omega)).mono ?_
    rintro e w5 ⟨he, hb⟩
    rw [H5.out] at he; subst he
    clear C_B0 C_B1 C_B2
    replace E := E.trans hb
    replace B0 := B0.ext hb
    replace B1 := B1.ext hb
    replace B2 := B2.ext hb
    clear hb
    have C_B0 := B0.cells
    have C_B1 := B1.cells
    have C_B2 := B2.cells
    go_wp2_with fail
    refine (accepts_any p q g b y t2 c2 z2 _ hG (by omega) (by omega) (by omega) (by omega) (by omega)).mono ?_
    rintro e w6 ⟨he, hb⟩
    rw [H6.out] at he; subst he
    clear C_B0 C_B1 C_B2
    replace E := E.trans hb
    replace B0 := B0.ext hb
    replace B1 := B1.ext hb
    replace B2 := B2.ext hb
    clear hb
    have hcm7 : (t1 != t2) = false := by simpa using H7.out
    have hcm8 : (c1 == c2) = true := by simpa using H8.out
    have C_B0 := B0.cells
    have C_B1 := B1.cells
    have C_B2 := B2.cells
    go_wp2
    go_ret2
    exact ⟨rfl, E⟩
  have hk : kk = true := by rw [← hkk]; simp_all
  have hz0 : vv0 = (gext q c1 z1 c2 z2) := by rw [← hv0]; rw [hkk, hk, if_pos rfl]
  rw [hz0, hk]
  have H1 := Lib.hid h1
  have H2 := Lib.hid h2
  have H3 := Lib.hid h3
  have H4 := Lib.hid h4
  have H5 := Lib.hid h5
  have H6 := Lib.hid h6
  have H7 := Lib.hid h7
  have H8 := Lib.hid h8
  clear hk hkk hz0 hv0 h1 h2 h3 h4 h5 h6 h7 h8
  go_enter Try.func42, Try.ntmps42
  have C_B0 := B0.cells
  have C_B1 := B1.cells
  have C_B2 := B2.cells
  go_wp2_with fail
  refine (IsValidGroup_any p q g _).mono ?_
  rintro e w1 ⟨he, hb⟩
  rw [H1.out] at he; subst he
  clear C_B0 C_B1 C_B2
  replace E := E.trans hb
  replace B0 := B0.ext hb
  replace B1 := B1.ext hb
  replace B2 := B2.ext hb
  clear hb
  have C_B0 := B0.cells
  have C_B1 := B1.cells
  have C_B2 := B2.cells
  go_wp2_with fail
  replace E := E.alloc (.cells #[.int .i64 b, .int .i64 y] 3)
  replace B0 := B0.alloc (.cells #[.int .i64 b, .int .i64 y] 3)
  replace B1 := B1.alloc (.cells #[.int .i64 b, .int .i64 y] 3)
  replace B2 := B2.alloc (.cells #[.int .i64 b, .int .i64 y] 3)
  refine (hasAll_any p q g _ 2 2 [b, y] _ hG (rd_two (by simp)) rfl (by decide)).mono ?_
  rintro e w2 ⟨he, hb⟩
  simp only [List.all_cons, List.all_nil, Bool.and_true] at he
  rw [H2.out] at he; subst he
  clear C_B0 C_B1 C_B2
  replace E := E.trans hb
  replace B0 := B0.ext hb
  replace B1 := B1.ext hb
  replace B2 := B2.ext hb
  clear hb
  have C_B0 := B0.cells
  have C_B1 := B1.cells
  have C_B2 := B2.cells
  go_wp2_with fail
  refine (hasTranscript0_any p q g t1 c1 z1 _ hG).mono ?_
  rintro e w3 ⟨he, hb⟩
  rw [H3.out] at he; subst he
  clear C_B0 C_B1 C_B2
  replace E := E.trans hb
  replace B0 := B0.ext hb
  replace B1 := B1.ext hb
  replace B2 := B2.ext hb
  clear hb
  have C_B0 := B0.cells
  have C_B1 := B1.cells
  have C_B2 := B2.cells
  go_wp2_with fail
  refine (hasTranscript0_any p q g t2 c2 z2 _ hG).mono ?_
  rintro e w4 ⟨he, hb⟩
  rw [H4.out] at he; subst he
  clear C_B0 C_B1 C_B2
  replace E := E.trans hb
  replace B0 := B0.ext hb
  replace B1 := B1.ext hb
  replace B2 := B2.ext hb
  clear hb
  have C_B0 := B0.cells
  have C_B1 := B1.cells
  have C_B2 := B2.cells
  go_wp2_with fail
  refine (accepts_any p q g b y t1 c1 z1 _ hG (by omega) (by omega) (by omega) (by omega) (by omega)).mono ?_
  rintro e w5 ⟨he, hb⟩
  rw [H5.out] at he; subst he
  clear C_B0 C_B1 C_B2
  replace E := E.trans hb
  replace B0 := B0.ext hb
  replace B1 := B1.ext hb
  replace B2 := B2.ext hb
  clear hb
  have C_B0 := B0.cells
  have C_B1 := B1.cells
  have C_B2 := B2.cells
  go_wp2_with fail
  refine (accepts_any p q g b y t2 c2 z2 _ hG (by omega) (by omega) (by omega) (by omega) (by omega)).mono ?_
  rintro e w6 ⟨he, hb⟩
  rw [H6.out] at he; subst he
  clear C_B0 C_B1 C_B2
  replace E := E.trans hb
  replace B0 := B0.ext hb
  replace B1 := B1.ext hb
  replace B2 := B2.ext hb
  clear hb
  have hcm7 : (t1 != t2) = false := by simpa using H7.out
  have hcm8 : (c1 == c2) = false := by simpa using H8.out
  have C_B0 := B0.cells
  have C_B1 := B1.cells
  have C_B2 := B2.cells
  go_wp2_with fail
  refine (extracted_any p q g c1 z1 c2 z2 _ hG (by omega) (by omega) (by omega) (by omega) (by omega) (by omega)).mono ?_
  rintro e wf ⟨rfl, hb⟩
  clear C_B0 C_B1 C_B2
  replace E := E.trans hb
  replace B0 := B0.ext hb
  replace B1 := B1.ext hb
  replace B2 := B2.ext hb
  clear hb
  have C_B0 := B0.cells
  have C_B1 := B1.cells
  have C_B2 := B2.cells
  go_wp2
  go_ret2
  exact ⟨rfl, E⟩

set_option maxRecDepth 100000 in
set_option maxHeartbeats 4000000 in
theorem sExtractKnowledge_any (p q g b y t1 c1 z1 t2 c2 z2 : Int) (w : World) :
    Calls Try.prog 43 #[.agg #[.int .i64 p, .int .i64 q, .int .i64 g], .int .i64 b, .int .i64 y, .agg #[.int .i64 t1, .int .i64 c1, .int .i64 z1], .agg #[.int .i64 t2, .int .i64 c2, .int .i64 z2]] w fun e w' => e = .returned (.tuple #[.int .i64 (if (grpB p q g && ((elB p q b && elB p q y) && ((elB p q t1 && (inR c1 0 (q - 1) && inR z1 0 (q - 1))) && ((elB p q t2 && (inR c2 0 (q - 1) && inR z2 0 (q - 1))) && (accB p q b y t1 c1 z1 && (accB p q b y t2 c2 z2 && ((t1 == t2) && !(c1 == c2)))))))) = true then (gext q c1 z1 c2 z2) else 0), .bool (grpB p q g && ((elB p q b && elB p q y) && ((elB p q t1 && (inR c1 0 (q - 1) && inR z1 0 (q - 1))) && ((elB p q t2 && (inR c2 0 (q - 1) && inR z2 0 (q - 1))) && (accB p q b y t1 c1 z1 && (accB p q b y t2 c2 z2 && ((t1 == t2) && !(c1 == c2))))))))]) ∧ Ext w w' := by
  obtain ⟨vv0, hv0⟩ : ∃ vq : Int, (if (grpB p q g && ((elB p q b && elB p q y) && ((elB p q t1 && (inR c1 0 (q - 1) && inR z1 0 (q - 1))) && ((elB p q t2 && (inR c2 0 (q - 1) && inR z2 0 (q - 1))) && (accB p q b y t1 c1 z1 && (accB p q b y t2 c2 z2 && ((t1 == t2) && !(c1 == c2)))))))) = true then (gext q c1 z1 c2 z2) else 0) = vq := ⟨_, rfl⟩
  rw [hv0]
  obtain ⟨kk, hkk⟩ : ∃ kq : Bool, (grpB p q g && ((elB p q b && elB p q y) && ((elB p q t1 && (inR c1 0 (q - 1) && inR z1 0 (q - 1))) && ((elB p q t2 && (inR c2 0 (q - 1) && inR z2 0 (q - 1))) && (accB p q b y t1 c1 z1 && (accB p q b y t2 c2 z2 && ((t1 == t2) && !(c1 == c2)))))))) = kq := ⟨_, rfl⟩
  rw [hkk]
  have B0 := ((Blk.new w 37 #[.int .i64 p, .int .i64 q, .int .i64 g]).alloc (.cells #[.int .i64 t1, .int .i64 c1, .int .i64 z1] 61)).alloc (.cells #[.int .i64 t2, .int .i64 c2, .int .i64 z2] 61)
  have B1 := (Blk.new (w.alloc (.cells #[.int .i64 p, .int .i64 q, .int .i64 g] 37)) 61 #[.int .i64 t1, .int .i64 c1, .int .i64 z1]).alloc (.cells #[.int .i64 t2, .int .i64 c2, .int .i64 z2] 61)
  have B2 := Blk.new ((w.alloc (.cells #[.int .i64 p, .int .i64 q, .int .i64 g] 37)).alloc (.cells #[.int .i64 t1, .int .i64 c1, .int .i64 z1] 61)) 61 #[.int .i64 t2, .int .i64 c2, .int .i64 z2]
  have E := ((((Ext.refl w).alloc (.cells #[.int .i64 p, .int .i64 q, .int .i64 g] 37)).alloc (.cells #[.int .i64 t1, .int .i64 c1, .int .i64 z1] 61)).alloc (.cells #[.int .i64 t2, .int .i64 c2, .int .i64 z2] 61))
  simp only [World.size_alloc] at B1 B2
  cases h1 : (grpB p q g)
  · have hk : kk = false := by rw [← hkk]; simp [h1]; try (intros; simp_all)
    have hz0 : vv0 = 0 := by rw [← hv0]; simp [h1]; try (intros; simp_all)
    rw [hz0, hk]
    have H1 := Lib.hid h1
    clear hk hkk hz0 hv0 h1
    go_enter Try.func43, Try.ntmps43
    have C_B0 := B0.cells
    have C_B1 := B1.cells
    have C_B2 := B2.cells
    go_wp2_with fail
    refine (l2Good_any p q g _).mono ?_
    rintro e w1 ⟨he, hb⟩
    rw [H1.out] at he; subst he
    clear C_B0 C_B1 C_B2
    replace E := E.trans hb
    replace B0 := B0.ext hb
    replace B1 := B1.ext hb
    replace B2 := B2.ext hb
    clear hb
    have C_B0 := B0.cells
    have C_B1 := B1.cells
    have C_B2 := B2.cells
    go_wp2
    go_ret2
    exact ⟨rfl, E⟩
  have hG := (grpB_in h1).bd
  have hGI := grpB_in h1
  have hp9 := hGI.p9
  cases h2 : (elB p q b && (elB p q y))
  · have hk : kk = false := by rw [← hkk]; simp [h1, h2]; try (intros; simp_all)
    have hz0 : vv0 = 0 := by rw [← hv0]; simp [h1, h2]; try (intros; simp_all)
    rw [hz0, hk]
    have H1 := Lib.hid h1
    have H2 := Lib.hid h2
    clear hk hkk hz0 hv0 h1 h2
    go_enter Try.func43, Try.ntmps43
    have C_B0 := B0.cells
    have C_B1 := B1.cells
    have C_B2 := B2.cells
    go_wp2_with fail
    refine (l2Good_any p q g _).mono ?_
    rintro e w1 ⟨he, hb⟩
    rw [H1.out] at he; subst he
    clear C_B0 C_B1 C_B2
    replace E := E.trans hb
    replace B0 := B0.ext hb
    replace B1 := B1.ext hb
    replace B2 := B2.ext hb
    clear hb
    have C_B0 := B0.cells
    have C_B1 := B1.cells
    have C_B2 := B2.cells
    go_wp2_with fail
    replace E := E.alloc (.cells #[.int .i64 b, .int .i64 y] 3)
    replace B0 := B0.alloc (.cells #[.int .i64 b, .int .i64 y] 3)
    replace B1 := B1.alloc (.cells #[.int .i64 b, .int .i64 y] 3)
    replace B2 := B2.alloc (.cells #[.int .i64 b, .int .i64 y] 3)
    refine (gIs_any p q g _ 2 2 [b, y] _ hG (rd_two (by simp)) rfl (by decide)).mono ?_
    rintro e w2 ⟨he, hb⟩
    simp only [List.all_cons, List.all_nil, Bool.and_true] at he
    rw [H2.out] at he; subst he
    clear C_B0 C_B1 C_B2
    replace E := E.trans hb
    replace B0 := B0.ext hb
    replace B1 := B1.ext hb
    replace B2 := B2.ext hb
    clear hb
    have C_B0 := B0.cells
    have C_B1 := B1.cells
    have C_B2 := B2.cells
    go_wp2
    go_ret2
    exact ⟨rfl, E⟩
  have hq2 := hGI.q2
  have hg2 := hGI.g2
  have hgp := hGI.gp
  have hqp := hGI.qp
  have rb := el_rng (Bool.and_eq_true _ _ |>.mp h2).1
  have ry := el_rng (Bool.and_eq_true _ _ |>.mp h2).2
  cases h3 : (elB p q t1 && (inR c1 0 (q - 1) && inR z1 0 (q - 1)))
  · have hk : kk = false := by rw [← hkk]; simp [h1, h2, h3]; try (intros; simp_all)
    have hz0 : vv0 = 0 := by rw [← hv0]; simp [h1, h2, h3]; try (intros; simp_all)
    rw [hz0, hk]
    have H1 := Lib.hid h1
    have H2 := Lib.hid h2
    have H3 := Lib.hid h3
    clear hk hkk hz0 hv0 h1 h2 h3
    go_enter Try.func43, Try.ntmps43
    have C_B0 := B0.cells
    have C_B1 := B1.cells
    have C_B2 := B2.cells
    go_wp2_with fail
    refine (l2Good_any p q g _).mono ?_
    rintro e w1 ⟨he, hb⟩
    rw [H1.out] at he; subst he
    clear C_B0 C_B1 C_B2
    replace E := E.trans hb
    replace B0 := B0.ext hb
    replace B1 := B1.ext hb
    replace B2 := B2.ext hb
    clear hb
    have C_B0 := B0.cells
    have C_B1 := B1.cells
    have C_B2 := B2.cells
    go_wp2_with fail
    replace E := E.alloc (.cells #[.int .i64 b, .int .i64 y] 3)
    replace B0 := B0.alloc (.cells #[.int .i64 b, .int .i64 y] 3)
    replace B1 := B1.alloc (.cells #[.int .i64 b, .int .i64 y] 3)
    replace B2 := B2.alloc (.cells #[.int .i64 b, .int .i64 y] 3)
    refine (gIs_any p q g _ 2 2 [b, y] _ hG (rd_two (by simp)) rfl (by decide)).mono ?_
    rintro e w2 ⟨he, hb⟩
    simp only [List.all_cons, List.all_nil, Bool.and_true] at he
    rw [H2.out] at he; subst he
    clear C_B0 C_B1 C_B2
    replace E := E.trans hb
    replace B0 := B0.ext hb
    replace B1 := B1.ext hb
    replace B2 := B2.ext hb
    clear hb
    have C_B0 := B0.cells
    have C_B1 := B1.cells
    have C_B2 := B2.cells
    go_wp2_with fail
    refine (xTranscript0_any p q g t1 c1 z1 _ hG).mono ?_
    rintro e w3 ⟨he, hb⟩
    rw [H3.out] at he; subst he
    clear C_B0 C_B1 C_B2
    replace E := E.trans hb
    replace B0 := B0.ext hb
    replace B1 := B1.ext hb
    replace B2 := B2.ext hb
    clear hb
    have C_B0 := B0.cells
    have C_B1 := B1.cells
    have C_B2 := B2.cells
    go_wp2
    go_ret2
    exact ⟨rfl, E⟩
  have rt1 := el_rng (Bool.and_eq_true _ _ |>.mp h3).1
  have rc1 := inR_iff.1 (Bool.and_eq_true _ _ |>.mp (Bool.and_eq_true _ _ |>.mp h3).2).1
  have rz1 := inR_iff.1 (Bool.and_eq_true _ _ |>.mp (Bool.and_eq_true _ _ |>.mp h3).2).2
  cases h4 : (elB p q t2 && (inR c2 0 (q - 1) && inR z2 0 (q - 1)))
  · have hk : kk = false := by rw [← hkk]; simp [h1, h2, h3, h4]; try (intros; simp_all)
    have hz0 : vv0 = 0 := by rw [← hv0]; simp [h1, h2, h3, h4]; try (intros; simp_all)
    rw [hz0, hk]
    have H1 := Lib.hid h1
    have H2 := Lib.hid h2
    have H3 := Lib.hid h3
    have H4 := Lib.hid h4
    clear hk hkk hz0 hv0 h1 h2 h3 h4
    go_enter Try.func43, Try.ntmps43
    have C_B0 := B0.cells
    have C_B1 := B1.cells
    have C_B2 := B2.cells
    go_wp2_with fail
    refine (l2Good_any p q g _).mono ?_
    rintro e w1 ⟨he, hb⟩
    rw [H1.out] at he; subst he
    clear C_B0 C_B1 C_B2
    replace E := E.trans hb
    replace B0 := B0.ext hb
    replace B1 := B1.ext hb
    replace B2 := B2.ext hb
    clear hb
    have C_B0 := B0.cells
    have C_B1 := B1.cells
    have C_B2 := B2.cells
    go_wp2_with fail
    replace E := E.alloc (.cells #[.int .i64 b, .int .i64 y] 3)
    replace B0 := B0.alloc (.cells #[.int .i64 b, .int .i64 y] 3)
    replace B1 := B1.alloc (.cells #[.int .i64 b, .int .i64 y] 3)
    replace B2 := B2.alloc (.cells #[.int .i64 b, .int .i64 y] 3)
    refine (gIs_any p q g _ 2 2 [b, y] _ hG (rd_two (by simp)) rfl (by decide)).mono ?_
    rintro e w2 ⟨he, hb⟩
    simp only [List.all_cons, List.all_nil, Bool.and_true] at he
    rw [H2.out] at he; subst he
    clear C_B0 C_B1 C_B2
    replace E := E.trans hb
    replace B0 := B0.ext hb
    replace B1 := B1.ext hb
    replace B2 := B2.ext hb
    clear hb
    have C_B0 := B0.cells
    have C_B1 := B1.cells
    have C_B2 := B2.cells
    go_wp2_with fail
    refine (xTranscript0_any p q g t1 c1 z1 _ hG).mono ?_
    rintro e w3 ⟨he, hb⟩
    rw [H3.out] at he; subst he
    clear C_B0 C_B1 C_B2
    replace E := E.trans hb
    replace B0 := B0.ext hb
    replace B1 := B1.ext hb
    replace B2 := B2.ext hb
    clear hb
    have C_B0 := B0.cells
    have C_B1 := B1.cells
    have C_B2 := B2.cells
    go_wp2_with fail
    refine (xTranscript0_any p q g t2 c2 z2 _ hG).mono ?_
    rintro e w4 ⟨he, hb⟩
    rw [H4.out] at he; subst he
    clear C_B0 C_B1 C_B2
    replace E := E.trans hb
    replace B0 := B0.ext hb
    replace B1 := B1.ext hb
    replace B2 := B2.ext hb
    clear hb
    have C_B0 := B0.cells
    have C_B1 := B1.cells
    have C_B2 := B2.cells
    go_wp2
    go_ret2
    exact ⟨rfl, E⟩
  have rt2 := el_rng (Bool.and_eq_true _ _ |>.mp h4).1
  have rc2 := inR_iff.1 (Bool.and_eq_true _ _ |>.mp (Bool.and_eq_true _ _ |>.mp h4).2).1
  have rz2 := inR_iff.1 (Bool.and_eq_true _ _ |>.mp (Bool.and_eq_true _ _ |>.mp h4).2).2
  cases h5 : (t1 == t2)
  · have hk : kk = false := by rw [← hkk]; simp [h1, h2, h3, h4, h5]; try (intros; simp_all)
    have hz0 : vv0 = 0 := by rw [← hv0]; simp [h1, h2, h3, h4, h5]; try (intros; simp_all)
    rw [hz0, hk]
    have H1 := Lib.hid h1
    have H2 := Lib.hid h2
    have H3 := Lib.hid h3
    have H4 := Lib.hid h4
    have H5 := Lib.hid h5
    clear hk hkk hz0 hv0 h1 h2 h3 h4 h5
    go_enter Try.func43, Try.ntmps43
    have C_B0 := B0.cells
    have C_B1 := B1.cells
    have C_B2 := B2.cells
    go_wp2_with fail
    refine (l2Good_any p q g _).mono ?_
    rintro e w1 ⟨he, hb⟩
    rw [H1.out] at he; subst he
    clear C_B0 C_B1 C_B2
    replace E := E.trans hb
    replace B0 := B0.ext hb
    replace B1 := B1.ext hb
    replace B2 := B2.ext hb
    clear hb
    have C_B0 := B0.cells
    have C_B1 := B1.cells
    have C_B2 := B2.cells
    go_wp2_with fail
    replace E := E.alloc (.cells #[.int .i64 b, .int .i64 y] 3)
    replace B0 := B0.alloc (.cells #[.int .i64 b, .int .i64 y] 3)
    replace B1 := B1.alloc (.cells #[.int .i64 b, .int .i64 y] 3)
    replace B2 := B2.alloc (.cells #[.int .i64 b, .int .i64 y] 3)
    refine (gIs_any p q g _ 2 2 [b, y] _ hG (rd_two (by simp)) rfl (by decide)).mono ?_
    rintro e w2 ⟨he, hb⟩
    simp only [List.all_cons, List.all_nil, Bool.and_true] at he
    rw [H2.out] at he; subst he
    clear C_B0 C_B1 C_B2
    replace E := E.trans hb
    replace B0 := B0.ext hb
    replace B1 := B1.ext hb
    replace B2 := B2.ext hb
    clear hb
    have C_B0 := B0.cells
    have C_B1 := B1.cells
    have C_B2 := B2.cells
    go_wp2_with fail
    refine (xTranscript0_any p q g t1 c1 z1 _ hG).mono ?_
    rintro e w3 ⟨he, hb⟩
    rw [H3.out] at he; subst he
    clear C_B0 C_B1 C_B2
    replace E := E.trans hb
    replace B0 := B0.ext hb
    replace B1 := B1.ext hb
    replace B2 := B2.ext hb
    clear hb
    have C_B0 := B0.cells
    have C_B1 := B1.cells
    have C_B2 := B2.cells
    go_wp2_with fail
    refine (xTranscript0_any p q g t2 c2 z2 _ hG).mono ?_
    rintro e w4 ⟨he, hb⟩
    rw [H4.out] at he; subst he
    clear C_B0 C_B1 C_B2
    replace E := E.trans hb
    replace B0 := B0.ext hb
    replace B1 := B1.ext hb
    replace B2 := B2.ext hb
    clear hb
    have hcm5 : (t1 != t2) = true := by simpa using H5.out
    have C_B0 := B0.cells
    have C_B1 := B1.cells
    have C_B2 := B2.cells
    go_wp2
    go_ret2
    exact ⟨rfl, E⟩
  cases h6 : (!(c1 == c2))
  · have hk : kk = false := by rw [← hkk]; simp [h1, h2, h3, h4, h5, h6]; try (intros; simp_all)
    have hz0 : vv0 = 0 := by rw [← hv0]; simp [h1, h2, h3, h4, h5, h6]; try (intros; simp_all)
    rw [hz0, hk]
    have H1 := Lib.hid h1
    have H2 := Lib.hid h2
    have H3 := Lib.hid h3
    have H4 := Lib.hid h4
    have H5 := Lib.hid h5
    have H6 := Lib.hid h6
    clear hk hkk hz0 hv0 h1 h2 h3 h4 h5 h6
    go_enter Try.func43, Try.ntmps43
    have C_B0 := B0.cells
    have C_B1 := B1.cells
    have C_B2 := B2.cells
    go_wp2_with fail
    refine (l2Good_any p q g _).mono ?_
    rintro e w1 ⟨he, hb⟩
    rw [H1.out] at he; subst he
    clear C_B0 C_B1 C_B2
    replace E := E.trans hb
    replace B0 := B0.ext hb
    replace B1 := B1.ext hb
    replace B2 := B2.ext hb
    clear hb
    have C_B0 := B0.cells
    have C_B1 := B1.cells
    have C_B2 := B2.cells
    go_wp2_with fail
    replace E := E.alloc (.cells #[.int .i64 b, .int .i64 y] 3)
    replace B0 := B0.alloc (.cells #[.int .i64 b, .int .i64 y] 3)
    replace B1 := B1.alloc (.cells #[.int .i64 b, .int .i64 y] 3)
    replace B2 := B2.alloc (.cells #[.int .i64 b, .int .i64 y] 3)
    refine (gIs_any p q g _ 2 2 [b, y] _ hG (rd_two (by simp)) rfl (by decide)).mono ?_
    rintro e w2 ⟨he, hb⟩
    simp only [List.all_cons, List.all_nil, Bool.and_true] at he
    rw [H2.out] at he; subst he
    clear C_B0 C_B1 C_B2
    replace E := E.trans hb
    replace B0 := B0.ext hb
    replace B1 := B1.ext hb
    replace B2 := B2.ext hb
    clear hb
    have C_B0 := B0.cells
    have C_B1 := B1.cells
    have C_B2 := B2.cells
    go_wp2_with fail
    refine (xTranscript0_any p q g t1 c1 z1 _ hG).mono ?_
    rintro e w3 ⟨he, hb⟩
    rw [H3.out] at he; subst he
    clear C_B0 C_B1 C_B2
    replace E := E.trans hb
    replace B0 := B0.ext hb
    replace B1 := B1.ext hb
    replace B2 := B2.ext hb
    clear hb
    have C_B0 := B0.cells
    have C_B1 := B1.cells
    have C_B2 := B2.cells
    go_wp2_with fail
    refine (xTranscript0_any p q g t2 c2 z2 _ hG).mono ?_
    rintro e w4 ⟨he, hb⟩
    rw [H4.out] at he; subst he
    clear C_B0 C_B1 C_B2
    replace E := E.trans hb
    replace B0 := B0.ext hb
    replace B1 := B1.ext hb
    replace B2 := B2.ext hb
    clear hb
    have hcm5 : (t1 != t2) = false := by simpa using H5.out
    have hcm6 : (c1 == c2) = true := by simpa using H6.out
    have C_B0 := B0.cells
    have C_B1 := B1.cells
    have C_B2 := B2.cells
    go_wp2
    go_ret2
    exact ⟨rfl, E⟩
  cases h7 : (accB p q b y t1 c1 z1)
  · have hk : kk = false := by rw [← hkk]; simp [h1, h2, h3, h4, h5, h6, h7]; try (intros; simp_all)
    have hz0 : vv0 = 0 := by rw [← hv0]; simp [h1, h2, h3, h4, h5, h6, h7]; try (intros; simp_all)
    rw [hz0, hk]
    have H1 := Lib.hid h1
    have H2 := Lib.hid h2
    have H3 := Lib.hid h3
    have H4 := Lib.hid h4
    have H5 := Lib.hid h5
    have H6 := Lib.hid h6
    have H7 := Lib.hid h7
    clear hk hkk hz0 hv0 h1 h2 h3 h4 h5 h6 h7
    go_enter Try.func43, Try.ntmps43
    have C_B0 := B0.cells
    have C_B1 := B1.cells
    have C_B2 := B2.cells
    go_wp2_with fail
    refine (l2Good_any p q g _).mono ?_
    rintro e w1 ⟨he, hb⟩
    rw [H1.out] at he; subst he
    clear C_B0 C_B1 C_B2
    replace E := E.trans hb
    replace B0 := B0.ext hb
    replace B1 := B1.ext hb
    replace B2 := B2.ext hb
    clear hb
    have C_B0 := B0.cells
    have C_B1 := B1.cells
    have C_B2 := B2.cells
    go_wp2_with fail
    replace E := E.alloc (.cells #[.int .i64 b, .int .i64 y] 3)
    replace B0 := B0.alloc (.cells #[.int .i64 b, .int .i64 y] 3)
    replace B1 := B1.alloc (.cells #[.int .i64 b, .int .i64 y] 3)
    replace B2 := B2.alloc (.cells #[.int .i64 b, .int .i64 y] 3)
    refine (gIs_any p q g _ 2 2 [b, y] _ hG (rd_two (by simp)) rfl (by decide)).mono ?_
    rintro e w2 ⟨he, hb⟩
    simp only [List.all_cons, List.all_nil, Bool.and_true] at he
    rw [H2.out] at he; subst he
    clear C_B0 C_B1 C_B2
    replace E := E.trans hb
    replace B0 := B0.ext hb
    replace B1 := B1.ext hb
    replace B2 := B2.ext hb
    clear hb
    have C_B0 := B0.cells
    have C_B1 := B1.cells
    have C_B2 := B2.cells
    go_wp2_with fail
    refine (xTranscript0_any p q g t1 c1 z1 _ hG).mono ?_
    rintro e w3 ⟨he, hb⟩
    rw [H3.out] at he; subst he
    clear C_B0 C_B1 C_B2
    replace E := E.trans hb
    replace B0 := B0.ext hb
    replace B1 := B1.ext hb
    replace B2 := B2.ext hb
    clear hb
    have C_B0 := B0.cells
    have C_B1 := B1.cells
    have C_B2 := B2.cells
    go_wp2_with fail
    refine (xTranscript0_any p q g t2 c2 z2 _ hG).mono ?_
    rintro e w4 ⟨he, hb⟩
    rw [H4.out] at he; subst he
    clear C_B0 C_B1 C_B2
    replace E := E.trans hb
    replace B0 := B0.ext hb
    replace B1 := B1.ext hb
    replace B2 := B2.ext hb
    clear hb
    have hcm5 : (t1 != t2) = false := by simpa using H5.out
    have hcm6 : (c1 == c2) = false := by simpa using H6.out
    have C_B0 := B0.cells
    have C_B1 := B1.cells
    have C_B2 := B2.cells
    go_wp2_with fail
    refine (xAccepts_any p q g b y t1 c1 z1 _ hG (by omega) (by omega) (by omega) (by omega) (by omega)).mono ?_
    rintro e w7 ⟨he, hb⟩
    rw [H7.out] at he; subst he
    clear C_B0 C_B1 C_B2
    replace E := E.trans hb
    replace B0 := B0.ext hb
    replace B1 := B1.ext hb
    replace B2 := B2.ext hb
    clear hb
    have C_B0 := B0.cells
    have C_B1 := B1.cells
    have C_B2 := B2.cells
    go_wp2
    go_ret2
    exact ⟨rfl, E⟩
  cases h8 : (accB p q b y t2 c2 z2)
  · have hk : kk = false := by rw [← hkk]; simp [h1, h2, h3, h4, h5, h6, h7, h8]; try (intros; simp_all)
    have hz0 : vv0 = 0 := by rw [← hv0]; simp [h1, h2, h3, h4, h5, h6, h7, h8]; try (intros; simp_all)
    rw [hz0, hk]
    have H1 := Lib.hid h1
    have H2 := Lib.hid h2
    have H3 := Lib.hid h3
    have H4 := Lib.hid h4
    have H5 := Lib.hid h5
    have H6 := Lib.hid h6
    have H7 := Lib.hid h7
    have H8 := Lib.hid h8
    clear hk hkk hz0 hv0 h1 h2 h3 h4 h5 h6 h7 h8
    go_enter Try.func43, Try.ntmps43
    have C_B0 := B0.cells
    have C_B1 := B1.cells
    have C_B2 := B2.cells
    go_wp2_with fail
    refine (l2Good_any p q g _).mono ?_
    rintro e w1 ⟨he, hb⟩
    rw [H1.out] at he; subst he
    clear C_B0 C_B1 C_B2
    replace E := E.trans hb
    replace B0 := B0.ext hb
    replace B1 := B1.ext hb
    replace B2 := B2.ext hb
    clear hb
    have C_B0 := B0.cells
    have C_B1 := B1.cells
    have C_B2 := B2.cells
    go_wp2_with fail
    replace E := E.alloc (.cells #[.int .i64 b, .int .i64 y] 3)
    replace B0 := B0.alloc (.cells #[.int .i64 b, .int .i64 y] 3)
    replace B1 := B1.alloc (.cells #[.int .i64 b, .int .i64 y] 3)
    replace B2 := B2.alloc (.cells #[.int .i64 b, .int .i64 y] 3)
    refine (gIs_any p q g _ 2 2 [b, y] _ hG (rd_two (by simp)) rfl (by decide)).mono ?_
    rintro e w2 ⟨he, hb⟩
    simp only [List.all_cons, List.all_nil, Bool.and_true] at he
    rw [H2.out] at he; subst he
    clear C_B0 C_B1 C_B2
    replace E := E.trans hb
    replace B0 := B0.ext hb
    replace B1 := B1.ext hb
    replace B2 := B2.ext hb
    clear hb
    have C_B0 := B0.cells
    have C_B1 := B1.cells
    have C_B2 := B2.cells
    go_wp2_with fail
    refine (xTranscript0_any p q g t1 c1 z1 _ hG).mono ?_
    rintro e w3 ⟨he, hb⟩
    rw [H3.out] at he; subst he
    clear C_B0 C_B1 C_B2
    replace E := E.trans hb
    replace B0 := B0.ext hb
    replace B1 := B1.ext hb
    replace B2 := B2.ext hb
    clear hb
    have C_B0 := B0.cells
    have C_B1 := B1.cells
    have C_B2 := B2.cells
    go_wp2_with fail
    refine (xTranscript0_any p q g t2 c2 z2 _ hG).mono ?_
    rintro e w4 ⟨he, hb⟩
    rw [H4.out] at he; subst he
    clear C_B0 C_B1 C_B2
    replace E := E.trans hb
    replace B0 := B0.ext hb
    replace B1 := B1.ext hb
    replace B2 := B2.ext hb
    clear hb
    have hcm5 : (t1 != t2) = false := by simpa using H5.out
    have hcm6 : (c1 == c2) = false := by simpa using H6.out
    have C_B0 := B0.cells
    have C_B1 := B1.cells
    have C_B2 := B2.cells
    go_wp2_with fail
    refine (xAccepts_any p q g b y t1 c1 z1 _ hG (by omega) (by omega) (by omega) (by omega) (by omega)).mono ?_
    rintro e w7 ⟨he, hb⟩
    rw [H7.out] at he; subst he
    clear C_B0 C_B1 C_B2
    replace E := E.trans hb
    replace B0 := B0.ext hb
    replace B1 := B1.ext hb
    replace B2 := B2.ext hb
    clear hb
    have C_B0 := B0.cells
    have C_B1 := B1.cells
    have C_B2 := B2.cells
    go_wp2_with fail
    refine (xAccepts_any p q g b y t2 c2 z2 _ hG (by omega) (by omega) (by omega) (by omega) (by omega)).mono ?_
    rintro e w8 ⟨he, hb⟩
    rw [H8.out] at he; subst he
    clear C_B0 C_B1 C_B2
    replace E := E.trans hb
    replace B0 := B0.ext hb
    replace B1 := B1.ext hb
    replace B2 := B2.ext hb
    clear hb
    have C_B0 := B0.cells
    have C_B1 := B1.cells
    have C_B2 := B2.cells
    go_wp2
    go_ret2
    exact ⟨rfl, E⟩
  have hk : kk = true := by rw [← hkk]; simp_all
  have hz0 : vv0 = (gext q c1 z1 c2 z2) := by rw [← hv0]; rw [hkk, hk, if_pos rfl]
  rw [hz0, hk]
  have H1 := Lib.hid h1
  have H2 := Lib.hid h2
  have H3 := Lib.hid h3
  have H4 := Lib.hid h4
  have H5 := Lib.hid h5
  have H6 := Lib.hid h6
  have H7 := Lib.hid h7
  have H8 := Lib.hid h8
  have HIN := Lib.hid (inv_ne h1 (Bool.and_eq_true _ _ |>.mp (Bool.and_eq_true _ _ |>.mp h3).2).1 (Bool.and_eq_true _ _ |>.mp (Bool.and_eq_true _ _ |>.mp h4).2).1 (by simpa using h6))
  clear hk hkk hz0 hv0 h1 h2 h3 h4 h5 h6 h7 h8
  go_enter Try.func43, Try.ntmps43
  have C_B0 := B0.cells
  have C_B1 := B1.cells
  have C_B2 := B2.cells
  go_wp2_with fail
  refine (l2Good_any p q g _).mono ?_
  rintro e w1 ⟨he, hb⟩
  rw [H1.out] at he; subst he
  clear C_B0 C_B1 C_B2
  replace E := E.trans hb
  replace B0 := B0.ext hb
  replace B1 := B1.ext hb
  replace B2 := B2.ext hb
  clear hb
  have C_B0 := B0.cells
  have C_B1 := B1.cells
  have C_B2 := B2.cells
  go_wp2_with fail
  replace E := E.alloc (.cells #[.int .i64 b, .int .i64 y] 3)
  replace B0 := B0.alloc (.cells #[.int .i64 b, .int .i64 y] 3)
  replace B1 := B1.alloc (.cells #[.int .i64 b, .int .i64 y] 3)
  replace B2 := B2.alloc (.cells #[.int .i64 b, .int .i64 y] 3)
  refine (gIs_any p q g _ 2 2 [b, y] _ hG (rd_two (by simp)) rfl (by decide)).mono ?_
  rintro e w2 ⟨he, hb⟩
  simp only [List.all_cons, List.all_nil, Bool.and_true] at he
  rw [H2.out] at he; subst he
  clear C_B0 C_B1 C_B2
  replace E := E.trans hb
  replace B0 := B0.ext hb
  replace B1 := B1.ext hb
  replace B2 := B2.ext hb
  clear hb
  have C_B0 := B0.cells
  have C_B1 := B1.cells
  have C_B2 := B2.cells
  go_wp2_with fail
  refine (xTranscript0_any p q g t1 c1 z1 _ hG).mono ?_
  rintro e w3 ⟨he, hb⟩
  rw [H3.out] at he; subst he
  clear C_B0 C_B1 C_B2
  replace E := E.trans hb
  replace B0 := B0.ext hb
  replace B1 := B1.ext hb
  replace B2 := B2.ext hb
  clear hb
  have C_B0 := B0.cells
  have C_B1 := B1.cells
  have C_B2 := B2.cells
  go_wp2_with fail
  refine (xTranscript0_any p q g t2 c2 z2 _ hG).mono ?_
  rintro e w4 ⟨he, hb⟩
  rw [H4.out] at he; subst he
  clear C_B0 C_B1 C_B2
  replace E := E.trans hb
  replace B0 := B0.ext hb
  replace B1 := B1.ext hb
  replace B2 := B2.ext hb
  clear hb
  have hcm5 : (t1 != t2) = false := by simpa using H5.out
  have hcm6 : (c1 == c2) = false := by simpa using H6.out
  have C_B0 := B0.cells
  have C_B1 := B1.cells
  have C_B2 := B2.cells
  go_wp2_with fail
  refine (xAccepts_any p q g b y t1 c1 z1 _ hG (by omega) (by omega) (by omega) (by omega) (by omega)).mono ?_
  rintro e w7 ⟨he, hb⟩
  rw [H7.out] at he; subst he
  clear C_B0 C_B1 C_B2
  replace E := E.trans hb
  replace B0 := B0.ext hb
  replace B1 := B1.ext hb
  replace B2 := B2.ext hb
  clear hb
  have C_B0 := B0.cells
  have C_B1 := B1.cells
  have C_B2 := B2.cells
  go_wp2_with fail
  refine (xAccepts_any p q g b y t2 c2 z2 _ hG (by omega) (by omega) (by omega) (by omega) (by omega)).mono ?_
  rintro e w8 ⟨he, hb⟩
  rw [H8.out] at he; subst he
  clear C_B0 C_B1 C_B2
  replace E := E.trans hb
  replace B0 := B0.ext hb
  replace B1 := B1.ext hb
  replace B2 := B2.ext hb
  clear hb
  have C_B0 := B0.cells
  have C_B1 := B1.cells
  have C_B2 := B2.cells
  go_wp2_with fail
  refine (xSlope_any p q g c1 z1 c2 z2 _ hG (by omega) (by omega) (by omega) (by omega) (by omega) (by omega) HIN.out).mono ?_
  rintro e wf ⟨rfl, hb⟩
  clear C_B0 C_B1 C_B2
  replace E := E.trans hb
  replace B0 := B0.ext hb
  replace B1 := B1.ext hb
  replace B2 := B2.ext hb
  clear hb
  have C_B0 := B0.cells
  have C_B1 := B1.cells
  have C_B2 := B2.cells
  go_wp2
  go_ret2
  exact ⟨rfl, E⟩

set_option maxRecDepth 100000 in
set_option maxHeartbeats 4000000 in
theorem iIsAccepting_any (p q g b y t c z : Int) (w : World) :
    Calls Try.prog 47 #[.agg #[.int .i64 p, .int .i64 q, .int .i64 g], .int .i64 b, .int .i64 y, .agg #[.int .i64 t, .int .i64 c, .int .i64 z]] w fun e w' => e = .returned (.tuple #[.bool (if (grpB p q g && ((elB p q b && elB p q y) && (elB p q t && (inR c 0 (q - 1) && inR z 0 (q - 1))))) = true then (accB p q b y t c z) else false), .bool (grpB p q g && ((elB p q b && elB p q y) && (elB p q t && (inR c 0 (q - 1) && inR z 0 (q - 1)))))]) ∧ Ext w w' := by
  obtain ⟨vv0, hv0⟩ : ∃ vq : Bool, (if (grpB p q g && ((elB p q b && elB p q y) && (elB p q t && (inR c 0 (q - 1) && inR z 0 (q - 1))))) = true then (accB p q b y t c z) else false) = vq := ⟨_, rfl⟩
  rw [hv0]
  obtain ⟨kk, hkk⟩ : ∃ kq : Bool, (grpB p q g && ((elB p q b && elB p q y) && (elB p q t && (inR c 0 (q - 1) && inR z 0 (q - 1))))) = kq := ⟨_, rfl⟩
  rw [hkk]
  have B0 := (Blk.new w 37 #[.int .i64 p, .int .i64 q, .int .i64 g]).alloc (.cells #[.int .i64 t, .int .i64 c, .int .i64 z] 61)
  have B1 := Blk.new (w.alloc (.cells #[.int .i64 p, .int .i64 q, .int .i64 g] 37)) 61 #[.int .i64 t, .int .i64 c, .int .i64 z]
  have E := (((Ext.refl w).alloc (.cells #[.int .i64 p, .int .i64 q, .int .i64 g] 37)).alloc (.cells #[.int .i64 t, .int .i64 c, .int .i64 z] 61))
  simp only [World.size_alloc] at B1
  cases h1 : (grpB p q g)
  · have hk : kk = false := by rw [← hkk]; simp [h1]; try (intros; simp_all)
    have hz0 : vv0 = false := by rw [← hv0]; simp [h1]; try (intros; simp_all)
    rw [hz0, hk]
    have H1 := Lib.hid h1
    clear hk hkk hz0 hv0 h1
    go_enter Try.func47, Try.ntmps47
    have C_B0 := B0.cells
    have C_B1 := B1.cells
    go_wp2_with fail
    refine (IsValidGroup_any p q g _).mono ?_
    rintro e w1 ⟨he, hb⟩
    rw [H1.out] at he; subst he
    clear C_B0 C_B1
    replace E := E.trans hb
    replace B0 := B0.ext hb
    replace B1 := B1.ext hb
    clear hb
    have C_B0 := B0.cells
    have C_B1 := B1.cells
    go_wp2
    go_ret2
    exact ⟨rfl, E⟩
  have hG := (grpB_in h1).bd
  have hGI := grpB_in h1
  have hp9 := hGI.p9
  cases h2 : (elB p q b && (elB p q y))
  · have hk : kk = false := by rw [← hkk]; simp [h1, h2]; try (intros; simp_all)
    have hz0 : vv0 = false := by rw [← hv0]; simp [h1, h2]; try (intros; simp_all)
    rw [hz0, hk]
    have H1 := Lib.hid h1
    have H2 := Lib.hid h2
    clear hk hkk hz0 hv0 h1 h2
    go_enter Try.func47, Try.ntmps47
    have C_B0 := B0.cells
    have C_B1 := B1.cells
    go_wp2_with fail
    refine (IsValidGroup_any p q g _).mono ?_
    rintro e w1 ⟨he, hb⟩
    rw [H1.out] at he; subst he
    clear C_B0 C_B1
    replace E := E.trans hb
    replace B0 := B0.ext hb
    replace B1 := B1.ext hb
    clear hb
    have C_B0 := B0.cells
    have C_B1 := B1.cells
    go_wp2_with fail
    replace E := E.alloc (.cells #[.int .i64 b, .int .i64 y] 3)
    replace B0 := B0.alloc (.cells #[.int .i64 b, .int .i64 y] 3)
    replace B1 := B1.alloc (.cells #[.int .i64 b, .int .i64 y] 3)
    refine (hasAll_any p q g _ 2 2 [b, y] _ hG (rd_two (by simp)) rfl (by decide)).mono ?_
    rintro e w2 ⟨he, hb⟩
    simp only [List.all_cons, List.all_nil, Bool.and_true] at he
    rw [H2.out] at he; subst he
    clear C_B0 C_B1
    replace E := E.trans hb
    replace B0 := B0.ext hb
    replace B1 := B1.ext hb
    clear hb
    have C_B0 := B0.cells
    have C_B1 := B1.cells
    go_wp2
    go_ret2
    exact ⟨rfl, E⟩
  cases h3 : (elB p q t && (inR c 0 (q - 1) && inR z 0 (q - 1)))
  · have hk : kk = false := by rw [← hkk]; simp [h1, h2, h3]; try (intros; simp_all)
    have hz0 : vv0 = false := by rw [← hv0]; simp [h1, h2, h3]; try (intros; simp_all)
    rw [hz0, hk]
    have H1 := Lib.hid h1
    have H2 := Lib.hid h2
    have H3 := Lib.hid h3
    clear hk hkk hz0 hv0 h1 h2 h3
    go_enter Try.func47, Try.ntmps47
    have C_B0 := B0.cells
    have C_B1 := B1.cells
    go_wp2_with fail
    refine (IsValidGroup_any p q g _).mono ?_
    rintro e w1 ⟨he, hb⟩
    rw [H1.out] at he; subst he
    clear C_B0 C_B1
    replace E := E.trans hb
    replace B0 := B0.ext hb
    replace B1 := B1.ext hb
    clear hb
    have C_B0 := B0.cells
    have C_B1 := B1.cells
    go_wp2_with fail
    replace E := E.alloc (.cells #[.int .i64 b, .int .i64 y] 3)
    replace B0 := B0.alloc (.cells #[.int .i64 b, .int .i64 y] 3)
    replace B1 := B1.alloc (.cells #[.int .i64 b, .int .i64 y] 3)
    refine (hasAll_any p q g _ 2 2 [b, y] _ hG (rd_two (by simp)) rfl (by decide)).mono ?_
    rintro e w2 ⟨he, hb⟩
    simp only [List.all_cons, List.all_nil, Bool.and_true] at he
    rw [H2.out] at he; subst he
    clear C_B0 C_B1
    replace E := E.trans hb
    replace B0 := B0.ext hb
    replace B1 := B1.ext hb
    clear hb
    have C_B0 := B0.cells
    have C_B1 := B1.cells
    go_wp2_with fail
    refine (hasTranscript0_any p q g t c z _ hG).mono ?_
    rintro e w3 ⟨he, hb⟩
    rw [H3.out] at he; subst he
    clear C_B0 C_B1
    replace E := E.trans hb
    replace B0 := B0.ext hb
    replace B1 := B1.ext hb
    clear hb
    have C_B0 := B0.cells
    have C_B1 := B1.cells
    go_wp2
    go_ret2
    exact ⟨rfl, E⟩
  have hk : kk = true := by rw [← hkk]; simp_all
  have hz0 : vv0 = (accB p q b y t c z) := by rw [← hv0]; rw [hkk, hk, if_pos rfl]
  rw [hz0, hk]
  have H1 := Lib.hid h1
  have H2 := Lib.hid h2
  have H3 := Lib.hid h3
  have hq2 := hGI.q2
  have hg2 := hGI.g2
  have hgp := hGI.gp
  have hqp := hGI.qp
  have rb := el_rng (Bool.and_eq_true _ _ |>.mp h2).1
  have ry := el_rng (Bool.and_eq_true _ _ |>.mp h2).2
  have rt := el_rng (Bool.and_eq_true _ _ |>.mp h3).1
  have rc := inR_iff.1 (Bool.and_eq_true _ _ |>.mp (Bool.and_eq_true _ _ |>.mp h3).2).1
  have rz := inR_iff.1 (Bool.and_eq_true _ _ |>.mp (Bool.and_eq_true _ _ |>.mp h3).2).2
  clear hk hkk hz0 hv0 h1 h2 h3
  go_enter Try.func47, Try.ntmps47
  have C_B0 := B0.cells
  have C_B1 := B1.cells
  go_wp2_with fail
  refine (IsValidGroup_any p q g _).mono ?_
  rintro e w1 ⟨he, hb⟩
  rw [H1.out] at he; subst he
  clear C_B0 C_B1
  replace E := E.trans hb
  replace B0 := B0.ext hb
  replace B1 := B1.ext hb
  clear hb
  have C_B0 := B0.cells
  have C_B1 := B1.cells
  go_wp2_with fail
  replace E := E.alloc (.cells #[.int .i64 b, .int .i64 y] 3)
  replace B0 := B0.alloc (.cells #[.int .i64 b, .int .i64 y] 3)
  replace B1 := B1.alloc (.cells #[.int .i64 b, .int .i64 y] 3)
  refine (hasAll_any p q g _ 2 2 [b, y] _ hG (rd_two (by simp)) rfl (by decide)).mono ?_
  rintro e w2 ⟨he, hb⟩
  simp only [List.all_cons, List.all_nil, Bool.and_true] at he
  rw [H2.out] at he; subst he
  clear C_B0 C_B1
  replace E := E.trans hb
  replace B0 := B0.ext hb
  replace B1 := B1.ext hb
  clear hb
  have C_B0 := B0.cells
  have C_B1 := B1.cells
  go_wp2_with fail
  refine (hasTranscript0_any p q g t c z _ hG).mono ?_
  rintro e w3 ⟨he, hb⟩
  rw [H3.out] at he; subst he
  clear C_B0 C_B1
  replace E := E.trans hb
  replace B0 := B0.ext hb
  replace B1 := B1.ext hb
  clear hb
  have C_B0 := B0.cells
  have C_B1 := B1.cells
  go_wp2_with fail
  refine (accepts_any p q g b y t c z _ hG (by omega) (by omega) (by omega) (by omega) (by omega)).mono ?_
  rintro e wf ⟨rfl, hb⟩
  clear C_B0 C_B1
  replace E := E.trans hb
  replace B0 := B0.ext hb
  replace B1 := B1.ext hb
  clear hb
  have C_B0 := B0.cells
  have C_B1 := B1.cells
  go_wp2
  go_ret2
  exact ⟨rfl, E⟩
end Go.Proofs.Ytdimmfniefjjkaa
