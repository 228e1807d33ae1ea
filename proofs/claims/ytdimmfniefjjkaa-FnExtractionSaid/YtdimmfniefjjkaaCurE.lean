/- Drawn ciphertexts, keys and messages. -/
import Derived.Test.YtdimmfniefjjkaaProg
import Derived.Test.YtdimmfniefjjkaaCurG3
import Derived.Test.YtdimmfniefjjkaaEncC
namespace Go.Proofs.Ytdimmfniefjjkaa
open Go.RowKit

theorem Blk.farr {w : World} {g : Nat} {t : TypeId} {cs : Array Value} {p : Addr} {u : Value} (hp : g ≠ p.block) (h : Blk w g t cs) : Blk (w.setCell p u) g t cs := h.far hp u
set_option maxRecDepth 100000 in
set_option maxHeartbeats 4000000 in
theorem anyCipher_any {B : Nat} (g k : Nat) (P Q G : Int) (w : World) (h : CurS B w g k) (hk : k ≤ 800000) (hB : B ≤ w.heap.size) (hD : GrpD P Q G) :
    Calls Try.prog 112 #[.pointer (some ⟨g, 0, none⟩), .agg #[.int .i64 P, .int .i64 Q, .int .i64 G]] w fun e w' => ∃ a b : Int, e = .returned (.agg #[.int .i64 a, .int .i64 b]) ∧ -2000000000 ≤ a ∧ a ≤ 2000000000 ∧ -2000000000 ≤ b ∧ b ≤ 2000000000 ∧ Only [g] w w' ∧ CurS B w' g (k + 16) := by
  have hg := h.lt
  have hE := ((Ext.refl w).alloc (.cells #[.int .i64 P, .int .i64 Q, .int .i64 G] 37)).alloc (.cells #[.int .i64 0, .int .i64 0] 39)
  have B0 := (Blk.new w 37 #[.int .i64 P, .int .i64 Q, .int .i64 G]).alloc (.cells #[.int .i64 0, .int .i64 0] 39)
  have BR := Blk.new (w.alloc (.cells #[.int .i64 P, .int .i64 Q, .int .i64 G] 37)) 39 #[.int .i64 0, .int .i64 0]
  simp only [World.size_alloc] at BR
  have h0 := h.ext hE
  have hsz : ((w.alloc (.cells #[.int .i64 P, .int .i64 Q, .int .i64 G] 37)).alloc (.cells #[.int .i64 0, .int .i64 0] 39)).heap.size = w.heap.size + 2 := by simp only [World.size_alloc]
  have hO0 := hE.toOnly [g]
  go_enter Try.func112, Try.ntmps112
  go_wp2
  generalize (w.alloc (.cells #[.int .i64 P, .int .i64 Q, .int .i64 G] 37)).alloc (.cells #[.int .i64 0, .int .i64 0] 39) = Wb at *
  clear hE
  have C0 := B0.drew.cells
  go_region_held3 (fun V => V.cell? ⟨w.heap.size, 0, none⟩ = some (.int .i64 P) ∧ V.cell? ⟨w.heap.size, 1, none⟩ = some (.int .i64 Q) ∧ V.cell? ⟨w.heap.size, 2, none⟩ = some (.int .i64 G)) (first | exact ⟨C0 0, C0 1, C0 2⟩ | exact ⟨C1 0, C1 1, C1 2⟩ | exact ⟨C2 0, C2 1, C2 2⟩ | exact ⟨C3 _ _ 0, C3 _ _ 1, C3 _ _ 2⟩)
    ((go_at_call 121; first
      | (have hz := hC1; refine (anyElement_any g _ P Q G _ hC1 (by omega) (by omega) hD).mono ?_; rintro e w2 ⟨b, rfl, hb0, hb1, hO2, hC2⟩; have B2 := B1.only hO2 (by simp <;> omega); have C2 := B2.cells; have BX := BR1.only hO2 (by simp <;> omega); have F := BX.frozen; have CX := BX.cells; have C3 := fun u v => ((B2.far (p := ⟨w.heap.size + 1, 0, none⟩) (by simp) u).far (p := ⟨w.heap.size + 1, 1, none⟩) (by simp) v).cells)
      | (refine (anyElement_any g _ P Q G _ (h0.ext ((Ext.refl _).drew)) (by omega) (by simp; omega) hD).mono ?_; rintro e w1 ⟨a, rfl, ha0, ha1, hO1, hC1⟩; have B1 := B0.drew.only hO1 (by simp <;> omega); have C1 := B1.cells; have BR1 := BR.drew.only hO1 (by simp <;> omega); have hs1 := B1.lt)
      | fail))
  go_wp2
  refine ret_ci (a := a) (b := b) ((BX.set_ 0 (.int .i64 a)).set_ 1 (.int .i64 b)) rfl rfl ?_
  have L9 := below_two (g := w.heap.size + 1) w2 (.int .i64 a) (.int .i64 b)
  exact ⟨a, b, rfl, ha0, ha1, hb0, hb1, (((hO0.drewN 1).thenOnly hO1).thenOnly hO2).thenBelow L9 (by omega), (hC2.below (L9.mono (by omega))).more (by omega)⟩

/-- At the return: a group that lies in a cell, an int, a pair that lies in a cell. -/
theorem ret_gic {fn : Func} {w : World} {g d : Nat} {t u v : Tmp} {a b c x y z : Int} {tm : Array Value} {Q : Ending → World → Prop}
    (B : Blk w g 37 #[.int .i64 a, .int .i64 b, .int .i64 c]) (D : Blk w d 39 #[.int .i64 y, .int .i64 z])
    (h : fn.results = #[.cell t 37, .tmp u, .cell v 39]) (ht : tm.getD t undef = .pointer (some ⟨g, 0, none⟩)) (hu : tm.getD u undef = .int .i64 x) (hv : tm.getD v undef = .pointer (some ⟨d, 0, none⟩)) (hQ : Q (.returned (.tuple #[.agg #[.int .i64 a, .int .i64 b, .int .i64 c], .int .i64 x, .agg #[.int .i64 y, .int .i64 z]])) w) :
    bodyPost Try.prog fn Q .ret { tmps := tm, defers := [] } w := by
  have C := B.cells
  have C2 := D.cells
  refine bodyPost_ret (v := .tuple #[.agg #[.int .i64 a, .int .i64 b, .int .i64 c], .int .i64 x, .agg #[.int .i64 y, .int .i64 z]]) ?_ rfl hQ
  have ht' : (tm[t]?).getD undef = .pointer (some ⟨g, 0, none⟩) := by simpa using ht
  have hu' : (tm[u]?).getD undef = .int .i64 x := by simpa using hu
  have hv' : (tm[v]?).getD undef = .pointer (some ⟨d, 0, none⟩) := by simpa using hv
  simp [results, h, ht', hu', hv', go_sem, C, C2]
/-- At the return: a group that lies in a cell, three ints. -/
theorem ret_giii {fn : Func} {w : World} {g : Nat} {t u v s : Tmp} {a b c x y z : Int} {tm : Array Value} {Q : Ending → World → Prop}
    (B : Blk w g 37 #[.int .i64 a, .int .i64 b, .int .i64 c])
    (h : fn.results = #[.cell t 37, .tmp u, .tmp v, .tmp s]) (ht : tm.getD t undef = .pointer (some ⟨g, 0, none⟩)) (hu : tm.getD u undef = .int .i64 x) (hv : tm.getD v undef = .int .i64 y) (hs : tm.getD s undef = .int .i64 z) (hQ : Q (.returned (.tuple #[.agg #[.int .i64 a, .int .i64 b, .int .i64 c], .int .i64 x, .int .i64 y, .int .i64 z])) w) :
    bodyPost Try.prog fn Q .ret { tmps := tm, defers := [] } w := by
  have C := B.cells
  refine bodyPost_ret (v := .tuple #[.agg #[.int .i64 a, .int .i64 b, .int .i64 c], .int .i64 x, .int .i64 y, .int .i64 z]) ?_ rfl hQ
  have ht' : (tm[t]?).getD undef = .pointer (some ⟨g, 0, none⟩) := by simpa using ht
  have hu' : (tm[u]?).getD undef = .int .i64 x := by simpa using hu
  have hv' : (tm[v]?).getD undef = .int .i64 y := by simpa using hv
  have hs' : (tm[s]?).getD undef = .int .i64 z := by simpa using hs
  simp [results, h, ht', hu', hv', hs', go_sem, C]

def DrawnGIC (w : World) (e : Ending) (w' : World) : Prop := ∃ P Q G x a b : Int, e = .returned (.tuple #[.agg #[.int .i64 P, .int .i64 Q, .int .i64 G], .int .i64 x, .agg #[.int .i64 a, .int .i64 b]]) ∧ Ext w w'
set_option maxRecDepth 100000 in
set_option maxHeartbeats 4000000 in
theorem DrawDecryptElement_any (A : Option Addr) (n c : Nat) (l : List Int) (w : World) (hR : RdB w A l) (hl : l.length = n) (hn : n ≤ 9223372036854775807) (hx : ∀ x ∈ l, 0 ≤ x ∧ x ≤ 255) :
    Calls Try.prog 24 #[.slice A n c] w fun e w' => DrawnGIC w e w' := by
  have hE0 := ((Ext.refl w).alloc (.cells #[.int .i64 0, .int .i64 0, .int .i64 0] 37)).alloc (.cells #[.int .i64 0, .int .i64 0] 39)
  have B2 := (Blk.new w 37 #[.int .i64 0, .int .i64 0, .int .i64 0]).alloc (.cells #[.int .i64 0, .int .i64 0] 39)
  have B4 := Blk.new (w.alloc (.cells #[.int .i64 0, .int .i64 0, .int .i64 0] 37)) 39 #[.int .i64 0, .int .i64 0]
  have hC := new_cur (c := c) (hR.ext hE0) hl hn hx
  simp only [World.size_alloc] at hC B4
  clear hl hx hR
  replace B2 := B2.alloc (.cells #[.slice A n c, .int .i64 0, .int .u64 0] 126)
  replace B4 := B4.alloc (.cells #[.slice A n c, .int .i64 0, .int .u64 0] 126)
  have hE1 := hE0.alloc (.cells #[.slice A n c, .int .i64 0, .int .u64 0] 126)
  go_enter Try.func24, Try.ntmps24
  go_wp2_with fail
  refine (anyGroup_any (w.heap.size + 1 + 1) 0 _ hC (by omega) (by simp)).mono ?_
  rintro e w1 ⟨P, Q, G, rfl, hD, hO1, hC1⟩
  have hsz1 : w.heap.size + 3 ≤ w1.heap.size := by have := hO1.size; simp at this; omega
  have E := hE1.only hO1 (fun b hb => by simp at hb; omega)
  have B5 := Blk.new w1 37 #[.int .i64 P, .int .i64 Q, .int .i64 G]
  have hE5 := (Ext.refl w1).alloc (.cells #[.int .i64 P, .int .i64 Q, .int .i64 G] 37)
  have B22 := (B2.only hO1 (by simp <;> omega)).ext hE5
  have B42 := (B4.only hO1 (by simp)).ext hE5
  have hC5 := hC1.ext hE5
  replace E := E.trans hE5
  clear hE0 hE1 hC hO1 hC1 hE5 B2 B4
  go_upto_region 3 with (fail)
  have hs5 : w1.heap.size < (w1.alloc (.cells #[.int .i64 P, .int .i64 Q, .int .i64 G] 37)).heap.size := by simp
  generalize hg5 : w1.heap.size = g5 at *
  generalize hW5 : w1.alloc (.cells #[.int .i64 P, .int .i64 Q, .int .i64 G] 37) = w5 at *
  clear hW5 hg5
  have hS : ∀ V, Blk V g5 37 #[.int .i64 P, .int .i64 Q, .int .i64 G] → V.cell? ⟨g5, 0, none⟩ = some (.int .i64 P) ∧ V.cell? ⟨g5, 1, none⟩ = some (.int .i64 Q) ∧ V.cell? ⟨g5, 2, none⟩ = some (.int .i64 G) := fun V h => ⟨h.cells 0, h.cells 1, h.cells 2⟩
  go_region_held3 (fun w' => w'.cell? ⟨g5, 0, none⟩ = some (.int .i64 P) ∧ w'.cell? ⟨g5, 1, none⟩ = some (.int .i64 Q) ∧ w'.cell? ⟨g5, 2, none⟩ = some (.int .i64 G)) (exact hS _ (by repeat (first | with_reducible assumption | with_reducible refine Blk.drew ?_ | with_reducible refine Blk.drewN ?_ _ | with_reducible refine Blk.farr ?_ ?_ | (show _ ≠ _; first | omega | (simp; done) | (simp; omega)))))
    (first
      | (go_at_call 111; refine (anyExpo_any (w.heap.size + 1 + 1) _ P Q G _ (hC5.ext ((Ext.refl _).drew)) (by omega) (by simp; omega) hD).mono ?_; rintro e w6 ⟨x, rfl, hx0, hx1, hO6, hC6⟩; have B6 := B5.drew.only hO6 (by simp <;> omega); have B23 := B22.drew.only hO6 (by simp <;> omega); have B43 := B42.drew.only hO6 (by simp); have hs6 := B6.lt)
      | (go_at_call 112; refine (anyCipher_any (w.heap.size + 1 + 1) _ P Q G _ hC6 (by omega) (by omega) hD).mono ?_; rintro e w7 ⟨a, b, rfl, ha0, ha1, hb0, hb1, hO7, hC7⟩; have B7 := B6.only hO7 (by simp <;> omega); have B24 := B23.only hO7 (by simp <;> omega); have B44 := B43.only hO7 (by simp); have C24 := B24.cells; have F24 := B24.frozen; have C44 := B44.cells; have F44 := B44.frozen;
          have B25 := fun (u v z : Value) => ((B24.set_ 0 u).set_ 1 v).set_ 2 z; have B45 := fun (u v z : Value) => ((B44.far (p := ⟨w.heap.size, 0, none⟩) (by simp) u).far (p := ⟨w.heap.size, 1, none⟩) (by simp) v).far (p := ⟨w.heap.size, 2, none⟩) (by simp) z; have F45 := fun (u v z : Value) => (B45 u v z).frozen; have C45 := fun (u v z : Value) => (B45 u v z).cells;
          have F25 := fun (u v : Value) => ((B24.far (p := ⟨w.heap.size + 1, 0, none⟩) (by simp) u).far (p := ⟨w.heap.size + 1, 1, none⟩) (by simp) v).frozen; have C25 := fun (u v : Value) => ((B24.far (p := ⟨w.heap.size + 1, 0, none⟩) (by simp) u).far (p := ⟨w.heap.size + 1, 1, none⟩) (by simp) v).cells)
      | fail)
  go_wp2
  refine ret_gic (a := P) (b := Q) (c := G) (x := x) (y := a) (z := b) (((B25 (.int .i64 P) (.int .i64 Q) (.int .i64 G)).far (p := ⟨w.heap.size + 1, 0, none⟩) (by simp) _).far (p := ⟨w.heap.size + 1, 1, none⟩) (by simp) _) (((B45 (.int .i64 P) (.int .i64 Q) (.int .i64 G)).set_ 0 (.int .i64 a)).set_ 1 (.int .i64 b)) rfl rfl rfl rfl ?_
  have L9 := below_three (g := w.heap.size) w7 (.int .i64 P) (.int .i64 Q) (.int .i64 G)
  exact ⟨P, Q, G, x, a, b, rfl, ((((E.drew).only hO6 (fun b hb => by simp at hb; omega)).only hO7 (fun b hb => by simp at hb; omega)).then L9 (Nat.le_refl _)).then (below_two (g := w.heap.size + 1) _ _ _) (by omega)⟩

def DrawnGIII (w : World) (e : Ending) (w' : World) : Prop := ∃ P Q G x y z : Int, e = .returned (.tuple #[.agg #[.int .i64 P, .int .i64 Q, .int .i64 G], .int .i64 x, .int .i64 y, .int .i64 z]) ∧ Ext w w'
set_option maxRecDepth 100000 in
set_option maxHeartbeats 4000000 in
theorem DrawEncryptElement_any (A : Option Addr) (n c : Nat) (l : List Int) (w : World) (hR : RdB w A l) (hl : l.length = n) (hn : n ≤ 9223372036854775807) (hx : ∀ x ∈ l, 0 ≤ x ∧ x ≤ 255) :
    Calls Try.prog 27 #[.slice A n c] w fun e w' => DrawnGIII w e w' := by
  have hE0 := (Ext.refl w).alloc (.cells #[.int .i64 0, .int .i64 0, .int .i64 0] 37)
  have B2 := Blk.new w 37 #[.int .i64 0, .int .i64 0, .int .i64 0]
  have hC := new_cur (c := c) (hR.ext hE0) hl hn hx
  simp only [World.size_alloc] at hC
  clear hl hx hR
  replace B2 := B2.alloc (.cells #[.slice A n c, .int .i64 0, .int .u64 0] 126)
  have hE1 := hE0.alloc (.cells #[.slice A n c, .int .i64 0, .int .u64 0] 126)
  go_enter Try.func27, Try.ntmps27
  go_wp2_with fail
  refine (anyGroup_any (w.heap.size + 1) 0 _ hC (by omega) (by simp)).mono ?_
  rintro e w1 ⟨P, Q, G, rfl, hD, hO1, hC1⟩
  have hsz1 : w.heap.size + 2 ≤ w1.heap.size := by have := hO1.size; simp at this; omega
  have E := hE1.only hO1 (fun b hb => by simp at hb; omega)
  have B5 := Blk.new w1 37 #[.int .i64 P, .int .i64 Q, .int .i64 G]
  have hE5 := (Ext.refl w1).alloc (.cells #[.int .i64 P, .int .i64 Q, .int .i64 G] 37)
  have B22 := (B2.only hO1 (by simp)).ext hE5
  have hC5 := hC1.ext hE5
  replace E := E.trans hE5
  clear hE0 hE1 hC hO1 hC1 hE5 B2
  go_upto_region 3 with (fail)
  have hs5 : w1.heap.size < (w1.alloc (.cells #[.int .i64 P, .int .i64 Q, .int .i64 G] 37)).heap.size := by simp
  generalize hg5 : w1.heap.size = g5 at *
  generalize hW5 : w1.alloc (.cells #[.int .i64 P, .int .i64 Q, .int .i64 G] 37) = w5 at *
  clear hW5 hg5
  have hS : ∀ V, Blk V g5 37 #[.int .i64 P, .int .i64 Q, .int .i64 G] → V.cell? ⟨g5, 0, none⟩ = some (.int .i64 P) ∧ V.cell? ⟨g5, 1, none⟩ = some (.int .i64 Q) ∧ V.cell? ⟨g5, 2, none⟩ = some (.int .i64 G) := fun V h => ⟨h.cells 0, h.cells 1, h.cells 2⟩
  go_region_held3 (fun w' => w'.cell? ⟨g5, 0, none⟩ = some (.int .i64 P) ∧ w'.cell? ⟨g5, 1, none⟩ = some (.int .i64 Q) ∧ w'.cell? ⟨g5, 2, none⟩ = some (.int .i64 G)) (exact hS _ (by repeat (first | with_reducible assumption | with_reducible refine Blk.drew ?_ | with_reducible refine Blk.drewN ?_ _ | with_reducible refine Blk.farr ?_ ?_ | (show _ ≠ _; first | omega | (simp; done) | (simp; omega)))))
    (first
      | (go_at_call 121; first
          | (have hz := hC6; refine (anyElement_any (w.heap.size + 1) _ P Q G _ hC6 (by omega) (by omega) hD).mono ?_; rintro e w7 ⟨y, rfl, hy0, hy1, hO7, hC7⟩; have B7 := B6.only hO7 (by simp <;> omega); have B24 := B23.only hO7 (by simp); have hs7 := B7.lt)
          | (refine (anyElement_any (w.heap.size + 1) _ P Q G _ (hC5.ext ((Ext.refl _).drew)) (by omega) (by simp; omega) hD).mono ?_; rintro e w6 ⟨x, rfl, hx0, hx1, hO6, hC6⟩; have B6 := B5.drew.only hO6 (by simp <;> omega); have B23 := B22.drew.only hO6 (by simp); have hs6 := B6.lt)
          | fail)
      | (go_at_call 111; refine (anyExpo_any (w.heap.size + 1) _ P Q G _ hC7 (by omega) (by omega) hD).mono ?_; rintro e w8 ⟨z, rfl, hz0, hz1, hO8, hC8⟩; have B8 := B7.only hO8 (by simp <;> omega); have B25 := B24.only hO8 (by simp); have C25 := B25.cells; have F25 := B25.frozen)
      | fail)
  go_wp2
  refine ret_giii (a := P) (b := Q) (c := G) (x := x) (y := y) (z := z) (((B25.set_ 0 (.int .i64 P)).set_ 1 (.int .i64 Q)).set_ 2 (.int .i64 G)) rfl rfl rfl rfl rfl ?_
  have L9 := below_three (g := w.heap.size) w8 (.int .i64 P) (.int .i64 Q) (.int .i64 G)
  exact ⟨P, Q, G, x, y, z, rfl, ((((E.drew).only hO6 (fun b hb => by simp at hb; omega)).only hO7 (fun b hb => by simp at hb; omega)).only hO8 (fun b hb => by simp at hb; omega)).then L9 (Nat.le_refl _)⟩
end Go.Proofs.Ytdimmfniefjjkaa
