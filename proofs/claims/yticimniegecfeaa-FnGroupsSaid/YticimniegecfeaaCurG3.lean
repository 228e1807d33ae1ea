/- Drawn groups with an element; drawn orders. -/
import Derived.Test.YticimniegecfeaaProg
import Derived.Test.YticimniegecfeaaCurG2
namespace Go.Proofs.Yticimniegecfeaa
open Go.RowKit

/-- At the return: a group that lies in a cell, and an int. -/
theorem ret_grpI {fn : Func} {w : World} {g : Nat} {t u : Tmp} {a b c x : Int} {tm : Array Value} {Q : Ending → World → Prop}
    (B : Blk w g 43 #[.int .i64 a, .int .i64 b, .int .i64 c])
    (h : fn.results = #[.cell t 43, .tmp u]) (ht : tm.getD t undef = .pointer (some ⟨g, 0, none⟩)) (hu : tm.getD u undef = .int .i64 x) (hQ : Q (.returned (.tuple #[.agg #[.int .i64 a, .int .i64 b, .int .i64 c], .int .i64 x])) w) :
    bodyPost Try.prog fn Q .ret { tmps := tm, defers := [] } w := by
  have C := B.cells
  refine bodyPost_ret (v := .tuple #[.agg #[.int .i64 a, .int .i64 b, .int .i64 c], .int .i64 x]) ?_ rfl hQ
  have ht' : (tm[t]?).getD undef = .pointer (some ⟨g, 0, none⟩) := by simpa using ht
  have hu' : (tm[u]?).getD undef = .int .i64 x := by simpa using hu
  simp [results, h, ht', hu', go_sem, C]

/-- A drawn group and a number. -/
def DrawnGI (w : World) (e : Ending) (w' : World) : Prop := ∃ P Q G x : Int, e = .returned (.tuple #[.agg #[.int .i64 P, .int .i64 Q, .int .i64 G], .int .i64 x]) ∧ GrpD P Q G ∧ -2000000000 ≤ x ∧ x ≤ 2000000000 ∧ Ext w w'

set_option maxRecDepth 100000 in
set_option maxHeartbeats 4000000 in
theorem DrawInverseOf_any (A : Option Addr) (n c : Nat) (l : List Int) (w : World) (hR : RdB w A l) (hl : l.length = n) (hn : n ≤ 9223372036854775807) (hx : ∀ x ∈ l, 0 ≤ x ∧ x ≤ 255) :
    Calls Try.prog 30 #[.slice A n c] w fun e w' => DrawnGI w e w' := by
  have hE0 := (Ext.refl w).alloc (.cells #[.int .i64 0, .int .i64 0, .int .i64 0] 43)
  have B2 := Blk.new w 43 #[.int .i64 0, .int .i64 0, .int .i64 0]
  have hC := new_cur (c := c) (hR.ext hE0) hl hn hx
  simp only [World.size_alloc] at hC
  clear hl hx hR
  replace B2 := B2.alloc (.cells #[.slice A n c, .int .i64 0, .int .u64 0] 126)
  have hE1 := hE0.alloc (.cells #[.slice A n c, .int .i64 0, .int .u64 0] 126)
  go_enter Try.func30, Try.ntmps30
  go_wp2_with fail
  refine (anyGroup_any (w.heap.size + 1) 0 _ hC (by omega) (by simp)).mono ?_
  rintro e w1 ⟨P, Q, G, rfl, hD, hO1, hC1⟩
  have hsz1 : w.heap.size + 2 ≤ w1.heap.size := by have := hO1.size; simp at this; omega
  have E := hE1.only hO1 (fun b hb => by simp at hb; omega)
  have B5 := Blk.new w1 43 #[.int .i64 P, .int .i64 Q, .int .i64 G]
  have hE5 := (Ext.refl w1).alloc (.cells #[.int .i64 P, .int .i64 Q, .int .i64 G] 43)
  have B22 := (B2.only hO1 (by simp)).ext hE5
  have hC5 := hC1.ext hE5
  replace E := E.trans hE5
  clear hE0 hE1 hC hO1 hC1 hE5 B2
  go_upto_region 3 with (fail)
  have hs5 : w1.heap.size < (w1.alloc (.cells #[.int .i64 P, .int .i64 Q, .int .i64 G] 43)).heap.size := by simp
  generalize hg5 : w1.heap.size = g5 at *
  generalize hW5 : w1.alloc (.cells #[.int .i64 P, .int .i64 Q, .int .i64 G] 43) = w5 at *
  clear hW5 hg5
  have C5 := B5.drew.cells
  have CZ := B22.drew.cells
  have FZ := B22.drew.frozen
  go_region_held3 (fun w' => w'.cell? ⟨g5, 0, none⟩ = some (.int .i64 P) ∧ w'.cell? ⟨g5, 1, none⟩ = some (.int .i64 Q) ∧ w'.cell? ⟨g5, 2, none⟩ = some (.int .i64 G)) (first | exact ⟨C5 0, C5 1, C5 2⟩ | exact ⟨C6 0, C6 1, C6 2⟩ | exact ⟨C7 _ _ _ 0, C7 _ _ _ 1, C7 _ _ _ 2⟩)
    ((go_at_call 123; refine (anyElement_any (w.heap.size + 1) _ P Q G _ (hC5.ext ((Ext.refl _).drew)) (by omega) (by simp; omega) hD).mono ?_; rintro e w6 ⟨x, rfl, hx0, hx1, hO6, hC6⟩; have B6 := B5.drew.only hO6 (by simp <;> omega); have C6 := B6.cells; have B23 := B22.drew.only hO6 (by simp); have C23 := B23.cells; have F23 := B23.frozen; have C7 := fun (a b c : Value) => (((B6.far (p := ⟨w.heap.size, 0, none⟩) (by simp <;> omega) a).far (p := ⟨w.heap.size, 1, none⟩) (by simp <;> omega) b).far (p := ⟨w.heap.size, 2, none⟩) (by simp <;> omega) c).cells))
  go_wp2
  refine ret_grpI (a := P) (b := Q) (c := G) (x := x) (((B23.set_ 0 (.int .i64 P)).set_ 1 (.int .i64 Q)).set_ 2 (.int .i64 G)) rfl rfl rfl ?_
  have L9 := below_three (g := w.heap.size) w6 (.int .i64 P) (.int .i64 Q) (.int .i64 G)
  exact ⟨P, Q, G, x, rfl, hD, hx0, hx1, ((E.drew).only hO6 (fun b hb => by simp at hb; omega)).then L9 (Nat.le_refl _)⟩

set_option maxRecDepth 100000 in
set_option maxHeartbeats 4000000 in
theorem DrawMakeGroup_any (A : Option Addr) (n c : Nat) (l : List Int) (w : World) (hR : RdB w A l) (hl : l.length = n) (hn : n ≤ 9223372036854775807) (hx : ∀ x ∈ l, 0 ≤ x ∧ x ≤ 255) :
    Calls Try.prog 33 #[.slice A n c] w fun e w' => ∃ r : Int, e = .returned (.int .i64 r) ∧ Ext w w' := by
  have hC := new_cur (c := c) hR hl hn hx
  clear hl hx hR
  go_enter Try.func33, Try.ntmps33
  go_wp2_with fail
  refine (pick_any w.heap.size 0 400 _ hC (by omega) (by omega)).mono ?_
  rintro e w1 ⟨x, rfl, hx, hO1, hC1⟩
  have hz := hO1.size
  rw [World.size_alloc] at hz
  go_wp2_with fail
  refine (among_new w.heap.size _ 14 [2, 3, 5, 7, 11, 13, 101, 1019, 999983, 1, 4, 0, 1000003, (x : Int)] _ w1 hC1 (by omega) rfl rfl (by omega) (by omega) hz).mono ?_
  rintro e w2 ⟨r, rfl, hr, hO2, hC2⟩
  go_wp2
  go_ret
  exact ⟨r, rfl, ext_cur (hO1.thenOnly hO2)⟩
end Go.Proofs.Yticimniegecfeaa
