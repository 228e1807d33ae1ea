/- Spoilt proofs, and draws of proofs of equal logarithms. (Printed by tools/gen_bent.py.) -/
import Derived.Test.YtpfccboighdcbaaProg
import Derived.Test.YtpfccboighdcbaaCurS
import Derived.Test.YtpfccboighdcbaaPf
import Derived.Test.YtpfccboighdcbaaLies
import Derived.Test.YtpfccboighdcbaaSig6
import Derived.Deep.CutRange
namespace Go.Proofs.Ytpfccboighdcbaa
open Go.RowKit
set_option linter.unusedSimpArgs false
set_option linter.unusedVariables false

theorem ownL_3 {w1 w2 w3 : World} {base b1 b2 b3 : Nat} {A1 A2 A3 : Option Addr} {n1 d1 n2 d2 n3 d3 : Nat} {l1 l2 l3 : List Int} (O1 : OwnI w1 b1 3 A1 n1 d1 l1) (O2 : OwnI w2 b2 3 A2 n2 d2 l2) (O3 : OwnI w3 b3 3 A3 n3 d3 l3) (h1 : base ≤ b1) (h2 : w1.heap.size ≤ b2) (h3 : w2.heap.size ≤ b3) (hb : b1 ≤ w1.heap.size) (E2 : Ext w1 w2) (E3 : Ext w2 w3) : OwnL w3 base [(A1, n1, d1), (A2, n2, d2), (A3, n3, d3)] [l1, l2, l3] := by
  have z2 := E2.size
  have a1 := O1.low
  have a2 := O2.high
  have a22 := O2.low
  have a3 := O3.high
  refine OwnL.cons ((O1.ext (E2.trans E3)).more h1) (OwnL.cons ((O2.ext E3).more (by omega)) (OwnL.one (O3.more (by omega))) ?_) ?_
  · rw [rowsFp_one]; exact Apart.of_low a22 fun b hb => Nat.le_trans h3 (a3 b hb)
  · rw [rowsFp_cons, rowsFp_one]
    refine Apart.of_low a1 fun b hb => ?_
    rcases List.mem_append.1 hb with hb | hb
    · exact Nat.le_trans h2 (a2 b hb)
    · exact Nat.le_trans (Nat.le_trans z2 h3) (a3 b hb)
theorem OwnL.at_ {w : World} {base : Nat} {rs : List (Option Addr × Nat × Nat)} {ls : List (List Int)} (h : OwnL w base rs ls) {j n c : Nat} {A : Option Addr} (hr : rs[j]? = some (A, n, c)) :
    ∃ l, OwnI w base 3 A n c l ∧ ∀ w' l', OwnI w' base 3 A n c l' → Only (fpI A) w w' → ∃ ls', OwnL w' base rs ls' := by
  obtain ⟨hj, e⟩ := List.getElem?_eq_some_iff.1 hr
  have hj' : j < ls.length := by have := h.len; omega
  have h1 := h.own j hj hj'
  rw [e] at h1
  refine ⟨ls[j], h1, fun w' l' h2 h3 => ⟨_, h.turn hj (l' := l') (by rw [e]; exact h2) (by rw [e]; exact h3)⟩⟩
theorem pickRow {w : World} {g : Nat} {t : TypeId} {A1 A2 A3 : Option Addr} {n1 d1 n2 d2 n3 d3 : Nat} (h : Blk w g t #[.slice A1 n1 d1, .slice A2 n2 d2, .slice A3 n3 d3]) {r : Nat} (hr : (r : Int) < 3 ∨ r = 0) :
    ∃ A n c, [(A1, n1, d1), (A2, n2, d2), (A3, n3, d3)][r]? = some (A, n, c) ∧ w.cell? ⟨g, r, none⟩ = some (.slice A n c) ∧ (r : Int) < 3 := by
  have h3 : r < 3 := by omega
  match r, h3 with
  | 0, _ => exact ⟨A1, n1, d1, rfl, h.cells 0, by decide⟩
  | 1, _ => exact ⟨A2, n2, d2, rfl, h.cells 1, by decide⟩
  | 2, _ => exact ⟨A3, n3, d3, rfl, h.cells 2, by decide⟩
/-- Where a spoilt proof stands: its group, its slices, the result's block, the cursor. -/
structure BentI (z g kk B : Nat) (P Q G : Int) (w : World) (A1 : Option Addr) (n1 d1 : Nat) (A2 : Option Addr) (n2 d2 : Nat) (A3 : Option Addr) (n3 d3 : Nat) (ls : List (List Int)) (V : World) : Prop where
  b0 : Blk V z 38 #[.int .i64 P, .int .i64 Q, .int .i64 G]
  b1 : Blk V (z + 1) 44 #[.slice A1 n1 d1, .slice A2 n2 d2, .slice A3 n3 d3]
  b2 : Blk V (z + 1 + 1) 44 #[.slice none 0 0, .slice none 0 0, .slice none 0 0]
  own : OwnL V (z + 1 + 1 + 1) [(A1, n1, d1), (A2, n2, d2), (A3, n3, d3)] ls
  only : Only [g] w V
  cur : CurS B V g kk
theorem BentI.call {z g kk k' B : Nat} {P Q G : Int} {w : World} {A1 : Option Addr} {n1 d1 : Nat} {A2 : Option Addr} {n2 d2 : Nat} {A3 : Option Addr} {n3 d3 : Nat} {ls : List (List Int)} {V V' : World} (h : BentI z g kk B P Q G w A1 n1 d1 A2 n2 d2 A3 n3 d3 ls V) (hg : g < z) (hO : Only [g] V V') (hC : CurS B V' g k') : BentI z g k' B P Q G w A1 n1 d1 A2 n2 d2 A3 n3 d3 ls V' :=
  ⟨h.b0.only hO (by simp; omega), h.b1.only hO (by simp; omega), h.b2.only hO (by simp; omega), h.own.only hO (fun b hb hb' => by have := h.own.high b hb; simp at hb'; omega), h.only.thenOnly hO, hC⟩
theorem BentI.ext {z g kk B : Nat} {P Q G : Int} {w : World} {A1 : Option Addr} {n1 d1 : Nat} {A2 : Option Addr} {n2 d2 : Nat} {A3 : Option Addr} {n3 d3 : Nat} {ls : List (List Int)} {V V' : World} (h : BentI z g kk B P Q G w A1 n1 d1 A2 n2 d2 A3 n3 d3 ls V) (hE : Ext V V') : BentI z g kk B P Q G w A1 n1 d1 A2 n2 d2 A3 n3 d3 ls V' :=
  ⟨h.b0.ext hE, h.b1.ext hE, h.b2.ext hE, h.own.ext hE, h.only.thenOnly (hE.toOnly [g]), h.cur.ext hE⟩
theorem s3_no (A1 A2 A3 : Option Addr) (n1 d1 n2 d2 n3 d3 i : Nat) (y : Int) : (#[.slice A1 n1 d1, .slice A2 n2 d2, .slice A3 n3 d3] : Array Value)[i]? ≠ some (.int .i64 y) := by
  intro h
  match i with
  | 0 => simp at h
  | 1 => simp at h
  | 2 => simp at h
  | i + 3 => simp at h
theorem OwnL.sl3 {w : World} {base : Nat} {A1 : Option Addr} {n1 d1 : Nat} {A2 : Option Addr} {n2 d2 : Nat} {A3 : Option Addr} {n3 d3 : Nat} {ls : List (List Int)} (h : OwnL w base [(A1, n1, d1), (A2, n2, d2), (A3, n3, d3)] ls) : ∃ l1 l2 l3, ls = [l1, l2, l3] ∧ OwnI w base 3 A1 n1 d1 l1 ∧ OwnI w base 3 A2 n2 d2 l2 ∧ OwnI w base 3 A3 n3 d3 l3 := by
  have e := h.len
  match ls, e with
  | [l1, l2, l3], _ => exact ⟨l1, l2, l3, rfl, h.three⟩
theorem OwnL.ap3 {w : World} {base : Nat} {A1 : Option Addr} {n1 d1 : Nat} {A2 : Option Addr} {n2 d2 : Nat} {A3 : Option Addr} {n3 d3 : Nat} {ls : List (List Int)} (h : OwnL w base [(A1, n1, d1), (A2, n2, d2), (A3, n3, d3)] ls) : Apart (fpI A1) (fpI A2) ∧ Apart (fpI A1) (fpI A3) ∧ Apart (fpI A2) (fpI A3) := by
  have h1 := rowsFp_apart (i := 0) (j := 1) h.nd (by simp) (by simp) (by omega)
  have h2 := rowsFp_apart (i := 0) (j := 2) h.nd (by simp) (by simp) (by omega)
  have h3 := rowsFp_apart (i := 1) (j := 2) h.nd (by simp) (by simp) (by omega)
  exact ⟨h1, h2, h3⟩
theorem rowLe {A1 : Option Addr} {n1 d1 : Nat} {A2 : Option Addr} {n2 d2 : Nat} {A3 : Option Addr} {n3 d3 : Nat} {j n c : Nat} {A : Option Addr} (hr : [(A1, n1, d1), (A2, n2, d2), (A3, n3, d3)][j]? = some (A, n, c)) (h1 : n1 ≤ 1000) (h2 : n2 ≤ 1000) (h3 : n3 ≤ 1000) : n ≤ 1000 := by
  match j, hr with
  | 0, hr => simp at hr; omega
  | 1, hr => simp at hr; omega
  | 2, hr => simp at hr; omega
  | j + 3, hr => simp at hr
theorem BentI.more {z g kk k' B : Nat} {P Q G : Int} {w : World} {A1 : Option Addr} {n1 d1 : Nat} {A2 : Option Addr} {n2 d2 : Nat} {A3 : Option Addr} {n3 d3 : Nat} {ls : List (List Int)} {V : World} (h : BentI z g kk B P Q G w A1 n1 d1 A2 n2 d2 A3 n3 d3 ls V) (hk : kk ≤ k') : BentI z g k' B P Q G w A1 n1 d1 A2 n2 d2 A3 n3 d3 ls V :=
  ⟨h.b0, h.b1, h.b2, h.own, h.only, h.cur.more hk⟩
theorem bentI_start {z g k B b : Nat} {P Q G : Int} {w Wb w1 w2 w3 : World} {A1 : Option Addr} {n1 d1 : Nat} {A2 : Option Addr} {n2 d2 : Nat} {A3 : Option Addr} {n3 d3 : Nat} {l1 l2 l3 : List Int} {u1 u2 u3 : Value} (B0 : Blk Wb z 38 #[.int .i64 P, .int .i64 Q, .int .i64 G]) (B1 : Blk Wb (z + 1) 44 #[u1, u2, u3]) (B2 : Blk Wb (z + 1 + 1) 44 #[.slice none 0 0, .slice none 0 0, .slice none 0 0])
    (hg : g < z) (hB : B ≤ z) (hw : w.heap.size ≤ z) (hO0 : Only [g] w Wb) (h0 : CurS B Wb g k) (O1 : OwnI w1 b 3 A1 n1 d1 l1) (O2 : OwnI w2 w1.heap.size 3 A2 n2 d2 l2) (O3 : OwnI w3 w2.heap.size 3 A3 n3 d3 l3) (hzb : z + 1 + 1 + 1 ≤ b) (hb : b ≤ w1.heap.size) (E1 : Ext Wb w1) (E2 : Ext w1 w2) (E3 : Ext w2 w3) :
    BentI z g k B P Q G w A1 n1 d1 A2 n2 d2 A3 n3 d3 [l1, l2, l3] (((w3.setCell ⟨z + 1, 0, none⟩ (.slice A1 n1 d1)).setCell ⟨z + 1, 1, none⟩ (.slice A2 n2 d2)).setCell ⟨z + 1, 2, none⟩ (.slice A3 n3 d3)) := by
  have E := (E1.trans E2).trans E3
  have L := ownL_3 O1 O2 O3 hzb (Nat.le_refl _) (Nat.le_refl _) hb E2 E3
  have hon := only_3 w3 (z + 1) (.slice A1 n1 d1) (.slice A2 n2 d2) (.slice A3 n3 d3)
  have zw := E.size
  have zb := B2.lt
  have B1' : Blk (((w3.setCell ⟨z + 1, 0, none⟩ (.slice A1 n1 d1)).setCell ⟨z + 1, 1, none⟩ (.slice A2 n2 d2)).setCell ⟨z + 1, 2, none⟩ (.slice A3 n3 d3)) (z + 1) 44 #[.slice A1 n1 d1, .slice A2 n2 d2, .slice A3 n3 d3] := (((B1.ext E).set_ 0 (.slice A1 n1 d1)).set_ 1 (.slice A2 n2 d2)).set_ 2 (.slice A3 n3 d3)
  exact ⟨(B0.ext E).only hon (by simp), B1', (B2.ext E).only hon (by simp), L.only hon (fun b hb hb' => by have := L.high b hb; simp at hb'; omega),
    (hO0.thenOnly (E.toOnly [g])).thenHigh hon (fun b hb => by simp at hb; omega), (h0.ext E).only hon (fun b hb => by simp at hb; omega) (by omega)⟩
theorem BentI.put {z g kk B ga r : Nat} {P Q G y : Int} {w : World} {A1 : Option Addr} {n1 d1 : Nat} {A2 : Option Addr} {n2 d2 : Nat} {A3 : Option Addr} {n3 d3 : Nat} {ls : List (List Int)} {V : World} {j n c : Nat} (h : BentI z g kk B P Q G w A1 n1 d1 A2 n2 d2 A3 n3 d3 ls V) (hr : [(A1, n1, d1), (A2, n2, d2), (A3, n3, d3)][j]? = some (some ⟨ga, 0, none⟩, n, c)) (hw : w.heap.size ≤ z) (hB : B ≤ z) :
    ∃ ls', BentI z g kk B P Q G w A1 n1 d1 A2 n2 d2 A3 n3 d3 ls' (V.setCell ⟨ga, r, none⟩ (.int .i64 y)) := by
  obtain ⟨l, hO, ht⟩ := h.own.at_ hr
  have hh : z + 1 + 1 + 1 ≤ ga := hO.high ga (by simp [fpI])
  have hon : Only [ga] V (V.setCell ⟨ga, r, none⟩ (.int .i64 y)) := (Only.refl _ _).setCell (by simp) _
  obtain ⟨ls', hL⟩ := ht _ _ (hO.set (j := r) y) hon
  have zb := h.b2.lt
  exact ⟨ls', h.b0.only hon (by simp; omega), h.b1.only hon (by simp; omega), h.b2.only hon (by simp; omega), hL, h.only.thenHigh hon (fun b hb => by simp at hb; omega), h.cur.only hon (fun b hb => by simp at hb; omega) (by omega)⟩
def BentP (B g k : Nat) (w : World) (en : Ending) (w' : World) : Prop := ∃ (A1 : Option Addr) (n1 d1 : Nat) (A2 : Option Addr) (n2 d2 : Nat) (A3 : Option Addr) (n3 d3 : Nat) (l1 l2 l3 : List Int),
  en = .returned (.agg #[.slice A1 n1 d1, .slice A2 n2 d2, .slice A3 n3 d3]) ∧ SlI w' A1 n1 d1 l1 ∧ SlI w' A2 n2 d2 l2 ∧ SlI w' A3 n3 d3 l3 ∧ (High w.heap.size (fpI A1) ∧ High w.heap.size (fpI A2) ∧ High w.heap.size (fpI A3)) ∧ Only [g] w w' ∧ CurS B w' g (k + 60)
theorem only_10 (w : World) (z : Nat) (a b c d e f g h i j : Value) : Only [z, z + 1, z + 1 + 1] w ((((((((((w.setCell ⟨z, 0, none⟩ a).setCell ⟨z, 1, none⟩ b).setCell ⟨z, 2, none⟩ c).setCell ⟨z + 1, 0, none⟩ d).setCell ⟨z + 1, 1, none⟩ e).setCell ⟨z + 1, 2, none⟩ f).setCell ⟨z + 1, 3, none⟩ g).setCell ⟨z + 1 + 1, 0, none⟩ h).setCell ⟨z + 1 + 1, 1, none⟩ i).setCell ⟨z + 1 + 1, 2, none⟩ j) :=
  (((((((((((Only.refl _ w).setCell (p := ⟨z, 0, none⟩) (by simp) a).setCell (p := ⟨z, 1, none⟩) (by simp) b).setCell (p := ⟨z, 2, none⟩) (by simp) c).setCell (p := ⟨z + 1, 0, none⟩) (by simp) d).setCell (p := ⟨z + 1, 1, none⟩) (by simp) e).setCell (p := ⟨z + 1, 2, none⟩) (by simp) f).setCell (p := ⟨z + 1, 3, none⟩) (by simp) g).setCell (p := ⟨z + 1 + 1, 0, none⟩) (by simp) h).setCell (p := ⟨z + 1 + 1, 1, none⟩) (by simp) i).setCell (p := ⟨z + 1 + 1, 2, none⟩) (by simp) j)
theorem High.le {B B' : Nat} {fp : List Nat} (h : High B' fp) (hb : B ≤ B') : High B fp := fun b hb' => Nat.le_trans hb (h b hb')
theorem SlI.off {w w' : World} {A : Option Addr} {n c : Nat} {l : List Int} {fp : List Nat} (h : SlI w A n c l) (ho : Only fp w w') (ha : Apart (fpI A) fp) : SlI w' A n c l := by
  refine ⟨?_, h.len, h.cap, h.max⟩
  rcases h.rd with h0 | ⟨ad, hA, hc⟩
  · exact .inl h0
  · refine .inr ⟨ad, hA, fun j u hu => ?_⟩
    have h1 := hc j u hu
    have hlt := World.block_lt_of_cell? w _ h1
    have h2 := ho.block _ hlt (ha _ (by rw [hA]; simp only [fpI, List.mem_singleton]; unfold Addr.add; split <;> rfl))
    simpa only [World.cell?, h2] using h1
theorem bent_end {z g kk k B : Nat} {w V : World} {A1 : Option Addr} {n1 d1 : Nat} {A2 : Option Addr} {n2 d2 : Nat} {A3 : Option Addr} {n3 d3 : Nat} {l1 l2 l3 : List Int} (b2 : Blk V (z + 1 + 1) 44 #[.slice none 0 0, .slice none 0 0, .slice none 0 0]) (s1 : SlI V A1 n1 d1 l1) (s2 : SlI V A2 n2 d2 l2) (s3 : SlI V A3 n3 d3 l3) (hO : Only [g] w V) (hC : CurS B V g kk) (hB : B ≤ z) (hw : w.heap.size ≤ z) (hk : kk ≤ k + 60) (f1 : High w.heap.size (fpI A1)) (f2 : High w.heap.size (fpI A2)) (f3 : High w.heap.size (fpI A3)) :
    BentP B g k w (.returned (.agg #[.slice A1 n1 d1, .slice A2 n2 d2, .slice A3 n3 d3])) (((V.setCell ⟨z + 1 + 1, 0, none⟩ (.slice A1 n1 d1)).setCell ⟨z + 1 + 1, 1, none⟩ (.slice A2 n2 d2)).setCell ⟨z + 1 + 1, 2, none⟩ (.slice A3 n3 d3)) := by
  have hon := only_3 V (z + 1 + 1) (.slice A1 n1 d1) (.slice A2 n2 d2) (.slice A3 n3 d3)
  have zb := b2.lt
  exact ⟨A1, n1, d1, A2, n2, d2, A3, n3, d3, l1, l2, l3, rfl, s1.far b2 z3_no hon, s2.far b2 z3_no hon, s3.far b2 z3_no hon, ⟨f1, f2, f3⟩, hO.thenHigh hon (fun b hb => by simp at hb; omega), (hC.only hon (fun b hb => by simp at hb; omega) (by omega)).more hk⟩
set_option maxRecDepth 100000 in
set_option maxHeartbeats 8000000 in
theorem bent_any {B : Nat} (g k : Nat) (P Q G : Int) (C1 C2 C3 : Option Addr) (m1 e1 m2 e2 m3 e3 : Nat) (x1 x2 x3 : List Int) (w : World) (h : CurS B w g k) (hk : k ≤ 700000) (hB : B ≤ w.heap.size) (hD : GrpD P Q G) (s1 : SlI w C1 m1 e1 x1) (s2 : SlI w C2 m2 e2 x2) (s3 : SlI w C3 m3 e3 x3) (h1 : m1 ≤ 1000) (h2 : m2 ≤ 1000) (h3 : m3 ≤ 1000) :
    Calls Try.prog 71 #[.pointer (some ⟨g, 0, none⟩), .agg #[.int .i64 P, .int .i64 Q, .int .i64 G], .agg #[.slice C1 m1 e1, .slice C2 m2 e2, .slice C3 m3 e3]] w fun en w' => BentP B g k w en w' := by
  have hg := h.lt
  have hgz : g < w.heap.size := by omega
  have E := ((((Ext.refl w).alloc (.cells #[.int .i64 P, .int .i64 Q, .int .i64 G] 38)).alloc (.cells #[.slice C1 m1 e1, .slice C2 m2 e2, .slice C3 m3 e3] 44)).alloc (.cells #[.slice none 0 0, .slice none 0 0, .slice none 0 0] 44))
  have B0 := (((Blk.new w 38 #[.int .i64 P, .int .i64 Q, .int .i64 G]).alloc (.cells #[.slice C1 m1 e1, .slice C2 m2 e2, .slice C3 m3 e3] 44)).alloc (.cells #[.slice none 0 0, .slice none 0 0, .slice none 0 0] 44))
  have B1 := ((Blk.new (w.alloc (.cells #[.int .i64 P, .int .i64 Q, .int .i64 G] 38)) 44 #[.slice C1 m1 e1, .slice C2 m2 e2, .slice C3 m3 e3]).alloc (.cells #[.slice none 0 0, .slice none 0 0, .slice none 0 0] 44))
  have B2 := (Blk.new ((w.alloc (.cells #[.int .i64 P, .int .i64 Q, .int .i64 G] 38)).alloc (.cells #[.slice C1 m1 e1, .slice C2 m2 e2, .slice C3 m3 e3] 44)) 44 #[.slice none 0 0, .slice none 0 0, .slice none 0 0])
  simp only [World.size_alloc] at B1 B2
  have h0 := h.ext E
  have hO0 := E.toOnly [g]
  have t1 := s1.ext E
  have t2 := s2.ext E
  have t3 := s3.ext E
  have hsz : w.heap.size + 1 + 1 + 1 ≤ (((w.alloc (.cells #[.int .i64 P, .int .i64 Q, .int .i64 G] 38)).alloc (.cells #[.slice C1 m1 e1, .slice C2 m2 e2, .slice C3 m3 e3] 44)).alloc (.cells #[.slice none 0 0, .slice none 0 0, .slice none 0 0] 44)).heap.size := by simp
  go_enter Try.func71, Try.ntmps71
  go_wp2_with fail
  clear E s1 s2 s3 h
  generalize ((w.alloc (.cells #[.int .i64 P, .int .i64 Q, .int .i64 G] 38)).alloc (.cells #[.slice C1 m1 e1, .slice C2 m2 e2, .slice C3 m3 e3] 44)).alloc (.cells #[.slice none 0 0, .slice none 0 0, .slice none 0 0] 44) = Wb at *
  have CC1 := B1.drew.cells
  go_cut [6] from 9 to 18 (fun v wx => v = .pointer (some ⟨w.heap.size + 1 + 1, 0, none⟩) ∧ ∃ A1 d1 A2 d2 A3 d3 ls, BentI w.heap.size g k B P Q G w A1 m1 d1 A2 m2 d2 A3 m3 d3 ls wx)
  case first =>
    have EB := (Ext.refl Wb).drew
    go_region_with (first
      | (go_at_call 145; first
          | (have hz := O2; refine (l1Own_any C3 m3 e3 x3 _ (t3.ext (E1.trans E2)).rd t3.len (by omega)).mono ?_; rintro en w3 ⟨A3, d3, rfl, O3, E3⟩; have B13 := B12.ext E3; have FF3 := B13.frozen; have CC3 := B13.cells)
          | (have hz := O1; refine (l1Own_any C2 m2 e2 x2 _ (t2.ext E1).rd t2.len (by omega)).mono ?_; rintro en w2 ⟨A2, d2, rfl, O2, E2⟩; have B12 := B11.ext E2; have CC2 := B12.cells)
          | (refine (l1Own_any C1 m1 e1 x1 _ (t1.ext EB).rd t1.len (by omega)).mono ?_; rintro en w1 ⟨A1, d1, rfl, O1, E1'⟩; have E1 := EB.trans E1'; have B11 := B1.ext E1; have CC1 := B11.cells; clear E1')
          | fail)
      | fail)
    all_goals
      go_wp2
      go_meet
      exact ⟨rfl, A1, d1, A2, d2, A3, d3, _, bentI_start B0 B1 B2 hgz hB (Nat.le_refl _) hO0 h0 O1 O2 O3 hsz E1.size E1 E2 E3⟩
  case' rest =>
    clear CC1 B0 B1 B2 h0 hO0 t1 t2 t3 hsz
    obtain ⟨rfl, A1, d1, A2, d2, A3, d3, ls, I0⟩ := hcut
    go_wp2_with fail
    refine (one_any g _ 3 _ I0.cur (by omega) (by omega)).mono ?_
    rintro en w4 ⟨b, rfl, hO4, hC4⟩
    have I4 := I0.call hgz hO4 hC4
    clear I0 hO4 hC4
    cases b
    · obtain ⟨l1, l2, l3, _, o1, o2, o3⟩ := I4.own.sl3
      have C1 := I4.b1.cells
      have C2 := I4.b2.cells
      have F2 := I4.b2.frozen
      have CZ := (((I4.b2.set_ 0 (.slice A1 m1 d1)).set_ 1 (.slice A2 m2 d2)).set_ 2 (.slice A3 m3 d3)).cells
      go_wp2
      refine bodyPost_ret (v := .agg #[.slice A1 m1 d1, .slice A2 m2 d2, .slice A3 m3 d3]) (by simp [results, Try.results71, CZ, go_sem]) rfl (bent_end I4.b2 o1.sl o2.sl o3.sl I4.only I4.cur hB (Nat.le_refl _) (by omega) (o1.high.le (by omega)) (o2.high.le (by omega)) (o3.high.le (by omega)))
    · have C1 := I4.b1.cells
      go_wp2
      have hS : ∀ V, Blk V (w.heap.size + 1) 44 #[.slice A1 m1 d1, .slice A2 m2 d2, .slice A3 m3 d3] → V.cell? ⟨w.heap.size + 1, 0, none⟩ = some (.slice A1 m1 d1) ∧ V.cell? ⟨w.heap.size + 1, 1, none⟩ = some (.slice A2 m2 d2) ∧ V.cell? ⟨w.heap.size + 1, 2, none⟩ = some (.slice A3 m3 d3) := fun V h => ⟨h.cells 0, h.cells 1, h.cells 2⟩
      have B14 := I4.b1
      clear C1
      go_cut [7] from 23 to 33 (fun v wx => ∃ (A : Option Addr) (n c j : Nat), v = .slice A n c ∧ [(A1, m1, d1), (A2, m2, d2), (A3, m3, d3)][j]? = some (A, n, c) ∧ BentI w.heap.size g (k + 4) B P Q G w A1 m1 d1 A2 m2 d2 A3 m3 d3 ls wx)
      case first =>
        refine wp_region_noPanic ?_
        refine wp_region_held_drew (S := fun V => V.cell? ⟨w.heap.size + 1, 0, none⟩ = some (.slice A1 m1 d1) ∧ V.cell? ⟨w.heap.size + 1, 1, none⟩ = some (.slice A2 m2 d2) ∧ V.cell? ⟨w.heap.size + 1, 2, none⟩ = some (.slice A3 m3 d3)) (by kernel_rfl) ?_ (fun hHeld => ?_)
        · exact hS _ (by repeat (first | with_reducible assumption | with_reducible refine Blk.drew ?_ | with_reducible refine Blk.drewN ?_ _ | with_reducible refine Blk.alloc ?_ _ | with_reducible refine Blk.farS ?_ ?_ | (show _ ≠ _; first | omega | (simp; done) | (simp; omega))))
        refine' wpAnyH_take (i := 0) (v := _) ?hi0 (by kernel_rfl) (by kernel_rfl) (by kernel_rfl) ?hQ0 ?hy0 (by assumption) ?_
        case hi0 => (simp only [List.getElem?_toArray, List.getElem?_cons_zero]; rfl)
        case hy0 => refine Or.inl ⟨by rfl, ?_⟩; intro w hSw; (try dsimp only at hSw); go_simp <;> with_reducible rfl
        case hQ0 => exact fun _ _ _ h => h
        try simp only [Act.put, List.setIfInBounds_toArray, List.set_cons_zero, List.set_cons_succ]
        refine' wpAnyH_take (i := 1) (v := _) ?hi1 (by kernel_rfl) (by kernel_rfl) (by kernel_rfl) ?hQ1 ?hy1 (by assumption) ?_
        case hi1 => (simp only [List.getElem?_toArray, List.getElem?_cons_succ, List.getElem?_cons_zero]; rfl)
        case hy1 => refine Or.inl ⟨by rfl, ?_⟩; intro w hSw; (try dsimp only at hSw); go_simp <;> with_reducible rfl
        case hQ1 => exact fun _ _ _ h => h
        try simp only [Act.put, List.setIfInBounds_toArray, List.set_cons_zero, List.set_cons_succ]
        refine' wpAnyH_take (i := 2) (v := _) ?hi2 (by kernel_rfl) (by kernel_rfl) (by kernel_rfl) ?hQ2 ?hy2 (by assumption) ?_
        case hi2 => (simp only [List.getElem?_toArray, List.getElem?_cons_succ, List.getElem?_cons_zero]; rfl)
        case hy2 => refine Or.inl ⟨by rfl, ?_⟩; intro w hSw; (try dsimp only at hSw); go_simp <;> with_reducible rfl
        case hQ2 => exact fun _ _ _ h => h
        try simp only [Act.put, List.setIfInBounds_toArray, List.set_cons_zero, List.set_cons_succ]
        refine' wpAnyH_take (i := 3) (v := _) ?hi3 (by kernel_rfl) (by kernel_rfl) (by kernel_rfl) ?hQ3 ?hy3 (by assumption) ?_
        case hi3 => (simp only [List.getElem?_toArray, List.getElem?_cons_succ, List.getElem?_cons_zero]; rfl)
        case hy3 => refine Or.inl ⟨by rfl, ?_⟩; intro w hSw; (try dsimp only at hSw); go_simp <;> with_reducible rfl
        case hQ3 => exact fun _ _ _ h => h
        try simp only [Act.put, List.setIfInBounds_toArray, List.set_cons_zero, List.set_cons_succ]
        refine' wpAnyH_take (i := 4) (v := _) ?hi4 (by kernel_rfl) (by kernel_rfl) (by kernel_rfl) ?hQ4 ?hy4 (by assumption) ?_
        case hi4 => (simp only [List.getElem?_toArray, List.getElem?_cons_succ, List.getElem?_cons_zero]; rfl)
        case hy4 => refine Or.inl ⟨by rfl, ?_⟩; intro w hSw; (try dsimp only at hSw); go_simp <;> with_reducible rfl
        case hQ4 => exact fun _ _ _ h => h
        try simp only [Act.put, List.setIfInBounds_toArray, List.set_cons_zero, List.set_cons_succ]
        refine' wpAnyH_take (i := 5) (v := _) ?hi5 (by kernel_rfl) (by kernel_rfl) (by kernel_rfl) ?hQ5 ?hy5 (by assumption) ?_
        case hi5 => (simp only [List.getElem?_toArray, List.getElem?_cons_succ, List.getElem?_cons_zero]; rfl)
        case hy5 => refine Or.inl ⟨by rfl, ?_⟩; intro w hSw; (try dsimp only at hSw); go_simp <;> with_reducible rfl
        case hQ5 => exact fun _ _ _ h => h
        try simp only [Act.put, List.setIfInBounds_toArray, List.set_cons_zero, List.set_cons_succ]
        refine' wpAnyH_take (i := 7) (v := _) ?hi7 (by kernel_rfl) (by kernel_rfl) (by kernel_rfl) ?hQ7 ?hy7 (by assumption) ?_
        case hi7 => (simp only [List.getElem?_toArray, List.getElem?_cons_succ, List.getElem?_cons_zero]; rfl)
        case hy7 => refine Or.inl ⟨by rfl, ?_⟩; intro w hSw; (try dsimp only at hSw); go_simp <;> with_reducible rfl
        case hQ7 => exact fun _ _ _ h => h
        try simp only [Act.put, List.setIfInBounds_toArray, List.set_cons_zero, List.set_cons_succ]
        refine wpAnyH_ready (rs := [6, 8]) (by kernel_rfl) (by simp) ?_
        refine AllReadyH.cons rfl (fun KK hKK => ?_) ?_
        · go_simp
          refine hKK.out _ _ ?_ (fun hHeld => ?_)
          · exact hS _ (by repeat (first | with_reducible assumption | with_reducible refine Blk.drew ?_ | with_reducible refine Blk.drewN ?_ _ | with_reducible refine Blk.alloc ?_ _ | with_reducible refine Blk.farS ?_ ?_ | (show _ ≠ _; first | omega | (simp; done) | (simp; omega))))
          clear hKK KK
          try simp only [Act.put, List.setIfInBounds_toArray, List.set_cons_zero, List.set_cons_succ]
          refine wpAnyH_ready (rs := [8]) (by kernel_rfl) (by simp) ?_
          refine AllReadyH.cons rfl (fun KK hKK => ?_) ?_
          · go_simp
            refine (pick_any g _ 3 _ (I4.ext (((Ext.refl w4).alloc (.cells #[.slice A1 m1 d1, .slice A2 m2 d2, .slice A3 m3 d3] 28)).drew)).cur (by omega) (by omega)).mono ?_
            rintro en w5 ⟨r, rfl, hr, hO5, hC5⟩
            have I5 := (I4.ext (((Ext.refl w4).alloc (.cells #[.slice A1 m1 d1, .slice A2 m2 d2, .slice A3 m3 d3] 28)).drew)).call hgz hO5 hC5
            have BN := (Blk.new w4 28 #[.slice A1 m1 d1, .slice A2 m2 d2, .slice A3 m3 d3]).drew.only hO5 (by have := I4.b2.lt; simp; omega)
            have B15 := I5.b1
            obtain ⟨A, n, c, hrow, hcell, hr3⟩ := pickRow BN hr
            have hr0 : (0 : Int) ≤ (r : Int) := by omega
            go_wp2_with fail
            refine hKK.out _ _ ?_ (fun hHeld => ?_)
            · exact hS _ (by repeat (first | with_reducible assumption | with_reducible refine Blk.drew ?_ | with_reducible refine Blk.drewN ?_ _ | with_reducible refine Blk.alloc ?_ _ | with_reducible refine Blk.farS ?_ ?_ | (show _ ≠ _; first | omega | (simp; done) | (simp; omega))))
            clear hKK KK
            try simp only [Act.put, List.setIfInBounds_toArray, List.set_cons_zero, List.set_cons_succ]
            refine' wpAnyH_take (i := 9) (v := _) ?hi9 (by kernel_rfl) (by kernel_rfl) (by kernel_rfl) ?hQ9 ?hy9 (by assumption) ?_
            case hi9 => (simp only [List.getElem?_toArray, List.getElem?_cons_succ, List.getElem?_cons_zero]; rfl)
            case hy9 => refine Or.inl ⟨by rfl, ?_⟩; intro w hSw; (try dsimp only at hSw); go_simp <;> with_reducible rfl
            case hQ9 => exact fun _ _ _ h => h
            try simp only [Act.put, List.setIfInBounds_toArray, List.set_cons_zero, List.set_cons_succ]
            refine wpAnyH_ready (rs := [10]) (by kernel_rfl) (by simp) ?_
            refine AllReadyH.cons rfl (fun KK hKK => ?_) ?_
            · go_simp
              refine hKK.out _ _ ?_ (fun hHeld => ?_)
              · exact hS _ (by repeat (first | with_reducible assumption | with_reducible refine Blk.drew ?_ | with_reducible refine Blk.drewN ?_ _ | with_reducible refine Blk.alloc ?_ _ | with_reducible refine Blk.farS ?_ ?_ | (show _ ≠ _; first | omega | (simp; done) | (simp; omega))))
              clear hKK KK
              try simp only [Act.put, List.setIfInBounds_toArray, List.set_cons_zero, List.set_cons_succ]
              refine' wpAnyH_take (i := 11) (v := _) ?hi11 (by kernel_rfl) (by kernel_rfl) (by kernel_rfl) ?hQ11 ?hy11 (by assumption) ?_
              case hi11 => (simp only [List.getElem?_toArray, List.getElem?_cons_succ, List.getElem?_cons_zero]; rfl)
              case hy11 => refine Or.inl ⟨by rfl, ?_⟩; intro w hSw; (try dsimp only at hSw); go_simp <;> with_reducible rfl
              case hQ11 => exact fun _ _ _ h => h
              try simp only [Act.put, List.setIfInBounds_toArray, List.set_cons_zero, List.set_cons_succ]
              refine wpAnyH_done (by kernel_rfl) ?_ _
              refine NoPanic.normal ?_
              go_wp2
              go_meet
              first
                | exact ⟨A, n, c, r, rfl, hrow, I5⟩
                | exact ⟨A, n, c, r, rfl, hrow, I5.ext ((Ext.refl w5).alloc _)⟩
            exact AllReadyH.nil
          exact AllReadyH.nil
        refine AllReadyH.cons rfl (fun KK hKK => ?_) ?_
        · go_simp
          refine (pick_any g _ 3 _ (I4.ext ((Ext.refl w4).drew)).cur (by omega) (by omega)).mono ?_
          rintro en w5 ⟨r, rfl, hr, hO5, hC5⟩
          have I5 := (I4.ext ((Ext.refl w4).drew)).call hgz hO5 hC5
          have BN := Blk.new w5 28 #[.slice A1 m1 d1, .slice A2 m2 d2, .slice A3 m3 d3]
          have B15 := I5.b1
          obtain ⟨A, n, c, hrow, hcell, hr3⟩ := pickRow BN hr
          have hr0 : (0 : Int) ≤ (r : Int) := by omega
          go_wp2_with fail
          refine hKK.out _ _ ?_ (fun hHeld => ?_)
          · exact hS _ (by repeat (first | with_reducible assumption | with_reducible refine Blk.drew ?_ | with_reducible refine Blk.drewN ?_ _ | with_reducible refine Blk.alloc ?_ _ | with_reducible refine Blk.farS ?_ ?_ | (show _ ≠ _; first | omega | (simp; done) | (simp; omega))))
          clear hKK KK
          try simp only [Act.put, List.setIfInBounds_toArray, List.set_cons_zero, List.set_cons_succ]
          refine wpAnyH_ready (rs := [6]) (by kernel_rfl) (by simp) ?_
          refine AllReadyH.cons rfl (fun KK hKK => ?_) ?_
          · go_simp
            refine hKK.out _ _ ?_ (fun hHeld => ?_)
            · exact hS _ (by repeat (first | with_reducible assumption | with_reducible refine Blk.drew ?_ | with_reducible refine Blk.drewN ?_ _ | with_reducible refine Blk.alloc ?_ _ | with_reducible refine Blk.farS ?_ ?_ | (show _ ≠ _; first | omega | (simp; done) | (simp; omega))))
            clear hKK KK
            try simp only [Act.put, List.setIfInBounds_toArray, List.set_cons_zero, List.set_cons_succ]
            refine' wpAnyH_take (i := 9) (v := _) ?hi9 (by kernel_rfl) (by kernel_rfl) (by kernel_rfl) ?hQ9 ?hy9 (by assumption) ?_
            case hi9 => (simp only [List.getElem?_toArray, List.getElem?_cons_succ, List.getElem?_cons_zero]; rfl)
            case hy9 => refine Or.inl ⟨by rfl, ?_⟩; intro w hSw; (try dsimp only at hSw); go_simp <;> with_reducible rfl
            case hQ9 => exact fun _ _ _ h => h
            try simp only [Act.put, List.setIfInBounds_toArray, List.set_cons_zero, List.set_cons_succ]
            refine wpAnyH_ready (rs := [10]) (by kernel_rfl) (by simp) ?_
            refine AllReadyH.cons rfl (fun KK hKK => ?_) ?_
            · go_simp
              refine hKK.out _ _ ?_ (fun hHeld => ?_)
              · exact hS _ (by repeat (first | with_reducible assumption | with_reducible refine Blk.drew ?_ | with_reducible refine Blk.drewN ?_ _ | with_reducible refine Blk.alloc ?_ _ | with_reducible refine Blk.farS ?_ ?_ | (show _ ≠ _; first | omega | (simp; done) | (simp; omega))))
              clear hKK KK
              try simp only [Act.put, List.setIfInBounds_toArray, List.set_cons_zero, List.set_cons_succ]
              refine' wpAnyH_take (i := 11) (v := _) ?hi11 (by kernel_rfl) (by kernel_rfl) (by kernel_rfl) ?hQ11 ?hy11 (by assumption) ?_
              case hi11 => (simp only [List.getElem?_toArray, List.getElem?_cons_succ, List.getElem?_cons_zero]; rfl)
              case hy11 => refine Or.inl ⟨by rfl, ?_⟩; intro w hSw; (try dsimp only at hSw); go_simp <;> with_reducible rfl
              case hQ11 => exact fun _ _ _ h => h
              try simp only [Act.put, List.setIfInBounds_toArray, List.set_cons_zero, List.set_cons_succ]
              refine wpAnyH_done (by kernel_rfl) ?_ _
              refine NoPanic.normal ?_
              go_wp2
              go_meet
              first
                | exact ⟨A, n, c, r, rfl, hrow, I5⟩
                | exact ⟨A, n, c, r, rfl, hrow, I5.ext ((Ext.refl w5).alloc _)⟩
            exact AllReadyH.nil
          exact AllReadyH.nil
        exact AllReadyH.nil
      case' rest =>
        obtain ⟨A, n, c, j, rfl, hrow, I5⟩ := hcut
        have hn9 := rowLe hrow h1 h2 h3
        clear I4 B14 hS
        go_upto_if 36 with (fail)
        go_cut [8] from 36 to 59 (fun _ wx => ∃ ls', BentI w.heap.size g (k + 40) B P Q G w A1 m1 d1 A2 m2 d2 A3 m3 d3 ls' wx)
        case first =>
          rcases Nat.eq_zero_or_pos n with hn0 | hn0
          · subst hn0
            go_wp2
            go_meet
            exact ⟨ls, I5.more (by omega)⟩
          · have hpos : (0 : Int) < (n : Int) := by omega
            go_wp2_with fail
            refine (pick_any g _ (n : Int) _ I5.cur (by omega) (by omega)).mono ?_
            rintro en w6 ⟨r, rfl, hr, hO6, hC6⟩
            have I6 := I5.call hgz hO6 hC6
            have hr0 : (0 : Int) ≤ (r : Int) := by omega
            have hrn : (r : Int) < (n : Int) := by omega
            obtain ⟨l6, hOw, _⟩ := I6.own.at_ hrow
            obtain ⟨ga, rfl, hga, hfz, hcl⟩ := hOw.addr hn0
            have hlen := hOw.len
            have hc := hcl r (by omega)
            obtain ⟨x, hx⟩ : ∃ x, l6[r]'(by omega) = x := ⟨_, rfl⟩
            rw [hx] at hc
            obtain ⟨cur, hcur⟩ := ownV_block (xs := ints l6) hOw (b := ga) (by simp [fpI])
            have BR : Blk w6 ga 3 cur := hcur
            have hcr : cur[r]? = some (.int .i64 x) := (BR.cells r).symm.trans hc
            have hgg : g ≠ ga := by omega
            have HCR := Lib.hid hcr
            have B06 := I6.b0
            have hcd : w6.drew.cell? ⟨ga, r, none⟩ = some (.int .i64 x) := hc
            clear I5 hO6 hC6 hcl hx hcur hcr hfz hlen
            go_wp2
            have hS : ∀ V, Blk V w.heap.size 38 #[.int .i64 P, .int .i64 Q, .int .i64 G] → V.cell? ⟨w.heap.size, 0, none⟩ = some (.int .i64 P) ∧ V.cell? ⟨w.heap.size, 1, none⟩ = some (.int .i64 Q) ∧ V.cell? ⟨w.heap.size, 2, none⟩ = some (.int .i64 G) := fun V h => ⟨h.cells 0, h.cells 1, h.cells 2⟩
            refine wp_region_noPanic ?_
            refine wp_region_held_drew (S := fun V => V.cell? ⟨w.heap.size, 0, none⟩ = some (.int .i64 P) ∧ V.cell? ⟨w.heap.size, 1, none⟩ = some (.int .i64 Q) ∧ V.cell? ⟨w.heap.size, 2, none⟩ = some (.int .i64 G)) (by kernel_rfl) ?_ (fun hHeld => ?_)
            · exact hS _ (by repeat (first | with_reducible assumption | with_reducible refine Blk.drew ?_ | with_reducible refine Blk.drewN ?_ _ | with_reducible refine Blk.alloc ?_ _ | with_reducible refine Blk.farS ?_ ?_ | (show _ ≠ _; first | omega | (simp; done) | (simp; omega))))
            refine' wpAnyH_take (i := 0) (v := _) ?hi0 (by kernel_rfl) (by kernel_rfl) (by kernel_rfl) ?hQ0 ?hy0 (by assumption) ?_
            case hi0 => (simp only [List.getElem?_toArray, List.getElem?_cons_zero]; rfl)
            case hy0 => refine Or.inl ⟨by rfl, ?_⟩; intro w hSw; (try dsimp only at hSw); go_simp <;> with_reducible rfl
            case hQ0 => exact fun _ _ _ h => h
            try simp only [Act.put, List.setIfInBounds_toArray, List.set_cons_zero, List.set_cons_succ]
            refine' wpAnyH_take (i := 1) (v := _) ?hi1 (by kernel_rfl) (by kernel_rfl) (by kernel_rfl) ?hQ1 ?hy1 (by assumption) ?_
            case hi1 => (simp only [List.getElem?_toArray, List.getElem?_cons_succ, List.getElem?_cons_zero]; rfl)
            case hy1 => refine Or.inl ⟨by rfl, ?_⟩; intro w hSw; (try dsimp only at hSw); go_simp <;> with_reducible rfl
            case hQ1 => exact fun _ _ _ h => h
            try simp only [Act.put, List.setIfInBounds_toArray, List.set_cons_zero, List.set_cons_succ]
            refine' wpAnyH_take (i := 2) (v := _) ?hi2 (by kernel_rfl) (by kernel_rfl) (by kernel_rfl) ?hQ2 ?hy2 (by assumption) ?_
            case hi2 => (simp only [List.getElem?_toArray, List.getElem?_cons_succ, List.getElem?_cons_zero]; rfl)
            case hy2 => refine Or.inl ⟨by rfl, ?_⟩; intro w hSw; (try dsimp only at hSw); go_simp <;> with_reducible rfl
            case hQ2 => exact fun _ _ _ h => h
            try simp only [Act.put, List.setIfInBounds_toArray, List.set_cons_zero, List.set_cons_succ]
            refine' wpAnyH_take (i := 3) (v := _) ?hi3 (by kernel_rfl) (by kernel_rfl) (by kernel_rfl) ?hQ3 ?hy3 (by assumption) ?_
            case hi3 => (simp only [List.getElem?_toArray, List.getElem?_cons_succ, List.getElem?_cons_zero]; rfl)
            case hy3 => refine Or.inl ⟨by rfl, ?_⟩; intro w hSw; (try dsimp only at hSw); go_simp <;> with_reducible rfl
            case hQ3 => exact fun _ _ _ h => h
            try simp only [Act.put, List.setIfInBounds_toArray, List.set_cons_zero, List.set_cons_succ]
            refine' wpAnyH_take (i := 4) (v := _) ?hi4 (by kernel_rfl) (by kernel_rfl) (by kernel_rfl) ?hQ4 ?hy4 (by assumption) ?_
            case hi4 => (simp only [List.getElem?_toArray, List.getElem?_cons_succ, List.getElem?_cons_zero]; rfl)
            case hy4 => refine Or.inl ⟨by rfl, ?_⟩; intro w hSw; (try dsimp only at hSw); go_simp <;> with_reducible rfl
            case hQ4 => exact fun _ _ _ h => h
            try simp only [Act.put, List.setIfInBounds_toArray, List.set_cons_zero, List.set_cons_succ]
            refine' wpAnyH_take (i := 6) (v := _) ?hi6 (by kernel_rfl) (by kernel_rfl) (by kernel_rfl) ?hQ6 ?hy6 (by assumption) ?_
            case hi6 => (simp only [List.getElem?_toArray, List.getElem?_cons_succ, List.getElem?_cons_zero]; rfl)
            case hy6 => refine Or.inl ⟨by rfl, ?_⟩; intro w hSw; (try dsimp only at hSw); go_simp <;> with_reducible rfl
            case hQ6 => exact fun _ _ _ h => h
            try simp only [Act.put, List.setIfInBounds_toArray, List.set_cons_zero, List.set_cons_succ]
            refine' wpAnyH_take (i := 7) (v := _) ?hi7 (by kernel_rfl) (by kernel_rfl) (by kernel_rfl) ?hQ7 ?hy7 (by assumption) ?_
            case hi7 => (simp only [List.getElem?_toArray, List.getElem?_cons_succ, List.getElem?_cons_zero]; rfl)
            case hy7 => refine Or.inl ⟨by rfl, ?_⟩; intro w hSw; (try dsimp only at hSw); go_simp <;> with_reducible rfl
            case hQ7 => exact fun _ _ _ h => h
            try simp only [Act.put, List.setIfInBounds_toArray, List.set_cons_zero, List.set_cons_succ]
            refine' wpAnyH_take (i := 9) (v := _) ?hi9 (by kernel_rfl) (by kernel_rfl) (by kernel_rfl) ?hQ9 ?hy9 (by assumption) ?_
            case hi9 => (simp only [List.getElem?_toArray, List.getElem?_cons_succ, List.getElem?_cons_zero]; rfl)
            case hy9 => refine Or.inl ⟨by rfl, ?_⟩; intro w hSw; (try dsimp only at hSw); go_simp <;> with_reducible rfl
            case hQ9 => exact fun _ _ _ h => h
            try simp only [Act.put, List.setIfInBounds_toArray, List.set_cons_zero, List.set_cons_succ]
            refine' wpAnyH_take (i := 10) (v := _) ?hi10 (by kernel_rfl) (by kernel_rfl) (by kernel_rfl) ?hQ10 ?hy10 (by assumption) ?_
            case hi10 => (simp only [List.getElem?_toArray, List.getElem?_cons_succ, List.getElem?_cons_zero]; rfl)
            case hy10 => refine Or.inl ⟨by rfl, ?_⟩; intro w hSw; (try dsimp only at hSw); go_simp <;> with_reducible rfl
            case hQ10 => exact fun _ _ _ h => h
            try simp only [Act.put, List.setIfInBounds_toArray, List.set_cons_zero, List.set_cons_succ]
            refine' wpAnyH_take (i := 11) (v := _) ?hi11 (by kernel_rfl) (by kernel_rfl) (by kernel_rfl) ?hQ11 ?hy11 (by assumption) ?_
            case hi11 => (simp only [List.getElem?_toArray, List.getElem?_cons_succ, List.getElem?_cons_zero]; rfl)
            case hy11 => refine Or.inl ⟨by rfl, ?_⟩; intro w hSw; (try dsimp only at hSw); go_simp <;> with_reducible rfl
            case hQ11 => exact fun _ _ _ h => h
            try simp only [Act.put, List.setIfInBounds_toArray, List.set_cons_zero, List.set_cons_succ]
            refine' wpAnyH_take (i := 12) (v := _) ?hi12 (by kernel_rfl) (by kernel_rfl) (by kernel_rfl) ?hQ12 ?hy12 (by assumption) ?_
            case hi12 => (simp only [List.getElem?_toArray, List.getElem?_cons_succ, List.getElem?_cons_zero]; rfl)
            case hy12 => refine Or.inl ⟨by rfl, ?_⟩; intro w hSw; (try dsimp only at hSw); go_simp <;> with_reducible rfl
            case hQ12 => exact fun _ _ _ h => h
            try simp only [Act.put, List.setIfInBounds_toArray, List.set_cons_zero, List.set_cons_succ]
            refine' wpAnyH_take (i := 13) (v := _) ?hi13 (by kernel_rfl) (by kernel_rfl) (by kernel_rfl) ?hQ13 ?hy13 (by assumption) ?_
            case hi13 => (simp only [List.getElem?_toArray, List.getElem?_cons_succ, List.getElem?_cons_zero]; rfl)
            case hy13 => refine Or.inl ⟨by rfl, ?_⟩; intro w hSw; (try dsimp only at hSw); go_simp <;> with_reducible rfl
            case hQ13 => exact fun _ _ _ h => h
            try simp only [Act.put, List.setIfInBounds_toArray, List.set_cons_zero, List.set_cons_succ]
            refine wpAnyH_ready (rs := [5, 14]) (by kernel_rfl) (by simp) ?_
            refine AllReadyH.cons rfl (fun KK hKK => ?_) ?_
            · go_simp
              refine (expo_any g _ P Q G _ (I6.ext ((Ext.refl w6).drew)).cur (by omega) (by have := I6.b2.lt; simp; omega) hD).mono ?_
              rintro en w7 ⟨xe, rfl, _, _, _, hO7, hC7⟩
              have I7 := (I6.ext ((Ext.refl w6).drew)).call hgz hO7 hC7
              have B07 := I7.b0
              have BR7 := BR.drew.only hO7 (by simp; omega)
              have hc7 : w7.cell? ⟨ga, r, none⟩ = some (.int .i64 x) := (BR7.cells r).trans HCR.out
              go_wp2_with fail
              refine hKK.out _ _ ?_ (fun hHeld => ?_)
              · exact hS _ (by repeat (first | with_reducible assumption | with_reducible refine Blk.drew ?_ | with_reducible refine Blk.drewN ?_ _ | with_reducible refine Blk.alloc ?_ _ | with_reducible refine Blk.farS ?_ ?_ | (show _ ≠ _; first | omega | (simp; done) | (simp; omega))))
              clear hKK KK
              try simp only [Act.put, List.setIfInBounds_toArray, List.set_cons_zero, List.set_cons_succ]
              refine wpAnyH_ready (rs := [8, 14]) (by kernel_rfl) (by simp) ?_
              refine AllReadyH.cons rfl (fun KK hKK => ?_) ?_
              · go_simp
                refine (element_any g _ P Q G _ I7.cur (by omega) (by have := I7.b2.lt; omega) hD).mono ?_
                rintro en w8 ⟨el, rfl, _, _, hO8, hC8⟩
                have I8 := I7.call hgz hO8 hC8
                have B08 := I8.b0
                have BR8 := BR7.only hO8 (by simp; omega)
                have hc8 : w8.cell? ⟨ga, r, none⟩ = some (.int .i64 x) := (BR8.cells r).trans HCR.out
                go_wp2_with fail
                refine hKK.out _ _ ?_ (fun hHeld => ?_)
                · exact hS _ (by repeat (first | with_reducible assumption | with_reducible refine Blk.drew ?_ | with_reducible refine Blk.drewN ?_ _ | with_reducible refine Blk.alloc ?_ _ | with_reducible refine Blk.farS ?_ ?_ | (show _ ≠ _; first | omega | (simp; done) | (simp; omega))))
                clear hKK KK
                try simp only [Act.put, List.setIfInBounds_toArray, List.set_cons_zero, List.set_cons_succ]
                refine wpAnyH_ready (rs := [14]) (by kernel_rfl) (by simp) ?_
                refine AllReadyH.cons rfl (fun KK hKK => ?_) ?_
                · go_simp
                  refine hKK.out _ _ ?_ (fun hHeld => ?_)
                  · exact hS _ (by repeat (first | with_reducible assumption | with_reducible refine Blk.drew ?_ | with_reducible refine Blk.drewN ?_ _ | with_reducible refine Blk.alloc ?_ _ | with_reducible refine Blk.farS ?_ ?_ | (show _ ≠ _; first | omega | (simp; done) | (simp; omega))))
                  clear hKK KK
                  try simp only [Act.put, List.setIfInBounds_toArray, List.set_cons_zero, List.set_cons_succ]
                  refine' wpAnyH_take (i := 15) (v := _) ?hi15 (by kernel_rfl) (by kernel_rfl) (by kernel_rfl) ?hQ15 ?hy15 (by assumption) ?_
                  case hi15 => (simp only [List.getElem?_toArray, List.getElem?_cons_succ, List.getElem?_cons_zero]; rfl)
                  case hy15 => refine Or.inl ⟨by rfl, ?_⟩; intro w hSw; (try dsimp only at hSw); go_simp <;> with_reducible rfl
                  case hQ15 => exact fun _ _ _ h => h
                  try simp only [Act.put, List.setIfInBounds_toArray, List.set_cons_zero, List.set_cons_succ]
                  refine wpAnyH_ready (rs := [16]) (by kernel_rfl) (by simp) ?_
                  refine AllReadyH.cons rfl (fun KK hKK => ?_) ?_
                  · go_simp
                    refine hKK.out _ _ ?_ (fun hHeld => ?_)
                    · exact hS _ (by repeat (first | with_reducible assumption | with_reducible refine Blk.drew ?_ | with_reducible refine Blk.drewN ?_ _ | with_reducible refine Blk.alloc ?_ _ | with_reducible refine Blk.farS ?_ ?_ | (show _ ≠ _; first | omega | (simp; done) | (simp; omega))))
                    clear hKK KK
                    try simp only [Act.put, List.setIfInBounds_toArray, List.set_cons_zero, List.set_cons_succ]
                    refine wpAnyH_ready (rs := [17]) (by kernel_rfl) (by simp) ?_
                    refine AllReadyH.cons rfl (fun KK hKK => ?_) ?_
                    · go_simp
                      refine (among_newh g _ 5 [xe, el, -1, Q, IntKind.i64.wrap (x + 1)] _ _ _ rfl I8.cur (by omega) rfl rfl (by omega) (by omega) (by have := I8.b2.lt; omega)).mono ?_
                      rintro en w9 ⟨y, rfl, _, hO9, hC9⟩
                      have I9 := I8.call hgz hO9 hC9
                      have B09 := I9.b0
                      have BR9 := BR8.only hO9 (by simp; omega)
                      have hc9 : w9.cell? ⟨ga, r, none⟩ = some (.int .i64 x) := (BR9.cells r).trans HCR.out
                      have hf9 := BR9.frozen r
                      go_wp2_with fail
                      refine hKK.out _ _ ?_ (fun hHeld => ?_)
                      · exact hS _ (by repeat (first | with_reducible assumption | with_reducible refine Blk.drew ?_ | with_reducible refine Blk.drewN ?_ _ | with_reducible refine Blk.alloc ?_ _ | with_reducible refine Blk.farS ?_ ?_ | (show _ ≠ _; first | omega | (simp; done) | (simp; omega))))
                      clear hKK KK
                      try simp only [Act.put, List.setIfInBounds_toArray, List.set_cons_zero, List.set_cons_succ]
                      refine' wpAnyH_take (i := 18) (v := _) ?hi18 (by kernel_rfl) (by kernel_rfl) (by kernel_rfl) ?hQ18 ?hy18 (by assumption) ?_
                      case hi18 => (simp only [List.getElem?_toArray, List.getElem?_cons_succ, List.getElem?_cons_zero]; rfl)
                      case hy18 => refine Or.inl ⟨by rfl, ?_⟩; intro w hSw; (try dsimp only at hSw); go_simp <;> with_reducible rfl
                      case hQ18 => exact fun _ _ _ h => h
                      try simp only [Act.put, List.setIfInBounds_toArray, List.set_cons_zero, List.set_cons_succ]
                      refine wpAnyH_ready (rs := [19]) (by kernel_rfl) (by simp) ?_
                      refine AllReadyH.cons rfl (fun KK hKK => ?_) ?_
                      · go_simp
                        refine hKK.out _ _ ?_ (fun hHeld => ?_)
                        · exact hS _ (by repeat (first | with_reducible assumption | with_reducible refine Blk.drew ?_ | with_reducible refine Blk.drewN ?_ _ | with_reducible refine Blk.alloc ?_ _ | with_reducible refine Blk.farS ?_ ?_ | (show _ ≠ _; first | omega | (simp; done) | (simp; omega))))
                        clear hKK KK
                        try simp only [Act.put, List.setIfInBounds_toArray, List.set_cons_zero, List.set_cons_succ]
                        refine wpAnyH_done (by kernel_rfl) ?_ _
                        refine NoPanic.normal ?_
                        go_wp2
                        go_meet
                        obtain ⟨ls', I10⟩ := I9.put (r := r) (y := y) hrow (Nat.le_refl _) hB
                        exact ⟨ls', I10.more (by omega)⟩
                      exact AllReadyH.nil
                    exact AllReadyH.nil
                  exact AllReadyH.nil
                exact AllReadyH.nil
              refine AllReadyH.cons rfl (fun KK hKK => ?_) ?_
              · go_simp
                refine hKK.out _ _ ?_ (fun hHeld => ?_)
                · exact hS _ (by repeat (first | with_reducible assumption | with_reducible refine Blk.drew ?_ | with_reducible refine Blk.drewN ?_ _ | with_reducible refine Blk.alloc ?_ _ | with_reducible refine Blk.farS ?_ ?_ | (show _ ≠ _; first | omega | (simp; done) | (simp; omega))))
                clear hKK KK
                try simp only [Act.put, List.setIfInBounds_toArray, List.set_cons_zero, List.set_cons_succ]
                refine' wpAnyH_take (i := 15) (v := _) ?hi15 (by kernel_rfl) (by kernel_rfl) (by kernel_rfl) ?hQ15 ?hy15 (by assumption) ?_
                case hi15 => (simp only [List.getElem?_toArray, List.getElem?_cons_succ, List.getElem?_cons_zero]; rfl)
                case hy15 => refine Or.inl ⟨by rfl, ?_⟩; intro w hSw; (try dsimp only at hSw); go_simp <;> with_reducible rfl
                case hQ15 => exact fun _ _ _ h => h
                try simp only [Act.put, List.setIfInBounds_toArray, List.set_cons_zero, List.set_cons_succ]
                refine wpAnyH_ready (rs := [8]) (by kernel_rfl) (by simp) ?_
                refine AllReadyH.cons rfl (fun KK hKK => ?_) ?_
                · go_simp
                  refine (element_any g _ P Q G _ I7.cur (by omega) (by have := I7.b2.lt; omega) hD).mono ?_
                  rintro en w8 ⟨el, rfl, _, _, hO8, hC8⟩
                  have I8 := I7.call hgz hO8 hC8
                  have B08 := I8.b0
                  have BR8 := BR7.only hO8 (by simp; omega)
                  have hc8 : w8.cell? ⟨ga, r, none⟩ = some (.int .i64 x) := (BR8.cells r).trans HCR.out
                  go_wp2_with fail
                  refine hKK.out _ _ ?_ (fun hHeld => ?_)
                  · exact hS _ (by repeat (first | with_reducible assumption | with_reducible refine Blk.drew ?_ | with_reducible refine Blk.drewN ?_ _ | with_reducible refine Blk.alloc ?_ _ | with_reducible refine Blk.farS ?_ ?_ | (show _ ≠ _; first | omega | (simp; done) | (simp; omega))))
                  clear hKK KK
                  try simp only [Act.put, List.setIfInBounds_toArray, List.set_cons_zero, List.set_cons_succ]
                  refine wpAnyH_ready (rs := [16]) (by kernel_rfl) (by simp) ?_
                  refine AllReadyH.cons rfl (fun KK hKK => ?_) ?_
                  · go_simp
                    refine hKK.out _ _ ?_ (fun hHeld => ?_)
                    · exact hS _ (by repeat (first | with_reducible assumption | with_reducible refine Blk.drew ?_ | with_reducible refine Blk.drewN ?_ _ | with_reducible refine Blk.alloc ?_ _ | with_reducible refine Blk.farS ?_ ?_ | (show _ ≠ _; first | omega | (simp; done) | (simp; omega))))
                    clear hKK KK
                    try simp only [Act.put, List.setIfInBounds_toArray, List.set_cons_zero, List.set_cons_succ]
                    refine wpAnyH_ready (rs := [17]) (by kernel_rfl) (by simp) ?_
                    refine AllReadyH.cons rfl (fun KK hKK => ?_) ?_
                    · go_simp
                      refine (among_newh g _ 5 [xe, el, -1, Q, IntKind.i64.wrap (x + 1)] _ _ _ rfl I8.cur (by omega) rfl rfl (by omega) (by omega) (by have := I8.b2.lt; omega)).mono ?_
                      rintro en w9 ⟨y, rfl, _, hO9, hC9⟩
                      have I9 := I8.call hgz hO9 hC9
                      have B09 := I9.b0
                      have BR9 := BR8.only hO9 (by simp; omega)
                      have hc9 : w9.cell? ⟨ga, r, none⟩ = some (.int .i64 x) := (BR9.cells r).trans HCR.out
                      have hf9 := BR9.frozen r
                      go_wp2_with fail
                      refine hKK.out _ _ ?_ (fun hHeld => ?_)
                      · exact hS _ (by repeat (first | with_reducible assumption | with_reducible refine Blk.drew ?_ | with_reducible refine Blk.drewN ?_ _ | with_reducible refine Blk.alloc ?_ _ | with_reducible refine Blk.farS ?_ ?_ | (show _ ≠ _; first | omega | (simp; done) | (simp; omega))))
                      clear hKK KK
                      try simp only [Act.put, List.setIfInBounds_toArray, List.set_cons_zero, List.set_cons_succ]
                      refine' wpAnyH_take (i := 18) (v := _) ?hi18 (by kernel_rfl) (by kernel_rfl) (by kernel_rfl) ?hQ18 ?hy18 (by assumption) ?_
                      case hi18 => (simp only [List.getElem?_toArray, List.getElem?_cons_succ, List.getElem?_cons_zero]; rfl)
                      case hy18 => refine Or.inl ⟨by rfl, ?_⟩; intro w hSw; (try dsimp only at hSw); go_simp <;> with_reducible rfl
                      case hQ18 => exact fun _ _ _ h => h
                      try simp only [Act.put, List.setIfInBounds_toArray, List.set_cons_zero, List.set_cons_succ]
                      refine wpAnyH_ready (rs := [19]) (by kernel_rfl) (by simp) ?_
                      refine AllReadyH.cons rfl (fun KK hKK => ?_) ?_
                      · go_simp
                        refine hKK.out _ _ ?_ (fun hHeld => ?_)
                        · exact hS _ (by repeat (first | with_reducible assumption | with_reducible refine Blk.drew ?_ | with_reducible refine Blk.drewN ?_ _ | with_reducible refine Blk.alloc ?_ _ | with_reducible refine Blk.farS ?_ ?_ | (show _ ≠ _; first | omega | (simp; done) | (simp; omega))))
                        clear hKK KK
                        try simp only [Act.put, List.setIfInBounds_toArray, List.set_cons_zero, List.set_cons_succ]
                        refine wpAnyH_done (by kernel_rfl) ?_ _
                        refine NoPanic.normal ?_
                        go_wp2
                        go_meet
                        obtain ⟨ls', I10⟩ := I9.put (r := r) (y := y) hrow (Nat.le_refl _) hB
                        exact ⟨ls', I10.more (by omega)⟩
                      exact AllReadyH.nil
                    exact AllReadyH.nil
                  exact AllReadyH.nil
                exact AllReadyH.nil
              exact AllReadyH.nil
            refine AllReadyH.cons rfl (fun KK hKK => ?_) ?_
            · go_simp
              refine hKK.out _ _ ?_ (fun hHeld => ?_)
              · exact hS _ (by repeat (first | with_reducible assumption | with_reducible refine Blk.drew ?_ | with_reducible refine Blk.drewN ?_ _ | with_reducible refine Blk.alloc ?_ _ | with_reducible refine Blk.farS ?_ ?_ | (show _ ≠ _; first | omega | (simp; done) | (simp; omega))))
              clear hKK KK
              try simp only [Act.put, List.setIfInBounds_toArray, List.set_cons_zero, List.set_cons_succ]
              refine' wpAnyH_take (i := 15) (v := _) ?hi15 (by kernel_rfl) (by kernel_rfl) (by kernel_rfl) ?hQ15 ?hy15 (by assumption) ?_
              case hi15 => (simp only [List.getElem?_toArray, List.getElem?_cons_succ, List.getElem?_cons_zero]; rfl)
              case hy15 => refine Or.inl ⟨by rfl, ?_⟩; intro w hSw; (try dsimp only at hSw); go_simp <;> with_reducible rfl
              case hQ15 => exact fun _ _ _ h => h
              try simp only [Act.put, List.setIfInBounds_toArray, List.set_cons_zero, List.set_cons_succ]
              refine wpAnyH_ready (rs := [5]) (by kernel_rfl) (by simp) ?_
              refine AllReadyH.cons rfl (fun KK hKK => ?_) ?_
              · go_simp
                refine (expo_any g _ P Q G _ (I6.ext ((Ext.refl w6).drew)).cur (by omega) (by have := I6.b2.lt; simp; omega) hD).mono ?_
                rintro en w7 ⟨xe, rfl, _, _, _, hO7, hC7⟩
                have I7 := (I6.ext ((Ext.refl w6).drew)).call hgz hO7 hC7
                have B07 := I7.b0
                have BR7 := BR.drew.only hO7 (by simp; omega)
                have hc7 : w7.cell? ⟨ga, r, none⟩ = some (.int .i64 x) := (BR7.cells r).trans HCR.out
                go_wp2_with fail
                refine hKK.out _ _ ?_ (fun hHeld => ?_)
                · exact hS _ (by repeat (first | with_reducible assumption | with_reducible refine Blk.drew ?_ | with_reducible refine Blk.drewN ?_ _ | with_reducible refine Blk.alloc ?_ _ | with_reducible refine Blk.farS ?_ ?_ | (show _ ≠ _; first | omega | (simp; done) | (simp; omega))))
                clear hKK KK
                try simp only [Act.put, List.setIfInBounds_toArray, List.set_cons_zero, List.set_cons_succ]
                refine wpAnyH_ready (rs := [8]) (by kernel_rfl) (by simp) ?_
                refine AllReadyH.cons rfl (fun KK hKK => ?_) ?_
                · go_simp
                  refine (element_any g _ P Q G _ I7.cur (by omega) (by have := I7.b2.lt; omega) hD).mono ?_
                  rintro en w8 ⟨el, rfl, _, _, hO8, hC8⟩
                  have I8 := I7.call hgz hO8 hC8
                  have B08 := I8.b0
                  have BR8 := BR7.only hO8 (by simp; omega)
                  have hc8 : w8.cell? ⟨ga, r, none⟩ = some (.int .i64 x) := (BR8.cells r).trans HCR.out
                  go_wp2_with fail
                  refine hKK.out _ _ ?_ (fun hHeld => ?_)
                  · exact hS _ (by repeat (first | with_reducible assumption | with_reducible refine Blk.drew ?_ | with_reducible refine Blk.drewN ?_ _ | with_reducible refine Blk.alloc ?_ _ | with_reducible refine Blk.farS ?_ ?_ | (show _ ≠ _; first | omega | (simp; done) | (simp; omega))))
                  clear hKK KK
                  try simp only [Act.put, List.setIfInBounds_toArray, List.set_cons_zero, List.set_cons_succ]
                  refine wpAnyH_ready (rs := [16]) (by kernel_rfl) (by simp) ?_
                  refine AllReadyH.cons rfl (fun KK hKK => ?_) ?_
                  · go_simp
                    refine hKK.out _ _ ?_ (fun hHeld => ?_)
                    · exact hS _ (by repeat (first | with_reducible assumption | with_reducible refine Blk.drew ?_ | with_reducible refine Blk.drewN ?_ _ | with_reducible refine Blk.alloc ?_ _ | with_reducible refine Blk.farS ?_ ?_ | (show _ ≠ _; first | omega | (simp; done) | (simp; omega))))
                    clear hKK KK
                    try simp only [Act.put, List.setIfInBounds_toArray, List.set_cons_zero, List.set_cons_succ]
                    refine wpAnyH_ready (rs := [17]) (by kernel_rfl) (by simp) ?_
                    refine AllReadyH.cons rfl (fun KK hKK => ?_) ?_
                    · go_simp
                      refine (among_newh g _ 5 [xe, el, -1, Q, IntKind.i64.wrap (x + 1)] _ _ _ rfl I8.cur (by omega) rfl rfl (by omega) (by omega) (by have := I8.b2.lt; omega)).mono ?_
                      rintro en w9 ⟨y, rfl, _, hO9, hC9⟩
                      have I9 := I8.call hgz hO9 hC9
                      have B09 := I9.b0
                      have BR9 := BR8.only hO9 (by simp; omega)
                      have hc9 : w9.cell? ⟨ga, r, none⟩ = some (.int .i64 x) := (BR9.cells r).trans HCR.out
                      have hf9 := BR9.frozen r
                      go_wp2_with fail
                      refine hKK.out _ _ ?_ (fun hHeld => ?_)
                      · exact hS _ (by repeat (first | with_reducible assumption | with_reducible refine Blk.drew ?_ | with_reducible refine Blk.drewN ?_ _ | with_reducible refine Blk.alloc ?_ _ | with_reducible refine Blk.farS ?_ ?_ | (show _ ≠ _; first | omega | (simp; done) | (simp; omega))))
                      clear hKK KK
                      try simp only [Act.put, List.setIfInBounds_toArray, List.set_cons_zero, List.set_cons_succ]
                      refine' wpAnyH_take (i := 18) (v := _) ?hi18 (by kernel_rfl) (by kernel_rfl) (by kernel_rfl) ?hQ18 ?hy18 (by assumption) ?_
                      case hi18 => (simp only [List.getElem?_toArray, List.getElem?_cons_succ, List.getElem?_cons_zero]; rfl)
                      case hy18 => refine Or.inl ⟨by rfl, ?_⟩; intro w hSw; (try dsimp only at hSw); go_simp <;> with_reducible rfl
                      case hQ18 => exact fun _ _ _ h => h
                      try simp only [Act.put, List.setIfInBounds_toArray, List.set_cons_zero, List.set_cons_succ]
                      refine wpAnyH_ready (rs := [19]) (by kernel_rfl) (by simp) ?_
                      refine AllReadyH.cons rfl (fun KK hKK => ?_) ?_
                      · go_simp
                        refine hKK.out _ _ ?_ (fun hHeld => ?_)
                        · exact hS _ (by repeat (first | with_reducible assumption | with_reducible refine Blk.drew ?_ | with_reducible refine Blk.drewN ?_ _ | with_reducible refine Blk.alloc ?_ _ | with_reducible refine Blk.farS ?_ ?_ | (show _ ≠ _; first | omega | (simp; done) | (simp; omega))))
                        clear hKK KK
                        try simp only [Act.put, List.setIfInBounds_toArray, List.set_cons_zero, List.set_cons_succ]
                        refine wpAnyH_done (by kernel_rfl) ?_ _
                        refine NoPanic.normal ?_
                        go_wp2
                        go_meet
                        obtain ⟨ls', I10⟩ := I9.put (r := r) (y := y) hrow (Nat.le_refl _) hB
                        exact ⟨ls', I10.more (by omega)⟩
                      exact AllReadyH.nil
                    exact AllReadyH.nil
                  exact AllReadyH.nil
                exact AllReadyH.nil
              exact AllReadyH.nil
            exact AllReadyH.nil
        case' rest =>
          obtain ⟨ls', I9⟩ := hcut
          clear I5 hrow
          go_wp2_with fail
          refine (pick_any g _ 10 _ I9.cur (by omega) (by omega)).mono ?_
          rintro en w10 ⟨r, rfl, hr, hO10, hC10⟩
          have I10 := I9.call hgz hO10 hC10
          clear I9 hO10 hC10
          have hr' : r = 0 ∨ r = 1 ∨ r = 2 ∨ 3 ≤ r := by omega
          obtain ⟨l1, l2, l3, _, o1, o2, o3⟩ := I10.own.sl3
          obtain ⟨a12, a13, a23⟩ := I10.own.ap3
          have hB1 := I10.b1
          have hB2 := I10.b2
          have hzw := hB2.lt
          have C1 := hB1.cells
          have F1 := hB1.frozen
          rcases hr' with rfl | rfl | rfl | hr5
          · go_wp2_with (at_builtin; refine wpList_app1F intSl rfl _ _ rfl o1 rfl rfl rfl (by omega) (by omega) ?_; intro A4 d4 w11 hO4 hk4 hf4; have hB1' := hB1.only hk4 (fun hb => by have := o1.high _ hb; omega); have hB2' := hB2.only hk4 (fun hb => by have := o1.high _ hb; omega); have C1' := hB1'.cells; have F1' := hB1'.frozen; have hB2s := hB2'.far (p := ⟨w.heap.size + 1, 0, none⟩) (by simp) (.slice A4 (m1 + 1) d4); have C2' := hB2s.cells; have F2' := hB2s.frozen; have C1s := (hB1'.set_ 0 (.slice A4 (m1 + 1) d4)).cells)
            have hon : Only [w.heap.size + 1] w11 (w11.setCell ⟨w.heap.size + 1, 0, none⟩ (.slice A4 (m1 + 1) d4)) := (Only.refl _ _).setCell (by simp) _
            have CZ := (((hB2s.set_ 0 (.slice A4 (m1 + 1) d4)).set_ 1 (.slice A2 m2 d2)).set_ 2 (.slice A3 m3 d3)).cells
            refine bodyPost_ret (v := .agg #[.slice A4 (m1 + 1) d4, .slice A2 m2 d2, .slice A3 m3 d3]) (by simp [results, Try.results71, CZ, go_sem]) rfl (bent_end hB2s (hO4.sl.far hB1' (s3_no _ _ _ _ _ _ _ _ _) hon) ((o2.only hk4 a12.symm).sl.far hB1' (s3_no _ _ _ _ _ _ _ _ _) hon) ((o3.only hk4 a13.symm).sl.far hB1' (s3_no _ _ _ _ _ _ _ _ _) hon) ((I10.only.thenHigh hk4 (fun b hb => by have := o1.high b hb; omega)).thenHigh hon (fun b hb => by simp at hb; omega)) ((I10.cur.only hk4 (fun b hb => by have := o1.high b hb; omega) (by omega)).only hon (fun b hb => by simp at hb; omega) (by have := hk4.size; omega)) hB (Nat.le_refl _) (by omega) (fun b hb => by rcases hf4 b hb with h9 | h9; (have := o1.high b h9; omega); omega) (o2.high.le (by omega)) (o3.high.le (by omega)))
          · have hB2s := hB2.far (p := ⟨w.heap.size + 1, 2, none⟩) (by simp) (.slice none 0 0)
            have C2' := hB2s.cells
            have F2' := hB2s.frozen
            have C1s := (hB1.set_ 2 (.slice none 0 0)).cells
            have hon : Only [w.heap.size + 1] w10 (w10.setCell ⟨w.heap.size + 1, 2, none⟩ (.slice none 0 0)) := (Only.refl _ _).setCell (by simp) _
            have CZ := (((hB2s.set_ 0 (.slice A1 m1 d1)).set_ 1 (.slice A2 m2 d2)).set_ 2 (.slice none 0 0)).cells
            go_wp2
            refine bodyPost_ret (v := .agg #[.slice A1 m1 d1, .slice A2 m2 d2, .slice none 0 0]) (by simp [results, Try.results71, CZ, go_sem]) rfl (bent_end hB2s (o1.sl.far hB1 (s3_no _ _ _ _ _ _ _ _ _) hon) (o2.sl.far hB1 (s3_no _ _ _ _ _ _ _ _ _) hon) (SlI.none _) (I10.only.thenHigh hon (fun b hb => by simp at hb; omega)) (I10.cur.only hon (fun b hb => by simp at hb; omega) (by omega)) hB (Nat.le_refl _) (by omega) (o1.high.le (by omega)) (o2.high.le (by omega)) (fun b hb => by simp [fpI] at hb))
          · go_wp2_with (at_builtin; refine wpList_app1F intSl rfl _ _ rfl o2 rfl rfl rfl (by omega) (by omega) ?_; intro A4 d4 w11 hO4 hk4 hf4; have hB1' := hB1.only hk4 (fun hb => by have := o2.high _ hb; omega); have hB2' := hB2.only hk4 (fun hb => by have := o2.high _ hb; omega); have C1' := hB1'.cells; have F1' := hB1'.frozen; have hB2s := hB2'.far (p := ⟨w.heap.size + 1, 1, none⟩) (by simp) (.slice A4 (m2 + 1) d4); have C2' := hB2s.cells; have F2' := hB2s.frozen; have C1s := (hB1'.set_ 1 (.slice A4 (m2 + 1) d4)).cells)
            have hon : Only [w.heap.size + 1] w11 (w11.setCell ⟨w.heap.size + 1, 1, none⟩ (.slice A4 (m2 + 1) d4)) := (Only.refl _ _).setCell (by simp) _
            have CZ := (((hB2s.set_ 0 (.slice A1 m1 d1)).set_ 1 (.slice A4 (m2 + 1) d4)).set_ 2 (.slice A3 m3 d3)).cells
            refine bodyPost_ret (v := .agg #[.slice A1 m1 d1, .slice A4 (m2 + 1) d4, .slice A3 m3 d3]) (by simp [results, Try.results71, CZ, go_sem]) rfl (bent_end hB2s ((o1.only hk4 a12).sl.far hB1' (s3_no _ _ _ _ _ _ _ _ _) hon) (hO4.sl.far hB1' (s3_no _ _ _ _ _ _ _ _ _) hon) ((o3.only hk4 a23.symm).sl.far hB1' (s3_no _ _ _ _ _ _ _ _ _) hon) ((I10.only.thenHigh hk4 (fun b hb => by have := o2.high b hb; omega)).thenHigh hon (fun b hb => by simp at hb; omega)) ((I10.cur.only hk4 (fun b hb => by have := o2.high b hb; omega) (by omega)).only hon (fun b hb => by simp at hb; omega) (by have := hk4.size; omega)) hB (Nat.le_refl _) (by omega) (o1.high.le (by omega)) (fun b hb => by rcases hf4 b hb with h9 | h9; (have := o2.high b h9; omega); omega) (o3.high.le (by omega)))
          · have C2 := hB2.cells
            have F2 := hB2.frozen
            have CZ := (((hB2.set_ 0 (.slice A1 m1 d1)).set_ 1 (.slice A2 m2 d2)).set_ 2 (.slice A3 m3 d3)).cells
            go_wp2
            refine bodyPost_ret (v := .agg #[.slice A1 m1 d1, .slice A2 m2 d2, .slice A3 m3 d3]) (by simp [results, Try.results71, CZ, go_sem]) rfl (bent_end hB2 o1.sl o2.sl o3.sl I10.only I10.cur hB (Nat.le_refl _) (by omega) (o1.high.le (by omega)) (o2.high.le (by omega)) (o3.high.le (by omega)))
/-- At the return: a group, a label, a statement, a proof, three of them in cells. -/
theorem ret_gsep {fn : Func} {w : World} {g g2 g3 : Nat} {t u v t2 : Tmp} {a b c x y z r : Int} {s : ByteArray} {A1 : Option Addr} {n1 d1 : Nat} {A2 : Option Addr} {n2 d2 : Nat} {A3 : Option Addr} {n3 d3 : Nat} {tm : Array Value} {Q : Ending → World → Prop}
    (B : Blk w g 38 #[.int .i64 a, .int .i64 b, .int .i64 c]) (B2 : Blk w g2 53 #[.int .i64 x, .int .i64 y, .int .i64 z, .int .i64 r]) (B3 : Blk w g3 44 #[.slice A1 n1 d1, .slice A2 n2 d2, .slice A3 n3 d3])
    (h : fn.results = #[.cell t 38, .tmp t2, .cell u 53, .cell v 44]) (ht : tm.getD t undef = .pointer (some ⟨g, 0, none⟩)) (ht2 : tm.getD t2 undef = .string s) (hu : tm.getD u undef = .pointer (some ⟨g2, 0, none⟩)) (hv : tm.getD v undef = .pointer (some ⟨g3, 0, none⟩)) (hQ : Q (.returned (.tuple #[.agg #[.int .i64 a, .int .i64 b, .int .i64 c], .string s, .agg #[.int .i64 x, .int .i64 y, .int .i64 z, .int .i64 r], .agg #[.slice A1 n1 d1, .slice A2 n2 d2, .slice A3 n3 d3]])) w) :
    bodyPost Try.prog fn Q .ret { tmps := tm, defers := [] } w := by
  have C := B.cells
  have C2 := B2.cells
  have C3 := B3.cells
  refine bodyPost_ret (v := .tuple #[.agg #[.int .i64 a, .int .i64 b, .int .i64 c], .string s, .agg #[.int .i64 x, .int .i64 y, .int .i64 z, .int .i64 r], .agg #[.slice A1 n1 d1, .slice A2 n2 d2, .slice A3 n3 d3]]) ?_ rfl hQ
  have ht' : (tm[t]?).getD undef = .pointer (some ⟨g, 0, none⟩) := by simpa using ht
  have hs' : (tm[t2]?).getD undef = .string s := by simpa using ht2
  have hu' : (tm[u]?).getD undef = .pointer (some ⟨g2, 0, none⟩) := by simpa using hu
  have hv' : (tm[v]?).getD undef = .pointer (some ⟨g3, 0, none⟩) := by simpa using hv
  simp [results, h, ht', hs', hu', hv', go_sem, C, C2, C3]
def DrawnGSEP (w : World) (e : Ending) (w' : World) : Prop := ∃ (P Q G : Int) (s : ByteArray) (a b c d : Int) (A1 : Option Addr) (n1 d1 : Nat) (A2 : Option Addr) (n2 d2 : Nat) (A3 : Option Addr) (n3 d3 : Nat) (l1 l2 l3 : List Int),
  e = .returned (.tuple #[.agg #[.int .i64 P, .int .i64 Q, .int .i64 G], .string s, .agg #[.int .i64 a, .int .i64 b, .int .i64 c, .int .i64 d], .agg #[.slice A1 n1 d1, .slice A2 n2 d2, .slice A3 n3 d3]]) ∧ GrpD P Q G ∧ s.size ≤ 100 ∧ SlI w' A1 n1 d1 l1 ∧ SlI w' A2 n2 d2 l2 ∧ SlI w' A3 n3 d3 l3 ∧ Ext w w'
set_option maxRecDepth 100000 in
set_option maxHeartbeats 8000000 in
theorem DrawVerifyEqual_any (A : Option Addr) (n c : Nat) (l : List Int) (w : World) (hR : RdB w A l) (hl : l.length = n) (hn : n ≤ 9223372036854775807) (hx : ∀ x ∈ l, 0 ≤ x ∧ x ≤ 255) :
    Calls Try.prog 18 #[.slice A n c] w fun e w' => DrawnGSEP w e w' := by
  have hE0 := (((Ext.refl w).alloc (.cells #[.int .i64 0, .int .i64 0, .int .i64 0] 38)).alloc (.cells #[.int .i64 0, .int .i64 0, .int .i64 0, .int .i64 0] 53)).alloc (.cells #[.slice none 0 0, .slice none 0 0, .slice none 0 0] 44)
  have BA := ((Blk.new w 38 #[.int .i64 0, .int .i64 0, .int .i64 0]).alloc (.cells #[.int .i64 0, .int .i64 0, .int .i64 0, .int .i64 0] 53)).alloc (.cells #[.slice none 0 0, .slice none 0 0, .slice none 0 0] 44)
  have BB := (Blk.new (w.alloc (.cells #[.int .i64 0, .int .i64 0, .int .i64 0] 38)) 53 #[.int .i64 0, .int .i64 0, .int .i64 0, .int .i64 0]).alloc (.cells #[.slice none 0 0, .slice none 0 0, .slice none 0 0] 44)
  have BP := Blk.new ((w.alloc (.cells #[.int .i64 0, .int .i64 0, .int .i64 0] 38)).alloc (.cells #[.int .i64 0, .int .i64 0, .int .i64 0, .int .i64 0] 53)) 44 #[.slice none 0 0, .slice none 0 0, .slice none 0 0]
  have hC := new_cur (c := c) (hR.ext hE0) hl hn hx
  simp only [World.size_alloc] at hC BB BP
  have EC : Ext (((w.alloc (.cells #[.int .i64 0, .int .i64 0, .int .i64 0] 38)).alloc (.cells #[.int .i64 0, .int .i64 0, .int .i64 0, .int .i64 0] 53)).alloc (.cells #[.slice none 0 0, .slice none 0 0, .slice none 0 0] 44)) ((((w.alloc (.cells #[.int .i64 0, .int .i64 0, .int .i64 0] 38)).alloc (.cells #[.int .i64 0, .int .i64 0, .int .i64 0, .int .i64 0] 53)).alloc (.cells #[.slice none 0 0, .slice none 0 0, .slice none 0 0] 44)).alloc (.cells #[.slice A n c, .int .i64 0, .int .u64 0] 112)) := (Ext.refl _).alloc _
  replace BA := BA.ext EC
  replace BB := BB.ext EC
  replace BP := BP.ext EC
  have hE1 := hE0.trans EC
  have hR1 := hR.ext hE1
  have hsz0 : w.heap.size + 4 ≤ ((((w.alloc (.cells #[.int .i64 0, .int .i64 0, .int .i64 0] 38)).alloc (.cells #[.int .i64 0, .int .i64 0, .int .i64 0, .int .i64 0] 53)).alloc (.cells #[.slice none 0 0, .slice none 0 0, .slice none 0 0] 44)).alloc (.cells #[.slice A n c, .int .i64 0, .int .u64 0] 112)).heap.size := by simp
  clear EC hE0
  go_enter Try.func18, Try.ntmps18
  go_wp2_with fail
  generalize (((w.alloc (.cells #[.int .i64 0, .int .i64 0, .int .i64 0] 38)).alloc (.cells #[.int .i64 0, .int .i64 0, .int .i64 0, .int .i64 0] 53)).alloc (.cells #[.slice none 0 0, .slice none 0 0, .slice none 0 0] 44)).alloc (.cells #[.slice A n c, .int .i64 0, .int .u64 0] 112) = w0 at *
  refine (DrawProveEqual_any A n c l _ hR1 hl hn hx).mono ?_
  rintro e w1 ⟨P, Q, G, s, a, b, c', d, x, y, rfl, hD, hs, hE2⟩
  have hsz1 := hE2.size
  have E := hE1.trans hE2
  have E6 := ((Ext.refl w1).alloc (.cells #[.int .i64 P, .int .i64 Q, .int .i64 G] 38)).alloc (.cells #[.int .i64 a, .int .i64 b, .int .i64 c', .int .i64 d] 53)
  have B7 := (Blk.new w1 38 #[.int .i64 P, .int .i64 Q, .int .i64 G]).alloc (.cells #[.int .i64 a, .int .i64 b, .int .i64 c', .int .i64 d] 53)
  have B9 := Blk.new (w1.alloc (.cells #[.int .i64 P, .int .i64 Q, .int .i64 G] 38)) 53 #[.int .i64 a, .int .i64 b, .int .i64 c', .int .i64 d]
  simp only [World.size_alloc] at B9
  replace BA := (BA.ext hE2).ext E6
  replace BB := (BB.ext hE2).ext E6
  replace BP := (BP.ext hE2).ext E6
  replace E := E.trans E6
  replace hC := (hC.ext hE2).ext E6
  clear hl hx hR hE1 hR1 hE2 E6
  go_upto_region 3 with (fail)
  have hs5 : w1.heap.size + 1 < ((w1.alloc (.cells #[.int .i64 P, .int .i64 Q, .int .i64 G] 38)).alloc (.cells #[.int .i64 a, .int .i64 b, .int .i64 c', .int .i64 d] 53)).heap.size := by simp
  generalize (w1.alloc (.cells #[.int .i64 P, .int .i64 Q, .int .i64 G] 38)).alloc (.cells #[.int .i64 a, .int .i64 b, .int .i64 c', .int .i64 d] 53) = w2 at *
  generalize hg9 : w1.heap.size + 1 = g9 at *
  generalize hg7 : w1.heap.size = g7 at *
  have h79 : g7 < g9 := by omega
  clear hg7 hg9
  replace hsz0 : w.heap.size + 4 ≤ g7 := by omega
  clear hsz1
  clear w1 w0
  have C7 := B7.cells
  have C9 := B9.cells
  go_wp2_with fail
  refine (sProveEqual_any P Q G s a b c' d x y _ (by omega)).mono ?_
  rintro e w3 ⟨A1, n1, d1, A2, n2, d2, A3, n3, d3, rfl, s1, s2, s3, hE3⟩
  have hK1 : n1 ≤ 1000 := by have h9 := s1.len; rw [← h9]; cases peK P Q G s a b c' d x y <;> simp [imgL]
  have hK2 : n2 ≤ 1000 := by have h9 := s2.len; rw [← h9]; cases peK P Q G s a b c' d x y <;> simp
  have hK3 : n3 ≤ 1000 := by have h9 := s3.len; rw [← h9]; cases peK P Q G s a b c' d x y <;> simp [rspL]
  generalize peK P Q G s a b c' d x y = K at *
  have hsz3 := hE3.size
  have E8 := (Ext.refl w3).alloc (.cells #[.slice A1 n1 d1, .slice A2 n2 d2, .slice A3 n3 d3] 44)
  have B12 := Blk.new w3 44 #[.slice A1 n1 d1, .slice A2 n2 d2, .slice A3 n3 d3]
  replace E := (E.trans hE3).trans E8
  replace BA := (BA.ext hE3).ext E8
  replace BB := (BB.ext hE3).ext E8
  replace BP := (BP.ext hE3).ext E8
  replace B7 := (B7.ext hE3).ext E8
  replace B9 := (B9.ext hE3).ext E8
  replace hC := (hC.ext hE3).ext E8
  replace s1 := s1.ext E8
  replace s2 := s2.ext E8
  replace s3 := s3.ext E8
  clear C7 C9 hE3 E8
  go_wp2_with fail
  have hs6 : w3.heap.size < (w3.alloc (.cells #[.slice A1 n1 d1, .slice A2 n2 d2, .slice A3 n3 d3] 44)).heap.size := by simp
  generalize w3.alloc (.cells #[.slice A1 n1 d1, .slice A2 n2 d2, .slice A3 n3 d3] 44) = w4 at *
  generalize hg12 : w3.heap.size = g12 at *
  clear hg12
  clear w3
  have hS : ∀ V, Blk V g7 38 #[.int .i64 P, .int .i64 Q, .int .i64 G] → Blk V g9 53 #[.int .i64 a, .int .i64 b, .int .i64 c', .int .i64 d] → Blk V g12 44 #[.slice A1 n1 d1, .slice A2 n2 d2, .slice A3 n3 d3] → V.cell? ⟨g7, 0, none⟩ = some (.int .i64 P) ∧ V.cell? ⟨g7, 1, none⟩ = some (.int .i64 Q) ∧ V.cell? ⟨g7, 2, none⟩ = some (.int .i64 G) ∧ V.cell? ⟨g9, 0, none⟩ = some (.int .i64 a) ∧ V.cell? ⟨g9, 1, none⟩ = some (.int .i64 b) ∧ V.cell? ⟨g9, 2, none⟩ = some (.int .i64 c') ∧ V.cell? ⟨g9, 3, none⟩ = some (.int .i64 d) ∧ V.cell? ⟨g12, 0, none⟩ = some (.slice A1 n1 d1) ∧ V.cell? ⟨g12, 1, none⟩ = some (.slice A2 n2 d2) ∧ V.cell? ⟨g12, 2, none⟩ = some (.slice A3 n3 d3) := fun V h h2 h3 => ⟨h.cells 0, h.cells 1, h.cells 2, h2.cells 0, h2.cells 1, h2.cells 2, h2.cells 3, h3.cells 0, h3.cells 1, h3.cells 2⟩
  go_region_held3 (fun V => V.cell? ⟨g7, 0, none⟩ = some (.int .i64 P) ∧ V.cell? ⟨g7, 1, none⟩ = some (.int .i64 Q) ∧ V.cell? ⟨g7, 2, none⟩ = some (.int .i64 G) ∧ V.cell? ⟨g9, 0, none⟩ = some (.int .i64 a) ∧ V.cell? ⟨g9, 1, none⟩ = some (.int .i64 b) ∧ V.cell? ⟨g9, 2, none⟩ = some (.int .i64 c') ∧ V.cell? ⟨g9, 3, none⟩ = some (.int .i64 d) ∧ V.cell? ⟨g12, 0, none⟩ = some (.slice A1 n1 d1) ∧ V.cell? ⟨g12, 1, none⟩ = some (.slice A2 n2 d2) ∧ V.cell? ⟨g12, 2, none⟩ = some (.slice A3 n3 d3)) (exact hS _ (by repeat (first | with_reducible assumption | with_reducible refine Blk.drew ?_ | with_reducible refine Blk.drewN ?_ _ | with_reducible refine Blk.alloc ?_ _ | with_reducible refine Blk.farS ?_ ?_ | (show _ ≠ _; first | omega | (simp; done) | (simp; omega)))) (by repeat (first | with_reducible assumption | with_reducible refine Blk.drew ?_ | with_reducible refine Blk.drewN ?_ _ | with_reducible refine Blk.alloc ?_ _ | with_reducible refine Blk.farS ?_ ?_ | (show _ ≠ _; first | omega | (simp; done) | (simp; omega)))) (by repeat (first | with_reducible assumption | with_reducible refine Blk.drew ?_ | with_reducible refine Blk.drewN ?_ _ | with_reducible refine Blk.alloc ?_ _ | with_reducible refine Blk.farS ?_ ?_ | (show _ ≠ _; first | omega | (simp; done) | (simp; omega)))))
    (first
      | (go_at_call 71; refine (bent_any (w.heap.size + 1 + 1 + 1) _ P Q G A1 A2 A3 n1 d1 n2 d2 n3 d3 _ _ _ _ (hC.ext ((Ext.refl _).drew)) (by omega) (by simp; omega) hD (s1.ext ((Ext.refl _).drew)) (s2.ext ((Ext.refl _).drew)) (s3.ext ((Ext.refl _).drew)) hK1 hK2 hK3).mono ?_; rintro e w5 ⟨D1, m1, f1, D2, m2, f2, D3, m3, f3, k1, k2, k3, rfl, t1, t2, t3, ⟨q1, q2, q3⟩, hO5, hC5⟩; have BA5 := BA.drew.only hO5 (by simp <;> omega); have BB5 := BB.drew.only hO5 (by simp <;> omega); have BP5 := BP.drew.only hO5 (by simp <;> omega); have B75 := B7.drew.only hO5 (by simp <;> omega); have B95 := B9.drew.only hO5 (by simp <;> omega); have B125 := B12.drew.only hO5 (by simp <;> omega); have CA := BA5.cells; have FA := BA5.frozen;
          have BB6 := ((BB5.far (p := ⟨w.heap.size, 0, none⟩) (by simp) (.int .i64 P)).far (p := ⟨w.heap.size, 1, none⟩) (by simp) (.int .i64 Q)).far (p := ⟨w.heap.size, 2, none⟩) (by simp) (.int .i64 G); have CB6 := BB6.cells; have FB6 := BB6.frozen;
          have BP6 := ((((((BP5.far (p := ⟨w.heap.size, 0, none⟩) (by simp <;> omega) (.int .i64 P)).far (p := ⟨w.heap.size, 1, none⟩) (by simp <;> omega) (.int .i64 Q)).far (p := ⟨w.heap.size, 2, none⟩) (by simp <;> omega) (.int .i64 G)).far (p := ⟨w.heap.size + 1, 0, none⟩) (by simp <;> omega) (.int .i64 a)).far (p := ⟨w.heap.size + 1, 1, none⟩) (by simp <;> omega) (.int .i64 b)).far (p := ⟨w.heap.size + 1, 2, none⟩) (by simp <;> omega) (.int .i64 c')).far (p := ⟨w.heap.size + 1, 3, none⟩) (by simp <;> omega) (.int .i64 d); have CP6 := BP6.cells; have FP6 := BP6.frozen)
      | fail)
  all_goals
    go_wp2
    have hon := only_10 w5 w.heap.size (.int .i64 P) (.int .i64 Q) (.int .i64 G) (.int .i64 a) (.int .i64 b) (.int .i64 c') (.int .i64 d) (.slice D1 m1 f1) (.slice D2 m2 f2) (.slice D3 m3 f3)
    have hz5 : w4.heap.size ≤ w5.heap.size := hO5.size
    refine ret_gsep (a := P) (b := Q) (c := G) (x := a) (y := b) (z := c') (r := d) (s := s) (A1 := D1) (n1 := m1) (d1 := f1) (A2 := D2) (n2 := m2) (d2 := f2) (A3 := D3) (n3 := m3) (d3 := f3) ((((((((((BA5.set_ 0 (.int .i64 P)).set_ 1 (.int .i64 Q)).set_ 2 (.int .i64 G)).far (p := ⟨w.heap.size + 1, 0, none⟩) (by simp <;> omega) (.int .i64 a)).far (p := ⟨w.heap.size + 1, 1, none⟩) (by simp <;> omega) (.int .i64 b)).far (p := ⟨w.heap.size + 1, 2, none⟩) (by simp <;> omega) (.int .i64 c')).far (p := ⟨w.heap.size + 1, 3, none⟩) (by simp <;> omega) (.int .i64 d)).far (p := ⟨w.heap.size + 1 + 1, 0, none⟩) (by simp <;> omega) (.slice D1 m1 f1)).far (p := ⟨w.heap.size + 1 + 1, 1, none⟩) (by simp <;> omega) (.slice D2 m2 f2)).far (p := ⟨w.heap.size + 1 + 1, 2, none⟩) (by simp <;> omega) (.slice D3 m3 f3)) (((((((BB6.set_ 0 (.int .i64 a)).set_ 1 (.int .i64 b)).set_ 2 (.int .i64 c')).set_ 3 (.int .i64 d)).far (p := ⟨w.heap.size + 1 + 1, 0, none⟩) (by simp <;> omega) (.slice D1 m1 f1)).far (p := ⟨w.heap.size + 1 + 1, 1, none⟩) (by simp <;> omega) (.slice D2 m2 f2)).far (p := ⟨w.heap.size + 1 + 1, 2, none⟩) (by simp <;> omega) (.slice D3 m3 f3)) (((BP6.set_ 0 (.slice D1 m1 f1)).set_ 1 (.slice D2 m2 f2)).set_ 2 (.slice D3 m3 f3)) rfl rfl rfl rfl rfl ?_
    exact ⟨P, Q, G, s, a, b, c', d, D1, m1, f1, D2, m2, f2, D3, m3, f3, k1, k2, k3, rfl, hD, hs, t1.off hon (fun b hb hb' => by have := q1 b hb; simp at hb' this; omega), t2.off hon (fun b hb hb' => by have := q2 b hb; simp at hb' this; omega), t3.off hon (fun b hb hb' => by have := q3 b hb; simp at hb' this; omega), (E.drew.only hO5 (fun b hb => by simp at hb; omega)).only hon (fun b hb => by simp at hb; omega)⟩
end Go.Proofs.Ytpfccboighdcbaa
