/- Contracts for sums of a key and dealings: the program's and the reference's. (Printed by tools/gen_plus.py.) -/
import Derived.Test.YthamimjejlicpaaProg
import Derived.Test.YthamimjejlicpaaSum
import Derived.Test.YthamimjejlicpaaDlS
namespace Go.Proofs.Ythamimjejlicpaa
open Go.RowKit

theorem run_app_nilW {P : Program} {w : World} {base e n s : Nat} {t ty : TypeId} {i : TypeInfo} {v : Value} {xs : List Value} (ht : P.underlying t = some (.slice e)) (hi : P.info? e = some i)
    (hown : w.ownsRow base e s v n xs) (c : Nat) : (Builtin.append_ #[t, t] ty #[v, .slice none 0 c]).run P w = .ok v w := by
  rcases hown.2 with ⟨rfl, rfl⟩ | ⟨g, cap, cur, rfl, _, _, hnc, _⟩ <;> simp [Builtin.append_, run_underlying ht, sizeOf, typeInfo, Builtin.lenOf, Builtin.firstCells, storeCells, *]
/-- 'append(s, xs...)' of structs of two slices, at a step of a region that draws its order. -/
theorem step_appD {P : Program} {w : World} {ops : Array Oper} {o : Oper} {a : Act} {K : Act → World → Prop} {Q : Exit → Act → World → Prop} {E : Prop} {t e : TypeId} (S : DealSl P t e)
    (hg : o.guard = none) (s x : Operand) (ho : o.op = .call { callee := .builtin .append, args := #[s, x], argTypes := #[t, t] })
    {base : Nat} {A : Option Addr} {n c : Nat} {xs : List Value} (hown : OwnW 2 w base e A n c xs) (hs : a.eval s = .slice A n c)
    {B : Option Addr} {m c' : Nat} {ys : List Value} (hr : Rd w B ys) (hl : ys.length = m * 2) (h1 : ∀ u ∈ ys, u.oneCell' = true) (hx : a.eval x = .slice B m c') (hn : n + m ≤ 1000000) (hb : base ≤ w.heap.size)
    (hK : ∀ A' d w', OwnW 2 w' base e A' (n + m) d (xs ++ ys) → Below base w w' → K (a.put o.dst (.slice A' (n + m) d)) w') :
    if Region.wanted o (yielded ops a.tmps) = true then Oper.wp P o a w K Q else E := by
  have hw : Region.wanted o (yielded ops a.tmps) = true := by simp [Region.wanted, hg]
  rw [if_pos hw]
  obtain ⟨i, h2, h3, h4, h5⟩ := S.hi
  rcases B with _ | ad
  · have hy : ys = [] := by
      rcases hr with h | ⟨ad, h, _⟩
      · exact h
      · cases h
    subst hy
    have hm : m = 0 := by simp at hl; omega
    subst hm
    unfold Oper.wp execOp
    simp only [ho, resolve, invoke, builtin, Sem.run_bind, Sem.run_pure, Result.andThen_ok, List.map_toArray, List.map_cons, List.map_nil, hs, hx, run_app_nilW S.ht h2 hown c']
    refine hK A c w ?_ (Below.refl base w)
    simpa using hown
  · have hcells : ∀ j u, ys[j]? = some u → w.cell? (ad.add j) = some u := by
      rcases hr with h | ⟨ad', h, hc⟩
      · rw [h]; intro j u hu; simp at hu
      · injection h with h; subst h; exact hc
    refine wp_append_own w s x t ho base e i (.agg #[.slice none 0 0, .slice none 0 0]) 2 48 S.ht h2 h3 h4 h5 rfl (by omega) (.slice A n c) n xs hs hown ad m c' ys hx hl hcells h1 (by unfold maxLen; omega) (by omega) hb ?_
    intro v' w' h6 h7 h8
    have hbl : Below base w w' := (Below.refl base w).grown h7 hb fun k hk => (World.ownsRow.lt hown k hk).1
    have hv : ∃ A' d, v' = .slice A' (n + m) d := by
      rcases h6.2 with ⟨hv, hnm⟩ | ⟨g, cap, cur, hv, _⟩
      · exact ⟨none, 0, by rw [hv, hnm]⟩
      · exact ⟨_, _, hv⟩
    obtain ⟨A', d, rfl⟩ := hv
    exact hK A' d w' h6 hbl
theorem rowV_one (rs : List (Option Addr × Nat × Nat)) : ∀ u ∈ rs.map rowV, u.oneCell' = true := by
  intro u hu
  obtain ⟨r, _, rfl⟩ := List.mem_map.1 hu
  rfl
/-- A slice of one dealing that has just been laid. -/
theorem ownW_one {w : World} {A B : Option Addr} {n c m d : Nat} : OwnW 2 (w.alloc (.cells #[.slice A n c, .slice B m d] 113)) w.heap.size 113 (some ⟨w.heap.size, 0, none⟩) 1 1 [rowV (A, n, c), rowV (B, m, d)] := by
  have h := World.ownsRow_lit (base := w.heap.size) (e := 113) (size := 2) w #[.slice A n c, .slice B m d] 1 (Nat.le_refl _) (by unfold maxLen; omega) (by simp)
  simpa [OwnW, rowV] using h
set_option maxRecDepth 100000 in
set_option maxHeartbeats 8000000 in
theorem plus_any (p q g : Int) (A : Option Addr) (n c : Nat) (cs : List Int) (B : Option Addr) (m d : Nat) (ss : List Int) (D : Option Addr) (r e : Nat) (ds : List (List Int × List Int)) (w : World) (h : GrpB p q) (hq : 2 ≤ q) (hq9 : q ≤ 2000000000) (ha : SlI w A n c cs) (hb : SlI w B m d ss) (hd : RdD w D ds) (hl : ds.length = r) (hr : r ≤ 50) (hn : n ≤ 1000) (hm : m ≤ 1000) (hg : ∀ x ∈ (cs, ss) :: ds, RngD q n m x) :
    Calls Try.prog 102 #[.agg #[.int .i64 p, .int .i64 q, .int .i64 g], .agg #[.slice A n c, .slice B m d], .slice D r e] w fun en w' => ∃ A' c' B' d', en = .returned (.agg #[.slice A' n c', .slice B' m d']) ∧ OwnK w' w.heap.size A' n c' B' m d' (sumD p q (cs, ss) ds).1 (sumD p q (cs, ss) ds).2 ∧ Ext w w' := by
  have E := ((((Ext.refl w).alloc (.cells #[.int .i64 p, .int .i64 q, .int .i64 g] 25)).alloc (.cells #[.slice A n c, .slice B m d] 62)).alloc (.cells #[.slice none 0 0, .slice none 0 0] 62))
  have B0 := (((Blk.new w 25 #[.int .i64 p, .int .i64 q, .int .i64 g]).alloc (.cells #[.slice A n c, .slice B m d] 62)).alloc (.cells #[.slice none 0 0, .slice none 0 0] 62))
  have B1 := ((Blk.new (w.alloc (.cells #[.int .i64 p, .int .i64 q, .int .i64 g] 25)) 62 #[.slice A n c, .slice B m d]).alloc (.cells #[.slice none 0 0, .slice none 0 0] 62))
  have B2 := (Blk.new ((w.alloc (.cells #[.int .i64 p, .int .i64 q, .int .i64 g] 25)).alloc (.cells #[.slice A n c, .slice B m d] 62)) 62 #[.slice none 0 0, .slice none 0 0])
  simp only [World.size_alloc] at B1 B2
  obtain ⟨rs, hrs, hrd⟩ := RdSS.rows hd
  have HG := Lib.hid hg
  have hrl : (rs.map rowV).length = r * 2 := by rw [List.length_map, hrs.1, flD_length, hl]
  have HRL := Lib.hid hrl
  have HL := Lib.hid hl
  clear hg hrl hl
  go_enter Try.func102, Try.ntmps102
  go_wp2
  generalize (((w.alloc (.cells #[.int .i64 p, .int .i64 q, .int .i64 g] 25)).alloc (.cells #[.slice A n c, .slice B m d] 62)).alloc (.cells #[.slice none 0 0, .slice none 0 0] 62)) = Wb at *
  have hwz := E.size
  have hcells : ∀ V, Ext Wb V → V.cell? ⟨w.heap.size, 0, none⟩ = some (.int .i64 p) ∧ V.cell? ⟨w.heap.size, 1, none⟩ = some (.int .i64 q) ∧ V.cell? ⟨w.heap.size, 2, none⟩ = some (.int .i64 g) ∧ V.cell? ⟨w.heap.size + 1, 0, none⟩ = some (.slice A n c) ∧ V.cell? ⟨w.heap.size + 1, 1, none⟩ = some (.slice B m d) ∧ V.cell? ⟨w.heap.size + 1 + 1, 0, none⟩ = some (.slice none 0 0) ∧ V.cell? ⟨w.heap.size + 1 + 1, 1, none⟩ = some (.slice none 0 0) ∧ V.frozen? ⟨w.heap.size + 1 + 1, 0, none⟩ = false ∧ V.frozen? ⟨w.heap.size + 1 + 1, 1, none⟩ = false := fun V hV => by
    have a0 := (B0.ext hV).cells
    have a1 := (B1.ext hV).cells
    have a2 := (B2.ext hV).cells
    have a3 := (B2.ext hV).frozen
    exact ⟨a0 0, a0 1, a0 2, a1 0, a1 1, a2 0, a2 1, a3 0, a3 1⟩
  have hb2 : ∀ V, Ext Wb V → Blk V (w.heap.size + 1 + 1) 62 #[.slice none 0 0, .slice none 0 0] := fun V hV => B2.ext hV
  obtain ⟨k0, k1, k2, k3, k4, k5, k6, k7, k8⟩ := hcells _ (Ext.refl Wb)
  obtain ⟨j0, j1, j2, j3, j4, j5, j6, j7, j8⟩ := hcells _ ((Ext.refl Wb).drew)
  obtain ⟨i0, i1, i2, i3, i4, i5, i6, i7, i8⟩ := hcells _ ((Ext.refl Wb).alloc (.cells #[.slice A n c, .slice B m d] 113))
  obtain ⟨l0, l1, l2, l3, l4, l5, l6, l7, l8⟩ := hcells _ (((Ext.refl Wb).drew).alloc (.cells #[.slice A n c, .slice B m d] 113))
  have hkey := RowsRd.append (RowsRd.two (ha.ext E) (hb.ext E)) (hrs.ext E)
  go_region_law (first
      | (refine step_appD dealSl (by rfl) _ _ (by rfl) (OwnW.ext (OwnW.more ownW_one (by first | exact Nat.le_refl _ | omega | (simp; done) | (simp; omega))) (by repeat (first | with_reducible assumption | with_reducible exact Ext.refl _ | with_reducible apply Ext.alloc | with_reducible apply Ext.drew | with_reducible apply Ext.drewN))) (by rfl) (Rd.ext hrd (Ext.trans E (by repeat (first | with_reducible assumption | with_reducible exact Ext.refl _ | with_reducible apply Ext.alloc | with_reducible apply Ext.drew | with_reducible apply Ext.drewN)))) HRL.out (rowV_one rs) (by rfl) (by omega) (by first | exact Nat.le_refl _ | omega | (simp; done) | (simp; omega)) ?_; intro A4 c4 w4 hO4 hB4; have hx4 := Ext.then (w := Wb) (by repeat (first | with_reducible assumption | with_reducible exact Ext.refl _ | with_reducible apply Ext.alloc | with_reducible apply Ext.drew | with_reducible apply Ext.drewN)) hB4 (by first | exact Nat.le_refl _ | omega | (simp; done) | (simp; omega)); obtain ⟨q0, q1, q2, q3, q4, q5, q6, q7, q8⟩ := hcells _ hx4)
      | (go_simp; go_at_call 121; refine (sumOf_any p q g A4 _ c4 ((cs, ss) :: ds) n m _ h hq hq9 (RdD.ext (RowsRd.rd (hkey.ext hx4) hO4.rd) (by repeat (first | with_reducible assumption | with_reducible exact Ext.refl _ | with_reducible apply Ext.alloc | with_reducible apply Ext.drew | with_reducible apply Ext.drewN))) (by simp; have := HL.out; omega) (by omega) (by omega) hO4.cap hn hm HG.out).mono ?_; rintro en w5 ⟨A5, c5, A6, c6, rfl, o5, hb5⟩; have hx5 := Ext.trans (w := Wb) (Ext.trans hx4 (by repeat (first | with_reducible assumption | with_reducible exact Ext.refl _ | with_reducible apply Ext.alloc | with_reducible apply Ext.drew | with_reducible apply Ext.drewN))) hb5; obtain ⟨p0, p1, p2, p3, p4, p5, p6, p7, p8⟩ := hcells _ hx5; have hz4 := hx4.size)
      | fail)
  all_goals
    have BF := hb2 _ hx5
    have CZ := ((BF.set_ 0 (.slice A5 n c5)).set_ 1 (.slice A6 m c6)).cells
    go_wp2
    refine bodyPost_ret (v := .agg #[.slice A5 n c5, .slice A6 m c6]) (by simp [results, Try.results102, CZ, go_sem]) rfl ⟨A5, c5, A6, c6, rfl, (o5.keepBlk BF (by decide) (only_two _ _ _ _ _ _)).more (by first | exact Nat.le_refl _ | omega | (simp; done) | (simp; omega)), (E.trans hx5).only1 (by first | exact Nat.le_refl _ | omega | (simp; done) | (simp; omega)) (only_two _ _ _ _ _ _)⟩
end Go.Proofs.Ythamimjejlicpaa
