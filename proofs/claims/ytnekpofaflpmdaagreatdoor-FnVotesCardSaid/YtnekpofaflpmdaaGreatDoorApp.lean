/- 'append(s, xs...)' onto a slice of the call's own: xs came in, nil or not. -/
import Derived.Test.YtnekpofaflpmdaaGreatDoorProg
import Derived.Test.YtnekpofaflpmdaaGreatDoorBase
import Derived.Deep.RegionHeld3
namespace Go.Proofs.YtnekpofaflpmdaaGreatDoor
open Go.RowKit

theorem run_app_nil {P : Program} {w : World} {base e n : Nat} {t ty : TypeId} {i : TypeInfo} {v : Value} {xs : List Value} (ht : P.underlying t = some (.slice e)) (hi : P.info? e = some i)
    (hown : w.ownsRow base e 1 v n xs) (c : Nat) : (Builtin.append_ #[t, t] ty #[v, .slice none 0 c]).run P w = .ok v w := by
  rcases hown.2 with ⟨rfl, rfl⟩ | ⟨g, cap, cur, rfl, _, _, hnc, _⟩ <;> simp [Builtin.append_, run_underlying ht, sizeOf, typeInfo, Builtin.lenOf, Builtin.firstCells, storeCells, *]

theorem wpList_appL {P : Program} {w : World} {ops : Array Oper} {rest : List Oper} {o : Oper} {a : Act} {Q : Exit → Act → World → Prop} {t e : TypeId} (S : IntSl P t e)
    (hg : o.guard = none) (s x : Operand) (ho : o.op = .call { callee := .builtin .append, args := #[s, x], argTypes := #[t, t] })
    {base : Nat} {A : Option Addr} {n c : Nat} {l : List Int} (hown : OwnI w base e A n c l) (hs : a.eval s = .slice A n c)
    {B : Option Addr} {m c' : Nat} {ys : List Int} (hr : RdI w B ys) (hl : ys.length = m) (hx : a.eval x = .slice B m c') (hn : n + m ≤ 1000000000) (hb : base ≤ w.heap.size)
    (hK : ∀ A' d w', OwnI w' base e A' (n + m) d (l ++ ys) → Below base w w' → wpList P ops Q rest (a.put o.dst (.slice A' (n + m) d)) w') :
    wpList P ops Q (o :: rest) a w := by
  obtain ⟨i, h2, h3, h4, h5⟩ := S.hi
  rcases B with _ | ad
  · have hy : ys = [] := by
      rcases hr with h | ⟨ad, h, _⟩
      · simpa [ints] using h
      · cases h
    subst hy
    simp only [List.length_nil] at hl
    subst hl
    refine wpList_plain hg fun K hK2 => ?_
    unfold Oper.wp execOp
    simp only [ho, resolve, invoke, builtin, Sem.run_bind, Sem.run_pure, Result.andThen_ok, List.map_toArray, List.map_cons, List.map_nil, hs, hx, run_app_nil S.ht h2 hown c']
    refine hK2 _ _ (hK A c w ?_ (Below.refl base w))
    simpa using hown
  · have hcells : ∀ j u, (ints ys)[j]? = some u → w.cell? (ad.add j) = some u := by
      rcases hr with h | ⟨ad', h, hc⟩
      · rw [h]; intro j u hu; simp at hu
      · injection h with h; subst h; exact hc
    refine wpList_append_own (P := P) w hg s x t ho base e i (.int .i64 0) 1 8 S.ht h2 h3 h4 h5 rfl (by omega) (.slice A n c) n (ints l) hs hown ad m c' (ints ys) hx (by simp [ints, hl]) hcells (ints_oneCell ys) (by unfold maxLen; omega) (by omega) hb ?_
    intro v' w' h6 h7 h8
    rw [← ints_append] at h6
    have hbl : Below base w w' := (Below.refl base w).grown h7 hb fun k hk => (World.ownsRow.lt hown k hk).1
    have hv : ∃ A' d, v' = .slice A' (n + m) d := by
      rcases h6.2 with ⟨hv, hnm⟩ | ⟨g, cap, cur, hv, _⟩
      · exact ⟨none, 0, by rw [hv, hnm]⟩
      · exact ⟨_, _, hv⟩
    obtain ⟨A', d, rfl⟩ := hv
    exact hK A' d w' h6 hbl

/-- The same at a step of a region that draws its order. -/
theorem step_appL {P : Program} {w : World} {ops : Array Oper} {o : Oper} {a : Act} {K : Act → World → Prop} {Q : Exit → Act → World → Prop} {E : Prop} {t e : TypeId} (S : IntSl P t e)
    (hg : o.guard = none) (s x : Operand) (ho : o.op = .call { callee := .builtin .append, args := #[s, x], argTypes := #[t, t] })
    {base : Nat} {A : Option Addr} {n c : Nat} {l : List Int} (hown : OwnI w base e A n c l) (hs : a.eval s = .slice A n c)
    {B : Option Addr} {m c' : Nat} {ys : List Int} (hr : RdI w B ys) (hl : ys.length = m) (hx : a.eval x = .slice B m c') (hn : n + m ≤ 1000000000) (hb : base ≤ w.heap.size)
    (hK : ∀ A' d w', OwnI w' base e A' (n + m) d (l ++ ys) → Below base w w' → K (a.put o.dst (.slice A' (n + m) d)) w') :
    if Region.wanted o (yielded ops a.tmps) = true then Oper.wp P o a w K Q else E := by
  have hw : Region.wanted o (yielded ops a.tmps) = true := by simp [Region.wanted, hg]
  rw [if_pos hw]
  obtain ⟨i, h2, h3, h4, h5⟩ := S.hi
  rcases B with _ | ad
  · have hy : ys = [] := by
      rcases hr with h | ⟨ad, h, _⟩
      · simpa [ints] using h
      · cases h
    subst hy
    simp only [List.length_nil] at hl
    subst hl
    unfold Oper.wp execOp
    simp only [ho, resolve, invoke, builtin, Sem.run_bind, Sem.run_pure, Result.andThen_ok, List.map_toArray, List.map_cons, List.map_nil, hs, hx, run_app_nil S.ht h2 hown c']
    refine hK A c w ?_ (Below.refl base w)
    simpa using hown
  · have hcells : ∀ j u, (ints ys)[j]? = some u → w.cell? (ad.add j) = some u := by
      rcases hr with h | ⟨ad', h, hc⟩
      · rw [h]; intro j u hu; simp at hu
      · injection h with h; subst h; exact hc
    refine wp_append_own w s x t ho base e i (.int .i64 0) 1 8 S.ht h2 h3 h4 h5 rfl (by omega) (.slice A n c) n (ints l) hs hown ad m c' (ints ys) hx (by simp [ints, hl]) hcells (ints_oneCell ys) (by unfold maxLen; omega) (by omega) hb ?_
    intro v' w' h6 h7 h8
    rw [← ints_append] at h6
    have hbl : Below base w w' := (Below.refl base w).grown h7 hb fun k hk => (World.ownsRow.lt hown k hk).1
    have hv : ∃ A' d, v' = .slice A' (n + m) d := by
      rcases h6.2 with ⟨hv, hnm⟩ | ⟨g, cap, cur, hv, _⟩
      · exact ⟨none, 0, by rw [hv, hnm]⟩
      · exact ⟨_, _, hv⟩
    obtain ⟨A', d, rfl⟩ := hv
    exact hK A' d w' h6 hbl
end Go.Proofs.YtnekpofaflpmdaaGreatDoor
