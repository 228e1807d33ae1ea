/- Contracts for sums of a key and dealings: the program's and the reference's. (Printed by tools/gen_plus.py.) -/
import Derived.Test.YtnhdohjlbchniaaProg
import Derived.Test.YtnhdohjlbchniaaSum
import Derived.Test.YtnhdohjlbchniaaDlS
namespace Go.Proofs.Ytnhdohjlbchniaa
open Go.RowKit

theorem run_app_nilW {P : Program} {w : World} {base e n s : Nat} {t ty : TypeId} {i : TypeInfo} {v : Value} {xs : List Value} (ht : P.underlying t = some (.slice e)) (hi : P.info? e = some i)
    (hown : w.ownsRow base e s v n xs) (c : Nat) : (Builtin.append_ #[t, t] ty #[v, .slice none 0 c]).run P w = .ok v w := by
  rcases hown.2 with ⟨rfl, rfl⟩ | ⟨g, cap, cur, rfl, _, _, hnc, _⟩ <;> simp [Builtin.append_, run_underlying ht, sizeOf, typeInfo, Builtin.lenOf, Builtin.firstCells, storeCells, *]
/-- 'append(s, xs...)' of structs of two slices, at a step of a region that draws its order. -/
theorem step_appD {P : Program} {w : World} {ops : Array Oper} {o : Oper} {a : Act} {K : Act → World → Prop} {Q : Exit → Act → World → Prop} {E : Prop} {t e : TypeId} (S : DealSl P t e)
    (hg : o.guard = none) (s x : Operand) (ho : o.op = .call { callee := .builtin .append, args := #[s, x], argTypes := #[t, t] })
    {base : Nat} {A : Option Addr} {n c : Nat} {xs : List Value} (hown : OwnW 2 w base e A n c xs) (hs : a.eval s = .slice A n c)
    {B : Option Addr} {m c' : Nat} {ys : List Value} (hr : Rd w B ys) (hl : ys.length = m * 2) (h1 : ∀ u ∈ ys, u.oneCell' = true) (hx : a.eval x = .slice B m c') (hn : n + m ≤ 1000000) (hb : base ≤ w.heap.size)
    (hK : ∀ A' d w', OwnW 2 w' base e A' (n + m) d (xs ++ ys) → Below base w w' → K (a.put o.dst (.slice A' (n + m) d)) w') :
    if Region.wanted o (yielded ops a.tmps) = true then Oper.wp P o a w K Q else E := by
  have hw : Region.wanted o (yielded ops a.tmps) = true := by simp [Region.wanted, hg]
  rw [if_pos hw]
  obtain ⟨i, h2, h3, h4, h5⟩ := S.hi
  rcases B with _ | ad
  · have hy : ys = [] := by
      rcases hr with h | ⟨ad, h, _⟩
      · exact h
      · cases h
    subst hy
    have hm : m = 0 := by simp at hl; omega
    subst hm
    unfold Oper.wp execOp
    simp only [ho, resolve, invoke, builtin, Sem.run_bind, Sem.run_pure, Result.andThen_ok, List.map_toArray, List.map_cons, List.map_nil, hs, hx, run_app_nilW S.ht h2 hown c']
    refine hK A c w ?_ (Below.refl base w)
    simpa using hown
  · have hcells : ∀ j u, ys[j]? = some u → w.cell? (ad.add j) = some u := by
      rcases hr with h | ⟨ad', h, hc⟩
      · rw [h]; intro j u hu; simp at hu
      · injection h with h; subst h; exact hc
    refine wp_append_own w s x t ho base e i (.agg #[.slice none 0 0, .slice none 0 0]) 2 48 S.ht h2 h3 h4 h5 rfl (by omega) (.slice A n c) n xs hs hown ad m c' ys hx hl hcells h1 (by unfold maxLen; omega) (by omega) hb ?_
    intro v' w' h6 h7 h8
    have hbl : Below base w w' := (Below.refl base w).grown h7 hb fun k hk => (World.ownsRow.lt hown k hk).1
    have hv : ∃ A' d, v' = .slice A' (n + m) d := by
      rcases h6.2 with ⟨hv, hnm⟩ | ⟨g, cap, cur, hv, _⟩
      · exact ⟨none, 0, by rw [hv, hnm]⟩
      · exact ⟨_, _, hv⟩
    obtain ⟨A', d, rfl⟩ := hv
    exact hK A' d w' h6 hbl
theorem rowV_one (rs : List (Option Addr × Nat × Nat)) : ∀ u ∈ rs.map rowV, u.oneCell' = true := by
  intro u hu
  obtain ⟨r, _, rfl⟩ := List.mem_map.1 hu
  rfl
/-- A slice of one dealing that has just been laid. -/
theorem ownW_one {w : World} {A B : Option Addr} {n c m d : Nat} : OwnW 2 (w.alloc (.cells #[.slice A n c, .slice B m d] 68)) w.heap.size 68 (some ⟨w.heap.size, 0, none⟩) 1 1 [rowV (A, n, c), rowV (B, m, d)] := by
  have h := World.ownsRow_lit (base := w.heap.size) (e := 68) (size := 2) w #[.slice A n c, .slice B m d] 1 (Nat.le_refl _) (by unfold maxLen; omega) (by simp)
  simpa [OwnW, rowV] using h
end Go.Proofs.Ytnhdohjlbchniaa
