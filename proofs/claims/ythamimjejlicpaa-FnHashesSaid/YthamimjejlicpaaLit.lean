/- 'append(s, x)' at a step of a region that draws its order; a cell that has just been laid (both as in Rec, for claims that do without it). -/
import Derived.Test.YthamimjejlicpaaProg
import Derived.Test.YthamimjejlicpaaLies
import Derived.Deep.AppendLies
import Derived.Deep.RegionLaw
namespace Go.Proofs.Ythamimjejlicpaa
open Go.RowKit

/-- An append in a region that draws its order. -/
theorem step_app1L {P : Program} {w : World} {ops : Array Oper} {o : Oper} {a : Act} {K : Act → World → Prop} {Q : Exit → Act → World → Prop} {E : Prop} {t e : TypeId} (S : IntSl P t e) {y : Int}
    (hg : o.guard = none) (s x : Operand) (ho : o.op = .call { callee := .builtin .append, args := #[s, x], argTypes := #[t, t] })
    {base : Nat} {A : Option Addr} {n c c' : Nat} {l : List Int} (hown : OwnI w base e A n c l) (hs : a.eval s = .slice A n c)
    (ad : Addr) (hx : a.eval x = .slice (some ad) 1 c') (hy : w.cell? ad = some (.int .i64 y)) (hn : n ≤ 1000000000) (hb : base ≤ w.heap.size)
    (hK : ∀ A' d w', OwnI w' base e A' (n + 1) d (l ++ [y]) → Only (fpI A) w w' → (∀ b ∈ fpI A', b ∈ fpI A ∨ w.heap.size ≤ b) → K (a.put o.dst (.slice A' (n + 1) d)) w') :
    if Region.wanted o (yielded ops a.tmps) = true then Oper.wp P o a w K Q else E := by
  obtain ⟨i, h2, h3, h4, h5⟩ := S.hi
  refine step_append_lies (P := P) w hg s x t ho base e i (.int .i64 0) 1 8 S.ht h2 h3 h4 h5 rfl (by omega) (.slice A n c) n (ints l) hs hown ad 1 c' [.int .i64 y] hx (by simp) ?_ (by simp [Value.oneCell']) (by omega) (by unfold maxLen; omega) (by omega) hb _ rfl ?_
  · intro j u hu
    match j with
    | 0 => simp only [List.getElem?_cons_zero, Option.some.injEq] at hu; subst hu; rw [show ad.add 0 = ad from rfl]; exact hy
    | j + 1 => simp at hu
  · intro g d w' h6 h7 h8 h9
    rw [← ints_one, ← ints_append] at h6
    refine hK _ _ w' h6 (only_of_grown h7) fun b hb => ?_
    simp only [fpI, List.mem_singleton] at hb
    subst hb
    rcases h8 with h8 | h8
    · left
      cases A with
      | none => simp [Value.ownBlock] at h8
      | some a => simp only [Value.ownBlock, Option.some.injEq] at h8; simp [fpI, h8]
    · right; omega
theorem cell_new {w V : World} {y : Int} {e : TypeId} {k : Nat} (hk : k = w.heap.size) (h : Ext (w.alloc (.cells #[.int .i64 y] e)) V) : V.cell? ⟨k, 0, none⟩ = some (.int .i64 y) := by
  subst hk
  exact h.cell (cell_one_new w _ _ 0 _ rfl)
end Go.Proofs.Ythamimjejlicpaa
