/- Contracts for the value at a trustee from right shares: the program's and the reference's. (Printed by tools/gen_rec.py.) -/
import Derived.Test.YtnhdohjlbchniaaProg
import Derived.Test.YtnhdohjlbchniaaVal
import Derived.Test.YtnhdohjlbchniaaLag
import Derived.Test.YtnhdohjlbchniaaLies
import Derived.Deep.AppendLies
import Derived.Deep.RegionLaw
namespace Go.Proofs.Ytnhdohjlbchniaa
open Go.RowKit

/-- The right shares in order, as many as there are commitments. -/
def selP (p q g : Int) (cs is ss : List Int) : Nat → List Int × List Int
  | 0 => ([], [])
  | k + 1 => if (selP p q g cs is ss k).1.length < cs.length ∧ fitB p q g cs (is.getD k 0) (ss.getD k 0) = true then ((selP p q g cs is ss k).1 ++ [is.getD k 0], (selP p q g cs is ss k).2 ++ [ss.getD k 0]) else selP p q g cs is ss k
theorem selP_len (p q g : Int) (cs is ss : List Int) : ∀ k, (selP p q g cs is ss k).2.length = (selP p q g cs is ss k).1.length ∧ (selP p q g cs is ss k).1.length ≤ k
  | 0 => ⟨rfl, Nat.le_refl _⟩
  | k + 1 => by
    have ih := selP_len p q g cs is ss k
    unfold selP
    split
    · simp; omega
    · omega
theorem selP_le (p q g : Int) (cs is ss : List Int) : ∀ k, (selP p q g cs is ss k).1.length ≤ cs.length
  | 0 => Nat.zero_le _
  | k + 1 => by
    have ih := selP_le p q g cs is ss k
    unfold selP
    split
    · rename_i h; simp; omega
    · exact ih
theorem selP_sub (p q g : Int) (cs is ss : List Int) : ∀ k, k ≤ is.length → ((selP p q g cs is ss k).1).Sublist (is.take k)
  | 0, _ => by simp [selP]
  | k + 1, hk => by
    have ih := selP_sub p q g cs is ss k (by omega)
    have hlt : k < is.length := by omega
    rw [List.take_succ_eq_append_getElem hlt]
    unfold selP
    split
    · rw [getD_get hlt]; exact ih.append (List.Sublist.refl _)
    · exact ih.trans (List.sublist_append_left _ _)
theorem selP_sub2 (p q g : Int) (cs is ss : List Int) : ∀ k, k ≤ ss.length → ∀ y ∈ (selP p q g cs is ss k).2, y ∈ ss
  | 0, _, y, hy => by cases hy
  | k + 1, hk, y, hy => by
    have ih := selP_sub2 p q g cs is ss k (by omega) y
    have hlt : k < ss.length := by omega
    unfold selP at hy
    split at hy
    · rcases List.mem_append.1 hy with h1 | h1
      · exact ih h1
      · rw [getD_get hlt] at h1
        rw [List.mem_singleton.1 h1]
        exact List.getElem_mem hlt
    · exact ih hy
noncomputable def rcV (p q g : Int) (cs : List Int) (i : Int) (is ss : List Int) : Int :=
  if (selP p q g cs is ss is.length).1.length < cs.length then 0 else dotV (lagL q (selP p q g cs is ss is.length).1 i (selP p q g cs is ss is.length).1.length) (selP p q g cs is ss is.length).2 q (selP p q g cs is ss is.length).1.length
def rcK (p q g : Int) (cs is ss : List Int) : Bool := decide (¬ (selP p q g cs is ss is.length).1.length < cs.length)
/-- An append in a region that draws its order. -/
theorem step_app1F {P : Program} {w : World} {ops : Array Oper} {o : Oper} {a : Act} {K : Act → World → Prop} {Q : Exit → Act → World → Prop} {E : Prop} {t e : TypeId} (S : IntSl P t e) {y : Int}
    (hg : o.guard = none) (s x : Operand) (ho : o.op = .call { callee := .builtin .append, args := #[s, x], argTypes := #[t, t] })
    {base : Nat} {A : Option Addr} {n c c' : Nat} {l : List Int} (hown : OwnI w base e A n c l) (hs : a.eval s = .slice A n c)
    (ad : Addr) (hx : a.eval x = .slice (some ad) 1 c') (hy : w.cell? ad = some (.int .i64 y)) (hn : n ≤ 1000000000) (hb : base ≤ w.heap.size)
    (hK : ∀ A' d w', OwnI w' base e A' (n + 1) d (l ++ [y]) → Only (fpI A) w w' → (∀ b ∈ fpI A', b ∈ fpI A ∨ w.heap.size ≤ b) → K (a.put o.dst (.slice A' (n + 1) d)) w') :
    if Region.wanted o (yielded ops a.tmps) = true then Oper.wp P o a w K Q else E := by
  obtain ⟨i, h2, h3, h4, h5⟩ := S.hi
  refine step_append_lies (P := P) w hg s x t ho base e i (.int .i64 0) 1 8 S.ht h2 h3 h4 h5 rfl (by omega) (.slice A n c) n (ints l) hs hown ad 1 c' [.int .i64 y] hx (by simp) ?_ (by simp [Value.oneCell']) (by omega) (by unfold maxLen; omega) (by omega) hb _ rfl ?_
  · intro j u hu
    match j with
    | 0 => simp only [List.getElem?_cons_zero, Option.some.injEq] at hu; subst hu; rw [show ad.add 0 = ad from rfl]; exact hy
    | j + 1 => simp at hu
  · intro g d w' h6 h7 h8 h9
    rw [← ints_one, ← ints_append] at h6
    refine hK _ _ w' h6 (only_of_grown h7) fun b hb => ?_
    simp only [fpI, List.mem_singleton] at hb
    subst hb
    rcases h8 with h8 | h8
    · left
      cases A with
      | none => simp [Value.ownBlock] at h8
      | some a => simp only [Value.ownBlock, Option.some.injEq] at h8; simp [fpI, h8]
    · right; omega
theorem cell_lit {w V : World} {y : Int} {e : TypeId} {k : Nat} (hk : k = w.heap.size) (h : Ext (w.alloc (.cells #[.int .i64 y] e)) V) : V.cell? ⟨k, 0, none⟩ = some (.int .i64 y) := by
  subst hk
  exact h.cell (cell_one_new w _ _ 0 _ rfl)
theorem keep_cell {w V w4 : World} {fp : List Nat} {k : Nat} {u : Value} (hl : Low fp w.heap.size) (h : Only fp V w4) (h1 : V.cell? ⟨k, 0, none⟩ = some u) (h2 : w.heap.size ≤ k) (h3 : k < V.heap.size) : w4.cell? ⟨k, 0, none⟩ = some u := by
  rw [← h1]
  exact World.cell?_of_block (h.block k h3 fun hk => by have := hl k hk; omega)
end Go.Proofs.Ytnhdohjlbchniaa
