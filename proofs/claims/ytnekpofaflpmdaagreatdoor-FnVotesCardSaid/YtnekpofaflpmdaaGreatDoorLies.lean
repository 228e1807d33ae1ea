/- Contracts for copies of lists: slices.Clone, and the reference's own. 'append(s, x)' onto a slice of ints of the call's own, with the place where the new slice lies. 'append(s, x)' at a step of a region that draws its order; a cell that has just been laid (both as in Rec, for claims that do without it). -/
import Derived.Test.YtnekpofaflpmdaaGreatDoorProg
import Derived.Test.YtnekpofaflpmdaaGreatDoorApp
import Derived.Test.YtnekpofaflpmdaaGreatDoorEq
import Derived.Test.YtnekpofaflpmdaaGreatDoorMem
import Derived.Deep.AppendLies
import Derived.Deep.RegionLaw
namespace Go.Proofs.YtnekpofaflpmdaaGreatDoor
section
open Go.RowKit

set_option maxHeartbeats 400000 in
theorem Clone_any (A : Option Addr) (n c : Nat) (l : List Int) (w : World) (ha : RdI w A l) (hl : l.length = n) (hn : n ≤ 1000000) :
    Calls Tryz.prog 62 #[.slice A n c] w fun e w' => ∃ A' c', e = .returned (.slice A' n c') ∧ OwnI w' w.heap.size 3 A' n c' l ∧ Ext w w' := by
  have hq : ∀ w, (binOp .eql 26 (.slice A n c) (.slice none 0 0)).run Tryz.prog w = .ok (.bool A.isNone) w := fun w => Lib.run_eql_slice_nil w _ _ A n c 0 0 Tryz.underlying26
  cases A with
  | none =>
    have hl0 : l = [] := by
      rcases ha with h | ⟨ad, h, _⟩
      · simpa [ints] using h
      · cases h
    subst hl0
    obtain rfl : n = 0 := hl.symm
    clear hn hl
    go_enter Tryz.func62, Tryz.ntmps62
    go_wp2
    go_ret
    exact ⟨_, _, rfl, OwnI.nil _ _ _, Ext.refl _⟩
  | some ad =>
    have hO0 : OwnI (w.alloc (.cells #[] 3)) w.heap.size 3 (some ⟨w.heap.size, 0, none⟩) 0 0 [] := ownI_lit [] rfl rfl (Nat.le_refl _) (Nat.zero_le _)
    have hE := (Ext.refl w).alloc (.cells #[] 3)
    go_enter Tryz.func62, Tryz.ntmps62
    go_wp2_with (at_builtin; refine wpList_appL intSl rfl _ _ rfl hO0 rfl (ha.ext hE) hl rfl (by omega) hE.size ?_; intro A2 d2 w2 hO2 hb2)
    go_ret
    rw [List.nil_append, Nat.zero_add] at hO2
    exact ⟨_, _, rfl, hO2, (hE.then hb2 (Nat.le_refl _))⟩

set_option maxHeartbeats 400000 in
theorem l1Own_any (A : Option Addr) (n c : Nat) (l : List Int) (w : World) (ha : RdI w A l) (hl : l.length = n) (hn : n ≤ 1000000) :
    Calls Tryz.prog 60 #[.slice A n c] w fun e w' => ∃ A' c', e = .returned (.slice A' n c') ∧ OwnI w' w.heap.size 3 A' n c' l ∧ Ext w w' := by
  have hO0 : OwnI (w.alloc (.cells #[] 3)) w.heap.size 3 (some ⟨w.heap.size, 0, none⟩) 0 0 [] := ownI_lit [] rfl rfl (Nat.le_refl _) (Nat.zero_le _)
  have hE := (Ext.refl w).alloc (.cells #[] 3)
  go_enter Tryz.func60, Tryz.ntmps60
  go_wp2_with (at_builtin; refine wpList_appL intSl rfl _ _ rfl hO0 rfl (ha.ext hE) hl rfl (by omega) hE.size ?_; intro A2 d2 w2 hO2 hb2)
  go_ret
  rw [List.nil_append, Nat.zero_add] at hO2
  exact ⟨_, _, rfl, hO2, (hE.then hb2 (Nat.le_refl _))⟩
end
section
open Go.RowKit

theorem wpList_app1F {P : Program} {w0 : World} {ops : Array Oper} {rest : List Oper} {o : Oper} {a : Act} {Q : Exit → Act → World → Prop} {t e : TypeId} (S : IntSl P t e) {y : Int}
    (hg : o.guard = none) (s x : Operand) (ho : o.op = .call { callee := .builtin .append, args := #[s, x], argTypes := #[t, t] })
    {base : Nat} {A : Option Addr} {n c c' : Nat} {l : List Int} (hown : OwnI w0 base e A n c l) (hs : a.eval s = .slice A n c)
    {h : Nat} (hx : a.eval x = .slice (some ⟨h, 0, none⟩) 1 c') (hh : w0.heap.size = h) (hn : n ≤ 1000000000) (hb : base ≤ w0.heap.size)
    (hK : ∀ A' d w', OwnI w' base e A' (n + 1) d (l ++ [y]) → Only (fpI A) w0 w' → (∀ b ∈ fpI A', b ∈ fpI A ∨ w0.heap.size ≤ b) → wpList P ops Q rest (a.put o.dst (.slice A' (n + 1) d)) w') :
    wpList P ops Q (o :: rest) a (w0.alloc (.cells #[.int .i64 y] e)) := by
  subst hh
  obtain ⟨i, h2, h3, h4, h5⟩ := S.hi
  have hcell : (w0.alloc (.cells #[.int .i64 y] e)).cell? ⟨w0.heap.size, 0, none⟩ = some (.int .i64 y) := cell_one_new w0 _ _ 0 _ rfl
  have hO : OwnI (w0.alloc (.cells #[.int .i64 y] e)) base e A n c l := hown.ext ((Ext.refl w0).alloc _)
  refine wpList_append_own_at (P := P) _ hg s x t ho base e i (.int .i64 0) 1 8 S.ht h2 h3 h4 h5 rfl (by omega) (.slice A n c) n (ints l) hs hO ⟨w0.heap.size, 0, none⟩ 1 c' [.int .i64 y] hx (by simp) ?_ (by simp [Value.oneCell']) (by unfold maxLen; omega) (by omega) (by simp; omega) ?_
  · intro j u hu
    match j with
    | 0 => simp only [List.getElem?_cons_zero, Option.some.injEq] at hu; subst hu; exact hcell
    | j + 1 => simp at hu
  · intro v' w' h6 h7 h8 h9
    rw [← ints_one, ← ints_append] at h6
    have hl : Only (fpI A) w0 w' := by
      have h9 := only_of_grown h7
      refine ⟨h9.os, h9.tape, h9.output, ?_, fun k hk hn => ?_⟩
      · have := h9.size; simp at this; omega
      · exact (h9.block k (by simp; omega) hn).trans (Below.heap_alloc w0 _ k hk)
    rcases h6.2 with ⟨_, h0⟩ | ⟨g, cap, cur, rfl, rest⟩
    · omega
    · refine hK _ _ w' h6 hl fun b hb => ?_
      simp only [fpI, List.mem_singleton] at hb
      subst hb
      rcases h9 with h9 | h9
      · left
        cases A with
        | none => simp [Value.ownBlock] at h9
        | some a => simp only [Value.ownBlock, Option.some.injEq] at h9; simp [fpI, h9]
      · right
        simp only [Value.ownBlock, Option.some.injEq, World.size_alloc] at h9
        omega
/-- Apart from what is low and apart already. -/
theorem Apart.app {fp fp' q : List Nat} {B : Nat} (h : Apart fp q) (hq : Low q B) (hb : ∀ b ∈ fp', b ∈ fp ∨ B ≤ b) : Apart fp' q := fun b hb' hq' => by
  rcases hb b hb' with h1 | h1
  · exact h b h1 hq'
  · have := hq b hq'; omega
theorem Apart.symm {fp q : List Nat} (h : Apart fp q) : Apart q fp := fun b hb hb' => h b hb' hb
end
section
open Go.RowKit

/-- An append in a region that draws its order. -/
theorem step_app1L {P : Program} {w : World} {ops : Array Oper} {o : Oper} {a : Act} {K : Act → World → Prop} {Q : Exit → Act → World → Prop} {E : Prop} {t e : TypeId} (S : IntSl P t e) {y : Int}
    (hg : o.guard = none) (s x : Operand) (ho : o.op = .call { callee := .builtin .append, args := #[s, x], argTypes := #[t, t] })
    {base : Nat} {A : Option Addr} {n c c' : Nat} {l : List Int} (hown : OwnI w base e A n c l) (hs : a.eval s = .slice A n c)
    (ad : Addr) (hx : a.eval x = .slice (some ad) 1 c') (hy : w.cell? ad = some (.int .i64 y)) (hn : n ≤ 1000000000) (hb : base ≤ w.heap.size)
    (hK : ∀ A' d w', OwnI w' base e A' (n + 1) d (l ++ [y]) → Only (fpI A) w w' → (∀ b ∈ fpI A', b ∈ fpI A ∨ w.heap.size ≤ b) → K (a.put o.dst (.slice A' (n + 1) d)) w') :
    if Region.wanted o (yielded ops a.tmps) = true then Oper.wp P o a w K Q else E := by
  obtain ⟨i, h2, h3, h4, h5⟩ := S.hi
  refine step_append_lies (P := P) w hg s x t ho base e i (.int .i64 0) 1 8 S.ht h2 h3 h4 h5 rfl (by omega) (.slice A n c) n (ints l) hs hown ad 1 c' [.int .i64 y] hx (by simp) ?_ (by simp [Value.oneCell']) (by omega) (by unfold maxLen; omega) (by omega) hb _ rfl ?_
  · intro j u hu
    match j with
    | 0 => simp only [List.getElem?_cons_zero, Option.some.injEq] at hu; subst hu; rw [show ad.add 0 = ad from rfl]; exact hy
    | j + 1 => simp at hu
  · intro g d w' h6 h7 h8 h9
    rw [← ints_one, ← ints_append] at h6
    refine hK _ _ w' h6 (only_of_grown h7) fun b hb => ?_
    simp only [fpI, List.mem_singleton] at hb
    subst hb
    rcases h8 with h8 | h8
    · left
      cases A with
      | none => simp [Value.ownBlock] at h8
      | some a => simp only [Value.ownBlock, Option.some.injEq] at h8; simp [fpI, h8]
    · right; omega
theorem cell_new {w V : World} {y : Int} {e : TypeId} {k : Nat} (hk : k = w.heap.size) (h : Ext (w.alloc (.cells #[.int .i64 y] e)) V) : V.cell? ⟨k, 0, none⟩ = some (.int .i64 y) := by
  subst hk
  exact h.cell (cell_one_new w _ _ 0 _ rfl)
end
end Go.Proofs.YtnekpofaflpmdaaGreatDoor
