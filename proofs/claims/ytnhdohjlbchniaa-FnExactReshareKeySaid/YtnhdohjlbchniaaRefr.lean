/- Contracts for RefreshKey: the program's and the reference's. (Printed by tools/gen_refr.py.) -/
import Derived.Test.YtnhdohjlbchniaaProg
import Derived.Test.YtnhdohjlbchniaaZero
namespace Go.Proofs.Ytnhdohjlbchniaa
open Go.RowKit

/-- The dealings that fit, and the places of the others. -/
def rfS (p q g : Int) (n m : Nat) (ds : List (List Int × List Int)) : Nat → List (List Int × List Int) × List Int
  | 0 => ([], [])
  | k + 1 => if ((ds.getD k ([], [])).1.length = n ∧ (ds.getD k ([], [])).2.length = m) ∧ zeroB p q g (ds.getD k ([], [])).1 (ds.getD k ([], [])).2 0 = true then ((rfS p q g n m ds k).1 ++ [ds.getD k ([], [])], (rfS p q g n m ds k).2) else ((rfS p q g n m ds k).1, (rfS p q g n m ds k).2 ++ [(k : Int)])
theorem rfS_len (p q g : Int) (n m : Nat) (ds : List (List Int × List Int)) : ∀ k, (rfS p q g n m ds k).1.length ≤ k ∧ (rfS p q g n m ds k).2.length ≤ k
  | 0 => ⟨Nat.le_refl _, Nat.le_refl _⟩
  | k + 1 => by
    have ih := rfS_len p q g n m ds k
    unfold rfS
    split <;> (simp; omega)
theorem rfS_in (p q g : Int) (n m : Nat) (ds : List (List Int × List Int)) : ∀ k, k ≤ ds.length → ∀ d ∈ (rfS p q g n m ds k).1, d ∈ ds ∧ d.1.length = n ∧ d.2.length = m
  | 0, _, d, hd => by cases hd
  | k + 1, hk, d, hd => by
    have ih := rfS_in p q g n m ds k (by omega) d
    have hlt : k < ds.length := by omega
    have hg : ds.getD k ([], []) = ds[k] := by simp [List.getD_eq_getElem?_getD, hlt]
    unfold rfS at hd
    rw [hg] at hd
    split at hd
    · rename_i hc
      rcases List.mem_append.1 hd with h1 | h1
      · exact ih h1
      · rw [List.mem_singleton.1 h1]
        exact ⟨List.getElem_mem hlt, hc.1⟩
    · exact ih hd
noncomputable def rfB (p q g : Int) (cs ss : List Int) (ds : List (List Int × List Int)) : Bool := keyG p q g cs ss && dlsB p q ds
noncomputable def rfV (p q g : Int) (cs ss : List Int) (ds : List (List Int × List Int)) : List Int × List Int := if rfB p q g cs ss ds then sumD p q (cs, ss) (rfS p q g cs.length ss.length ds ds.length).1 else ([], [])
noncomputable def rfO (p q g : Int) (cs ss : List Int) (ds : List (List Int × List Int)) : List Int := if rfB p q g cs ss ds then (rfS p q g cs.length ss.length ds ds.length).2 else []
theorem rf_rng {p q g : Int} {cs ss : List Int} {ds : List (List Int × List Int)} (h1 : keyG p q g cs ss = true) (h2 : dlsB p q ds = true) : ∀ x ∈ (cs, ss) :: (rfS p q g cs.length ss.length ds ds.length).1, RngD q cs.length ss.length x := by
  have hk := h1
  simp only [keyG, Bool.and_eq_true] at hk
  intro x hx
  rcases List.mem_cons.1 hx with rfl | hx
  · exact dl_rng hk.1.2 hk.2
  · obtain ⟨h3, e1, e2⟩ := rfS_in p q g cs.length ss.length ds ds.length (Nat.le_refl _) x hx
    have h4 := dl_rng hk.1.2 ((dls_in h2).2 x h3)
    rw [e1, e2] at h4
    exact h4
/-- 'append(s, x)' of one dealing that has just been laid into a new block; from the world ahead of that block. -/
theorem wpList_app1D {P : Program} {w0 : World} {ops : Array Oper} {rest : List Oper} {o : Oper} {a : Act} {Q : Exit → Act → World → Prop} {t e : TypeId} (S : DealSl P t e) {y z : Value}
    (hg : o.guard = none) (s x : Operand) (ho : o.op = .call { callee := .builtin .append, args := #[s, x], argTypes := #[t, t] })
    {base : Nat} {A : Option Addr} {n c c' : Nat} {xs : List Value} (hown : OwnW 2 w0 base e A n c xs) (hs : a.eval s = .slice A n c)
    (hx : a.eval x = .slice (some ⟨w0.heap.size, 0, none⟩) 1 c') (hy : y.oneCell' = true) (hz : z.oneCell' = true) (hn : n ≤ 10000000) (hb : base ≤ w0.heap.size)
    (hK : ∀ A' d w', OwnW 2 w' base e A' (n + 1) d (xs ++ [y, z]) → Only (fpI A) w0 w' → wpList P ops Q rest (a.put o.dst (.slice A' (n + 1) d)) w') :
    wpList P ops Q (o :: rest) a (w0.alloc (.cells #[y, z] e)) := by
  obtain ⟨i, h2, h3, h4, h5⟩ := S.hi
  have hO : OwnW 2 (w0.alloc (.cells #[y, z] e)) base e A n c xs := hown.ext ((Ext.refl w0).alloc _)
  refine wpList_append_own (P := P) _ hg s x t ho base e i (.agg #[.slice none 0 0, .slice none 0 0]) 2 48 S.ht h2 h3 h4 h5 rfl (by omega) (.slice A n c) n xs hs hO ⟨w0.heap.size, 0, none⟩ 1 c' [y, z] hx (by simp) ?_ (by simp [hy, hz]) (by unfold maxLen; omega) (by omega) (by simp; omega) ?_
  · intro j u hu
    have hB := (Blk.new w0 e #[y, z]).cells
    match j with
    | 0 => simp only [List.getElem?_cons_zero, Option.some.injEq] at hu; subst hu; exact hB 0
    | 1 => simp only [List.getElem?_cons_succ, List.getElem?_cons_zero, Option.some.injEq] at hu; subst hu; exact hB 1
    | j + 2 => simp at hu
  · intro v' w' h6 h7 h8
    have hl : Only (fpI A) w0 w' := by
      have h9 := only_of_grown h7
      refine ⟨h9.os, h9.tape, h9.output, ?_, fun k hk hn => ?_⟩
      · have := h9.size; simp at this; omega
      · exact (h9.block k (by simp; omega) hn).trans (Below.heap_alloc w0 _ k hk)
    rcases h6.2 with ⟨_, h0⟩ | ⟨g, cap, cur, rfl, rest⟩
    · omega
    · exact hK _ _ w' h6 hl
theorem ownW_nil_lit {w : World} {base e : Nat} (hb : base ≤ w.heap.size) : OwnW 2 (w.alloc (.cells #[] e)) base e (some ⟨w.heap.size, 0, none⟩) 0 0 [] := by
  have h := World.ownsRow_lit (base := base) (e := e) (size := 2) w #[] 0 hb (by unfold maxLen; omega) (by simp)
  simpa [OwnW] using h
end Go.Proofs.Ytnhdohjlbchniaa
