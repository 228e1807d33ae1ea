/- Lists of ciphertexts: what is read, what the call itself made; the laws' own functions on them. -/
import Derived.Test.YtnekpofaflpmdaaGreatDoorProg
import Derived.Test.YtnekpofaflpmdaaGreatDoorMem
import Derived.Test.YtnekpofaflpmdaaGreatDoorEq
import Derived.Deep.RegionHeld3
namespace Go.Proofs.YtnekpofaflpmdaaGreatDoor
open Go.RowKit

def cs2 (l : List (Int × Int)) : List Value := l.flatMap fun p => [.int .i64 p.1, .int .i64 p.2]
theorem cs2_length (l : List (Int × Int)) : (cs2 l).length = l.length * 2 := by
  induction l with
  | nil => rfl
  | cons p l ih => simp only [cs2, List.flatMap_cons, List.length_append] at *; simp [ih]; omega
theorem cs2_append (l m : List (Int × Int)) : cs2 (l ++ m) = cs2 l ++ cs2 m := by simp [cs2]
theorem cs2_get {l : List (Int × Int)} {k : Nat} (h : k < l.length) : (cs2 l)[k * 2]? = some (.int .i64 l[k].1) ∧ (cs2 l)[k * 2 + 1]? = some (.int .i64 l[k].2) := by
  induction l generalizing k with
  | nil => simp at h
  | cons p l ih =>
    have e : cs2 (p :: l) = .int .i64 p.1 :: .int .i64 p.2 :: cs2 l := rfl
    match k with
    | 0 => rw [e]; exact ⟨rfl, rfl⟩
    | k + 1 =>
      obtain ⟨h1, h2⟩ := ih (k := k) (by simpa using h)
      rw [e, show (k + 1) * 2 = k * 2 + 1 + 1 by omega]
      simp only [List.getElem?_cons_succ, List.getElem_cons_succ]
      exact ⟨h1, h2⟩
/-- The cells from A on are the pairs l. -/
def RdC (w : World) (A : Option Addr) (l : List (Int × Int)) : Prop := Rd w A (cs2 l)
theorem RdC.ext {w w' : World} {A : Option Addr} {l : List (Int × Int)} (h : RdC w A l) (hb : Ext w w') : RdC w' A l := Rd.ext h hb
theorem RdC.at_ {w : World} {A : Option Addr} {l : List (Int × Int)} {k : Nat} (h : RdC w A l) (hk : k < l.length) :
    ∃ ad, A = some ad ∧ w.cell? (ad.add (k * 2)) = some (.int .i64 l[k].1) ∧ w.cell? ⟨(ad.add (k * 2)).block, (ad.add (k * 2)).off + 1, none⟩ = some (.int .i64 l[k].2) := by
  obtain ⟨h1, h2⟩ := cs2_get hk
  rcases h with h | ⟨ad, hA, hc⟩
  · rw [h] at h1; simp at h1
  · refine ⟨ad, hA, hc _ _ h1, ?_⟩
    have h3 := hc _ _ h2
    rw [← add_add] at h3
    exact h3

/-- A slice of pairs of ints that the call itself made. -/
def OwnC (w : World) (base e : Nat) (A : Option Addr) (n c : Nat) (l : List (Int × Int)) : Prop := w.ownsRow base e 2 (.slice A n c) n (cs2 l)
section
variable {w w' : World} {base e n c : Nat} {A : Option Addr} {l : List (Int × Int)} {fp : List Nat}
theorem OwnC.len (h : OwnC w base e A n c l) : l.length = n := by have := h.1; rw [cs2_length] at this; omega
theorem OwnC.rd (h : OwnC w base e A n c l) : RdC w A l := by
  rcases h.2 with ⟨hv, hn⟩ | ⟨g, cap, cur, hv, _⟩
  · have : l = [] := List.eq_nil_of_length_eq_zero (h.len.trans hn)
    subst this; exact .inl rfl
  · injection hv with hA _ _
    subst hA
    exact .inr ⟨_, rfl, fun j u hu => World.ownsRow.cells (w := w) h rfl j u hu⟩
theorem OwnC.lt (h : OwnC w base e A n c l) : ∀ a, A = some a → base ≤ a.block ∧ a.block < w.heap.size := fun a ha => World.ownsRow.lt h a.block (by subst ha; rfl)
theorem OwnC.cap (h : OwnC w base e A n c l) : n ≤ c ∧ c ≤ maxLen := by
  rcases h.2 with ⟨hv, hn⟩ | ⟨g, cap, cur, hv, _, _, hn, hm, _, _⟩
  · injection hv with _ _ hc
    subst hc; exact ⟨by omega, Nat.zero_le _⟩
  · injection hv with _ _ hc
    subst hc; exact ⟨hn, hm⟩
theorem OwnC.le (h : OwnC w base e A n c l) : n ≤ maxLen := Nat.le_trans h.cap.1 h.cap.2
theorem OwnC.keep (h : OwnC w base e A n c l) (hk : ∀ a, A = some a → w'.heap[a.block]? = w.heap[a.block]?) : OwnC w' base e A n c l := by
  refine ⟨h.1, ?_⟩
  rcases h.2 with hn | ⟨g, cap, cur, hv, hg, hh, rest⟩
  · exact .inl hn
  · have hA : A = some ⟨g, 0, none⟩ := by injection hv
    exact .inr ⟨g, cap, cur, hv, hg, (hk _ hA).trans hh, rest⟩
theorem OwnC.ext (h : OwnC w base e A n c l) (hb : Ext w w') : OwnC w' base e A n c l := h.keep fun a ha => hb.block a.block (h.lt a ha).2
theorem OwnC.nil (w : World) (base e : Nat) : OwnC w base e none 0 0 [] := ⟨rfl, .inl ⟨rfl, rfl⟩⟩
theorem OwnC.more {base' : Nat} (h : OwnC w base e A n c l) (hb : base' ≤ base) : OwnC w base' e A n c l := by
  refine ⟨h.1, ?_⟩
  rcases h.2 with hn | ⟨g, cap, cur, hv, hg, rest⟩
  · exact .inl hn
  · exact .inr ⟨g, cap, cur, hv, Nat.le_trans hb hg, rest⟩
theorem OwnC.low (h : OwnC w base e A n c l) : Low (fpI A) w.heap.size := by
  intro b hb
  cases A with
  | none => simp [fpI] at hb
  | some a => simp only [fpI, List.mem_singleton] at hb; subst hb; exact (h.lt a rfl).2
theorem OwnC.high (h : OwnC w base e A n c l) : High base (fpI A) := by
  intro b hb
  cases A with
  | none => simp [fpI] at hb
  | some a => simp only [fpI, List.mem_singleton] at hb; subst hb; exact (h.lt a rfl).1
theorem OwnC.only (h : OwnC w base e A n c l) (k : Only fp w w') (ha : Apart (fpI A) fp) : OwnC w' base e A n c l :=
  h.keep fun a hA => k.block a.block (h.lt a hA).2 (ha a.block (by subst hA; simp [fpI]))
/-- Where there is an element there is an address. -/
theorem OwnC.addr (h : OwnC w base e A n c l) (hn : 0 < n) : ∃ g, A = some ⟨g, 0, none⟩ ∧ base ≤ g := by
  rcases h.2 with ⟨hv, h0⟩ | ⟨g, cap, cur, hv, hbg, _⟩
  · omega
  · injection hv with hA _ _
    exact ⟨g, hA, hbg⟩
theorem OwnC.at0 {g : Nat} (h : OwnC w base e (some ⟨g, 0, none⟩) n c l) (j : Nat) (hj : j < l.length) :
    w.cell? ⟨g, j * 2, none⟩ = some (.int .i64 l[j].1) ∧ w.cell? ⟨g, j * 2 + 1, none⟩ = some (.int .i64 l[j].2) ∧ ∀ i, w.frozen? ⟨g, i, none⟩ = false := by
  have hn := h.len
  obtain ⟨h1, h2⟩ := cs2_get hj
  exact ⟨(World.ownsRow.cellAt h (j * 2) (by omega)).trans h1, (World.ownsRow.cellAt h (j * 2 + 1) (by omega)).trans h2, fun i => World.ownsRow.frozenAt h i⟩
theorem cs2_set {l : List (Int × Int)} {j : Nat} (x y : Int) : ((cs2 l).set (j * 2) (.int .i64 x)).set (j * 2 + 1) (.int .i64 y) = cs2 (l.set j (x, y)) := by
  induction l generalizing j with
  | nil => simp [cs2]
  | cons p l ih =>
    have e : ∀ (q : Int × Int) (m : List (Int × Int)), cs2 (q :: m) = .int .i64 q.1 :: .int .i64 q.2 :: cs2 m := fun _ _ => rfl
    match j with
    | 0 => rw [e]; rfl
    | j + 1 =>
      rw [e, List.set_cons_succ, e, show (j + 1) * 2 = j * 2 + 1 + 1 by omega, ← ih]
      rfl
/-- An element is stored: both its cells. -/
theorem OwnC.set {g : Nat} (h : OwnC w base e (some ⟨g, 0, none⟩) n c l) (j : Nat) (x y : Int) : OwnC ((w.setCell ⟨g, j * 2, none⟩ (.int .i64 x)).setCell ⟨g, j * 2 + 1, none⟩ (.int .i64 y)) base e (some ⟨g, 0, none⟩) n c (l.set j (x, y)) := by
  have h1 := (World.ownsRow.stored (World.ownsRow.stored h (j * 2) (.int .i64 x)).1 (j * 2 + 1) (.int .i64 y)).1
  unfold OwnC
  rw [← cs2_set]
  exact h1
end

/-- t is the type of slices of pairs of ints. -/
structure PairSl (P : Program) (t e : TypeId) : Prop where
  ht : P.underlying t = some (.slice e)
  hi : ∃ i, P.info? e = some i ∧ i.zero = some (.agg #[.int .i64 0, .int .i64 0]) ∧ i.size = 2 ∧ i.bytes = 16
theorem cs2_replicate (n : Nat) : (madeCells #[.int .i64 0, .int .i64 0] (n * 2)).toList = cs2 (List.replicate n (0, 0)) := by
  apply List.ext_getElem?
  intro j
  by_cases hj : j < n * 2
  · obtain ⟨k, hk⟩ : ∃ k, j = k * 2 ∨ j = k * 2 + 1 := ⟨j / 2, by omega⟩
    rcases hk with rfl | rfl
    · rw [(cs2_get (l := List.replicate n (0, 0)) (k := k) (by simp; omega)).1]
      simp [madeCells, hj]
    · rw [(cs2_get (l := List.replicate n (0, 0)) (k := k) (by simp; omega)).2]
      have : (k * 2 + 1) % 2 = 1 := by omega
      simp [madeCells, hj, this]
  · rw [List.getElem?_eq_none (by simp [madeCells]; omega), List.getElem?_eq_none (by rw [cs2_length]; simp; omega)]
/-- 'make([]T, n)'. -/
theorem wpList_mkC {P : Program} {w : World} {ops : Array Oper} {rest : List Oper} {o : Oper} {a : Act} {Q : Exit → Act → World → Prop} {t e : TypeId} (S : PairSl P t e)
    (hg : o.guard = none) (l c : Operand) (hop : o.op = Op.makeSlice t l c) (kl kc : IntKind) (L C : Int) (n : Nat) (hl : a.eval l = .int kl L) (hc : a.eval c = .int kc C) (hL : L = (n : Int)) (hC : C = (n : Int)) (hn : n ≤ 1000000000)
    (base : Nat) (hb : base ≤ w.heap.size)
    (hK : ∀ w', OwnC w' base e (some ⟨w.heap.size, 0, none⟩) n n (List.replicate n (0, 0)) → Ext w w' → w.heap.size < w'.heap.size → wpList P ops Q rest (a.put o.dst (.slice (some ⟨w.heap.size, 0, none⟩) n n)) w') :
    wpList P ops Q (o :: rest) a w := by
  obtain ⟨i, h2, h3, h4, h5⟩ := S.hi
  refine wpList_make_full (P := P) w hg l c t hop base e i (.agg #[.int .i64 0, .int .i64 0]) 2 S.ht h2 h3 h4 kl kc L C n hl hc hL hC (by rw [h5]; omega) (by unfold maxLen; omega) hb fun w' hw hgr => ?_
  have h6 : OwnC w' base e (some ⟨w.heap.size, 0, none⟩) n n (List.replicate n (0, 0)) := by
    unfold OwnC
    rw [← cs2_replicate]
    exact hw
  exact hK w' h6 ((Ext.refl w).grown hgr (by simp)) (h6.lt _ rfl).2
/-- 'append(s, x)' of one pair that has just been laid into a new block; from the world ahead of that block. -/
theorem wpList_app1C {P : Program} {w0 : World} {ops : Array Oper} {rest : List Oper} {o : Oper} {a : Act} {Q : Exit → Act → World → Prop} {t e : TypeId} (S : PairSl P t e) {y z : Int}
    (hg : o.guard = none) (s x : Operand) (ho : o.op = .call { callee := .builtin .append, args := #[s, x], argTypes := #[t, t] })
    {base : Nat} {A : Option Addr} {n c c' : Nat} {l : List (Int × Int)} (hown : OwnC w0 base e A n c l) (hs : a.eval s = .slice A n c)
    (hx : a.eval x = .slice (some ⟨w0.heap.size, 0, none⟩) 1 c') (hn : n ≤ 1000000000) (hb : base ≤ w0.heap.size)
    (hK : ∀ A' d w', OwnC w' base e A' (n + 1) d (l ++ [(y, z)]) → Below base w0 w' → wpList P ops Q rest (a.put o.dst (.slice A' (n + 1) d)) w') :
    wpList P ops Q (o :: rest) a (w0.alloc (.cells #[.int .i64 y, .int .i64 z] e)) := by
  obtain ⟨i, h2, h3, h4, h5⟩ := S.hi
  have hO : OwnC (w0.alloc (.cells #[.int .i64 y, .int .i64 z] e)) base e A n c l := hown.ext ((Ext.refl w0).alloc _)
  refine wpList_append_own (P := P) _ hg s x t ho base e i _ 2 16 S.ht h2 h3 h4 h5 rfl (by omega) (.slice A n c) n (cs2 l) hs hO ⟨w0.heap.size, 0, none⟩ 1 c' [.int .i64 y, .int .i64 z] hx (by simp) ?_ (by simp [Value.oneCell']) (by unfold maxLen; omega) (by omega) (by simp; omega) ?_
  · intro j u hu
    have hB := (Blk.new w0 e #[.int .i64 y, .int .i64 z]).cells
    match j with
    | 0 => simp only [List.getElem?_cons_zero, Option.some.injEq] at hu; subst hu; exact hB 0
    | 1 => simp only [List.getElem?_cons_succ, List.getElem?_cons_zero, Option.some.injEq] at hu; subst hu; exact hB 1
    | j + 2 => simp at hu
  · intro v' w' h6 h7 h8
    have h9 : cs2 l ++ [Value.int .i64 y, .int .i64 z] = cs2 (l ++ [(y, z)]) := by rw [cs2_append]; rfl
    rw [h9] at h6
    have hb2 : Below base (w0.alloc (.cells #[.int .i64 y, .int .i64 z] e)) w' := by
      refine (Below.refl base _).grown h7 ?_ fun k hk => ?_
      · simp; omega
      · exact (World.ownsRow.lt (v := .slice A n c) hO k hk).1
    have hbl : Below base w0 w' := Below.trans ((Below.refl base w0).alloc hb _) hb2
    rcases h6.2 with ⟨_, h0⟩ | ⟨g, cap, cur, rfl, rest⟩
    · omega
    · exact hK _ _ w' h6 hbl

theorem pad_set {α : Type} {l : List α} {z : α} {j : Nat} (hj : j < l.length) : (l.take j ++ List.replicate (l.length - j) z).set j l[j] = l.take (j + 1) ++ List.replicate (l.length - (j + 1)) z := by
  have h1 : (l.take j).length = j := by rw [List.length_take]; omega
  rw [List.set_append_right _ _ (by omega), h1, Nat.sub_self, List.take_succ_eq_append_getElem hj, List.append_assoc]
  congr 1
  rw [show l.length - j = (l.length - (j + 1)) + 1 by omega, List.replicate_succ, List.set_cons_zero]
  rfl
end Go.Proofs.YtnekpofaflpmdaaGreatDoor
