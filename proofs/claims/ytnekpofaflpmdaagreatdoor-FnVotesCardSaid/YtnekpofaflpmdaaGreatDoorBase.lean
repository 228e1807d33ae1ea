/- Words for memory: worlds that only grow, blocks that are known whole, slices that are read, slices of the call's own. -/
import Derived.WalkKit
import Derived.WalkSpells
import Derived.WalkLawsBesides
import Derived.Deep.Light
import Derived.Deep.AppendLies
import Derived.Deep.Draws
import Derived.Maps.AppendAt
import Derived.Deep.QuietTactic
import Derived.BigQuiet
import Derived.Lib.Hide
import Derived.Laws.OwnMore
import Derived.WalkSpells
namespace Go.Proofs.YtnekpofaflpmdaaGreatDoor
open Go.RowKit

theorem ret_bool {a b : Bool} (h : a = b) : Ending.returned (.bool a) = .returned (.bool b) := by rw [h]
theorem ret_int {k : IntKind} {a b : Int} (h : a = b) : Ending.returned (.int k a) = .returned (.int k b) := by rw [h]

/-- The world has only grown: what was there is as it was. -/
def Ext (w w' : World) : Prop := Below w.heap.size w w'
section
variable {w w' w'' : World}
theorem Ext.refl (w : World) : Ext w w := Below.refl _ w
theorem Ext.below (h : Ext w w') : Below w.heap.size w w' := h
theorem Ext.size (h : Ext w w') : w.heap.size ≤ w'.heap.size := Below.size h
theorem Ext.trans (h : Ext w w') (k : Ext w' w'') : Ext w w'' := Below.trans h (Below.mono k (Below.size h))
theorem Ext.then {B : Nat} (h : Ext w w') (k : Below B w' w'') (hB : w.heap.size ≤ B) : Ext w w'' := Below.trans h (Below.mono k hB)
theorem Ext.alloc (h : Ext w w') (o : Obj) : Ext w (w'.alloc o) := Below.alloc h (Below.size h) o
theorem Ext.drew (h : Ext w w') : Ext w w'.drew := Below.drew h
theorem Ext.drewN (h : Ext w w') (n : Nat) : Ext w (w'.drewN n) := ⟨h.os, h.tape, h.output, h.size, h.block⟩
theorem Ext.setCell (h : Ext w w') {p : Addr} (hp : w.heap.size ≤ p.block) (u : Value) : Ext w (w'.setCell p u) := Below.setCell h hp u
theorem Ext.grown (h : Ext w w') {row : Option Nat} (hg : w'.grownBy w'' row) (hr : ∀ k, row = some k → w.heap.size ≤ k) : Ext w w'' := Below.grown h hg (Below.size h) hr
theorem Ext.cell {p : Addr} {u : Value} (h : Ext w w') (hp : w.cell? p = some u) : w'.cell? p = some u := (Below.cell h (World.block_lt_of_cell? w p hp)).trans hp
end

/-- Block g is just the cells cs of element type t, none frozen. -/
def Blk (w : World) (g : Nat) (t : TypeId) (cs : Array Value) : Prop := w.heap[g]? = some (.cells cs t (0, 0))
section
variable {w w' : World} {g : Nat} {t : TypeId} {cs : Array Value}
theorem Blk.lt (h : Blk w g t cs) : g < w.heap.size := (Array.getElem?_eq_some_iff.1 h).1
theorem Blk.cells (h : Blk w g t cs) : ∀ i, w.cell? ⟨g, i, none⟩ = cs[i]? := fun i => cell_of_row w g i cs t (0, 0) h
theorem Blk.frozen (h : Blk w g t cs) : ∀ i, w.frozen? ⟨g, i, none⟩ = false := fun i => by
  unfold Blk at h
  simp [World.frozen?, h]
theorem Blk.new (w : World) (t : TypeId) (cs : Array Value) : Blk (w.alloc (.cells cs t)) w.heap.size t cs := heap_alloc_new w _
theorem Blk.alloc (h : Blk w g t cs) (o : Obj) : Blk (w.alloc o) g t cs := (Below.heap_alloc w o g h.lt).trans h
theorem Blk.ext (h : Blk w g t cs) (hb : Ext w w') : Blk w' g t cs := (hb.block g h.lt).trans h
theorem Blk.below {B : Nat} (h : Blk w g t cs) (hb : Below B w w') (hg : g < B) : Blk w' g t cs := (hb.block g hg).trans h
theorem Blk.grown {row : Option Nat} (h : Blk w g t cs) (hb : w.grownBy w' row) (hg : some g ≠ row) : Blk w' g t cs := (hb.block g h.lt hg).trans h
theorem Blk.far (h : Blk w g t cs) {p : Addr} (hp : g ≠ p.block) (u : Value) : Blk (w.setCell p u) g t cs := (Below.heap_setCell w p u g hp).trans h
theorem Blk.set_ (h : Blk w g t cs) (i : Nat) (u : Value) : Blk (w.setCell ⟨g, i, none⟩ u) g t (cs.setIfInBounds i u) := by
  unfold Blk at h ⊢
  simp [World.setCell, Array.getElem?_modify, h]
theorem Blk.drew (h : Blk w g t cs) : Blk w.drew g t cs := h
theorem Blk.drewN (h : Blk w g t cs) (n : Nat) : Blk (w.drewN n) g t cs := h
end

def ints (l : List Int) : List Value := l.map (Value.int .i64)
theorem ints_length (l : List Int) : (ints l).length = l.length := by simp [ints]
theorem ints_append (l m : List Int) : ints (l ++ m) = ints l ++ ints m := by simp [ints]
theorem ints_one (n : Int) : ints [n] = [.int .i64 n] := rfl
theorem ints_oneCell (l : List Int) : ∀ u ∈ ints l, u.oneCell' = true := by
  intro u hu
  simp only [ints, List.mem_map] at hu
  obtain ⟨n, _, rfl⟩ := hu
  rfl

theorem add_block (a : Addr) (n : Nat) : (a.add n).block = a.block := by unfold Addr.add; split <;> rfl
theorem add_add (a : Addr) (i j : Nat) : (a.add i).add j = a.add (i + j) := by
  unfold Addr.add
  by_cases hi : i = 0 <;> by_cases hj : j = 0 <;> simp [hi, hj, Nat.add_assoc]

/-- The cells from A on are xs. -/
def Rd (w : World) (A : Option Addr) (xs : List Value) : Prop := xs = [] ∨ ∃ ad, A = some ad ∧ ∀ j u, xs[j]? = some u → w.cell? (ad.add j) = some u
def RdI (w : World) (A : Option Addr) (l : List Int) : Prop := Rd w A (ints l)

section
variable {w w' : World} {A : Option Addr} {xs : List Value} {l : List Int}
theorem Rd.keep (h : Rd w A xs) (hk : ∀ p u, w.cell? p = some u → w'.cell? p = some u) : Rd w' A xs := by
  rcases h with h | ⟨ad, hA, hc⟩
  · exact .inl h
  · exact .inr ⟨ad, hA, fun j u hu => hk _ _ (hc j u hu)⟩
theorem Rd.ext (h : Rd w A xs) (hb : Ext w w') : Rd w' A xs := h.keep fun _ _ hp => hb.cell hp
theorem RdI.ext (h : RdI w A l) (hb : Ext w w') : RdI w' A l := Rd.ext h hb
theorem Rd.at_ {k : Nat} (h : Rd w A xs) (hk : k < xs.length) : ∃ ad, A = some ad ∧ w.cell? (ad.add k) = some (xs[k]'hk) := by
  rcases h with h | ⟨ad, hA, hc⟩
  · subst h; simp at hk
  · exact ⟨ad, hA, hc k _ (by simp [hk])⟩
theorem RdI.at_ {k : Nat} (h : RdI w A l) (hk : k < l.length) : ∃ ad, A = some ad ∧ w.cell? (ad.add k) = some (.int .i64 (l[k]'hk)) := by
  obtain ⟨ad, hA, hc⟩ := Rd.at_ h (k := k) (by rw [ints_length]; exact hk)
  exact ⟨ad, hA, by simpa [ints] using hc⟩
theorem RdI.nil (w : World) (A : Option Addr) : RdI w A [] := .inl rfl
theorem RdI.take (h : RdI w A l) (k : Nat) : RdI w A (l.take k) := by
  rcases h with h | ⟨ad, hA, hc⟩
  · rw [ints, List.map_eq_nil_iff] at h; subst h; simpa using RdI.nil w A
  · refine .inr ⟨ad, hA, fun j u hu => hc j u ?_⟩
    simp only [ints, List.map_take, List.getElem?_take] at hu
    split at hu
    · exact hu
    · cases hu
theorem RdI.drop {cap : Nat} (h : RdI w A l) (k : Nat) (hc : l.length ≤ cap) : RdI w (if cap = k then A else A.map (·.add k)) (l.drop k) := by
  by_cases hk : k < l.length
  · rw [if_neg (by omega)]
    rcases h with h | ⟨ad, rfl, hc⟩
    · rw [ints, List.map_eq_nil_iff] at h; subst h; simp at hk
    · refine .inr ⟨ad.add k, rfl, fun j u hu => ?_⟩
      rw [add_add]
      refine hc _ u ?_
      simpa [ints, List.map_drop, List.getElem?_drop] using hu
  · rw [List.drop_eq_nil_of_le (by omega)]
    exact RdI.nil _ _
end

/-- A slice of n ints that the call itself made: from block base on, its block's element type e. -/
def OwnI (w : World) (base e : Nat) (A : Option Addr) (n c : Nat) (l : List Int) : Prop := w.ownsRow base e 1 (.slice A n c) n (ints l)
section
variable {w w' : World} {base e n c : Nat} {A : Option Addr} {l : List Int}
theorem OwnI.len (h : OwnI w base e A n c l) : l.length = n := by have := h.1; simpa [ints_length] using this
theorem OwnI.rd (h : OwnI w base e A n c l) : RdI w A l := by
  rcases h.2 with ⟨hv, hn⟩ | ⟨g, cap, cur, hv, _, hg, _, _, _, htake⟩
  · have : l = [] := List.eq_nil_of_length_eq_zero (h.len.trans hn)
    subst this; exact .inl rfl
  · injection hv with hA _ _
    subst hA
    refine .inr ⟨_, rfl, fun j u hu => ?_⟩
    exact World.ownsRow.cells (w := w) h rfl j u hu
theorem OwnI.lt (h : OwnI w base e A n c l) : ∀ a, A = some a → base ≤ a.block ∧ a.block < w.heap.size := fun a ha => World.ownsRow.lt h a.block (by subst ha; rfl)
theorem OwnI.cap (h : OwnI w base e A n c l) : n ≤ c ∧ c ≤ maxLen := by
  rcases h.2 with ⟨hv, hn⟩ | ⟨g, cap, cur, hv, _, _, hn, hm, _, _⟩
  · injection hv with _ _ hc
    subst hc; exact ⟨by omega, Nat.zero_le _⟩
  · injection hv with _ _ hc
    subst hc; exact ⟨hn, hm⟩
theorem OwnI.keep (h : OwnI w base e A n c l) (hk : ∀ a, A = some a → w'.heap[a.block]? = w.heap[a.block]?) : OwnI w' base e A n c l := by
  refine ⟨h.1, ?_⟩
  rcases h.2 with hn | ⟨g, cap, cur, hv, hg, hh, rest⟩
  · exact .inl hn
  · have hA : A = some ⟨g, 0, none⟩ := by injection hv
    exact .inr ⟨g, cap, cur, hv, hg, (hk _ hA).trans hh, rest⟩
theorem OwnI.ext (h : OwnI w base e A n c l) (hb : Ext w w') : OwnI w' base e A n c l := h.keep fun a ha => hb.block a.block (h.lt a ha).2
theorem OwnI.nil (w : World) (base e : Nat) : OwnI w base e none 0 0 [] := ⟨rfl, .inl ⟨rfl, rfl⟩⟩
/-- One element is stored: the block's other cells stay. -/
theorem OwnI.set {g j : Nat} (h : OwnI w base e (some ⟨g, 0, none⟩) n c l) (x : Int) : OwnI (w.setCell ⟨g, j, none⟩ (.int .i64 x)) base e (some ⟨g, 0, none⟩) n c (l.set j x) := by
  have h1 := World.ownsRow.stored h j (.int .i64 x)
  have h2 : (ints l).set j (.int .i64 x) = ints (l.set j x) := by simp [ints, List.map_set]
  unfold OwnI
  rw [← h2]
  exact h1.1
theorem OwnI.more {base' : Nat} (h : OwnI w base e A n c l) (hb : base' ≤ base) : OwnI w base' e A n c l := by
  refine ⟨h.1, ?_⟩
  rcases h.2 with hn | ⟨g, cap, cur, hv, hg, rest⟩
  · exact .inl hn
  · exact .inr ⟨g, cap, cur, hv, Nat.le_trans hb hg, rest⟩
/-- Where there is an element: the address; its cells; that they may be written. -/
theorem OwnI.addr (h : OwnI w base e A n c l) (hl : 0 < n) : ∃ g, A = some ⟨g, 0, none⟩ ∧ base ≤ g ∧ (∀ j, w.frozen? ⟨g, j, none⟩ = false) ∧ ∀ j, (hj : j < l.length) → w.cell? ⟨g, j, none⟩ = some (.int .i64 l[j]) := by
  have hlen := h.len
  rcases h.2 with ⟨hv, hn⟩ | ⟨g, cap, cur, hv, hbg, _⟩
  · omega
  · injection hv with hA _ _
    subst hA
    refine ⟨g, rfl, hbg, fun j => World.ownsRow.frozenAt h j, fun j hj => ?_⟩
    rw [World.ownsRow.cellAt h j (by omega)]
    simp [ints, hj]
end

/-- The blocks of a slice value. -/
def fpI (A : Option Addr) : List Nat := match A with | some a => [a.block] | none => []
/-- But for the blocks fp nothing that was there has turned. -/
structure Only (fp : List Nat) (w w' : World) : Prop where
  os : w'.os = w.os
  tape : w'.tape = w.tape
  output : w'.output = w.output
  size : w.heap.size ≤ w'.heap.size
  block : ∀ k, k < w.heap.size → k ∉ fp → w'.heap[k]? = w.heap[k]?
def Low (fp : List Nat) (B : Nat) : Prop := ∀ b ∈ fp, b < B
def High (B : Nat) (fp : List Nat) : Prop := ∀ b ∈ fp, B ≤ b
def Apart (fp fp' : List Nat) : Prop := ∀ b ∈ fp, b ∉ fp'
theorem Apart.of_low {fp fp' : List Nat} {B : Nat} (h : Low fp B) (h' : High B fp') : Apart fp fp' := fun b hb hb' => by
  have := h b hb; have := h' b hb'; omega
theorem Apart.of_high {fp fp' : List Nat} {B : Nat} (h : Low fp' B) (h' : High B fp) : Apart fp fp' := fun b hb hb' => by
  have := h b hb'; have := h' b hb; omega
theorem Low.mono {fp : List Nat} {B B' : Nat} (h : Low fp B) (hB : B ≤ B') : Low fp B' := fun b hb => Nat.lt_of_lt_of_le (h b hb) hB
theorem High.mono {fp : List Nat} {B B' : Nat} (h : High B fp) (hB : B' ≤ B) : High B' fp := fun b hb => Nat.le_trans hB (h b hb)
section
variable {w w' w'' : World} {fp fp' : List Nat}
theorem Only.refl (fp : List Nat) (w : World) : Only fp w w := ⟨rfl, rfl, rfl, Nat.le_refl _, fun _ _ _ => rfl⟩
theorem Only.setCell (h : Only fp w w') {p : Addr} (hp : p.block ∈ fp) (u : Value) : Only fp w (w'.setCell p u) :=
  ⟨h.os, h.tape, h.output, by simpa [World.setCell] using h.size, fun k hk hn => (Below.heap_setCell w' p u k (fun e => hn (e ▸ hp))).trans (h.block k hk hn)⟩
theorem Only.drewN (h : Only fp w w') (n : Nat) : Only fp w (w'.drewN n) := ⟨h.os, h.tape, h.output, h.size, h.block⟩
theorem Only.trans (h : Only fp w w') (k : Only fp' w' w'') : Only (fp ++ fp') w w'' :=
  ⟨k.os.trans h.os, k.tape.trans h.tape, k.output.trans h.output, Nat.le_trans h.size k.size, fun i hi hn => by
    rw [List.mem_append] at hn
    exact (k.block i (Nat.lt_of_lt_of_le hi h.size) (fun e => hn (.inr e))).trans (h.block i hi (fun e => hn (.inl e)))⟩
theorem Only.mono (h : Only fp w w') (hs : ∀ b ∈ fp, b ∈ fp') : Only fp' w w' := ⟨h.os, h.tape, h.output, h.size, fun k hk hn => h.block k hk (fun e => hn (hs k e))⟩
theorem Only.ext (h : Only fp w w') (hf : High w.heap.size fp) : Ext w w' := ⟨h.os, h.tape, h.output, h.size, fun k hk => h.block k hk (fun e => by have := hf k e; omega)⟩
theorem Ext.only (h : Ext w w') (k : Only fp w' w'') (hf : High w.heap.size fp) : Ext w w'' :=
  ⟨k.os.trans h.os, k.tape.trans h.tape, k.output.trans h.output, Nat.le_trans h.size k.size, fun i hi =>
    (k.block i (Nat.lt_of_lt_of_le hi h.size) (fun e => by have := hf i e; omega)).trans (h.block i hi)⟩
theorem Blk.only {g : Nat} {t : TypeId} {cs : Array Value} (h : Blk w g t cs) (k : Only fp w w') (hn : g ∉ fp) : Blk w' g t cs := (k.block g h.lt hn).trans h
variable {base e n c : Nat} {A : Option Addr} {l : List Int}
theorem OwnI.low (h : OwnI w base e A n c l) : Low (fpI A) w.heap.size := by
  intro b hb
  cases A with
  | none => simp [fpI] at hb
  | some a => simp only [fpI, List.mem_singleton] at hb; subst hb; exact (h.lt a rfl).2
theorem OwnI.high (h : OwnI w base e A n c l) : High base (fpI A) := by
  intro b hb
  cases A with
  | none => simp [fpI] at hb
  | some a => simp only [fpI, List.mem_singleton] at hb; subst hb; exact (h.lt a rfl).1
theorem OwnI.only (h : OwnI w base e A n c l) (k : Only fp w w') (ha : Apart (fpI A) fp) : OwnI w' base e A n c l :=
  h.keep fun a hA => k.block a.block (h.lt a hA).2 (ha a.block (by subst hA; simp [fpI]))
end

/-- The same where the address is known. -/
theorem OwnI.at0 {w : World} {base e n c g : Nat} {l : List Int} (h : OwnI w base e (some ⟨g, 0, none⟩) n c l) (j : Nat) (hj : j < l.length) : w.cell? ⟨g, j, none⟩ = some (.int .i64 l[j]) ∧ w.frozen? ⟨g, j, none⟩ = false := by
  obtain ⟨g', hg, _, hf, hc⟩ := h.addr (by have := h.len; omega)
  simp only [Option.some.injEq, Addr.mk.injEq, and_true] at hg
  subst hg
  exact ⟨hc j hj, hf j⟩

/-- t is the type of slices of ints, e that of ints. -/
structure IntSl (P : Program) (t e : TypeId) : Prop where
  ht : P.underlying t = some (.slice e)
  hi : ∃ i, P.info? e = some i ∧ i.zero = some (.int .i64 0) ∧ i.size = 1 ∧ i.bytes = 8

theorem ints_replicate (n : Nat) (x : Int) : ints (List.replicate n x) = List.replicate n (.int .i64 x) := by simp [ints]

/-- 'make([]int, n)'. -/
theorem wpList_mkI {P : Program} {w : World} {ops : Array Oper} {rest : List Oper} {o : Oper} {a : Act} {Q : Exit → Act → World → Prop} {t e : TypeId} (S : IntSl P t e)
    (hg : o.guard = none) (l c : Operand) (hop : o.op = Op.makeSlice t l c) (kl kc : IntKind) (L C : Int) (n : Nat) (hl : a.eval l = .int kl L) (hc : a.eval c = .int kc C) (hL : L = (n : Int)) (hC : C = (n : Int)) (hn : n ≤ 1000000000)
    (base : Nat) (hb : base ≤ w.heap.size)
    (hK : ∀ w', OwnI w' base e (some ⟨w.heap.size, 0, none⟩) n n (List.replicate n 0) → Ext w w' → w.heap.size < w'.heap.size → wpList P ops Q rest (a.put o.dst (.slice (some ⟨w.heap.size, 0, none⟩) n n)) w') :
    wpList P ops Q (o :: rest) a w := by
  obtain ⟨i, h2, h3, h4, h5⟩ := S.hi
  refine wpList_make_full (P := P) w hg l c t hop base e i (.int .i64 0) 1 S.ht h2 h3 h4 kl kc L C n hl hc hL hC (by rw [h5]; omega) (by unfold maxLen; omega) hb fun w' hw hgr => ?_
  have h6 : OwnI w' base e (some ⟨w.heap.size, 0, none⟩) n n (List.replicate n 0) := by
    unfold OwnI
    rw [ints_replicate]
    have h7 : (madeCells (Value.int .i64 0).cells (n * 1)).toList = List.replicate n (.int .i64 0) := by
      rw [Nat.mul_one]; exact toList_madeCells_one _ n
    rw [← h7]; exact hw
  exact hK w' h6 ((Ext.refl w).grown hgr (by simp)) (h6.lt _ rfl).2

/-- 'append(s, x)' of one int onto a slice of the call's own: x lies in a new cell at ad. -/
theorem wpList_appI {P : Program} {w : World} {ops : Array Oper} {rest : List Oper} {o : Oper} {a : Act} {Q : Exit → Act → World → Prop} {t e : TypeId} (S : IntSl P t e)
    (hg : o.guard = none) (s x : Operand) (ho : o.op = .call { callee := .builtin .append, args := #[s, x], argTypes := #[t, t] })
    (base : Nat) (A : Option Addr) (n c : Nat) (l : List Int) (hs : a.eval s = .slice A n c) (hown : OwnI w base e A n c l)
    (ad : Addr) (c' : Nat) (y : Int) (hx : a.eval x = .slice (some ad) 1 c') (hy : w.cell? ad = some (.int .i64 y)) (hn : n ≤ 1000000000) (hb : base ≤ w.heap.size)
    (hK : ∀ A' d w', OwnI w' base e A' (n + 1) d (l ++ [y]) → Below base w w' → wpList P ops Q rest (a.put o.dst (.slice A' (n + 1) d)) w') :
    wpList P ops Q (o :: rest) a w := by
  obtain ⟨i, h2, h3, h4, h5⟩ := S.hi
  refine wpList_append_own (P := P) w hg s x t ho base e i (.int .i64 0) 1 8 S.ht h2 h3 h4 h5 rfl (by omega) (.slice A n c) n (ints l) hs hown ad 1 c' [.int .i64 y] hx (by simp) ?_ (by simp [Value.oneCell']) (by unfold maxLen; omega) (by omega) hb ?_
  · intro j u hu
    match j with
    | 0 => simp only [List.getElem?_cons_zero, Option.some.injEq] at hu; subst hu; rw [show ad.add 0 = ad from rfl]; exact hy
    | j + 1 => simp at hu
  · intro v' w' h6 h7 h8
    have h9 : ints l ++ [Value.int .i64 y] = ints (l ++ [y]) := by rw [ints_append]; rfl
    rw [h9] at h6
    have hbl : Below base w w' := (Below.refl base w).grown h7 hb fun k hk => (World.ownsRow.lt hown k hk).1
    rcases h6.2 with ⟨_, h0⟩ | ⟨g, cap, cur, rfl, rest⟩
    · omega
    · exact hK _ _ w' h6 hbl
/-- 'append(s, y)' where y has just been laid into a new cell, in one step: from the world ahead of that cell. -/
theorem wpList_app1 {P : Program} {w0 : World} {ops : Array Oper} {rest : List Oper} {o : Oper} {a : Act} {Q : Exit → Act → World → Prop} {t e : TypeId} (S : IntSl P t e) {y : Int}
    (hg : o.guard = none) (s x : Operand) (ho : o.op = .call { callee := .builtin .append, args := #[s, x], argTypes := #[t, t] })
    {base : Nat} {A : Option Addr} {n c c' : Nat} {l : List Int} (hown : OwnI w0 base e A n c l) (hs : a.eval s = .slice A n c)
    (hx : a.eval x = .slice (some ⟨w0.heap.size, 0, none⟩) 1 c') (hn : n ≤ 1000000000) (hb : base ≤ w0.heap.size)
    (hK : ∀ A' d w', OwnI w' base e A' (n + 1) d (l ++ [y]) → Below base w0 w' → wpList P ops Q rest (a.put o.dst (.slice A' (n + 1) d)) w') :
    wpList P ops Q (o :: rest) a (w0.alloc (.cells #[.int .i64 y] e)) := by
  refine wpList_appI S hg s x ho base A n c l hs (hown.ext ((Ext.refl w0).alloc _)) _ c' y hx ?_ hn (by simp; omega) fun A' d w' h1 h2 => hK A' d w' h1 (Below.trans ((Below.refl base w0).alloc hb _) h2)
  exact cell_one_new w0 _ _ 0 _ rfl

theorem ownI_lit {w : World} {base e g n : Nat} (l : List Int) (hl : l.length = n) (hg : g = w.heap.size) (hb : base ≤ w.heap.size) (hm : n ≤ maxLen) :
    OwnI (w.alloc (.cells (ints l).toArray e)) base e (some ⟨g, 0, none⟩) n n l := by
  subst hl hg
  have h := World.ownsRow_lit (base := base) (e := e) (size := 1) w (ints l).toArray l.length hb hm (by simp [ints])
  simpa [OwnI] using h
theorem OwnI.le {w : World} {base e n c : Nat} {A : Option Addr} {l : List Int} (h : OwnI w base e A n c l) : n ≤ maxLen := Nat.le_trans h.cap.1 h.cap.2

/-- A result of the make ([]int, bool). -/
def ResI (e3 : Nat) (w : World) (r : Option (List Int)) (e : Ending) (w' : World) : Prop :=
  ∃ (A : Option Addr) (n c : Nat), e = .returned (.tuple #[.slice A n c, .bool r.isSome]) ∧ OwnI w' w.heap.size e3 A n c (r.getD []) ∧ Ext w w'
end Go.Proofs.YtnekpofaflpmdaaGreatDoor
