/- Words for memory: worlds that only grow, blocks that are known whole, slices that are read, slices of the call's own. -/
import Derived.WalkKit
import Derived.WalkSpells
import Derived.WalkLawsBesides
import Derived.Deep.Light
import Derived.Deep.AppendLies
import Derived.Deep.Draws
import Derived.Maps.AppendAt
import Derived.Deep.QuietTactic
import Derived.BigQuiet
import Derived.Lib.Hide
import Derived.Laws.OwnMore
namespace Go.Proofs.Ytjifppkclkcpcaa
open Go.RowKit

theorem ret_bool {a b : Bool} (h : a = b) : Ending.returned (.bool a) = .returned (.bool b) := by rw [h]
theorem ret_int {k : IntKind} {a b : Int} (h : a = b) : Ending.returned (.int k a) = .returned (.int k b) := by rw [h]

/-- The world has only grown: what was there is as it was. -/
def Ext (w w' : World) : Prop := Below w.heap.size w w'
section
variable {w w' w'' : World}
theorem Ext.refl (w : World) : Ext w w := Below.refl _ w
theorem Ext.below (h : Ext w w') : Below w.heap.size w w' := h
theorem Ext.size (h : Ext w w') : w.heap.size ≤ w'.heap.size := Below.size h
theorem Ext.trans (h : Ext w w') (k : Ext w' w'') : Ext w w'' := Below.trans h (Below.mono k (Below.size h))
theorem Ext.then {B : Nat} (h : Ext w w') (k : Below B w' w'') (hB : w.heap.size ≤ B) : Ext w w'' := Below.trans h (Below.mono k hB)
theorem Ext.alloc (h : Ext w w') (o : Obj) : Ext w (w'.alloc o) := Below.alloc h (Below.size h) o
theorem Ext.drew (h : Ext w w') : Ext w w'.drew := Below.drew h
theorem Ext.drewN (h : Ext w w') (n : Nat) : Ext w (w'.drewN n) := ⟨h.os, h.tape, h.output, h.size, h.block⟩
theorem Ext.setCell (h : Ext w w') {p : Addr} (hp : w.heap.size ≤ p.block) (u : Value) : Ext w (w'.setCell p u) := Below.setCell h hp u
theorem Ext.grown (h : Ext w w') {row : Option Nat} (hg : w'.grownBy w'' row) (hr : ∀ k, row = some k → w.heap.size ≤ k) : Ext w w'' := Below.grown h hg (Below.size h) hr
theorem Ext.cell {p : Addr} {u : Value} (h : Ext w w') (hp : w.cell? p = some u) : w'.cell? p = some u := (Below.cell h (World.block_lt_of_cell? w p hp)).trans hp
end

/-- Block g is just the cells cs of element type t, none frozen. -/
def Blk (w : World) (g : Nat) (t : TypeId) (cs : Array Value) : Prop := w.heap[g]? = some (.cells cs t (0, 0))
section
variable {w w' : World} {g : Nat} {t : TypeId} {cs : Array Value}
theorem Blk.lt (h : Blk w g t cs) : g < w.heap.size := (Array.getElem?_eq_some_iff.1 h).1
theorem Blk.cells (h : Blk w g t cs) : ∀ i, w.cell? ⟨g, i, none⟩ = cs[i]? := fun i => cell_of_row w g i cs t (0, 0) h
theorem Blk.frozen (h : Blk w g t cs) : ∀ i, w.frozen? ⟨g, i, none⟩ = false := fun i => by
  unfold Blk at h
  simp [World.frozen?, h]
theorem Blk.new (w : World) (t : TypeId) (cs : Array Value) : Blk (w.alloc (.cells cs t)) w.heap.size t cs := heap_alloc_new w _
theorem Blk.alloc (h : Blk w g t cs) (o : Obj) : Blk (w.alloc o) g t cs := (Below.heap_alloc w o g h.lt).trans h
theorem Blk.ext (h : Blk w g t cs) (hb : Ext w w') : Blk w' g t cs := (hb.block g h.lt).trans h
theorem Blk.below {B : Nat} (h : Blk w g t cs) (hb : Below B w w') (hg : g < B) : Blk w' g t cs := (hb.block g hg).trans h
theorem Blk.grown {row : Option Nat} (h : Blk w g t cs) (hb : w.grownBy w' row) (hg : some g ≠ row) : Blk w' g t cs := (hb.block g h.lt hg).trans h
theorem Blk.far (h : Blk w g t cs) {p : Addr} (hp : g ≠ p.block) (u : Value) : Blk (w.setCell p u) g t cs := (Below.heap_setCell w p u g hp).trans h
theorem Blk.set_ (h : Blk w g t cs) (i : Nat) (u : Value) : Blk (w.setCell ⟨g, i, none⟩ u) g t (cs.setIfInBounds i u) := by
  unfold Blk at h ⊢
  simp [World.setCell, Array.getElem?_modify, h]
theorem Blk.drew (h : Blk w g t cs) : Blk w.drew g t cs := h
theorem Blk.drewN (h : Blk w g t cs) (n : Nat) : Blk (w.drewN n) g t cs := h
end

def ints (l : List Int) : List Value := l.map (Value.int .i64)
theorem ints_length (l : List Int) : (ints l).length = l.length := by simp [ints]
theorem ints_append (l m : List Int) : ints (l ++ m) = ints l ++ ints m := by simp [ints]
theorem ints_one (n : Int) : ints [n] = [.int .i64 n] := rfl
theorem ints_oneCell (l : List Int) : ∀ u ∈ ints l, u.oneCell' = true := by
  intro u hu
  simp only [ints, List.mem_map] at hu
  obtain ⟨n, _, rfl⟩ := hu
  rfl

theorem add_block (a : Addr) (n : Nat) : (a.add n).block = a.block := by unfold Addr.add; split <;> rfl
theorem add_add (a : Addr) (i j : Nat) : (a.add i).add j = a.add (i + j) := by
  unfold Addr.add
  by_cases hi : i = 0 <;> by_cases hj : j = 0 <;> simp [hi, hj, Nat.add_assoc]

/-- The cells from A on are xs. -/
def Rd (w : World) (A : Option Addr) (xs : List Value) : Prop := xs = [] ∨ ∃ ad, A = some ad ∧ ∀ j u, xs[j]? = some u → w.cell? (ad.add j) = some u
def RdI (w : World) (A : Option Addr) (l : List Int) : Prop := Rd w A (ints l)

section
variable {w w' : World} {A : Option Addr} {xs : List Value} {l : List Int}
theorem Rd.keep (h : Rd w A xs) (hk : ∀ p u, w.cell? p = some u → w'.cell? p = some u) : Rd w' A xs := by
  rcases h with h | ⟨ad, hA, hc⟩
  · exact .inl h
  · exact .inr ⟨ad, hA, fun j u hu => hk _ _ (hc j u hu)⟩
theorem Rd.ext (h : Rd w A xs) (hb : Ext w w') : Rd w' A xs := h.keep fun _ _ hp => hb.cell hp
theorem RdI.ext (h : RdI w A l) (hb : Ext w w') : RdI w' A l := Rd.ext h hb
theorem Rd.at_ {k : Nat} (h : Rd w A xs) (hk : k < xs.length) : ∃ ad, A = some ad ∧ w.cell? (ad.add k) = some (xs[k]'hk) := by
  rcases h with h | ⟨ad, hA, hc⟩
  · subst h; simp at hk
  · exact ⟨ad, hA, hc k _ (by simp [hk])⟩
theorem RdI.at_ {k : Nat} (h : RdI w A l) (hk : k < l.length) : ∃ ad, A = some ad ∧ w.cell? (ad.add k) = some (.int .i64 (l[k]'hk)) := by
  obtain ⟨ad, hA, hc⟩ := Rd.at_ h (k := k) (by rw [ints_length]; exact hk)
  exact ⟨ad, hA, by simpa [ints] using hc⟩
theorem RdI.nil (w : World) (A : Option Addr) : RdI w A [] := .inl rfl
theorem RdI.take (h : RdI w A l) (k : Nat) : RdI w A (l.take k) := by
  rcases h with h | ⟨ad, hA, hc⟩
  · rw [ints, List.map_eq_nil_iff] at h; subst h; simpa using RdI.nil w A
  · refine .inr ⟨ad, hA, fun j u hu => hc j u ?_⟩
    simp only [ints, List.map_take, List.getElem?_take] at hu
    split at hu
    · exact hu
    · cases hu
theorem RdI.drop {cap : Nat} (h : RdI w A l) (k : Nat) (hc : l.length ≤ cap) : RdI w (if cap = k then A else A.map (·.add k)) (l.drop k) := by
  by_cases hk : k < l.length
  · rw [if_neg (by omega)]
    rcases h with h | ⟨ad, rfl, hc⟩
    · rw [ints, List.map_eq_nil_iff] at h; subst h; simp at hk
    · refine .inr ⟨ad.add k, rfl, fun j u hu => ?_⟩
      rw [add_add]
      refine hc _ u ?_
      simpa [ints, List.map_drop, List.getElem?_drop] using hu
  · rw [List.drop_eq_nil_of_le (by omega)]
    exact RdI.nil _ _
end

/-- A slice of ints that the call itself made: from block base on, its block's element type e. -/
def OwnI (w : World) (base e : Nat) (A : Option Addr) (c : Nat) (l : List Int) : Prop := w.ownsRow base e 1 (.slice A l.length c) l.length (ints l)
section
variable {w w' : World} {base e c : Nat} {A : Option Addr} {l : List Int}
theorem OwnI.rd (h : OwnI w base e A c l) : RdI w A l := by
  rcases h.2 with ⟨hv, hn⟩ | ⟨g, cap, cur, hv, _, hg, _, _, _, htake⟩
  · have : l = [] := List.eq_nil_of_length_eq_zero hn
    subst this; exact .inl rfl
  · injection hv with hA _ _
    subst hA
    refine .inr ⟨_, rfl, fun j u hu => ?_⟩
    exact World.ownsRow.cells (w := w) h rfl j u hu
theorem OwnI.lt (h : OwnI w base e A c l) : ∀ a, A = some a → base ≤ a.block ∧ a.block < w.heap.size := fun a ha => World.ownsRow.lt h a.block (by subst ha; rfl)
theorem OwnI.cap (h : OwnI w base e A c l) : l.length ≤ c ∧ c ≤ maxLen := by
  rcases h.2 with ⟨hv, hn⟩ | ⟨g, cap, cur, hv, _, _, hn, hm, _, _⟩
  · injection hv with _ _ hc
    subst hc; exact ⟨by omega, Nat.zero_le _⟩
  · injection hv with _ _ hc
    subst hc; exact ⟨hn, hm⟩
theorem OwnI.ext (h : OwnI w base e A c l) (hb : Ext w w') : OwnI w' base e A c l := by
  refine ⟨h.1, ?_⟩
  rcases h.2 with hn | ⟨g, cap, cur, hv, hg, hh, rest⟩
  · exact .inl hn
  · exact .inr ⟨g, cap, cur, hv, hg, (hb.block g (Array.getElem?_eq_some_iff.1 hh).1).trans hh, rest⟩
theorem OwnI.nil (w : World) (base e : Nat) : OwnI w base e none 0 [] := ⟨rfl, .inl ⟨rfl, rfl⟩⟩
/-- One element is stored: the block's other cells stay. -/
theorem OwnI.set {g j : Nat} (h : OwnI w base e (some ⟨g, 0, none⟩) c l) (n : Int) : OwnI (w.setCell ⟨g, j, none⟩ (.int .i64 n)) base e (some ⟨g, 0, none⟩) c (l.set j n) := by
  have h1 := World.ownsRow.stored h j (.int .i64 n)
  have h2 : (ints l).set j (.int .i64 n) = ints (l.set j n) := by simp [ints, List.map_set]
  unfold OwnI
  rw [List.length_set, ← h2]
  exact h1.1
theorem OwnI.more {base' : Nat} (h : OwnI w base e A c l) (hb : base' ≤ base) : OwnI w base' e A c l := by
  refine ⟨h.1, ?_⟩
  rcases h.2 with hn | ⟨g, cap, cur, hv, hg, rest⟩
  · exact .inl hn
  · exact .inr ⟨g, cap, cur, hv, Nat.le_trans hb hg, rest⟩
theorem OwnI.addr (h : OwnI w base e A c l) (hl : 0 < l.length) : ∃ g, A = some ⟨g, 0, none⟩ := by
  rcases h.2 with ⟨hv, hn⟩ | ⟨g, cap, cur, hv, _⟩
  · omega
  · injection hv with hA _ _
    exact ⟨g, hA⟩
end
end Go.Proofs.Ytjifppkclkcpcaa
