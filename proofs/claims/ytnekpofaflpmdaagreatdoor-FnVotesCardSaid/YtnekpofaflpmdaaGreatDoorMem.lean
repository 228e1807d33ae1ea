/- Slices of any elements of one cell that the call itself made; slices of slices of ints. -/
import Derived.Test.YtnekpofaflpmdaaGreatDoorBase
import Derived.Test.YtnekpofaflpmdaaGreatDoorGood
import Derived.Test.YtnekpofaflpmdaaGreatDoorEq
namespace Go.Proofs.YtnekpofaflpmdaaGreatDoor
open Go.RowKit

/-- A slice of the call's own with n elements of one cell each: they read xs. -/
def OwnV (w : World) (base e : Nat) (A : Option Addr) (n c : Nat) (xs : List Value) : Prop := w.ownsRow base e 1 (.slice A n c) n xs
section
variable {w w' : World} {base e n c : Nat} {A : Option Addr} {xs : List Value} {fp : List Nat}
theorem OwnV.len (h : OwnV w base e A n c xs) : xs.length = n := by have := h.1; omega
theorem OwnV.rd (h : OwnV w base e A n c xs) : Rd w A xs := by
  rcases h.2 with ⟨hv, hn⟩ | ⟨g, cap, cur, hv, _⟩
  · exact .inl (List.eq_nil_of_length_eq_zero (h.len.trans hn))
  · injection hv with hA _ _
    subst hA
    exact .inr ⟨_, rfl, fun j u hu => World.ownsRow.cells (w := w) h rfl j u hu⟩
theorem OwnV.lt (h : OwnV w base e A n c xs) : ∀ a, A = some a → base ≤ a.block ∧ a.block < w.heap.size := fun a ha => World.ownsRow.lt h a.block (by subst ha; rfl)
theorem OwnV.cap (h : OwnV w base e A n c xs) : n ≤ c ∧ c ≤ maxLen := by
  rcases h.2 with ⟨hv, hn⟩ | ⟨g, cap, cur, hv, _, _, hn, hm, _, _⟩
  · injection hv with _ _ hc
    subst hc; exact ⟨by omega, Nat.zero_le _⟩
  · injection hv with _ _ hc
    subst hc; exact ⟨hn, hm⟩
theorem OwnV.keep (h : OwnV w base e A n c xs) (hk : ∀ a, A = some a → w'.heap[a.block]? = w.heap[a.block]?) : OwnV w' base e A n c xs := by
  refine ⟨h.1, ?_⟩
  rcases h.2 with hn | ⟨g, cap, cur, hv, hg, hh, rest⟩
  · exact .inl hn
  · have hA : A = some ⟨g, 0, none⟩ := by injection hv
    exact .inr ⟨g, cap, cur, hv, hg, (hk _ hA).trans hh, rest⟩
theorem OwnV.ext (h : OwnV w base e A n c xs) (hb : Ext w w') : OwnV w' base e A n c xs := h.keep fun a ha => hb.block a.block (h.lt a ha).2
theorem OwnV.nil (w : World) (base e : Nat) : OwnV w base e none 0 0 [] := ⟨rfl, .inl ⟨rfl, rfl⟩⟩
theorem OwnV.set {g j : Nat} (h : OwnV w base e (some ⟨g, 0, none⟩) n c xs) (x : Value) : OwnV (w.setCell ⟨g, j, none⟩ x) base e (some ⟨g, 0, none⟩) n c (xs.set j x) := (World.ownsRow.stored h j x).1
theorem OwnV.more {base' : Nat} (h : OwnV w base e A n c xs) (hb : base' ≤ base) : OwnV w base' e A n c xs := by
  refine ⟨h.1, ?_⟩
  rcases h.2 with hn | ⟨g, cap, cur, hv, hg, rest⟩
  · exact .inl hn
  · exact .inr ⟨g, cap, cur, hv, Nat.le_trans hb hg, rest⟩
theorem OwnV.at0 {g : Nat} (h : OwnV w base e (some ⟨g, 0, none⟩) n c xs) (j : Nat) (hj : j < xs.length) : w.cell? ⟨g, j, none⟩ = some xs[j] ∧ w.frozen? ⟨g, j, none⟩ = false := by
  refine ⟨?_, World.ownsRow.frozenAt h j⟩
  rw [World.ownsRow.cellAt h j (by have := h.len; omega)]
  simp [hj]
theorem OwnV.low (h : OwnV w base e A n c xs) : Low (fpI A) w.heap.size := by
  intro b hb
  cases A with
  | none => simp [fpI] at hb
  | some a => simp only [fpI, List.mem_singleton] at hb; subst hb; exact (h.lt a rfl).2
theorem OwnV.high (h : OwnV w base e A n c xs) : High base (fpI A) := by
  intro b hb
  cases A with
  | none => simp [fpI] at hb
  | some a => simp only [fpI, List.mem_singleton] at hb; subst hb; exact (h.lt a rfl).1
theorem OwnV.only (h : OwnV w base e A n c xs) (k : Only fp w w') (ha : Apart (fpI A) fp) : OwnV w' base e A n c xs :=
  h.keep fun a hA => k.block a.block (h.lt a hA).2 (ha a.block (by subst hA; simp [fpI]))
/-- Where there is an element there is an address. -/
theorem OwnV.addr (h : OwnV w base e A n c xs) (hn : 0 < n) : ∃ g, A = some ⟨g, 0, none⟩ ∧ base ≤ g := by
  rcases h.2 with ⟨hv, h0⟩ | ⟨g, cap, cur, hv, hbg, _⟩
  · omega
  · injection hv with hA _ _
    exact ⟨g, hA, hbg⟩
end

/-- t is the type of slices of e, whose elements take one cell, z at first, b bytes. -/
structure ValSl (P : Program) (t e : TypeId) (z : Value) (b : Nat) : Prop where
  ht : P.underlying t = some (.slice e)
  hi : ∃ i, P.info? e = some i ∧ i.zero = some z ∧ i.size = 1 ∧ i.bytes = b
  hz : z.cells = #[z]

/-- 'make([]T, n)'. -/
theorem wpList_mkV {P : Program} {w : World} {ops : Array Oper} {rest : List Oper} {o : Oper} {a : Act} {Q : Exit → Act → World → Prop} {t e : TypeId} {z : Value} {b : Nat} (S : ValSl P t e z b)
    (hg : o.guard = none) (l c : Operand) (hop : o.op = Op.makeSlice t l c) (kl kc : IntKind) (L C : Int) (n : Nat) (hl : a.eval l = .int kl L) (hc : a.eval c = .int kc C) (hL : L = (n : Int)) (hC : C = (n : Int)) (hn : n ≤ 1000000000) (hb8 : b ≤ 100)
    (base : Nat) (hb : base ≤ w.heap.size)
    (hK : ∀ w', OwnV w' base e (some ⟨w.heap.size, 0, none⟩) n n (List.replicate n z) → Ext w w' → w.heap.size < w'.heap.size → wpList P ops Q rest (a.put o.dst (.slice (some ⟨w.heap.size, 0, none⟩) n n)) w') :
    wpList P ops Q (o :: rest) a w := by
  obtain ⟨i, h2, h3, h4, h5⟩ := S.hi
  have hbn : b * n ≤ 100 * 1000000000 := Nat.mul_le_mul hb8 hn
  refine wpList_make_full (P := P) w hg l c t hop base e i z 1 S.ht h2 h3 h4 kl kc L C n hl hc hL hC (by rw [h5]; omega) (by unfold maxLen; omega) hb fun w' hw hgr => ?_
  have h6 : OwnV w' base e (some ⟨w.heap.size, 0, none⟩) n n (List.replicate n z) := by
    have h7 : (madeCells z.cells (n * 1)).toList = List.replicate n z := by
      rw [Nat.mul_one, S.hz]; exact toList_madeCells_one _ n
    rw [← h7]; exact hw
  exact hK w' h6 ((Ext.refl w).grown hgr (by simp)) (h6.lt _ rfl).2

theorem only_of_grown {w w' : World} {A : Option Addr} {n c : Nat} (h : w.grownBy w' (Value.ownBlock (.slice A n c))) : Only (fpI A) w w' := by
  refine ⟨h.os, h.tape, h.output, h.size, fun k hk hn => h.block k hk fun e => hn ?_⟩
  cases A with
  | none => simp [Value.ownBlock] at e
  | some a => simp only [Value.ownBlock, Option.some.injEq] at e; simp [fpI, e]
theorem Ext.toOnly {w w' : World} (h : Ext w w') (fp : List Nat) : Only fp w w' := ⟨h.os, h.tape, h.output, h.size, fun k hk _ => h.block k hk⟩
theorem Only.thenBelow {w w' w'' : World} {fp : List Nat} {B : Nat} (h : Only fp w w') (k : Below B w' w'') (hB : w.heap.size ≤ B) : Only fp w w'' :=
  ⟨k.os.trans h.os, k.tape.trans h.tape, k.output.trans h.output, Nat.le_trans h.size k.size, fun i hi hn => (k.block i (Nat.lt_of_lt_of_le hi hB)).trans (h.block i hi hn)⟩
theorem Only.thenOnly {w w' w'' : World} {fp : List Nat} (h : Only fp w w') (k : Only fp w' w'') : Only fp w w'' := (h.trans k).mono (by simp)

/-- 'append(s, x)' of one value that has just been laid into a new cell; from the world ahead of that cell. -/
theorem wpList_app1V {P : Program} {w0 : World} {ops : Array Oper} {rest : List Oper} {o : Oper} {a : Act} {Q : Exit → Act → World → Prop} {t e : TypeId} {z : Value} {b : Nat} (S : ValSl P t e z b) {y : Value}
    (hg : o.guard = none) (s x : Operand) (ho : o.op = .call { callee := .builtin .append, args := #[s, x], argTypes := #[t, t] })
    {base : Nat} {A : Option Addr} {n c c' : Nat} {xs : List Value} (hown : OwnV w0 base e A n c xs) (hs : a.eval s = .slice A n c)
    (hx : a.eval x = .slice (some ⟨w0.heap.size, 0, none⟩) 1 c') (hy : y.oneCell' = true) (hn : n ≤ 100000000) (hb8 : b ≤ 100) (hb : base ≤ w0.heap.size)
    (hK : ∀ A' d w', OwnV w' base e A' (n + 1) d (xs ++ [y]) → Only (fpI A) w0 w' → wpList P ops Q rest (a.put o.dst (.slice A' (n + 1) d)) w') :
    wpList P ops Q (o :: rest) a (w0.alloc (.cells #[y] e)) := by
  obtain ⟨i, h2, h3, h4, h5⟩ := S.hi
  have hbn : (n + 1) * b ≤ (100000000 + 1) * 100 := Nat.mul_le_mul (by omega) hb8
  have hcell : (w0.alloc (.cells #[y] e)).cell? ⟨w0.heap.size, 0, none⟩ = some y := cell_one_new w0 _ _ 0 _ rfl
  have hO : OwnV (w0.alloc (.cells #[y] e)) base e A n c xs := hown.ext ((Ext.refl w0).alloc _)
  refine wpList_append_own (P := P) _ hg s x t ho base e i z 1 b S.ht h2 h3 h4 h5 (by rw [S.hz]; rfl) (by omega) (.slice A n c) n xs hs hO ⟨w0.heap.size, 0, none⟩ 1 c' [y] hx (by simp) ?_ (by simpa using hy) (by unfold maxLen; omega) (by omega) (by simp; omega) ?_
  · intro j u hu
    match j with
    | 0 => simp only [List.getElem?_cons_zero, Option.some.injEq] at hu; subst hu; exact hcell
    | j + 1 => simp at hu
  · intro v' w' h6 h7 h8
    have hl : Only (fpI A) w0 w' := by
      have h9 := only_of_grown h7
      refine ⟨h9.os, h9.tape, h9.output, ?_, fun k hk hn => ?_⟩
      · have := h9.size; simp at this; omega
      · exact (h9.block k (by simp; omega) hn).trans (Below.heap_alloc w0 _ k hk)
    rcases h6.2 with ⟨_, h0⟩ | ⟨g, cap, cur, rfl, rest⟩
    · omega
    · exact hK _ _ w' h6 hl

/-- wpList_app1 where the heap's size is spelled otherwise. -/
theorem wpList_app1h {P : Program} {w0 : World} {ops : Array Oper} {rest : List Oper} {o : Oper} {a : Act} {Q : Exit → Act → World → Prop} {t e : TypeId} (S : IntSl P t e) {y : Int}
    (hg : o.guard = none) (s x : Operand) (ho : o.op = .call { callee := .builtin .append, args := #[s, x], argTypes := #[t, t] })
    {base : Nat} {A : Option Addr} {n c c' : Nat} {l : List Int} (hown : OwnI w0 base e A n c l) (hs : a.eval s = .slice A n c)
    {h : Nat} (hx : a.eval x = .slice (some ⟨h, 0, none⟩) 1 c') (hh : w0.heap.size = h) (hn : n ≤ 1000000000) (hb : base ≤ w0.heap.size)
    (hK : ∀ A' d w', OwnI w' base e A' (n + 1) d (l ++ [y]) → Below base w0 w' → wpList P ops Q rest (a.put o.dst (.slice A' (n + 1) d)) w') :
    wpList P ops Q (o :: rest) a (w0.alloc (.cells #[.int .i64 y] e)) := by
  subst hh
  exact wpList_app1 S hg s x ho hown hs hx hn hb hK

/-- The rows of a slice of slices of ints: their headers. -/
def rowV (r : Option Addr × Nat × Nat) : Value := .slice r.1 r.2.1 r.2.2
def rowsFp (rs : List (Option Addr × Nat × Nat)) : List Nat := rs.flatMap fun r => fpI r.1
theorem rowsFp_mem {rs : List (Option Addr × Nat × Nat)} {b : Nat} : b ∈ rowsFp rs ↔ ∃ r ∈ rs, b ∈ fpI r.1 := by simp [rowsFp]
theorem rowsFp_apart {rs : List (Option Addr × Nat × Nat)} (h : (rowsFp rs).Nodup) {i j : Nat} (hi : i < rs.length) (hj : j < rs.length) (hne : i ≠ j) : Apart (fpI rs[i].1) (fpI rs[j].1) := by
  intro b hb hb'
  induction rs generalizing i j with
  | nil => simp at hi
  | cons r rs ih =>
    have h' : rowsFp (r :: rs) = fpI r.1 ++ rowsFp rs := by simp [rowsFp]
    rw [h', List.nodup_append] at h
    match i, j with
    | 0, 0 => exact hne rfl
    | 0, j + 1 => exact h.2.2 b (by simpa using hb) b (rowsFp_mem.2 ⟨_, List.getElem_mem (by simpa using hj), by simpa using hb'⟩) rfl
    | i + 1, 0 => exact h.2.2 b (by simpa using hb') b (rowsFp_mem.2 ⟨_, List.getElem_mem (by simpa using hi), by simpa using hb⟩) rfl
    | i + 1, j + 1 => exact ih h.2.1 (by simpa using hi) (by simpa using hj) (by omega) (by simpa using hb) (by simpa using hb')

/-- A slice of slices of ints that the call itself made: block by block apart; P: all its blocks. -/
def OwnII (w : World) (base : Nat) (A : Option Addr) (n c : Nat) (P : List Nat) (ls : List (List Int)) : Prop :=
  ∃ rs : List (Option Addr × Nat × Nat), OwnV w base 26 A n c (rs.map rowV) ∧ rs.length = ls.length ∧
    (∀ i, (h : i < rs.length) → (h' : i < ls.length) → OwnI w base 3 rs[i].1 rs[i].2.1 rs[i].2.2 ls[i]) ∧ (rowsFp rs).Nodup ∧ P = fpI A ++ rowsFp rs

theorem ownV_block {w : World} {base e n c : Nat} {A : Option Addr} {xs : List Value} (h : OwnV w base e A n c xs) {b : Nat} (hb : b ∈ fpI A) : ∃ cur, w.heap[b]? = some (.cells cur e (0, 0)) := by
  rcases h.2 with ⟨hv, _⟩ | ⟨g, cap, cur, hv, _, hg, _⟩
  · injection hv with hA; subst hA; simp [fpI] at hb
  · injection hv with hA; subst hA
    simp only [fpI, List.mem_singleton] at hb
    subst hb; exact ⟨cur, hg⟩
/-- Blocks of different element types are different. -/
theorem apart_types {w : World} {b1 b2 e1 e2 n1 n2 c1 c2 : Nat} {A B : Option Addr} {xs ys : List Value} (h : OwnV w b1 e1 A n1 c1 xs) (k : OwnV w b2 e2 B n2 c2 ys) (hne : e1 ≠ e2) : Apart (fpI A) (fpI B) := by
  intro b hb hb'
  obtain ⟨c1, h1⟩ := ownV_block h hb
  obtain ⟨c2, h2⟩ := ownV_block k hb'
  rw [h1] at h2
  simp only [Option.some.injEq, Obj.cells.injEq] at h2
  exact hne h2.2.1
theorem OwnI.v {w : World} {base e n c : Nat} {A : Option Addr} {l : List Int} (h : OwnI w base e A n c l) : OwnV w base e A n c (ints l) := h

section
variable {w w' : World} {base n c : Nat} {A : Option Addr} {P fp : List Nat} {ls : List (List Int)}
theorem OwnII.len (h : OwnII w base A n c P ls) : ls.length = n := by
  obtain ⟨rs, hV, hl, _⟩ := h
  have := hV.len
  rw [List.length_map] at this; omega
theorem OwnII.cap (h : OwnII w base A n c P ls) : n ≤ c ∧ c ≤ maxLen := by obtain ⟨rs, hV, _⟩ := h; exact hV.cap
theorem OwnII.le (h : OwnII w base A n c P ls) : n ≤ maxLen := Nat.le_trans h.cap.1 h.cap.2
theorem OwnII.rd (h : OwnII w base A n c P ls) : RdSS w A ls := by
  obtain ⟨rs, hV, hl, hI, _⟩ := h
  rcases hV.rd with h0 | ⟨ad, hA, hc⟩
  · left
    have : rs.length = 0 := by simpa using congrArg List.length h0
    exact List.eq_nil_of_length_eq_zero (by omega)
  · refine .inr ⟨ad, hA, fun k hk => ?_⟩
    have hk' : k < rs.length := by omega
    have hO := hI k hk' hk
    exact ⟨rs[k].1, rs[k].2.1, rs[k].2.2, hc k _ (by simp [hk', rowV]), hO.rd, hO.len, hO.cap⟩
theorem OwnII.low (h : OwnII w base A n c P ls) : Low P w.heap.size := by
  obtain ⟨rs, hV, hl, hI, _, rfl⟩ := h
  intro b hb
  rcases List.mem_append.1 hb with hb | hb
  · exact hV.low b hb
  · obtain ⟨r, hr, hb⟩ := rowsFp_mem.1 hb
    obtain ⟨i, hi, rfl⟩ := List.getElem_of_mem hr
    exact (hI i hi (by omega)).low b hb
theorem OwnII.high (h : OwnII w base A n c P ls) : High base P := by
  obtain ⟨rs, hV, hl, hI, _, rfl⟩ := h
  intro b hb
  rcases List.mem_append.1 hb with hb | hb
  · exact hV.high b hb
  · obtain ⟨r, hr, hb⟩ := rowsFp_mem.1 hb
    obtain ⟨i, hi, rfl⟩ := List.getElem_of_mem hr
    exact (hI i hi (by omega)).high b hb
theorem OwnII.only (h : OwnII w base A n c P ls) (k : Only fp w w') (ha : Apart P fp) : OwnII w' base A n c P ls := by
  obtain ⟨rs, hV, hl, hI, hd, rfl⟩ := h
  refine ⟨rs, hV.only k fun b hb => ha b (List.mem_append_left _ hb), hl, fun i hi hi' => (hI i hi hi').only k fun b hb => ha b (List.mem_append_right _ (rowsFp_mem.2 ⟨_, List.getElem_mem hi, hb⟩)), hd, rfl⟩
theorem OwnII.ext (h : OwnII w base A n c P ls) (hb : Ext w w') : OwnII w' base A n c P ls := h.only (hb.toOnly []) (fun _ _ => by simp)
theorem OwnII.more {base' : Nat} (h : OwnII w base A n c P ls) (hb : base' ≤ base) : OwnII w base' A n c P ls := by
  obtain ⟨rs, hV, hl, hI, hd, rfl⟩ := h
  exact ⟨rs, hV.more hb, hl, fun i hi hi' => (hI i hi hi').more hb, hd, rfl⟩
theorem OwnII.nil (w : World) (base : Nat) : OwnII w base none 0 0 [] [] := ⟨[], OwnV.nil _ _ _, rfl, fun i h => absurd h (by simp), by simp [rowsFp], by simp [rowsFp, fpI]⟩
theorem OwnII.fpA (h : OwnII w base A n c P ls) : ∀ b ∈ fpI A, b ∈ P := by
  obtain ⟨rs, hV, hl, hI, hd, rfl⟩ := h
  exact fun b hb => List.mem_append_left _ hb
theorem OwnII.frz {g : Nat} (h : OwnII w base (some ⟨g, 0, none⟩) n c P ls) (j : Nat) : Hid (w.frozen? ⟨g, j, none⟩ = false) := by
  obtain ⟨rs, hV, _⟩ := h
  exact World.ownsRow.frozenAt hV j
/-- Row j: its cell, its ints; and the whole behind a call that turned that row alone. -/
theorem OwnII.row {j : Nat} (h : OwnII w base A n c P ls) (hj : j < ls.length) :
    ∃ g B m d, A = some ⟨g, 0, none⟩ ∧ w.cell? ⟨g, j, none⟩ = some (.slice B m d) ∧ OwnI w base 3 B m d ls[j] ∧ (∀ b ∈ fpI B, b ∈ P) ∧
      ∀ w' l', OwnI w' base 3 B m d l' → Only (fpI B) w w' → OwnII w' base A n c P (ls.set j l') := by
  obtain ⟨rs, hV, hl, hI, hd, rfl⟩ := h
  have hj' : j < rs.length := by omega
  have hn := hV.len
  rw [List.length_map] at hn
  obtain ⟨g, hA, _⟩ := hV.addr (by omega)
  subst hA
  have hO := hI j hj' hj
  have hsub : ∀ b ∈ fpI rs[j].1, b ∈ fpI (some (⟨g, 0, none⟩ : Addr)) ++ rowsFp rs := fun b hb => List.mem_append_right _ (rowsFp_mem.2 ⟨_, List.getElem_mem hj', hb⟩)
  refine ⟨g, rs[j].1, rs[j].2.1, rs[j].2.2, rfl, ?_, hO, hsub, fun w' l' hO' hk => ⟨rs, hV.only hk (apart_types hV hO.v (by decide)), by simpa using hl, fun i hi hi' => ?_, hd, rfl⟩⟩
  · rw [(hV.at0 j (by simpa using hj')).1]; simp [rowV]
  · by_cases e : i = j
    · subst e; simpa using hO'
    · rw [List.getElem_set_ne (by omega)]
      exact (hI i hi (by simpa using hi')).only hk (rowsFp_apart hd hi hj' e)
end

/-- How many ints. -/
def tot (ls : List (List Int)) : Nat := (ls.map List.length).sum
theorem tot_append (xs ys : List (List Int)) : tot (xs ++ ys) = tot xs + tot ys := by simp [tot]
theorem tot_one (l : List Int) : tot [l] = l.length := by simp [tot]
theorem tot_take {ls : List (List Int)} {j : Nat} (hj : j < ls.length) : tot (ls.take (j + 1)) = tot (ls.take j) + ls[j].length := by
  rw [List.take_succ_eq_append_getElem hj, tot_append, tot_one]
theorem tot_take_le (ls : List (List Int)) (j : Nat) : tot (ls.take j) ≤ tot ls := by
  conv => rhs; rw [← List.take_append_drop j ls]
  rw [tot_append]; omega
theorem tot_at {ls : List (List Int)} {j : Nat} (hj : j < ls.length) : tot (ls.take j) + ls[j].length ≤ tot ls := by
  rw [← tot_take hj]; exact tot_take_le _ _
/-- Rows of the same lengths, with numbers in a row from k on. -/
def markS : Int → List (List Int) → List (List Int)
  | _, [] => []
  | k, l :: ls => iota k l.length :: markS (k + l.length) ls
theorem markS_length : ∀ (ls : List (List Int)) (k : Int), (markS k ls).length = ls.length
  | [], _ => rfl
  | l :: ls, k => by simp [markS, markS_length ls]
theorem markS_snoc (x : List Int) : ∀ (xs : List (List Int)) (k : Int), markS k (xs ++ [x]) = markS k xs ++ [iota (k + tot xs) x.length]
  | [], k => by simp [markS, tot]
  | y :: ys, k => by
    rw [List.cons_append, markS, markS_snoc x ys, markS, List.cons_append]
    simp [tot, Int.add_assoc]
theorem markS_get {ls : List (List Int)} {k : Int} {j : Nat} (hj : j < ls.length) : (markS k ls)[j]'(by rw [markS_length]; exact hj) = iota (k + tot (ls.take j)) ls[j].length := by
  induction ls generalizing j k with
  | nil => simp at hj
  | cons l ls ih =>
    match j with
    | 0 => simp [markS, tot]
    | j + 1 => 
      simp only [markS, List.getElem_cons_succ]
      rw [ih (by simpa using hj)]
      simp [tot, Int.add_assoc]
theorem markS_set {ls : List (List Int)} {k : Int} {j : Nat} (hj : j < ls.length) :
    (markS k (ls.take j) ++ ls.drop j).set j (iota (k + tot (ls.take j)) ls[j].length) = markS k (ls.take (j + 1)) ++ ls.drop (j + 1) := by
  have h1 : (markS k (ls.take j)).length = j := by rw [markS_length, List.length_take]; omega
  rw [List.set_append_right _ _ (by omega), h1, Nat.sub_self, List.drop_eq_getElem_cons hj, List.set_cons_zero, List.take_succ_eq_append_getElem hj, markS_snoc]
  simp
theorem markS_mid {ls : List (List Int)} {k : Int} {j : Nat} (hj : j < ls.length) : (markS k (ls.take j) ++ ls.drop j)[j]'(by rw [List.length_append, markS_length, List.length_take, List.length_drop]; omega) = ls[j] := by
  have h1 : (markS k (ls.take j)).length = j := by rw [markS_length, List.length_take]; omega
  rw [List.getElem_append_right (by omega)]
  simp [h1]
def ResSS (w : World) (r : Option (List (List Int))) (e : Ending) (w' : World) : Prop :=
  ∃ (A : Option Addr) (n c : Nat) (P : List Nat), e = .returned (.tuple #[.slice A n c, .bool r.isSome]) ∧ OwnII w' w.heap.size A n c P (r.getD []) ∧ Ext w w'
end Go.Proofs.YtnekpofaflpmdaaGreatDoor
