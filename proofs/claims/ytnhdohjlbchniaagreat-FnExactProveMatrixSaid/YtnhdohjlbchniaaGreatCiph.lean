/- Lists of ciphertexts: what is read, what the call itself made; the laws' own functions on them. -/
import Derived.Test.YtnhdohjlbchniaaGreatProg
import Derived.Test.YtnhdohjlbchniaaGreatMem
import Derived.Test.YtnhdohjlbchniaaGreatEq
import Derived.Deep.RegionHeld3
namespace Go.Proofs.YtnhdohjlbchniaaGreat
open Go.RowKit

def cs2 (l : List (Int × Int)) : List Value := l.flatMap fun p => [.int .i64 p.1, .int .i64 p.2]
theorem cs2_length (l : List (Int × Int)) : (cs2 l).length = l.length * 2 := by
  induction l with
  | nil => rfl
  | cons p l ih => simp only [cs2, List.flatMap_cons, List.length_append] at *; simp [ih]; omega
theorem cs2_append (l m : List (Int × Int)) : cs2 (l ++ m) = cs2 l ++ cs2 m := by simp [cs2]
theorem cs2_get {l : List (Int × Int)} {k : Nat} (h : k < l.length) : (cs2 l)[k * 2]? = some (.int .i64 l[k].1) ∧ (cs2 l)[k * 2 + 1]? = some (.int .i64 l[k].2) := by
  induction l generalizing k with
  | nil => simp at h
  | cons p l ih =>
    have e : cs2 (p :: l) = .int .i64 p.1 :: .int .i64 p.2 :: cs2 l := rfl
    match k with
    | 0 => rw [e]; exact ⟨rfl, rfl⟩
    | k + 1 =>
      obtain ⟨h1, h2⟩ := ih (k := k) (by simpa using h)
      rw [e, show (k + 1) * 2 = k * 2 + 1 + 1 by omega]
      simp only [List.getElem?_cons_succ, List.getElem_cons_succ]
      exact ⟨h1, h2⟩
/-- The cells from A on are the pairs l. -/
def RdC (w : World) (A : Option Addr) (l : List (Int × Int)) : Prop := Rd w A (cs2 l)
theorem RdC.ext {w w' : World} {A : Option Addr} {l : List (Int × Int)} (h : RdC w A l) (hb : Ext w w') : RdC w' A l := Rd.ext h hb
theorem RdC.at_ {w : World} {A : Option Addr} {l : List (Int × Int)} {k : Nat} (h : RdC w A l) (hk : k < l.length) :
    ∃ ad, A = some ad ∧ w.cell? (ad.add (k * 2)) = some (.int .i64 l[k].1) ∧ w.cell? ⟨(ad.add (k * 2)).block, (ad.add (k * 2)).off + 1, none⟩ = some (.int .i64 l[k].2) := by
  obtain ⟨h1, h2⟩ := cs2_get hk
  rcases h with h | ⟨ad, hA, hc⟩
  · rw [h] at h1; simp at h1
  · refine ⟨ad, hA, hc _ _ h1, ?_⟩
    have h3 := hc _ _ h2
    rw [← add_add] at h3
    exact h3

/-- A slice of pairs of ints that the call itself made. -/
def OwnC (w : World) (base e : Nat) (A : Option Addr) (n c : Nat) (l : List (Int × Int)) : Prop := w.ownsRow base e 2 (.slice A n c) n (cs2 l)
section
variable {w w' : World} {base e n c : Nat} {A : Option Addr} {l : List (Int × Int)} {fp : List Nat}
theorem OwnC.len (h : OwnC w base e A n c l) : l.length = n := by have := h.1; rw [cs2_length] at this; omega
theorem OwnC.rd (h : OwnC w base e A n c l) : RdC w A l := by
  rcases h.2 with ⟨hv, hn⟩ | ⟨g, cap, cur, hv, _⟩
  · have : l = [] := List.eq_nil_of_length_eq_zero (h.len.trans hn)
    subst this; exact .inl rfl
  · injection hv with hA _ _
    subst hA
    exact .inr ⟨_, rfl, fun j u hu => World.ownsRow.cells (w := w) h rfl j u hu⟩
theorem OwnC.lt (h : OwnC w base e A n c l) : ∀ a, A = some a → base ≤ a.block ∧ a.block < w.heap.size := fun a ha => World.ownsRow.lt h a.block (by subst ha; rfl)
theorem OwnC.cap (h : OwnC w base e A n c l) : n ≤ c ∧ c ≤ maxLen := by
  rcases h.2 with ⟨hv, hn⟩ | ⟨g, cap, cur, hv, _, _, hn, hm, _, _⟩
  · injection hv with _ _ hc
    subst hc; exact ⟨by omega, Nat.zero_le _⟩
  · injection hv with _ _ hc
    subst hc; exact ⟨hn, hm⟩
theorem OwnC.le (h : OwnC w base e A n c l) : n ≤ maxLen := Nat.le_trans h.cap.1 h.cap.2
theorem OwnC.keep (h : OwnC w base e A n c l) (hk : ∀ a, A = some a → w'.heap[a.block]? = w.heap[a.block]?) : OwnC w' base e A n c l := by
  refine ⟨h.1, ?_⟩
  rcases h.2 with hn | ⟨g, cap, cur, hv, hg, hh, rest⟩
  · exact .inl hn
  · have hA : A = some ⟨g, 0, none⟩ := by injection hv
    exact .inr ⟨g, cap, cur, hv, hg, (hk _ hA).trans hh, rest⟩
theorem OwnC.ext (h : OwnC w base e A n c l) (hb : Ext w w') : OwnC w' base e A n c l := h.keep fun a ha => hb.block a.block (h.lt a ha).2
theorem OwnC.nil (w : World) (base e : Nat) : OwnC w base e none 0 0 [] := ⟨rfl, .inl ⟨rfl, rfl⟩⟩
theorem OwnC.more {base' : Nat} (h : OwnC w base e A n c l) (hb : base' ≤ base) : OwnC w base' e A n c l := by
  refine ⟨h.1, ?_⟩
  rcases h.2 with hn | ⟨g, cap, cur, hv, hg, rest⟩
  · exact .inl hn
  · exact .inr ⟨g, cap, cur, hv, Nat.le_trans hb hg, rest⟩
theorem OwnC.low (h : OwnC w base e A n c l) : Low (fpI A) w.heap.size := by
  intro b hb
  cases A with
  | none => simp [fpI] at hb
  | some a => simp only [fpI, List.mem_singleton] at hb; subst hb; exact (h.lt a rfl).2
theorem OwnC.high (h : OwnC w base e A n c l) : High base (fpI A) := by
  intro b hb
  cases A with
  | none => simp [fpI] at hb
  | some a => simp only [fpI, List.mem_singleton] at hb; subst hb; exact (h.lt a rfl).1
theorem OwnC.only (h : OwnC w base e A n c l) (k : Only fp w w') (ha : Apart (fpI A) fp) : OwnC w' base e A n c l :=
  h.keep fun a hA => k.block a.block (h.lt a hA).2 (ha a.block (by subst hA; simp [fpI]))
/-- Where there is an element there is an address. -/
theorem OwnC.addr (h : OwnC w base e A n c l) (hn : 0 < n) : ∃ g, A = some ⟨g, 0, none⟩ ∧ base ≤ g := by
  rcases h.2 with ⟨hv, h0⟩ | ⟨g, cap, cur, hv, hbg, _⟩
  · omega
  · injection hv with hA _ _
    exact ⟨g, hA, hbg⟩
theorem OwnC.at0 {g : Nat} (h : OwnC w base e (some ⟨g, 0, none⟩) n c l) (j : Nat) (hj : j < l.length) :
    w.cell? ⟨g, j * 2, none⟩ = some (.int .i64 l[j].1) ∧ w.cell? ⟨g, j * 2 + 1, none⟩ = some (.int .i64 l[j].2) ∧ ∀ i, w.frozen? ⟨g, i, none⟩ = false := by
  have hn := h.len
  obtain ⟨h1, h2⟩ := cs2_get hj
  exact ⟨(World.ownsRow.cellAt h (j * 2) (by omega)).trans h1, (World.ownsRow.cellAt h (j * 2 + 1) (by omega)).trans h2, fun i => World.ownsRow.frozenAt h i⟩
theorem cs2_set {l : List (Int × Int)} {j : Nat} (x y : Int) : ((cs2 l).set (j * 2) (.int .i64 x)).set (j * 2 + 1) (.int .i64 y) = cs2 (l.set j (x, y)) := by
  induction l generalizing j with
  | nil => simp [cs2]
  | cons p l ih =>
    have e : ∀ (q : Int × Int) (m : List (Int × Int)), cs2 (q :: m) = .int .i64 q.1 :: .int .i64 q.2 :: cs2 m := fun _ _ => rfl
    match j with
    | 0 => rw [e]; rfl
    | j + 1 =>
      rw [e, List.set_cons_succ, e, show (j + 1) * 2 = j * 2 + 1 + 1 by omega, ← ih]
      rfl
/-- An element is stored: both its cells. -/
theorem OwnC.set {g : Nat} (h : OwnC w base e (some ⟨g, 0, none⟩) n c l) (j : Nat) (x y : Int) : OwnC ((w.setCell ⟨g, j * 2, none⟩ (.int .i64 x)).setCell ⟨g, j * 2 + 1, none⟩ (.int .i64 y)) base e (some ⟨g, 0, none⟩) n c (l.set j (x, y)) := by
  have h1 := (World.ownsRow.stored (World.ownsRow.stored h (j * 2) (.int .i64 x)).1 (j * 2 + 1) (.int .i64 y)).1
  unfold OwnC
  rw [← cs2_set]
  exact h1
end

/-- t is the type of slices of pairs of ints. -/
structure PairSl (P : Program) (t e : TypeId) : Prop where
  ht : P.underlying t = some (.slice e)
  hi : ∃ i, P.info? e = some i ∧ i.zero = some (.agg #[.int .i64 0, .int .i64 0]) ∧ i.size = 2 ∧ i.bytes = 16
theorem cs2_replicate (n : Nat) : (madeCells #[.int .i64 0, .int .i64 0] (n * 2)).toList = cs2 (List.replicate n (0, 0)) := by
  apply List.ext_getElem?
  intro j
  by_cases hj : j < n * 2
  · obtain ⟨k, hk⟩ : ∃ k, j = k * 2 ∨ j = k * 2 + 1 := ⟨j / 2, by omega⟩
    rcases hk with rfl | rfl
    · rw [(cs2_get (l := List.replicate n (0, 0)) (k := k) (by simp; omega)).1]
      simp [madeCells, hj]
    · rw [(cs2_get (l := List.replicate n (0, 0)) (k := k) (by simp; omega)).2]
      have : (k * 2 + 1) % 2 = 1 := by omega
      simp [madeCells, hj, this]
  · rw [List.getElem?_eq_none (by simp [madeCells]; omega), List.getElem?_eq_none (by rw [cs2_length]; simp; omega)]
/-- 'make([]T, n)'. -/
theorem wpList_mkC {P : Program} {w : World} {ops : Array Oper} {rest : List Oper} {o : Oper} {a : Act} {Q : Exit → Act → World → Prop} {t e : TypeId} (S : PairSl P t e)
    (hg : o.guard = none) (l c : Operand) (hop : o.op = Op.makeSlice t l c) (kl kc : IntKind) (L C : Int) (n : Nat) (hl : a.eval l = .int kl L) (hc : a.eval c = .int kc C) (hL : L = (n : Int)) (hC : C = (n : Int)) (hn : n ≤ 1000000000)
    (base : Nat) (hb : base ≤ w.heap.size)
    (hK : ∀ w', OwnC w' base e (some ⟨w.heap.size, 0, none⟩) n n (List.replicate n (0, 0)) → Ext w w' → w.heap.size < w'.heap.size → wpList P ops Q rest (a.put o.dst (.slice (some ⟨w.heap.size, 0, none⟩) n n)) w') :
    wpList P ops Q (o :: rest) a w := by
  obtain ⟨i, h2, h3, h4, h5⟩ := S.hi
  refine wpList_make_full (P := P) w hg l c t hop base e i (.agg #[.int .i64 0, .int .i64 0]) 2 S.ht h2 h3 h4 kl kc L C n hl hc hL hC (by rw [h5]; omega) (by unfold maxLen; omega) hb fun w' hw hgr => ?_
  have h6 : OwnC w' base e (some ⟨w.heap.size, 0, none⟩) n n (List.replicate n (0, 0)) := by
    unfold OwnC
    rw [← cs2_replicate]
    exact hw
  exact hK w' h6 ((Ext.refl w).grown hgr (by simp)) (h6.lt _ rfl).2
/-- 'append(s, x)' of one pair that has just been laid into a new block; from the world ahead of that block. -/
theorem wpList_app1C {P : Program} {w0 : World} {ops : Array Oper} {rest : List Oper} {o : Oper} {a : Act} {Q : Exit → Act → World → Prop} {t e : TypeId} (S : PairSl P t e) {y z : Int}
    (hg : o.guard = none) (s x : Operand) (ho : o.op = .call { callee := .builtin .append, args := #[s, x], argTypes := #[t, t] })
    {base : Nat} {A : Option Addr} {n c c' : Nat} {l : List (Int × Int)} (hown : OwnC w0 base e A n c l) (hs : a.eval s = .slice A n c)
    (hx : a.eval x = .slice (some ⟨w0.heap.size, 0, none⟩) 1 c') (hn : n ≤ 1000000000) (hb : base ≤ w0.heap.size)
    (hK : ∀ A' d w', OwnC w' base e A' (n + 1) d (l ++ [(y, z)]) → Below base w0 w' → wpList P ops Q rest (a.put o.dst (.slice A' (n + 1) d)) w') :
    wpList P ops Q (o :: rest) a (w0.alloc (.cells #[.int .i64 y, .int .i64 z] e)) := by
  obtain ⟨i, h2, h3, h4, h5⟩ := S.hi
  have hO : OwnC (w0.alloc (.cells #[.int .i64 y, .int .i64 z] e)) base e A n c l := hown.ext ((Ext.refl w0).alloc _)
  refine wpList_append_own (P := P) _ hg s x t ho base e i _ 2 16 S.ht h2 h3 h4 h5 rfl (by omega) (.slice A n c) n (cs2 l) hs hO ⟨w0.heap.size, 0, none⟩ 1 c' [.int .i64 y, .int .i64 z] hx (by simp) ?_ (by simp [Value.oneCell']) (by unfold maxLen; omega) (by omega) (by simp; omega) ?_
  · intro j u hu
    have hB := (Blk.new w0 e #[.int .i64 y, .int .i64 z]).cells
    match j with
    | 0 => simp only [List.getElem?_cons_zero, Option.some.injEq] at hu; subst hu; exact hB 0
    | 1 => simp only [List.getElem?_cons_succ, List.getElem?_cons_zero, Option.some.injEq] at hu; subst hu; exact hB 1
    | j + 2 => simp at hu
  · intro v' w' h6 h7 h8
    have h9 : cs2 l ++ [Value.int .i64 y, .int .i64 z] = cs2 (l ++ [(y, z)]) := by rw [cs2_append]; rfl
    rw [h9] at h6
    have hb2 : Below base (w0.alloc (.cells #[.int .i64 y, .int .i64 z] e)) w' := by
      refine (Below.refl base _).grown h7 ?_ fun k hk => ?_
      · simp; omega
      · exact (World.ownsRow.lt (v := .slice A n c) hO k hk).1
    have hbl : Below base w0 w' := Below.trans ((Below.refl base w0).alloc hb _) hb2
    rcases h6.2 with ⟨_, h0⟩ | ⟨g, cap, cur, rfl, rest⟩
    · omega
    · exact hK _ _ w' h6 hbl

theorem cipherSl : PairSl Tryz.prog 35 54 := by
  refine ⟨Tryz.underlying35, ?_⟩
  have h : (Tryz.prog.info? 54).map (fun i => (i.zero, i.size, i.bytes)) = some (some (.agg #[.int .i64 0, .int .i64 0]), 2, 16) := by kernel_rfl
  exact info_parts h
theorem pad_set {α : Type} {l : List α} {z : α} {j : Nat} (hj : j < l.length) : (l.take j ++ List.replicate (l.length - j) z).set j l[j] = l.take (j + 1) ++ List.replicate (l.length - (j + 1)) z := by
  have h1 : (l.take j).length = j := by rw [List.length_take]; omega
  rw [List.set_append_right _ _ (by omega), h1, Nat.sub_self, List.take_succ_eq_append_getElem hj, List.append_assoc]
  congr 1
  rw [show l.length - j = (l.length - (j + 1)) + 1 by omega, List.replicate_succ, List.set_cons_zero]
  rfl
set_option maxHeartbeats 400000 in
theorem toCipher_any (a b : Int) (w : World) : Calls Tryz.prog 22 #[.agg #[.int .i64 a, .int .i64 b]] w fun e w' => e = .returned (.agg #[.int .i64 a, .int .i64 b]) ∧ Ext w w' := by
  go_enter Tryz.func22, Tryz.ntmps22
  go_wp2
  refine bodyPost_ret (v := .agg #[.int .i64 a, .int .i64 b]) (by simp [results, Tryz.results22, go_sem]) rfl ⟨rfl, ?_⟩
  (repeat (first | exact Ext.refl _ | assumption | apply Ext.drew | apply Ext.drewN | apply Ext.alloc | refine Ext.setCell ?_ (by simp; try omega) _))

set_option maxHeartbeats 1000000 in
theorem toCipherS_any (A : Option Addr) (n c : Nat) (l : List (Int × Int)) (w : World) (ha : RdC w A l) (hl : l.length = n) (hn : n ≤ 1000000000) :
    Calls Tryz.prog 7 #[.slice A n c] w fun e w' => ∃ A' c', e = .returned (.slice A' n c') ∧ OwnC w' w.heap.size 54 A' n c' l ∧ Ext w w' := by
  subst hl
  go_enter Tryz.func7, Tryz.ntmps7
  go_wp2_with (at_make; refine wpList_mkC cipherSl rfl _ _ rfl _ _ _ _ l.length rfl rfl rfl rfl hn w.heap.size (Nat.le_refl _) ?_; intro w1 hO hE hz)
  go_loopw [4] (fun i wr => ∃ j : Nat, j ≤ l.length ∧ i = .int .i64 j ∧ OwnC wr w.heap.size 54 (some ⟨w.heap.size, 0, none⟩) l.length l.length (l.take j ++ List.replicate (l.length - j) (0, 0)) ∧ Ext w wr) (fun i _ => l.length - (intOf i).toNat)
  case atStart => exact ⟨0, Nat.zero_le _, rfl, by simpa using hO, hE⟩
  case round =>
    clear hO hE hz
    obtain ⟨j, hj, rfl, hO, hE⟩ := hrel
    by_cases hlt : j < l.length
    · obtain ⟨ad, rfl, hc, hd⟩ := (ha.ext hE).at_ hlt
      have hset := pad_set (z := ((0 : Int), (0 : Int))) hlt
      generalize l[j] = p at *
      have HP := Lib.hid hset
      clear hset
      go_wp2_with fail
      refine (toCipher_any _ _ _).mono ?_
      rintro e w2 ⟨rfl, hb⟩
      obtain ⟨h1, h2, h3⟩ := (hO.ext hb).at0 j (by rw [List.length_append, List.length_take, List.length_replicate]; omega)
      have hf1 := h3 (j * 2)
      have hf2 := h3 (j * 2 + 1)
      have hO' := (hO.ext hb).set j p.1 p.2
      have hset : (l.take j ++ List.replicate (l.length - j) (0, 0)).set j (p.1, p.2) = l.take (j + 1) ++ List.replicate (l.length - (j + 1)) (0, 0) := HP.out
      rw [hset] at hO'
      clear h3 hset
      go_wp2
      go_roundw
      case rel => exact ⟨j + 1, by omega, by go_num, hO', ((hE.trans hb).setCell (p := ⟨w.heap.size, j * 2, none⟩) (Nat.le_refl _) _).setCell (p := ⟨w.heap.size, j * 2 + 1, none⟩) (Nat.le_refl _) _⟩
      case measure => simp [intOf]; omega
    · obtain rfl : j = l.length := by omega
      rw [List.take_length, Nat.sub_self, List.replicate_zero, List.append_nil] at hO
      go_wp2
      go_ret
      exact ⟨_, _, rfl, hO, hE⟩

set_option maxHeartbeats 400000 in
theorem eqCipher_same (a b : Int) (w : World) : Calls Tryz.prog 28 #[.agg #[.int .i64 a, .int .i64 b], .agg #[.int .i64 a, .int .i64 b]] w fun e w' => e = .returned (.bool true) ∧ w' = (w.alloc (.cells #[.int .i64 a, .int .i64 b] 54)).alloc (.cells #[.int .i64 a, .int .i64 b] 54) := by
  have h1 : (a != a) = false := by simp
  have h2 : (b != b) = false := by simp
  go_enter Tryz.func28, Tryz.ntmps28
  go_wp2
  go_ret
  exact ⟨rfl, rfl⟩

set_option maxHeartbeats 1000000 in
theorem eqCipherS_same {A B : Option Addr} {n m c d : Nat} {l : List (Int × Int)} {w : World} (ha : RdC w A l) (hb : RdC w B l) (hl : l.length = n) (hk : l.length = m) (hn : n ≤ maxLen) (hm : m ≤ maxLen) :
    Calls Tryz.prog 11 #[.slice A n c, .slice B m d] w fun e w' => e = .returned (.bool true) ∧ Ext w w' := by
  unfold maxLen at hn hm
  subst hl
  have hne' : ((l.length : Int) != (m : Int)) = false := by simp [hk]
  have HE := Lib.hid hk
  clear hk
  go_enter Tryz.func11, Tryz.ntmps11
  go_wp2
  go_loopw [5] (fun i wr => ∃ j : Nat, j ≤ l.length ∧ i = .int .i64 j ∧ Ext w wr) (fun i _ => l.length - (intOf i).toNat)
  case atStart => exact ⟨0, Nat.zero_le _, rfl, Ext.refl _⟩
  case round =>
    obtain ⟨j, hj, rfl, hE⟩ := hrel
    by_cases hlt : j < l.length
    · have hlt' : j < m := by rw [← HE.out]; exact hlt
      obtain ⟨ad, rfl, hca, hcb⟩ := (ha.ext hE).at_ hlt
      obtain ⟨bd, rfl, hda, hdb⟩ := (hb.ext hE).at_ hlt
      generalize l[j] = p at *
      go_wp2
      go_region_held3 (fun w' => w'.cell? (ad.add (j * 2)) = some (.int .i64 p.1) ∧ w'.cell? ⟨(ad.add (j * 2)).block, (ad.add (j * 2)).off + 1, none⟩ = some (.int .i64 p.2) ∧ w'.cell? (bd.add (j * 2)) = some (.int .i64 p.1) ∧ w'.cell? ⟨(bd.add (j * 2)).block, (bd.add (j * 2)).off + 1, none⟩ = some (.int .i64 p.2)) (go_keep)
        (first | (go_at_call 28; refine (eqCipher_same _ _ _).mono ?_; rintro e w2 ⟨rfl, rfl⟩))
      go_wp2
      go_roundw
      case rel =>
        refine ⟨j + 1, by omega, by go_num, ?_⟩
        (repeat (first | exact Ext.refl _ | assumption | apply Ext.drew | apply Ext.drewN | apply Ext.alloc | refine Ext.setCell ?_ (by simp; try omega) _))
      case measure => simp [intOf]; omega
    · obtain rfl : j = l.length := by omega
      go_wp2
      go_ret
      exact ⟨rfl, hE⟩

/-- n pairs of numbers in a row from k on. -/
def iota2 (k : Int) (n : Nat) : List (Int × Int) := (List.range n).map fun i : Nat => (k + 2 * (i : Int), k + 2 * (i : Int) + 1)
theorem iota2_length (k : Int) (n : Nat) : (iota2 k n).length = n := by simp [iota2]
theorem iota2_get (k : Int) (n i : Nat) (h : i < (iota2 k n).length) : (iota2 k n)[i] = (k + 2 * i, k + 2 * i + 1) := by simp [iota2]
theorem iota2_succ (k : Int) (n : Nat) : iota2 k (n + 1) = iota2 k n ++ [(k + 2 * n, k + 2 * n + 1)] := by simp [iota2, List.range_succ]
theorem iota2_set {k : Int} {l : List (Int × Int)} {j : Nat} (hj : j < l.length) : (iota2 k j ++ l.drop j).set j (k + 2 * j, k + 2 * j + 1) = iota2 k (j + 1) ++ l.drop (j + 1) := by
  rw [List.set_append_right _ _ (by rw [iota2_length]; exact Nat.le_refl _), iota2_length, Nat.sub_self, List.drop_eq_getElem_cons hj, List.set_cons_zero, iota2_succ]
  simp

theorem szCipherS_no {A : Option Addr} {n c : Nat} {k : Int} {w : World} (h : k < n) (hk : 0 ≤ k := by omega) (hn : n ≤ 9223372036854775807 := by omega) :
    Calls Tryz.prog 4 #[.slice A n c, .int .i64 k] w fun e w' => e = .returned (.int .i64 (-1)) ∧ w = w' := by
  go_enter Tryz.func4, Tryz.ntmps4
  go_wp2
  go_ret
  exact ⟨rfl, rfl⟩
theorem szCipherS_yes {A : Option Addr} {n c : Nat} {k : Int} {w : World} (h : (n : Int) ≤ k) (hk : k ≤ 9000000000000000000 := by omega) :
    Calls Tryz.prog 4 #[.slice A n c, .int .i64 k] w fun e w' => e = .returned (.int .i64 (k - n)) ∧ w = w' := by
  go_enter Tryz.func4, Tryz.ntmps4
  go_wp2
  go_ret
  exact ⟨rfl, rfl⟩
end Go.Proofs.YtnhdohjlbchniaaGreat
